/- Ranges that are whole, in plain words. No program in sight. -/
import Derived.Test.YtbpmpnifelbaaaaKLaw
namespace Go.Proofs.Ytbpmpnifelbaaaa
open Go.Lib

/-- Whole: the error and the place; 'e' is where the range ahead ended, 'i' of 'n' are behind us. -/
def wholeGo (n : Nat) : ByteArray → Nat → List (ByteArray × ByteArray) → Int × Nat
  | e, _, [] => if n = 0 ∨ ¬ bl e = [] then (133, n) else (0, 0)
  | e, i, r :: l => if ¬ chk r.1 r.2 = 0 then (chk r.1 r.2, i) else if ¬ bl r.1 = bl e ∨ (bl r.2 = [] ∧ i + 1 < n) then (133, i) else wholeGo n r.2 (i + 1) l
/-- Ranges, one behind the other, from 'e' on to the end. -/
def chain : ByteArray → List (ByteArray × ByteArray) → Prop
  | _, [] => False
  | e, r :: l => chk r.1 r.2 = 0 ∧ bl r.1 = bl e ∧ ((l = [] ∧ bl r.2 = []) ∨ (¬ bl r.2 = [] ∧ chain r.2 l))

theorem wholeGo_fst (n : Nat) : ∀ (l : List (ByteArray × ByteArray)) (e : ByteArray) (i : Nat), i + l.length = n → (0 < i → ¬ bl e = [] ∨ l = []) → ((wholeGo n e i l).1 = 0 ↔ ((l = [] ∧ 0 < i ∧ bl e = []) ∨ chain e l)) := by
  intro l
  induction l with
  | nil =>
    intro e i hi h0
    simp only [List.length_nil, Nat.add_zero] at hi
    subst hi
    unfold wholeGo chain
    by_cases h1 : i = 0 ∨ ¬ bl e = []
    · rw [if_pos h1]
      simp only [Int.reduceEq, or_false, true_and, false_iff, not_and]
      intro hp e0
      rcases h1 with h1 | h1
      · omega
      · exact h1 e0
    · rw [if_neg h1]
      simp only [not_or, Decidable.not_not] at h1
      simp only [or_false, true_and, true_iff]
      exact ⟨by omega, h1.2⟩
  | cons r l ih =>
    intro e i hi h0
    simp only [List.length_cons] at hi
    unfold wholeGo chain
    by_cases h1 : chk r.1 r.2 = 0
    · rw [if_neg (by simp [h1])]
      by_cases h2 : ¬ bl r.1 = bl e ∨ (bl r.2 = [] ∧ i + 1 < n)
      · rw [if_pos h2]
        simp only [Int.reduceEq, false_iff, not_or, reduceCtorEq, false_and, not_false_eq_true, true_and, not_and]
        intro _ h3
        rcases h2 with h2 | h2
        · exact absurd h3 h2
        · refine ⟨fun e => ?_, fun e => absurd h2.1 e⟩
          subst e; simp at hi; omega
      · rw [if_neg h2]
        simp only [not_or, Decidable.not_not, not_and, Nat.not_lt] at h2
        rw [ih r.2 (i + 1) (by omega) (by
          intro _
          by_cases hl : l = []
          · exact .inr hl
          · left
            intro e
            have := h2.2 e
            have : l.length = 0 := by omega
            exact hl (List.length_eq_zero_iff.1 this))]
        simp only [reduceCtorEq, false_and, false_or, h1, h2.1, true_and]
        constructor
        · rintro (h | h)
          · exact .inl ⟨h.1, h.2.2⟩
          · right
            refine ⟨?_, h⟩
            intro e
            have := h2.2 e
            have : l = [] := List.length_eq_zero_iff.1 (by omega)
            subst this
            exact h
        · rintro (h | h)
          · exact .inl ⟨h.1, by omega, h.2⟩
          · exact .inr h.2
    · rw [if_pos h1]
      simp [h1]

theorem whole_chain (l : List (ByteArray × ByteArray)) : (wholeGo l.length es 0 l).1 = 0 ↔ chain es l := by
  rw [wholeGo_fst l.length l es 0 (by omega) (by omega)]
  simp

/-- Find: the place of the first range that has the key. -/
def findGo (k : ByteArray) : Nat → List (ByteArray × ByteArray) → Nat × Bool
  | _, [] => (0, false)
  | i, r :: l => if has r.1 r.2 k = true then (i, true) else findGo k (i + 1) l

theorem chain_below {k : ByteArray} : ∀ (l : List (ByteArray × ByteArray)) (e : ByteArray), chain e l → bl k < bl e → ∀ r ∈ l, has r.1 r.2 k = false := by
  intro l
  induction l with
  | nil => intro e h; exact h.elim
  | cons r l ih =>
    intro e h hk r' hr
    unfold chain at h
    rcases List.mem_cons.1 hr with rfl | hr
    · rw [Bool.eq_false_iff]
      simp only [ne_eq, has_iff]
      rw [h.2.1]
      grind
    · rcases h.2.2 with ⟨rfl, _⟩ | ⟨h0, h3⟩
      · simp at hr
      · have h1 := h.1
        rw [chk_zero] at h1
        have h2 := h.2.1
        exact ih r.2 h3 (by grind) r' hr

/-- A key lies within just one. -/
theorem chain_find {k : ByteArray} (hk : k.size ≤ 32) : ∀ (l : List (ByteArray × ByteArray)) (e : ByteArray) (i : Nat), chain e l → ¬ bl k < bl e →
    ∃ n, n < l.length ∧ findGo k i l = (i + n, true) ∧ ∀ (j : Nat) (hj : j < l.length), has (l[j]).1 (l[j]).2 k = decide (j = n) := by
  intro l
  induction l with
  | nil => intro e i h; exact h.elim
  | cons r l ih =>
    intro e i h he
    unfold chain at h
    have h1 := h.1
    rw [chk_zero] at h1
    by_cases hh : has r.1 r.2 k = true
    · refine ⟨0, by simp, by unfold findGo; rw [if_pos hh]; rfl, ?_⟩
      intro j hj
      cases j with
      | zero => simpa using hh
      | succ j =>
        simp only [List.length_cons] at hj
        rcases h.2.2 with ⟨rfl, _⟩ | ⟨h0, h3⟩
        · simp at hj
        · rw [has_iff] at hh
          have := chain_below (k := k) l r.2 h3 (by grind) (l[j]) (List.getElem_mem (by omega))
          simpa using this
    · have hb : ¬ bl r.2 = [] ∧ ¬ bl k < bl r.2 := by
        rw [has_iff, h.2.1] at hh
        have h2 := h.2.1
        grind
      rcases h.2.2 with ⟨_, h0⟩ | ⟨h0, h3⟩
      · exact absurd h0 hb.1
      · obtain ⟨n, hn, hf, ha⟩ := ih r.2 (i + 1) h3 hb.2
        refine ⟨n + 1, by simp; omega, ?_, ?_⟩
        · unfold findGo
          rw [if_neg hh, hf, show i + 1 + n = i + (n + 1) by omega]
        · intro j hj
          cases j with
          | zero => simp [hh]
          | succ j =>
            simp only [List.length_cons] at hj
            have := ha j (by omega)
            simpa using this

/-- One of them is split: they stay whole. -/
theorem chain_cut {x : ByteArray} : ∀ (l : List (ByteArray × ByteArray)) (e : ByteArray) (n : Nat) (hn : n < l.length), chain e l → splitE (l[n]).1 (l[n]).2 x = 0 →
    chain e (l.take n ++ [((l[n]).1, x), (x, (l[n]).2)] ++ l.drop (n + 1)) := by
  intro l
  induction l with
  | nil => intro e n hn; simp at hn
  | cons r l ih =>
    intro e n hn h hs
    unfold chain at h
    cases n with
    | zero =>
      simp only [List.getElem_cons_zero] at hs
      have h2 := split_chk hs
      have hx : ¬ bl x = [] := by
        intro e
        rw [splitE_zero, has_iff] at hs
        have := @nil_lt (bl r.1)
        grind
      simp only [List.take_zero, List.nil_append, List.getElem_cons_zero, List.drop_succ_cons, List.drop_zero, List.cons_append]
      refine ⟨h2.1, h.2.1, .inr ⟨hx, ?_⟩⟩
      exact ⟨h2.2, rfl, h.2.2⟩
    | succ n =>
      simp only [List.getElem_cons_succ] at hs
      simp only [List.length_cons] at hn
      simp only [List.take_succ_cons, List.cons_append, List.getElem_cons_succ, List.drop_succ_cons]
      rcases h.2.2 with ⟨rfl, _⟩ | ⟨h0, h3⟩
      · simp at hn
      · exact ⟨h.1, h.2.1, .inr ⟨h0, ih r.2 n (by omega) h3 hs⟩⟩
end Go.Proofs.Ytbpmpnifelbaaaa

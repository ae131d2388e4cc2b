/- Ranges of keys in plain words: strings as lists of bytes. No program in sight. -/
import Derived.Lib.MinMaxS
namespace Go.Proofs.Ytbpmpnifelbaaaa
open Go.Lib

/-- A string's bytes. -/
abbrev bl (s : ByteArray) : List UInt8 := s.data.toList
theorem bl_inj {s t : ByteArray} (h : bl s = bl t) : s = t := by
  obtain ⟨⟨x⟩⟩ := s
  obtain ⟨⟨y⟩⟩ := t
  exact congrArg (fun l => ByteArray.mk (Array.mk l)) h
theorem bl_eq {s t : ByteArray} : s = t ↔ bl s = bl t := ⟨fun h => by rw [h], bl_inj⟩
abbrev es : ByteArray := { data := #[] }
theorem bl_empty : bl es = [] := rfl
theorem lt_dec (a b : ByteArray) : Op.bytesLess a.toList b.toList = decide (bl a < bl b) := by rw [Proofs.bytesLess_eq, Lib.toList_data, Lib.toList_data]
theorem eq_dec (a b : ByteArray) : (a.toList == b.toList) = decide (bl a = bl b) := by rw [Lib.toList_data, Lib.toList_data, Bool.eq_iff_iff]; simp
theorem ltT {a b : ByteArray} (h : bl a < bl b) : Op.bytesLess a.toList b.toList = true := by rw [lt_dec]; simpa using h
theorem ltF {a b : ByteArray} (h : ¬ bl a < bl b) : Op.bytesLess a.toList b.toList = false := by rw [lt_dec]; simpa using h
theorem eqT {a b : ByteArray} (h : bl a = bl b) : (a.toList == b.toList) = true := by rw [eq_dec]; simpa using h
theorem eqF {a b : ByteArray} (h : ¬ bl a = bl b) : (a.toList == b.toList) = false := by rw [eq_dec]; simpa using h
theorem leT {a b : ByteArray} (h : ¬ bl b < bl a) : (Op.bytesLess a.toList b.toList || a.toList == b.toList) = true := by
  rw [lt_dec, eq_dec, Bool.or_eq_true, decide_eq_true_iff, decide_eq_true_iff]
  grind
theorem leF {a b : ByteArray} (h : bl b < bl a) : (Op.bytesLess a.toList b.toList || a.toList == b.toList) = false := by
  rw [lt_dec, eq_dec, Bool.or_eq_false_iff, decide_eq_false_iff_not, decide_eq_false_iff_not]
  grind
theorem emT {a : ByteArray} (h : bl a = []) : a.toList.isEmpty = true := by rw [Lib.toList_data]; simpa using h
theorem emF {a : ByteArray} (h : ¬ bl a = []) : a.toList.isEmpty = false := by rw [Lib.toList_data]; simpa using h
theorem bl_size (s : ByteArray) : (bl s).length = s.size := Array.length_toList
theorem nil_lt {b : List UInt8} (h : ¬ b = []) : [] < b := by cases b <;> simp_all
theorem not_lt_nil (b : List UInt8) : ¬ b < [] := by simp

/-- May a range be? -/
def chk (lo hi : ByteArray) : Int := if 32 < lo.size ∨ 32 < hi.size then 131 else if ¬ bl hi = [] ∧ ¬ bl lo < bl hi then 132 else 0
/-- Does a key lie within? -/
def has (lo hi k : ByteArray) : Bool := decide (chk lo hi = 0 ∧ k.size ≤ 32 ∧ ¬ bl k < bl lo ∧ (bl hi = [] ∨ bl k < bl hi))
def least (a b : ByteArray) : ByteArray := if bl a = [] ∨ (¬ bl b = [] ∧ bl b < bl a) then b else a
/-- Two ranges have this in common. -/
def meet (a b c d : ByteArray) : ByteArray × ByteArray × Bool :=
  if chk a b = 0 ∧ chk c d = 0 ∧ chk (maxS a c) (least b d) = 0 then (maxS a c, least b d, true) else (es, es, false)

theorem chk_zero {lo hi : ByteArray} : chk lo hi = 0 ↔ lo.size ≤ 32 ∧ hi.size ≤ 32 ∧ (bl hi = [] ∨ bl lo < bl hi) := by
  unfold chk; split
  · simp; omega
  · split
    · next h => simp; grind
    · next h => simp; grind

theorem maxS_eq (a b : ByteArray) : maxS a b = if bl a < bl b then b else a := rfl
theorem max_comm (a b : ByteArray) : maxS a b = maxS b a := by
  rw [maxS_eq, maxS_eq]
  split <;> split
  · grind
  · rfl
  · rfl
  · exact bl_inj (by grind)
theorem least_comm (a b : ByteArray) : least a b = least b a := by
  unfold least
  have := @nil_lt (bl a)
  have := @nil_lt (bl b)
  split <;> split
  · exact bl_inj (by grind)
  · rfl
  · rfl
  · exact bl_inj (by grind)
theorem meet_comm (a b c d : ByteArray) : meet a b c d = meet c d a b := by
  unfold meet
  rw [max_comm a c, least_comm b d]
  by_cases h1 : chk a b = 0 <;> by_cases h2 : chk c d = 0 <;> simp [h1, h2]
theorem meet_none (a b c d : ByteArray) (h : (meet a b c d).2.2 = false) : meet a b c d = (es, es, false) := by
  unfold meet at *
  split
  · next h2 => simp [h2] at h
  · rfl
theorem has_iff {lo hi k : ByteArray} : has lo hi k = true ↔ (lo.size ≤ 32 ∧ hi.size ≤ 32 ∧ (bl hi = [] ∨ bl lo < bl hi)) ∧ k.size ≤ 32 ∧ ¬ bl k < bl lo ∧ (bl hi = [] ∨ bl k < bl hi) := by
  unfold has
  rw [decide_eq_true_iff, chk_zero]
theorem max_size {a b : ByteArray} {n : Nat} (h : a.size ≤ n) (h2 : b.size ≤ n) : (maxS a b).size ≤ n := by rw [maxS_eq]; split <;> assumption
theorem least_size {a b : ByteArray} {n : Nat} (h : a.size ≤ n) (h2 : b.size ≤ n) : (least a b).size ≤ n := by unfold least; split <;> assumption
/-- What two ranges have in common has just the keys of both. -/
theorem meet_has (a b c d k : ByteArray) : ((meet a b c d).2.2 && has (meet a b c d).1 (meet a b c d).2.1 k) = (has a b k && has c d k) := by
  rw [Bool.eq_iff_iff]
  simp only [Bool.and_eq_true, has_iff]
  have hM : bl (maxS a c) = if bl a < bl c then bl c else bl a := by rw [maxS_eq]; split <;> rfl
  have hL : bl (least b d) = if bl b = [] ∨ (¬ bl d = [] ∧ bl d < bl b) then bl d else bl b := by unfold least; split <;> rfl
  by_cases h1 : chk a b = 0 ∧ chk c d = 0
  · have h1' := h1.1
    have h2' := h1.2
    rw [chk_zero] at h1' h2'
    have hm := max_size h1'.1 h2'.1
    have hl := least_size h1'.2.1 h2'.2.1
    by_cases h3 : chk (maxS a c) (least b d) = 0
    · have h3' := h3
      rw [chk_zero] at h3'
      have e : meet a b c d = (maxS a c, least b d, true) := by unfold meet; rw [if_pos ⟨h1.1, h1.2, h3⟩]
      rw [e]
      dsimp only
      rw [hM, hL] at *
      grind
    · have e : meet a b c d = (es, es, false) := by unfold meet; rw [if_neg (fun h => h3 h.2.2)]
      rw [e]
      rw [chk_zero] at h3
      rw [hM, hL] at h3
      have := @nil_lt (bl d)
      have := @nil_lt (bl b)
      have := not_lt_nil (bl k)
      grind
  · have e : meet a b c d = (es, es, false) := by unfold meet; rw [if_neg (fun h => h1 ⟨h.1, h.2.1⟩)]
    rw [e]
    rw [chk_zero, chk_zero] at h1
    grind

/-- Split: the error. -/
def splitE (lo hi k : ByteArray) : Int := if ¬ chk lo hi = 0 then chk lo hi else if 32 < k.size then 131 else if bl k = bl lo ∨ has lo hi k = false then 132 else 0
/-- Merge: the error. -/
def mergeE (a b c d : ByteArray) : Int := if ¬ chk a b = 0 then chk a b else if ¬ chk c d = 0 then chk c d else if bl b = [] ∨ ¬ bl b = bl c then 133 else 0

theorem splitE_zero {lo hi k : ByteArray} : splitE lo hi k = 0 ↔ has lo hi k = true ∧ ¬ bl k = bl lo := by
  unfold splitE
  by_cases h1 : chk lo hi = 0
  · by_cases h2 : 32 < k.size
    · simp [h1, h2, has]; omega
    · by_cases h3 : has lo hi k = true <;> simp [h1, h2, h3]
  · simp [h1, has]
/-- What is cut: both parts are ranges. -/
theorem split_chk {lo hi k : ByteArray} (h : splitE lo hi k = 0) : chk lo k = 0 ∧ chk k hi = 0 := by
  rw [splitE_zero, has_iff] at h
  rw [chk_zero, chk_zero]
  have := not_lt_nil (bl lo)
  grind
theorem split_merge {lo hi k : ByteArray} (h : splitE lo hi k = 0) : mergeE lo k k hi = 0 := by
  have h2 := split_chk h
  rw [splitE_zero, has_iff] at h
  have : ¬ bl k = [] := by
    intro e
    have := @nil_lt (bl lo)
    grind
  simp [mergeE, h2.1, h2.2, this]
theorem split_meet {lo hi k : ByteArray} (h : splitE lo hi k = 0) : (meet lo k k hi).2.2 = false := by
  rw [splitE_zero, has_iff] at h
  have hM : bl (maxS lo k) = if bl lo < bl k then bl k else bl lo := by rw [maxS_eq]; split <;> rfl
  have hL : bl (least k hi) = if bl k = [] ∨ (¬ bl hi = [] ∧ bl hi < bl k) then bl hi else bl k := by unfold least; split <;> rfl
  have hk : ¬ bl k = [] := by
    intro e
    have := @nil_lt (bl lo)
    grind
  have : ¬ chk (maxS lo k) (least k hi) = 0 := by
    rw [chk_zero, hM, hL]
    grind
  unfold meet
  rw [if_neg (fun h => this h.2.2)]
theorem split_has {lo hi k x : ByteArray} (h : splitE lo hi k = 0) : (has lo k x && has k hi x) = false ∧ (has lo k x || has k hi x) = has lo hi x := by
  have h2 := split_chk h
  rw [splitE_zero, has_iff] at h
  rw [chk_zero, chk_zero] at h2
  have hk : ¬ bl k = [] := by
    intro e
    have := @nil_lt (bl lo)
    grind
  constructor
  · rw [Bool.eq_false_iff]
    simp only [ne_eq, Bool.and_eq_true, has_iff]
    grind
  · rw [Bool.eq_iff_iff]
    simp only [Bool.or_eq_true, has_iff]
    grind
end Go.Proofs.Ytbpmpnifelbaaaa

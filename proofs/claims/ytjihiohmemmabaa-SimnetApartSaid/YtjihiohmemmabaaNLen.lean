/- Len: how many packets there are. -/
import Derived.Test.YtjihiohmemmabaaNDrop
namespace Go.Proofs.Ytjihiohmemmabaa
open Go.RowKit Go.Gz Go.Maps
attribute [local go_sem] World.cell?_alloc_some frozen?_alloc_some

/-- All links. -/
def pairs : List (Int × Int) := (List.range 8).flatMap fun i => (List.range 8).map fun j => (((i : Nat) : Int), ((j : Nat) : Int))
def total (h : Int → Int → Nat) : Nat := (pairs.map fun p => h p.1 p.2).sum
theorem mem_pairs {i j : Int} (hi : Small i) (hj : Small j) : (i, j) ∈ pairs := by
  unfold pairs
  have h1 := hi.1
  have h2 := hi.2
  have h3 := hj.1
  have h4 := hj.2
  refine List.mem_flatMap.2 ⟨i.toNat, List.mem_range.2 (by omega), List.mem_map.2 ⟨j.toNat, List.mem_range.2 (by omega), ?_⟩⟩
  rw [Int.toNat_of_nonneg hi.1, Int.toNat_of_nonneg hj.1]
theorem small_pairs {p : Int × Int} (h : p ∈ pairs) : Small p.1 ∧ Small p.2 := by
  unfold pairs at h
  obtain ⟨i, hi, h⟩ := List.mem_flatMap.1 h
  obtain ⟨j, hj, rfl⟩ := List.mem_map.1 h
  have := List.mem_range.1 hi
  have := List.mem_range.1 hj
  exact ⟨⟨by simp only; omega, by simp only; omega⟩, ⟨by simp only; omega, by simp only; omega⟩⟩
theorem nodup_pairs : pairs.Nodup := by decide +kernel
theorem sum_step {h h' : Int × Int → Nat} {q : Int × Int} {n : Nat} : ∀ (l : List (Int × Int)), l.Nodup → q ∈ l → h q = 0 → h' q = n → (∀ p ∈ l, p ≠ q → h' p = h p) → (l.map h').sum = (l.map h).sum + n
  | [], _, hq, _, _, _ => (by cases hq)
  | p :: l, hn, hq, h0, h1, h2 => by
    obtain ⟨hp, hl⟩ := List.nodup_cons.1 hn
    rw [List.map_cons, List.map_cons, List.sum_cons, List.sum_cons]
    by_cases e : p = q
    · subst e
      have h3 : l.map h' = l.map h := List.map_congr_left (fun y hy => h2 y (by simp [hy]) (fun e => hp (e ▸ hy)))
      rw [h3, h0, h1]
      omega
    · have hq' : q ∈ l := by
        rcases List.mem_cons.1 hq with e' | hq'
        · exact absurd e'.symm e
        · exact hq'
      rw [h2 p (by simp) e, sum_step l hl hq' h0 h1 (fun y hy => h2 y (by simp [hy]))]
      omega
theorem total_same {h h' : Int → Int → Nat} (hh : ∀ i j, Small i → Small j → h i j = h' i j) : total h = total h' := by
  unfold total
  congr 1
  exact List.map_congr_left (fun p hp => hh _ _ (small_pairs hp).1 (small_pairs hp).2)
theorem total_step {h h' : Int → Int → Nat} {i j : Int} {n : Nat} (hi : Small i) (hj : Small j) (h0 : h i j = 0) (h1 : h' i j = n) (h2 : ∀ a b, Small a → Small b → ¬ (a = i ∧ b = j) → h' a b = h a b) : total h' = total h + n :=
  sum_step (h := fun p => h p.1 p.2) (h' := fun p => h' p.1 p.2) (q := (i, j)) pairs nodup_pairs (mem_pairs hi hj) h0 h1 (fun p hp hne => h2 _ _ (small_pairs hp).1 (small_pairs hp).2 (fun e => hne (Prod.ext e.1 e.2)))
theorem total_le {h : Int → Int → Nat} {B : Nat} (hh : ∀ i j, Small i → Small j → h i j ≤ B) : total h ≤ 64 * B := by
  have h1 : ∀ (l : List (Int × Int)), (∀ p ∈ l, p ∈ pairs) → (l.map fun p => h p.1 p.2).sum ≤ l.length * B := by
    intro l
    induction l with
    | nil => intro _; simp
    | cons p l ih =>
      intro hl
      have h2 := ih (fun q hq => hl q (by simp [hq]))
      have h3 := hh _ _ (small_pairs (hl p (by simp))).1 (small_pairs (hl p (by simp))).2
      rw [List.map_cons, List.sum_cons, List.length_cons, Nat.add_mul]
      omega
  have h4 := h1 pairs (fun p hp => hp)
  have h5 : pairs.length = 64 := by decide +kernel
  rw [h5] at h4
  exact h4
/-- What has been counted while 'left' is still to come. -/
def counted (f : Int → Int → List Pkt) (left : Lit → Bool) (i j : Int) : Nat := if left (linkL i j) = true then 0 else (f i j).length

set_option maxHeartbeats 1600000 in
theorem len_any (w : World) (F : Nat → Prop) (g : Nat) (nodes : Int) (N : Nat) (f : Int → Int → List Pkt) (S : Int → Bool) (h : NetIs w F g nodes N f S) (hlen : ∀ i j, Small i → Small j → (f i j).length ≤ 140737488355328) :
    Calls Try.prog 12 #[.pointer (some ⟨g, 0, none⟩)] w fun e w' => e = .returned (.int .i64 ((total fun i j => (f i j).length : Nat) : Int)) ∧ Below w.heap.size w w' := by
  obtain ⟨bm, am, kg, _, _, _, ⟨sl, ⟨D, hown0, hT⟩, hFb, hown, _⟩, _⟩ := h
  have cg := kg.blk.cell 1
  obtain ⟨w1, hrun1, hrg, hg1, hz1⟩ := hown0.range linkKeyed Try.underlying55
  have HRG := Lib.hid hrg
  have HT := Lib.hid hT
  have HOWN := Lib.hid hown
  have HLEN := Lib.hid hlen
  have hb1 : Below w.heap.size w w1 := ⟨hg1.os, hg1.tape, hg1.output, hg1.size, fun k hk => hg1.block k hk (by simp)⟩
  clear hown0 hrg hT hown hlen kg hg1
  go_enter Try.func12, Try.ntmps12
  go_wp2_with fail
  go_loopw [3] (fun s3 wr => ∃ (left : Lit → Bool) (cnt : Nat), s3 = .int .i64 ((total (counted f left) : Nat) : Int) ∧ wr.ranges Try.prog linkT heldR bm w.heap.size N D left cnt ∧ Below w.heap.size w wr) (fun _ wr => wr.rangeLeft bm w.heap.size)
  case atStart =>
    refine ⟨has D, _, ?_, HRG.out, hb1⟩
    have e : total (counted f (has D)) = 0 := by
      have e1 : total (counted f (has D)) = total fun _ _ => 0 := total_same (fun i j hi hj => by
        unfold counted
        by_cases hh : has D (linkL i j) = true
        · rw [if_pos hh]
        · rw [if_neg hh]
          have e2 := HT.out.2.1 i j hi hj
          rw [atKey_of_not_has (by simpa using hh)] at e2
          injection e2 with e2
          obtain ⟨zs, q1, q2, _⟩ := HOWN.out i j hi hj
          rw [← e2] at q2
          rcases q2.2 with ⟨_, h0⟩ | ⟨gg, cap, cur, hv, _⟩
          · rw [← q1, List.length_map, h0]
          · cases hv)
      rw [e1]
      decide +kernel
    rw [e]
    rfl
  case round =>
    obtain ⟨left, cnt, rfl, hrg, hbr⟩ := hrel
    rcases hrg.next linkKeyed 0 with ⟨h0, hl, hrun⟩ | ⟨key, v, kl, y, w2, cnt2, hkey, hlk, hR, hat, hrun, hrg2, hlt, hg2, hz2, hent⟩
    · rw [show total (counted f left) = total fun i j => (f i j).length from total_same (fun i j _ _ => by unfold counted; rw [hl]; rfl)]
      go_wp2
      go_ret
      exact ⟨rfl, hbr⟩
    · obtain ⟨i, j, hi, hj, rfl⟩ := HT.out.2.2 kl (has_true_of_atKey hat)
      simp only [heldR, Option.some.injEq] at hR
      subst hR
      have e2 := HT.out.2.1 i j hi hj
      rw [hat] at e2
      injection e2 with e2
      obtain ⟨A, c, hv⟩ := (HOWN.out i j hi hj).slice
      rw [e2, hv] at hrun hent
      have htb : total (counted f left) ≤ 64 * 140737488355328 := total_le (fun a b ha hb => by
        unfold counted
        split
        · omega
        · exact HLEN.out a b ha hb)
      have hnb := HLEN.out i j hi hj
      have hstep : total (counted f fun x => left x && !x.sameKey (linkL i j)) = total (counted f left) + (f i j).length := by
        refine total_step hi hj ?_ ?_ (fun a b ha hb hne => ?_)
        · unfold counted
          rw [if_pos hlk]
        · unfold counted
          rw [if_neg (by dsimp only; rw [WideAt.sameKey_self (linkL_key hi hj)]; simp)]
        · unfold counted
          have h3 : (linkL a b).sameKey (linkL i j) = false := sameKey_ne (fun e => hne (linkL_inj ha hb hi hj e))
          by_cases hq : left (linkL a b) = true <;> simp [hq, h3]
      have hb2 : Below w.heap.size w w2 := hbr.trans ⟨hg2.os, hg2.tape, hg2.output, hg2.size, fun k hk => hg2.block k (by have := hrg.lt; omega) (fun e => by injection e with e; omega)⟩
      obtain ⟨n, hn⟩ : ∃ n, n = (f i j).length := ⟨_, rfl⟩
      obtain ⟨tt, htt⟩ : ∃ tt, tt = total (counted f left) := ⟨_, rfl⟩
      rw [← hn] at hrun hent hnb hstep
      rw [← htt] at htb hstep ⊢
      have HSTEP := Lib.hid hstep
      have HR2 := Lib.hid hrg2
      have HRR := Lib.hid hrg
      clear hstep hn htt hrg2 hat hlk hkey hv e2 hrg
      go_wp2
      go_roundw
      case rel => exact ⟨_, cnt2, by rw [HSTEP.out]; go_num, HR2.out, hb2⟩
      case measure => rw [HR2.out.left_eq, HRR.out.left_eq]; omega
end Go.Proofs.Ytjihiohmemmabaa

/- The library's Backward over entries. -/
import Derived.RangeFuncNested
import Derived.RangeFuncBound
import Derived.RangeFuncCalls
import Derived.RangeFuncLeaves
import Derived.Shelf.Abstract
import Derived.Shelf.RegionOpen
import Derived.WalkKit
import Derived.OwnWalkIn
import Derived.TacticsInMore
import Derived.LoopNIn
import Derived.LoopIn
import Derived.Test.YtglabhfmeinogaaLEnt
namespace Go.Proofs.Ytglabhfmeinogaa
open Go.RowKit Go.Shelf Go.Gz
attribute [local go_sem] Oper.semAt_some

/-- What has come when k rounds are over: the places from the last one down. -/
def backs (n : Nat) : (k : Nat) → k ≤ n → List (Fin n)
  | 0, _ => []
  | k + 1, h => backs n k (by omega) ++ [⟨n - 1 - k, by omega⟩]
theorem backs_len {n : Nat} : ∀ {k : Nat} (h : k ≤ n), (backs n k h).length = k
  | 0, _ => rfl
  | k + 1, h => by
    have h1 := backs_len (k := k) (show k ≤ n by omega)
    simp [backs, h1]
theorem backs_mem {n : Nat} {x : Fin n} : ∀ {k : Nat} (h : k ≤ n), x ∈ backs n k h ↔ n - k ≤ x.val
  | 0, _ => by have := x.2; simp [backs]
  | k + 1, h => by
    have h1 := backs_mem (x := x) (k := k) (show k ≤ n by omega)
    have h2 := x.2
    simp only [backs, List.mem_append, h1, List.mem_singleton, Fin.ext_iff]
    omega
/-- A round's arguments: the place, the entry's cells. -/
def encB (zs : List (List Value × Ent)) (x : Fin zs.length) : Array Value := #[.int .i64 (x.val : Int), .agg (zs[x.val]'x.2).1.toArray]

/-- The slice value is boxed; the function value captures the box. -/
theorem back_in (F : Fence) (n : Nat) (h5 : F.fn 39) (hro : F.round = none) (a : Option Addr) (len cap : Nat) (w : World) :
    CallsIn F n Try.prog 39 #[.slice a len cap] w fun e w' => e = .returned (.func (.func 54) #[] #[.pointer (some ⟨w.heap.size, 0, none⟩)]) ∧ w' = w.alloc (.cells #[.slice a len cap] 29) := by
  refine callsIn_of_wp Try.func39 rfl h5 ?_ hro
  simp only [Try.ntmps39, List.size_toArray, List.length_cons, List.length_nil, Nat.reduceAdd, Nat.reduceSub, Array.replicate_succ, Array.replicate_zero, List.push_toArray, List.append_toArray, List.nil_append, List.cons_append]
  gi_wp2
  go_ret
  exact ⟨rfl, rfl⟩

set_option maxRecDepth 100000 in
set_option maxHeartbeats 2000000 in
/-- For every loop body that keeps what lay in the world w0. -/
theorem back1_in (F : Fence) (n : Nat) (hf : F.fn 54) (hro : F.round = none) (hn : 1 ≤ n) (l Bs : Nat) (w0 : World) (ad : Addr) (cap : Nat) (zs : List (List Value × Ent)) (hs : SlA w0 6 (some ad) zs.length (zs.flatMap (·.1))) (hz : ∀ z ∈ zs, IsE w0 z.1 z.2)
    (hreach : zs.length ≤ 140737488355328) (hBs : w0.cell? ⟨Bs, 0, none⟩ = some (.slice (some ad) zs.length cap)) (hBl : Bs < w0.heap.size) (J Jx : List (Fin zs.length) → World → Prop)
    (hY : ∀ pre x W, J pre W → pre.length < zs.length → YieldAt F (n - 1) Try.prog l (encB zs x) W fun e W' =>
      (e = .returned (.bool true) ∧ J (pre ++ [x]) W' ∧ Below w0.heap.size W W') ∨ (e = .returned (.bool false) ∧ Jx (pre ++ [x]) W'))
    (W : World) (hb : Below w0.heap.size w0 W) (h0 : J [] W) :
    CallsIn F n Try.prog 54 #[.func (.yield l) #[] #[], .pointer (some ⟨Bs, 0, none⟩)] W fun e W' => (∃ v, e = .returned v) ∧
      ((∃ ys, ys = backs zs.length zs.length (Nat.le_refl _) ∧ J ys W') ∨ (∃ pre, (∃ k h, pre = backs zs.length k h) ∧ Jx pre W')) := by
  have hm : ∀ (j : Nat) (hj : j < zs.length), ∃ (x : Ent) (D : Option Addr) (dc : Nat) (V : Option Addr) (vc : Nat) (L : Option Addr) (lc : Nat), zs[j].1 = [.int .u64 x.1, .int .u64 x.2.1, .int .i64 x.2.2.1, .slice D x.2.2.2.1.length dc, .slice V x.2.2.2.2.1.length vc, .slice L x.2.2.2.2.2.length lc] ∧
      w0.cell? (ad.add (j * 6)) = some (.int .u64 x.1) ∧ w0.cell? ⟨(ad.add (j * 6)).block, (ad.add (j * 6)).off + 1, none⟩ = some (.int .u64 x.2.1) ∧ w0.cell? ⟨(ad.add (j * 6)).block, (ad.add (j * 6)).off + 2, none⟩ = some (.int .i64 x.2.2.1) ∧
      w0.cell? ⟨(ad.add (j * 6)).block, (ad.add (j * 6)).off + 3, none⟩ = some (.slice D x.2.2.2.1.length dc) ∧ w0.cell? ⟨(ad.add (j * 6)).block, (ad.add (j * 6)).off + 4, none⟩ = some (.slice V x.2.2.2.2.1.length vc) ∧ w0.cell? ⟨(ad.add (j * 6)).block, (ad.add (j * 6)).off + 5, none⟩ = some (.slice L x.2.2.2.2.2.length lc) := by
    intro j hj
    obtain ⟨D, dc, V, vc, L, lc, e, _, _⟩ := hz _ (List.getElem_mem hj)
    have cm := fun r hr => flat_cell (fun z : List Value × Ent => z.1) hs (fun z h => (hz z h).len) hj r hr
    rw [e] at cm
    refine ⟨zs[j].2, D, dc, V, vc, L, lc, e, cm 0 (by omega), ?_, ?_, ?_, ?_, ?_⟩
    · rw [add_of ad (j * 6) 1 (by omega)]; exact cm 1 (by omega)
    · rw [add_of ad (j * 6) 2 (by omega)]; exact cm 2 (by omega)
    · rw [add_of ad (j * 6) 3 (by omega)]; exact cm 3 (by omega)
    · rw [add_of ad (j * 6) 4 (by omega)]; exact cm 4 (by omega)
    · rw [add_of ad (j * 6) 5 (by omega)]; exact cm 5 (by omega)
  have HM := Lib.hid hm
  have HS := Lib.hid hs
  have HK := Lib.hid (show ∀ (X : World) (p : Addr) (u : Value), Below w0.heap.size w0 X → w0.cell? p = some u → X.cell? p = some u from fun X p u h e => kc_below h e)
  clear hm hs hz
  have hBW := HK.out _ _ _ hb hBs
  refine callsIn_of_wp Try.func54 rfl hf ?_ hro
  simp only [Try.ntmps54, List.size_toArray, List.length_cons, List.length_nil, Nat.reduceAdd, Nat.reduceSub, Array.replicate_succ, Array.replicate_zero, List.push_toArray, List.append_toArray, List.nil_append, List.cons_append]
  gi_wp2
  gi_loopw [3] (fun i wr => ∃ (k : Nat) (h : k ≤ zs.length), i = .int .i64 ((zs.length : Int) - 1 - k) ∧ J (backs zs.length k h) wr ∧ Below w0.heap.size w0 wr)
    (fun i _ => (intOf i + 1).toNat)
  case atStart => exact ⟨0, Nat.zero_le _, by simp, h0, hb⟩
  case round =>
    obtain ⟨k, hk, rfl, hJs, hnx⟩ := hrel
    have hBr := HK.out _ _ _ hnx hBs
    by_cases hlt : k < zs.length
    · have hy := hY _ ⟨zs.length - 1 - k, by omega⟩ wr hJs (by rw [backs_len]; exact hlt)
      obtain ⟨x, D, dc, V, vc, L, lc, e, m0, m1, m2, m3, m4, m5⟩ := HM.out (zs.length - 1 - k) (by omega)
      have m0 := HK.out _ _ _ hnx m0
      have m1 := HK.out _ _ _ hnx m1
      have m2 := HK.out _ _ _ hnx m2
      have m3 := HK.out _ _ _ hnx m3
      have m4 := HK.out _ _ _ hnx m4
      have m5 := HK.out _ _ _ hnx m5
      have hi : ((zs.length - 1 - k : Nat) : Int) = (zs.length : Int) - 1 - k := by omega
      simp only [encB, e, hi] at hy
      obtain ⟨fn, tmps, assign, body, hy, hR⟩ := hy
      have hi2 : ((zs.length : Int) - 1 - k).toNat = zs.length - 1 - k := by omega
      have b1 : (0 : Int) ≤ (zs.length : Int) - 1 - k := by omega
      have b2 : (zs.length : Int) - 1 - k < (zs.length : Int) := by omega
      clear hY
      gi_wp2
      refine hR.mono ?_
      rintro e3 W3 (⟨rfl, hJ3, hk3⟩ | ⟨rfl, hJx3⟩)
      · gi_wp2
        go_roundw
        case rel => exact ⟨k + 1, by omega, by go_num, by simp only [backs]; exact hJ3, hnx.trans hk3⟩
        case measure => simp [intOf]; omega
      · gi_wp2
        refine bodyPost_ret (results_none rfl _ _ _) rfl ?_
        exact ⟨⟨_, rfl⟩, .inr ⟨_, ⟨k + 1, by omega, by simp only [backs]⟩, hJx3⟩⟩
    · obtain rfl : k = zs.length := by omega
      gi_wp2
      go_end0
      exact ⟨⟨_, rfl⟩, .inl ⟨_, rfl, hJs⟩⟩

set_option maxRecDepth 100000 in
set_option maxHeartbeats 1000000 in
/-- .. at the nil slice: no round. -/
theorem back1_nil_in (F : Fence) (n : Nat) (hf : F.fn 54) (hro : F.round = none) (l Bs : Nat) (W : World) (cap : Nat) (hBs : W.cell? ⟨Bs, 0, none⟩ = some (.slice none 0 cap)) :
    CallsIn F n Try.prog 54 #[.func (.yield l) #[] #[], .pointer (some ⟨Bs, 0, none⟩)] W fun e W' => (∃ v, e = .returned v) ∧ W' = W := by
  refine callsIn_of_wp Try.func54 rfl hf ?_ hro
  simp only [Try.ntmps54, List.size_toArray, List.length_cons, List.length_nil, Nat.reduceAdd, Nat.reduceSub, Array.replicate_succ, Array.replicate_zero, List.push_toArray, List.append_toArray, List.nil_append, List.cons_append]
  gi_wp2
  gi_loopw [3] (fun i wr => i = .int .i64 (-1) ∧ wr = W) (fun _ _ => 0)
  case atStart => exact ⟨rfl, rfl⟩
  case round =>
    obtain ⟨rfl, rfl⟩ := hrel
    gi_wp2
    go_end0
    exact ⟨⟨_, rfl⟩, rfl⟩

/-- The value that Backward hands back, at entries that read in the world w0. -/
theorem back_stops (F : Fence) (n : Nat) (hf : F.fn 54) (hro : F.round = none) (hn : 1 ≤ n) (Bs : Nat) (w0 : World) (A : Option Addr) (cap : Nat) (zs : List (List Value × Ent)) (hs : SlA w0 6 A zs.length (zs.flatMap (·.1))) (hz : ∀ z ∈ zs, IsE w0 z.1 z.2)
    (hreach : zs.length ≤ 140737488355328) (hBs : w0.cell? ⟨Bs, 0, none⟩ = some (.slice A zs.length cap)) (hBl : Bs < w0.heap.size) :
    SeqStopsK F n Try.prog 54 #[.pointer (some ⟨Bs, 0, none⟩)] (encB zs) (Below w0.heap.size) (fun ys => ys = backs zs.length zs.length (Nat.le_refl _)) (fun pre => ∃ k h, pre = backs zs.length k h) zs.length w0 := fun l J Jx W hW _ _ hY h0 => by
  cases A with
  | none =>
    have h1 := hs.2.1 rfl
    have e : zs = [] := List.eq_nil_of_length_eq_zero h1
    subst e
    exact (back1_nil_in F n hf hro l Bs W cap (kc_below hW hBs)).mono fun e W' ⟨he, hw⟩ => ⟨he, .inl ⟨_, rfl, by rw [hw]; exact h0⟩⟩
  | some ad => exact back1_in F n hf hro hn l Bs w0 ad cap zs hs hz hreach hBs hBl J Jx hY W hW h0
end Go.Proofs.Ytglabhfmeinogaa

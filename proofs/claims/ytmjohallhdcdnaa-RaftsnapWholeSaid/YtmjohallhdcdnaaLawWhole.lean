/- RaftsnapWhole: the law's walk. -/
import Derived.Test.YtmjohallhdcdnaaLawOther
import Derived.Test.YtmjohallhdcdnaaWholeFn
import Derived.Deep.LoopGhost
import Derived.Deep.DeepCutAuto
namespace Go.Proofs.Ytmjohallhdcdnaa
open Go.RowKit Go.Gz
attribute [local go_sem] World.cell?_alloc_some frozen?_alloc_some

/-- A piece that does not go on where what has come ends: it stays. -/
theorem take_stays (x0 x1 x2 x3 x6 x7 x8 x10 x11 : Value) (pi pt i t k : Int) (D M : Option Addr) (p f q e : Nat) (done : Bool) (z y had : List Int) (w : World) (h : SlA w 1 D p (nums .u8 z)) (hm : SlA w 1 M q (nums .u8 y)) (hpf : p ≤ f) (hs : had.length + q ≤ 140737488355328)
    (hh : hadL pi pt i t z = had) (hk : ¬ k = had.length) :
    Calls Try.prog 15 #[.agg #[.int .u64 pi, .int .u64 pt, .slice D p f], .agg (msgV x0 x1 x2 x3 x6 x7 x8 x10 x11 i t k M q e done).toArray] w fun r w' => Below w.heap.size w w' ∧
      ∃ D' f', r = .returned (.tuple #[.agg #[.int .u64 i, .int .u64 t, .slice D' had.length f'], .bool false]) ∧ Own w' w.heap.size 5 1 D' had.length f' (nums .u8 had) := by
  refine (take_any x0 x1 x2 x3 x6 x7 x8 x10 x11 pi pt i t k D M p f q e done z y w h hm hpf (by rw [hh]; exact hs)).mono ?_
  rintro r w2 ⟨hb, D2, n2, f2, hr, ho⟩
  have e : taken pi pt i t k z y = had := by unfold taken tookL; rw [hh, if_neg hk]
  rw [e] at ho
  have hn := ho.length
  simp only [length_nums, Nat.mul_one] at hn
  rw [← hn] at ho hr
  exact ⟨hb, D2, f2, by rw [hr, hh]; simp [hk], ho⟩

/-- What has come: r bytes of the snapshot. -/
def ComeAt (w4 : World) (gp : Nat) (si ti : Int) (z : List Int) (r : Nat) (wr : World) : Prop :=
  Below gp w4 wr ∧ w4.heap.size ≤ wr.heap.size ∧ ∃ ci ct D f, Blk wr gp [.int .u64 ci, .int .u64 ct, .slice D r f] ∧ Own wr (gp + 1) 5 1 D r f (nums .u8 (z.take r)) ∧ r ≤ z.length ∧ (r = 0 ∨ (ci = si ∧ ct = ti))

theorem ComeAt.below {w4 : World} {gp : Nat} {si ti : Int} {z : List Int} {r : Nat} {wr wx : World} (h : ComeAt w4 gp si ti z r wr) (hg : gp < w4.heap.size) (hb : Below wr.heap.size wr wx) : ComeAt w4 gp si ti z r wx := by
  obtain ⟨h1, h2, ci, ct, D, f, k8, ho, hr⟩ := h
  exact ⟨h1.trans (hb.mono (by omega)), Nat.le_trans h2 hb.size, ci, ct, D, f, k8.ext hb, ho.below hb, hr⟩
theorem getD_mem (l : List Int) (i : Nat) (h : i < l.length) : l.getD i 0 ∈ l := by
  rw [List.getD_eq_getElem?_getD, List.getElem?_eq_getElem h]
  exact List.getElem_mem h

/-- A piece out of the order has been made, or not. -/
def OddAt (wr wx : World) (si ti : Int) (A B D : Option Addr) (n m p kk : Nat) (l k' z : List Int) (s9 s10 : Value) : Prop :=
  ∃ g e, s9 = .pointer (some ⟨g, 0, none⟩) ∧ s10 = .int .i64 e ∧ Below wr.heap.size wr wx ∧ (e = 1 ∨ (e = 0 ∧ ∃ q A5 c5 B5 d5 D5 f5, q ≤ 64 ∧ wr.heap.size ≤ g ∧ Blk wx g (msgG 7 si ti kk A5 B5 D5 n c5 m d5 q f5 (decide (q = p - kk))) ∧ SlA wx 1 D5 q (nums .u8 ((z.drop kk).take 64))))

/-- A message without anything. -/
def zeroMsg : List Value := [.int .i64 0, .int .i64 0, .int .i64 0, .int .u64 0, .int .u64 0, .int .u64 0, .slice none 0 0, .int .u64 0, .bool false, .int .u64 0, .slice none 0 0, .slice none 0 0, .slice none 0 0, .bool false]
theorem below_grown {B : Nat} {w w1 w' : World} {g : Nat} (h : Below B w w1) (hg : w1.grownBy w' (some g)) (hB : B ≤ g) (hl : g < w1.heap.size) : Below B w w' := h.grown hg (by omega) (fun k hk => by injection hk with hk; omega)
theorem below_alloc_one (w : World) (o : Obj) : Below w.heap.size w (w.alloc o) := (Below.refl _ _).alloc (Nat.le_refl _) o

set_option maxHeartbeats 4000000 in
set_option maxRecDepth 100000 in
theorem lawWhole_any (si ti : Int) (A B D O : Option Addr) (n c m d p f no co : Nat) (l k' z os : List Int) (w : World) (h : IsSnap w A B D n m p l k' z) (hn : n * 8 ≤ 140737488355328) (hm : m * 8 ≤ 140737488355328)
    (hpf : p ≤ f) (hf : p ≤ 140737488355264) (ho' : SlA w 1 O no (nums .u64 os)) (hno : no ≤ 140737488355328) (hos : ∀ v ∈ os, (Lit.int .u64 v).wf = true) :
    Calls Try.prog 6 #[.agg #[.int .u64 si, .int .u64 ti, .slice A n c, .slice B m d, .slice D p f], .slice O no co] w fun e w' => e = .returned (.bool true) ∧ Below w.heap.size w w' := by
  have H := Lib.hid h
  have HO := Lib.hid ho'
  have HOS := Lib.hid hos
  clear h ho' hos
  have hzl : z.length = p := H.out.2.len
  have HOL := Lib.hid (show os.length = no by have := HO.out.len; simpa [nums] using this)
  obtain ⟨hpc, hpc1⟩ := pieces_le p
  go_enter Try.func6, Try.ntmps6
  go_wp2_with fail
  refine name_calls (fun w1 hw1 => ?_)
  have k3 : Blk w1 w.heap.size [.int .u64 si, .int .u64 ti, .slice A n c, .slice B m d, .slice D p f] := by rw [hw1]; exact Blk.new w _ _ _ rfl
  have hb1 : Below w.heap.size w w1 := by rw [hw1]; exact (by (repeat first | refine Below.setCell ?_ (by first | omega | (dsimp only; omega) | (simp only [heap_drew, World.size_alloc, Gz.size_setCell]; omega)) _ | refine Below.alloc ?_ (by first | omega | (dsimp only; omega) | (simp only [heap_drew, World.size_alloc, Gz.size_setCell]; omega)) _ | refine Below.drew ?_); exact Below.refl _ _)
  have hz1 : w.heap.size + 1 ≤ w1.heap.size := by rw [hw1]; simp
  clear hw1
  refine (head_any w1).mono ?_
  rintro e w2 ⟨rfl, hb2⟩
  have k3 := k3.ext hb2
  have hz2 := hb2.size
  have hb2 := hb1.trans (hb2.mono hb1.size)
  go_wp2_with fail
  refine name_world (fun w4 hw4 => ?_)
  have k3 : Blk w4 w.heap.size [.int .u64 si, .int .u64 ti, .slice A n c, .slice B m d, .slice D p f] := by rw [hw4]; exact k3.alloc _
  have k8 : Blk w4 w2.heap.size [.int .u64 0, .int .u64 0, .slice none 0 0] := by rw [hw4]; exact Blk.new w2 _ _ _ rfl
  have hb4 : Below w2.heap.size w2 w4 := by rw [hw4]; exact (by (repeat first | refine Below.setCell ?_ (by first | omega | (dsimp only; omega) | (simp only [heap_drew, World.size_alloc, Gz.size_setCell]; omega)) _ | refine Below.alloc ?_ (by first | omega | (dsimp only; omega) | (simp only [heap_drew, World.size_alloc, Gz.size_setCell]; omega)) _ | refine Below.drew ?_); exact Below.refl _ _)
  have hb4 := hb2.trans (hb4.mono hb2.size)
  have hz4 : w4.heap.size = w2.heap.size + 1 := by rw [hw4]; simp
  have K3 := hide k3
  have hC : ComeAt w4 w2.heap.size si ti z 0 w4 := ⟨Below.refl _ _, Nat.le_refl _, 0, 0, none, 0, k8, .inl ⟨rfl, rfl, rfl⟩, Nat.zero_le _, .inl rfl⟩
  clear hw4 k3 k8
  go_loopg [7, 8] (p + 1) (fun g s7 s8 wx => ∃ i r : Nat, s7 = .int .u64 r ∧ s8 = .int .i64 i ∧ r = 64 * i ∧ (i = 0 ∨ r < p) ∧ g = p + 1 - i ∧ ComeAt w4 w2.heap.size si ti z r wx)
  case atStart => exact ⟨0, 0, rfl, rfl, rfl, .inl rfl, rfl, hC⟩
  case round =>
    clear hC
    obtain ⟨i, r, rfl, rfl, hri, hir, rfl, hC⟩ := hrel
    have hip : (i : Int) < pieces p := by
      unfold pieces
      split <;> omega
    have hip1 : (i : Int) < pieces p + 1 := by omega
    have HI := hide hri
    have HR := hide hir
    have HC := hide hC
    have hrp : r ≤ p := by omega
    have hi47 : i ≤ 140737488355328 := by omega
    have hbr := hC.1
    have k3 := K3.out.below hbr (by omega)
    have c3 := k3.cell
    clear hri hir hC
    go_wp2_with fail
    refine (pieces_prog p _ (by omega) (by omega)).mono ?_
    rintro e _ ⟨rfl, rfl⟩
    go_upto_region 7 with fail
    obtain ⟨b, hb⟩ : ∃ b : Bool, b = decide (i < no ∧ ¬ os.getD i 0 = (r : Int)) := ⟨_, rfl⟩
    have HBB := hide hb
    clear hb
    go_cut [40] (fun c wx => c = .bool b ∧ wr = wx)
    case first =>
      by_cases hio : i < no
      · cases O with
        | none => have := HO.out.2.1 rfl; omega
        | some ad =>
          have hoc := (HO.out.below (hb4.trans (hbr.mono (by omega)))).cell (j := i) (by rw [HO.out.len]; exact hio)
          have b2 : (i : Int) < (no : Int) := by omega
          by_cases hod : os.getD i 0 = (r : Int)
          · have hob : (os.getD i 0 != (r : Int)) = false := by rw [bne_eq_false_iff_eq]; exact hod
            have hbb : b = false := by rw [HBB.out]; exact decide_eq_false (fun h => h.2 hod)
            go_wp2_with fail
            go_meet
            exact ⟨by rw [hbb]; first | rfl | exact congrArg Value.bool hob, rfl⟩
          · have hob : (os.getD i 0 != (r : Int)) = true := bne_iff_ne.2 hod
            have hbb : b = true := by rw [HBB.out]; exact decide_eq_true ⟨hio, hod⟩
            go_wp2_with fail
            go_meet
            exact ⟨by rw [hbb]; first | rfl | exact congrArg Value.bool hob, rfl⟩
      · have b2 : ¬ (i : Int) < (no : Int) := by omega
        go_wp2_with fail
        go_meet
        exact ⟨by rw [HBB.out, decide_eq_false (fun h => hio h.1)], rfl⟩
    case rest =>
      obtain ⟨rfl, rfl⟩ := hcut
      go_upto_if 40 with fail
      go_cut [] (fun wx => ComeAt w4 w2.heap.size si ti z r wx)
      case first =>
        cases b with
        | false =>
          go_wp2_with fail
          go_meet
          exact HC.out
        | true =>
          have hb := HBB.out
          have hb := of_decide_eq_true hb.symm
          obtain ⟨hio, hod⟩ := hb
          obtain ⟨kk, hkk⟩ := Int.eq_ofNat_of_zero_le (bounds_u64 (HOS.out _ (getD_mem _ _ (by rw [← HOL.out] at hio; exact hio)))).1
          have hk2 := (bounds_u64 (HOS.out _ (getD_mem _ _ (by rw [← HOL.out] at hio; exact hio)))).2
          cases O with
          | none => have := HO.out.2.1 rfl; omega
          | some ad =>
          have hoc := (HO.out.below (hb4.trans (hbr.mono (by omega)))).cell (j := i) (by rw [HO.out.len]; exact hio)
          rw [hkk] at hoc hk2 hod
          have hod2 : ¬ kk = r := fun e => hod (by rw [e])
          have hk3 : kk < 18446744073709551616 := by omega
          have HK := hide hkk
          clear hb hkk hk2 hod
          have b2 : (i : Int) < (no : Int) := by omega
          go_upto_region 8 with fail
          go_cut [9, 10] (fun s9 s10 wx => OddAt wr wx si ti A B D n m p kk l k' z s9 s10)
          case first =>
            have hwr := hb4.trans (hbr.mono (by omega))
            by_cases hkp : kk ≤ p
            · obtain ⟨q, hq1, hq2, hq3⟩ : ∃ q, q ≤ 64 ∧ q ≤ p - kk ∧ (q = 64 ∨ q = p - kk) := by
                by_cases e : 64 ≤ p - kk
                · exact ⟨64, by omega, e, .inl rfl⟩
                · exact ⟨p - kk, by omega, by omega, .inr rfl⟩
              have HQ := hide hq3
              clear hq3
              go_wp2_with fail
              refine wp_region_held_drew (S := Ext wr) (by kernel_rfl) Ext.start (fun hS => ?_)
              simp only [List.size_toArray, List.length_cons, List.length_nil]
              refine take_at (i := 0) (oi := _) (dst := some 42) (v := ?_) rfl rfl (by kernel_rfl) (by kernel_rfl) (by kernel_rfl) (fun _ _ _ h => h) (Or.inl ⟨by rfl, by intro w hSw; (try dsimp only at hSw); go_simp; (try with_reducible rfl)⟩) (by assumption) ?_; (try simp only [Act.put, List.setIfInBounds_toArray, List.set_cons_zero, List.set_cons_succ])
              refine take_at (i := 1) (oi := _) (dst := some 43) (v := ?_) rfl rfl (by kernel_rfl) (by kernel_rfl) (by kernel_rfl) (fun _ _ _ h => h) (Or.inl ⟨by rfl, by intro w hSw; (try dsimp only at hSw); go_simp; (try with_reducible rfl)⟩) (by assumption) ?_; (try simp only [Act.put, List.setIfInBounds_toArray, List.set_cons_zero, List.set_cons_succ])
              refine take_at (i := 2) (oi := _) (dst := some 44) (v := ?_) rfl rfl (by kernel_rfl) (by kernel_rfl) (by kernel_rfl) (fun _ _ _ h => h) (Or.inl ⟨by rfl, by intro w hSw; (try dsimp only at hSw); go_simp; (try with_reducible rfl)⟩) (by assumption) ?_; (try simp only [Act.put, List.setIfInBounds_toArray, List.set_cons_zero, List.set_cons_succ])
              refine take_at (i := 3) (oi := _) (dst := some 45) (v := ?_) rfl rfl (by kernel_rfl) (by kernel_rfl) (by kernel_rfl) (fun _ _ _ h => h) (Or.inl ⟨by rfl, by intro w hSw; (try dsimp only at hSw); go_simp; (try with_reducible rfl)⟩) (by assumption) ?_; (try simp only [Act.put, List.setIfInBounds_toArray, List.set_cons_zero, List.set_cons_succ])
              refine take_at (i := 4) (oi := _) (dst := some 46) (v := ?_) rfl rfl (by kernel_rfl) (by kernel_rfl) (by kernel_rfl) (fun _ _ _ h => h) (Or.inl ⟨by rfl, by intro w hSw; (try dsimp only at hSw); go_simp; (try with_reducible rfl)⟩) (by assumption) ?_; (try simp only [Act.put, List.setIfInBounds_toArray, List.set_cons_zero, List.set_cons_succ])
              refine wpAnyH_ready (rs := [5, 9]) (by kernel_rfl) (by simp) ?_
              refine AllReadyH.cons (o := _) rfl (fun K hK => ?_) (AllReadyH.cons (o := _) rfl (fun K hK => ?_) AllReadyH.nil)
              · go_simp
                refine (piece_any si ti A B D n c m d p f kk q l k' z _ (H.out.below (hwr.trans (hS.2.2.mono hwr.size))) hn hm hpf (by omega) hkp hq1 hq2 HQ.out).mono ?_
                rintro e w5 ⟨hb5, A5, c5, B5, d5, D5, f5, rfl, ho5⟩
                unfold msgCells
                refine hK.out _ _ (Ext.below hS hb5) (fun hS5 => ?_)
                clear hK
                refine take_at (i := 6) (oi := _) (dst := some 41) (v := ?_) rfl rfl (by kernel_rfl) (by kernel_rfl) (by kernel_rfl) (fun _ _ _ h => h) (Or.inl ⟨by rfl, by intro w hSw; (try dsimp only at hSw); go_simp; (try with_reducible rfl)⟩) (by assumption) ?_; (try simp only [Act.put, List.setIfInBounds_toArray, List.set_cons_zero, List.set_cons_succ])
                refine take_at (i := 7) (oi := _) (dst := some 48) (v := ?_) rfl rfl (by kernel_rfl) (by kernel_rfl) (by kernel_rfl) (fun _ _ _ h => h) (Or.inl ⟨by rfl, by intro w hSw; (try dsimp only at hSw); go_simp; (try with_reducible rfl)⟩) (by assumption) ?_; (try simp only [Act.put, List.setIfInBounds_toArray, List.set_cons_zero, List.set_cons_succ])
                refine take_at (i := 8) (oi := _) (dst := some 49) (v := ?_) rfl rfl (by kernel_rfl) (by kernel_rfl) (by kernel_rfl) (fun _ _ _ h => h) (Or.inl ⟨by rfl, by intro w hSw; (try dsimp only at hSw); go_simp; (try with_reducible rfl)⟩) (by assumption) ?_; (try simp only [Act.put, List.setIfInBounds_toArray, List.set_cons_zero, List.set_cons_succ])
                refine wpAnyH_ready (rs := [9]) (by kernel_rfl) (by simp) ?_; refine AllReadyH.cons (o := _) rfl (fun K hK => ?_) AllReadyH.nil; go_simp
                refine hK.out _ _ (Ext.alloc hS5 _) (fun hS6 => ?_)
                clear hK
                refine wpAnyH_ready (rs := [10]) (by kernel_rfl) (by simp) ?_; refine AllReadyH.cons (o := _) rfl (fun K hK => ?_) AllReadyH.nil
                refine step_store_part rfl rfl 34 (.tmp 9) (.tmp 48) rfl w5.heap.size 0 _ (msgG 7 si ti kk A5 B5 D5 n c5 m d5 q f5 (decide (q = p - kk))) rfl rfl rfl zeroMsg (Blk.new w5 _ _ _ rfl) (by simp [zeroMsg, msgG]) (by kernel_rfl) rfl _ rfl ?_
                intro w6 k6 hg6 hz6
                have hb6 : Below wr.heap.size wr w6 := below_grown hS6.2.2 hg6 hS5.2.2.size (by simp)
                refine hK.out _ _ (Ext.of hb6) (fun hS7 => ?_)
                clear hK
                simp only [Act.put, List.setIfInBounds_toArray, List.set_cons_zero, List.set_cons_succ]
                refine take_at (i := 11) (oi := _) (dst := some 10) (v := ?_) rfl rfl (by kernel_rfl) (by kernel_rfl) (by kernel_rfl) (fun _ _ _ h => h) (Or.inl ⟨by rfl, by intro w hSw; (try dsimp only at hSw); go_simp; (try with_reducible rfl)⟩) (by assumption) ?_; (try simp only [Act.put, List.setIfInBounds_toArray, List.set_cons_zero, List.set_cons_succ])
                refine wpAnyH_done (by kernel_rfl) ?_ _
                go_wp2_with fail
                go_meet
                unfold OddAt
                have hs5 := ho5.2.sl.below (below_grown (below_alloc_one w5 _) hg6 (Nat.le_refl _) (by simp))
                exact ⟨_, _, rfl, rfl, hb6, .inr ⟨rfl, q, A5, c5, B5, d5, D5, f5, hq1, hb5.size, k6, hs5⟩⟩
              · go_simp
                refine hK.out _ _ (Ext.alloc hS _) (fun hS5 => ?_)
                clear hK
                refine wpAnyH_ready (rs := [5]) (by kernel_rfl) (by simp) ?_; refine AllReadyH.cons (o := _) rfl (fun K hK => ?_) AllReadyH.nil; go_simp
                refine (piece_any si ti A B D n c m d p f kk q l k' z _ (H.out.below (hwr.trans (hS5.2.2.mono hwr.size))) hn hm hpf (by omega) hkp hq1 hq2 HQ.out).mono ?_
                rintro e w5 ⟨hb5, A5, c5, B5, d5, D5, f5, rfl, ho5⟩
                unfold msgCells
                refine hK.out _ _ (Ext.below hS5 hb5) (fun hS6 => ?_)
                clear hK
                refine take_at (i := 6) (oi := _) (dst := some 41) (v := ?_) rfl rfl (by kernel_rfl) (by kernel_rfl) (by kernel_rfl) (fun _ _ _ h => h) (Or.inl ⟨by rfl, by intro w hSw; (try dsimp only at hSw); go_simp; (try with_reducible rfl)⟩) (by assumption) ?_; (try simp only [Act.put, List.setIfInBounds_toArray, List.set_cons_zero, List.set_cons_succ])
                refine take_at (i := 7) (oi := _) (dst := some 48) (v := ?_) rfl rfl (by kernel_rfl) (by kernel_rfl) (by kernel_rfl) (fun _ _ _ h => h) (Or.inl ⟨by rfl, by intro w hSw; (try dsimp only at hSw); go_simp; (try with_reducible rfl)⟩) (by assumption) ?_; (try simp only [Act.put, List.setIfInBounds_toArray, List.set_cons_zero, List.set_cons_succ])
                refine take_at (i := 8) (oi := _) (dst := some 49) (v := ?_) rfl rfl (by kernel_rfl) (by kernel_rfl) (by kernel_rfl) (fun _ _ _ h => h) (Or.inl ⟨by rfl, by intro w hSw; (try dsimp only at hSw); go_simp; (try with_reducible rfl)⟩) (by assumption) ?_; (try simp only [Act.put, List.setIfInBounds_toArray, List.set_cons_zero, List.set_cons_succ])
                refine wpAnyH_ready (rs := [10]) (by kernel_rfl) (by simp) ?_; refine AllReadyH.cons (o := _) rfl (fun K hK => ?_) AllReadyH.nil
                refine step_store_part rfl rfl 34 (.tmp 9) (.tmp 48) rfl wr.heap.size 0 _ (msgG 7 si ti kk A5 B5 D5 n c5 m d5 q f5 (decide (q = p - kk))) rfl rfl rfl zeroMsg ((Blk.new wr.drew 34 zeroMsg _ rfl).ext hb5) (by simp [zeroMsg, msgG]) (by kernel_rfl) rfl _ rfl ?_
                intro w6 k6 hg6 hz6
                have hb6 : Below wr.heap.size wr w6 := below_grown hS6.2.2 hg6 (Nat.le_refl _) (by have := hb5.size; simp at this; omega)
                refine hK.out _ _ (Ext.of hb6) (fun hS7 => ?_)
                clear hK
                simp only [Act.put, List.setIfInBounds_toArray, List.set_cons_zero, List.set_cons_succ]
                refine take_at (i := 11) (oi := _) (dst := some 10) (v := ?_) rfl rfl (by kernel_rfl) (by kernel_rfl) (by kernel_rfl) (fun _ _ _ h => h) (Or.inl ⟨by rfl, by intro w hSw; (try dsimp only at hSw); go_simp; (try with_reducible rfl)⟩) (by assumption) ?_; (try simp only [Act.put, List.setIfInBounds_toArray, List.set_cons_zero, List.set_cons_succ])
                refine wpAnyH_done (by kernel_rfl) ?_ _
                go_wp2_with fail
                go_meet
                unfold OddAt
                have hs5 := (ho5.2.grown hg6 (by intro k hk; injection hk with hk; simp; omega)).sl
                exact ⟨_, _, rfl, rfl, hb6, .inr ⟨rfl, q, A5, c5, B5, d5, D5, f5, hq1, Nat.le_refl _, k6, hs5⟩⟩
            · go_wp2_with fail
              refine wp_region_held_drew (S := Ext wr) (by kernel_rfl) Ext.start (fun hS => ?_)
              simp only [List.size_toArray, List.length_cons, List.length_nil]
              refine take_at (i := 0) (oi := _) (dst := some 42) (v := ?_) rfl rfl (by kernel_rfl) (by kernel_rfl) (by kernel_rfl) (fun _ _ _ h => h) (Or.inl ⟨by rfl, by intro w hSw; (try dsimp only at hSw); go_simp; (try with_reducible rfl)⟩) (by assumption) ?_; (try simp only [Act.put, List.setIfInBounds_toArray, List.set_cons_zero, List.set_cons_succ])
              refine take_at (i := 1) (oi := _) (dst := some 43) (v := ?_) rfl rfl (by kernel_rfl) (by kernel_rfl) (by kernel_rfl) (fun _ _ _ h => h) (Or.inl ⟨by rfl, by intro w hSw; (try dsimp only at hSw); go_simp; (try with_reducible rfl)⟩) (by assumption) ?_; (try simp only [Act.put, List.setIfInBounds_toArray, List.set_cons_zero, List.set_cons_succ])
              refine take_at (i := 2) (oi := _) (dst := some 44) (v := ?_) rfl rfl (by kernel_rfl) (by kernel_rfl) (by kernel_rfl) (fun _ _ _ h => h) (Or.inl ⟨by rfl, by intro w hSw; (try dsimp only at hSw); go_simp; (try with_reducible rfl)⟩) (by assumption) ?_; (try simp only [Act.put, List.setIfInBounds_toArray, List.set_cons_zero, List.set_cons_succ])
              refine take_at (i := 3) (oi := _) (dst := some 45) (v := ?_) rfl rfl (by kernel_rfl) (by kernel_rfl) (by kernel_rfl) (fun _ _ _ h => h) (Or.inl ⟨by rfl, by intro w hSw; (try dsimp only at hSw); go_simp; (try with_reducible rfl)⟩) (by assumption) ?_; (try simp only [Act.put, List.setIfInBounds_toArray, List.set_cons_zero, List.set_cons_succ])
              refine take_at (i := 4) (oi := _) (dst := some 46) (v := ?_) rfl rfl (by kernel_rfl) (by kernel_rfl) (by kernel_rfl) (fun _ _ _ h => h) (Or.inl ⟨by rfl, by intro w hSw; (try dsimp only at hSw); go_simp; (try with_reducible rfl)⟩) (by assumption) ?_; (try simp only [Act.put, List.setIfInBounds_toArray, List.set_cons_zero, List.set_cons_succ])
              refine wpAnyH_ready (rs := [5, 9]) (by kernel_rfl) (by simp) ?_
              refine AllReadyH.cons (o := _) rfl (fun K hK => ?_) (AllReadyH.cons (o := _) rfl (fun K hK => ?_) AllReadyH.nil)
              · go_simp
                refine (piece_err si ti A B D n c m d p f kk _ (by omega) (by omega) hk3).mono ?_
                rintro e w5 ⟨rfl, hb5⟩
                unfold noMsg
                refine hK.out _ _ (Ext.below hS hb5) (fun hS5 => ?_)
                clear hK
                refine take_at (i := 6) (oi := _) (dst := some 41) (v := ?_) rfl rfl (by kernel_rfl) (by kernel_rfl) (by kernel_rfl) (fun _ _ _ h => h) (Or.inl ⟨by rfl, by intro w hSw; (try dsimp only at hSw); go_simp; (try with_reducible rfl)⟩) (by assumption) ?_; (try simp only [Act.put, List.setIfInBounds_toArray, List.set_cons_zero, List.set_cons_succ])
                refine take_at (i := 7) (oi := _) (dst := some 48) (v := ?_) rfl rfl (by kernel_rfl) (by kernel_rfl) (by kernel_rfl) (fun _ _ _ h => h) (Or.inl ⟨by rfl, by intro w hSw; (try dsimp only at hSw); go_simp; (try with_reducible rfl)⟩) (by assumption) ?_; (try simp only [Act.put, List.setIfInBounds_toArray, List.set_cons_zero, List.set_cons_succ])
                refine take_at (i := 8) (oi := _) (dst := some 49) (v := ?_) rfl rfl (by kernel_rfl) (by kernel_rfl) (by kernel_rfl) (fun _ _ _ h => h) (Or.inl ⟨by rfl, by intro w hSw; (try dsimp only at hSw); go_simp; (try with_reducible rfl)⟩) (by assumption) ?_; (try simp only [Act.put, List.setIfInBounds_toArray, List.set_cons_zero, List.set_cons_succ])
                refine wpAnyH_ready (rs := [9]) (by kernel_rfl) (by simp) ?_; refine AllReadyH.cons (o := _) rfl (fun K hK => ?_) AllReadyH.nil; go_simp
                refine hK.out _ _ (Ext.alloc hS5 _) (fun hS6 => ?_)
                clear hK
                refine wpAnyH_ready (rs := [10]) (by kernel_rfl) (by simp) ?_; refine AllReadyH.cons (o := _) rfl (fun K hK => ?_) AllReadyH.nil
                refine step_store_part rfl rfl 34 (.tmp 9) (.tmp 48) rfl w5.heap.size 0 _ zeroMsg rfl rfl rfl zeroMsg (Blk.new w5 _ _ _ rfl) (by simp [zeroMsg, msgG]) (by kernel_rfl) rfl _ rfl ?_
                intro w6 k6 hg6 hz6
                have hb6 : Below wr.heap.size wr w6 := below_grown hS6.2.2 hg6 hS5.2.2.size (by simp)
                refine hK.out _ _ (Ext.of hb6) (fun hS7 => ?_)
                clear hK
                simp only [Act.put, List.setIfInBounds_toArray, List.set_cons_zero, List.set_cons_succ]
                refine take_at (i := 11) (oi := _) (dst := some 10) (v := ?_) rfl rfl (by kernel_rfl) (by kernel_rfl) (by kernel_rfl) (fun _ _ _ h => h) (Or.inl ⟨by rfl, by intro w hSw; (try dsimp only at hSw); go_simp; (try with_reducible rfl)⟩) (by assumption) ?_; (try simp only [Act.put, List.setIfInBounds_toArray, List.set_cons_zero, List.set_cons_succ])
                refine wpAnyH_done (by kernel_rfl) ?_ _
                go_wp2_with fail
                go_meet
                unfold OddAt
                exact ⟨_, _, rfl, rfl, hb6, .inl rfl⟩
              · go_simp
                refine hK.out _ _ (Ext.alloc hS _) (fun hS5 => ?_)
                clear hK
                refine wpAnyH_ready (rs := [5]) (by kernel_rfl) (by simp) ?_; refine AllReadyH.cons (o := _) rfl (fun K hK => ?_) AllReadyH.nil; go_simp
                refine (piece_err si ti A B D n c m d p f kk _ (by omega) (by omega) hk3).mono ?_
                rintro e w5 ⟨rfl, hb5⟩
                unfold noMsg
                refine hK.out _ _ (Ext.below hS5 hb5) (fun hS6 => ?_)
                clear hK
                refine take_at (i := 6) (oi := _) (dst := some 41) (v := ?_) rfl rfl (by kernel_rfl) (by kernel_rfl) (by kernel_rfl) (fun _ _ _ h => h) (Or.inl ⟨by rfl, by intro w hSw; (try dsimp only at hSw); go_simp; (try with_reducible rfl)⟩) (by assumption) ?_; (try simp only [Act.put, List.setIfInBounds_toArray, List.set_cons_zero, List.set_cons_succ])
                refine take_at (i := 7) (oi := _) (dst := some 48) (v := ?_) rfl rfl (by kernel_rfl) (by kernel_rfl) (by kernel_rfl) (fun _ _ _ h => h) (Or.inl ⟨by rfl, by intro w hSw; (try dsimp only at hSw); go_simp; (try with_reducible rfl)⟩) (by assumption) ?_; (try simp only [Act.put, List.setIfInBounds_toArray, List.set_cons_zero, List.set_cons_succ])
                refine take_at (i := 8) (oi := _) (dst := some 49) (v := ?_) rfl rfl (by kernel_rfl) (by kernel_rfl) (by kernel_rfl) (fun _ _ _ h => h) (Or.inl ⟨by rfl, by intro w hSw; (try dsimp only at hSw); go_simp; (try with_reducible rfl)⟩) (by assumption) ?_; (try simp only [Act.put, List.setIfInBounds_toArray, List.set_cons_zero, List.set_cons_succ])
                refine wpAnyH_ready (rs := [10]) (by kernel_rfl) (by simp) ?_; refine AllReadyH.cons (o := _) rfl (fun K hK => ?_) AllReadyH.nil
                refine step_store_part rfl rfl 34 (.tmp 9) (.tmp 48) rfl wr.heap.size 0 _ zeroMsg rfl rfl rfl zeroMsg ((Blk.new wr.drew 34 zeroMsg _ rfl).ext hb5) (by simp [zeroMsg, msgG]) (by kernel_rfl) rfl _ rfl ?_
                intro w6 k6 hg6 hz6
                have hb6 : Below wr.heap.size wr w6 := below_grown hS6.2.2 hg6 (Nat.le_refl _) (by have := hb5.size; simp at this; omega)
                refine hK.out _ _ (Ext.of hb6) (fun hS7 => ?_)
                clear hK
                simp only [Act.put, List.setIfInBounds_toArray, List.set_cons_zero, List.set_cons_succ]
                refine take_at (i := 11) (oi := _) (dst := some 10) (v := ?_) rfl rfl (by kernel_rfl) (by kernel_rfl) (by kernel_rfl) (fun _ _ _ h => h) (Or.inl ⟨by rfl, by intro w hSw; (try dsimp only at hSw); go_simp; (try with_reducible rfl)⟩) (by assumption) ?_; (try simp only [Act.put, List.setIfInBounds_toArray, List.set_cons_zero, List.set_cons_succ])
                refine wpAnyH_done (by kernel_rfl) ?_ _
                go_wp2_with fail
                go_meet
                unfold OddAt
                exact ⟨_, _, rfl, rfl, hb6, .inl rfl⟩
          case rest =>
            obtain ⟨g, e, rfl, rfl, hb9, he⟩ := hcut
            rcases he with rfl | ⟨rfl, q, A5, c5, B5, d5, D5, f5, hq1, hg9, k9, hs⟩
            · go_wp2_with fail
              go_meet
              exact HC.out.below (by omega) hb9
            · obtain ⟨_, hzr, ci, ct, D2, f2, k8, ho, hr, hor⟩ := HC.out
              have k3 := k3.ext hb9
              have k8 := k8.ext hb9
              have ho := ho.below hb9
              have hbr9 : Below w2.heap.size w4 wc := hbr.trans (hb9.mono (by omega))
              have hz9 := hb9.size
              clear c3 hoc
              have c3 := k3.cell
              have c8 := k8.cell
              have c9 := k9.cell
              unfold msgG at c9
              have hle2 := ho.le
              have hrl : (z.take r).length = r := by simp; omega
              go_wp2_with fail
              refine (take_stays (.int .i64 7) (.int .i64 0) (.int .i64 0) (.int .u64 0) (.slice none 0 0) (.int .u64 0) (.bool false) (.slice A5 n c5) (.slice B5 m d5) ci ct si ti kk D2 D5 r f2 q f5 _ (z.take r) _ (z.take r) wc ho.sl hs hle2 (by rw [hrl]; omega) ?_ (by rw [hrl]; omega)).mono ?_
              · unfold hadL
                split
                · rfl
                · next h =>
                  rcases hor with h0 | h0
                  · simp [h0]
                  · exact absurd h0 h
              rintro e w7 ⟨hb7, D7, f7, he7, ho7⟩
              rw [hrl] at he7 ho7
              subst he7
              have k3 := k3.ext hb7
              have k8 := k8.ext hb7
              have hz7 := hb7.size
              have hbr7 := hbr9.trans (hb7.mono (by omega))
              clear c3 c8 c9
              go_wp2_with (with_reducible refine stop_at (d := 76) ?_)
              refine hide (name_list (fun w8 hw8 => ?_))
              have k3 : Blk w8 w.heap.size [.int .u64 si, .int .u64 ti, .slice A n c, .slice B m d, .slice D p f] := by rw [hw8]; exact k3.alloc _
              have k8 : Blk w8 w2.heap.size [.int .u64 ci, .int .u64 ct, .slice D2 r f2] := by rw [hw8]; exact k8.alloc _
              have k11 : Blk w8 w7.heap.size [.int .u64 si, .int .u64 ti, .slice D7 r f7] := by rw [hw8]; exact Blk.new w7 _ _ _ rfl
              have ho8 : Own w8 wc.heap.size 5 1 D7 r f7 (nums .u8 (z.take r)) := by rw [hw8]; exact ho7.alloc _
              have hbr8 : Below w2.heap.size w4 w8 := by rw [hw8]; exact hbr7.alloc (by omega) _
              have hz8 : w8.heap.size = w7.heap.size + 1 := by rw [hw8]; simp
              clear hw8
              have c11 := k11.cell
              have c3 := k3.cell
              go_wp2_with (with_reducible refine stop_store ?_)
              refine hide (wpList_store_blk rfl 43 (.tmp 6) (.tmp 76) rfl w2.heap.size [.int .u64 si, .int .u64 ti, .slice D7 r f7] rfl rfl _ k8 rfl (by kernel_rfl) rfl ?_)
              intro w9 k8 hg9' hz9'
              have ho9 := ho8.grown hg9' (by intro g hg; injection hg with hg; omega)
              have hbr9' : Below w2.heap.size w4 w9 := hbr8.grown hg9' (by omega) (by intro g hg; injection hg with hg; omega)
              go_wp2_with fail
              go_meet
              exact ⟨hbr9', by omega, _, _, _, _, k8, ho9.lower (by omega), hr, .inr ⟨rfl, rfl⟩⟩
      case rest =>
        obtain ⟨hbr', hzr, ci, ct, D2, f2, k8, ho, hr, hor⟩ := hcut
        obtain ⟨q, hr1, hr2, hr3⟩ : ∃ q, q ≤ 64 ∧ q ≤ p - r ∧ (q = 64 ∨ q = p - r) := by
          by_cases e : 64 ≤ p - r
          · exact ⟨64, by omega, e, .inl rfl⟩
          · exact ⟨p - r, by omega, by omega, .inr rfl⟩
        have HQ := hide hr3
        clear hr3 k3 c3
        have k3 := K3.out.below hbr' (by omega)
        have c3 := k3.cell
        have c8 := k8.cell
        have hwc := hb4.trans (hbr'.mono (by omega))
        go_wp2_with fail
        refine (piece_any si ti A B D n c m d p f r q l k' z _ (H.out.below hwc) hn hm hpf (by omega) (by omega) hr1 hr2 HQ.out).mono ?_
        rintro e w5 ⟨hb5, A5, c5, B5, d5, D5, f5, rfl, ho5⟩
        have k3 := k3.ext hb5
        have k8 := k8.ext hb5
        have ho := ho.below hb5
        have hz5 := hb5.size
        have hbr5 := hbr'.trans (hb5.mono (by omega))
        clear c8 c3
        have c8 := k8.cell
        unfold msgCells
        go_wp2_with fail
        refine name_calls (fun w6 hw6 => ?_)
        have k3 : Blk w6 w.heap.size [.int .u64 si, .int .u64 ti, .slice A n c, .slice B m d, .slice D p f] := by rw [hw6]; exact k3.alloc _
        have k8 : Blk w6 w2.heap.size [.int .u64 ci, .int .u64 ct, .slice D2 r f2] := by rw [hw6]; exact k8.alloc _
        have ho : Own w6 (w2.heap.size + 1) 5 1 D2 r f2 (nums .u8 (z.take r)) := by rw [hw6]; exact ho.alloc _
        have ho5 := ho5.2
        have ho5 : Own w6 wc.heap.size 5 1 D5 q f5 (nums .u8 ((z.drop r).take 64)) := by rw [hw6]; exact ho5.alloc _
        have hbr6 : Below w2.heap.size w4 w6 := by rw [hw6]; exact hbr5.alloc (by omega) _
        have hz6 : w6.heap.size = w5.heap.size + 1 := by rw [hw6]; simp
        clear hw6 c8
        have hle2 := ho.le
        have hrl : (z.take r).length = r := by simp; omega
        refine (take_fits (.int .i64 7) (.int .i64 0) (.int .i64 0) (.int .u64 0) (.slice none 0 0) (.int .u64 0) (.bool false) (.slice A5 n c5) (.slice B5 m d5) ci ct si ti r D2 D5 r f2 q f5 _ (z.take r) _ (z.take r) w6 ho.sl ho5.sl hle2 (by rw [hrl]; omega) ?_ (by rw [hrl])).mono ?_
        · unfold hadL
          split
          · rfl
          · next h =>
            rcases hor with h0 | h0
            · simp [h0]
            · exact absurd h0 h
        rintro e w7 ⟨hb7, D7, n7, f7, rfl, hn7, ho7⟩
        rw [hrl] at hn7
        have HN := hide hn7
        have hn47 : n7 ≤ 140737488355328 := by omega
        have e7 : z.take r ++ (z.drop r).take 64 = z.take n7 := by
          rw [hn7]
          rcases HQ.out with e | e
          · rw [e, List.take_add]
          · rw [e, List.take_of_length_le (l := List.drop r z) (by simp; omega), List.take_append_drop, List.take_of_length_le (by omega)]
        rw [e7] at ho7
        clear hn7 e7
        have k3 := k3.ext hb7
        have k8 := k8.ext hb7
        have hz7 := hb7.size
        have hbr7 := hbr6.trans (hb7.mono (by omega))
        go_wp2_with (with_reducible refine stop_at (d := 91) ?_)
        refine hide (name_list (fun w8 hw8 => ?_))
        have k3 : Blk w8 w.heap.size [.int .u64 si, .int .u64 ti, .slice A n c, .slice B m d, .slice D p f] := by rw [hw8]; exact k3.alloc _
        have k8 : Blk w8 w2.heap.size [.int .u64 ci, .int .u64 ct, .slice D2 r f2] := by rw [hw8]; exact k8.alloc _
        have k15 : Blk w8 w7.heap.size [.int .u64 si, .int .u64 ti, .slice D7 n7 f7] := by rw [hw8]; exact Blk.new w7 _ _ _ rfl
        have ho8 : Own w8 w6.heap.size 5 1 D7 n7 f7 (nums .u8 (z.take n7)) := by rw [hw8]; exact ho7.alloc _
        have hbr8 : Below w2.heap.size w4 w8 := by rw [hw8]; exact hbr7.alloc (by omega) _
        have hz8 : w8.heap.size = w7.heap.size + 1 := by rw [hw8]; simp
        clear hw8
        have c15 := k15.cell
        go_wp2_with (with_reducible refine stop_store ?_)
        refine hide (wpList_store_blk rfl 43 (.tmp 6) (.tmp 91) rfl w2.heap.size [.int .u64 si, .int .u64 ti, .slice D7 n7 f7] rfl rfl _ k8 rfl (by kernel_rfl) rfl ?_)
        intro w9 k8 hg9 hz9
        have k3 := K3.out.below (hbr8.grown hg9 (by omega) (by intro g hg; injection hg with hg; omega)) (by omega)
        have ho9 := ho8.grown hg9 (by intro g hg; injection hg with hg; omega)
        have hbr9 : Below w2.heap.size w4 w9 := hbr8.grown hg9 (by omega) (by intro g hg; injection hg with hg; omega)
        clear c15
        have c8 := k8.cell
        have c3 := k3.cell
        by_cases hd : q = p - r
        · have hdd : decide (q = p - r) = true := decide_eq_true hd
          have hnp : p = n7 := by have := HN.out; omega
          have HPI := Lib.hid (show pieces (p : Int) = (i : Int) + 1 by
            have := HI.out
            have := HR.out
            unfold pieces
            split <;> omega)
          subst hnp
          have hw9 := hb4.trans (hbr9.mono (by omega))
          go_wp2_with fail
          refine (whole_any si ti A B D7 n c m d p f7 l k' (z.take p) w9 ho9.sl (H.out.1.below hw9) hn hm (by omega)).mono ?_
          rintro e w10 ⟨hb10, A6, c6, B6, d6, D6, f6, rfl, ho10⟩
          rw [List.take_of_length_le (by omega)] at ho10
          have k3 := k3.ext hb10
          have hw10 := hw9.trans (hb10.mono hw9.size)
          clear c3 c8
          have c3 := k3.cell
          go_wp2_with fail
          refine name_calls (fun w11 hw11 => ?_)
          have k3 : Blk w11 w.heap.size [.int .u64 si, .int .u64 ti, .slice A n c, .slice B m d, .slice D p f] := by rw [hw11]; exact k3.alloc _
          have hb11 : Below w10.heap.size w10 w11 := by rw [hw11]; exact (by (repeat first | refine Below.setCell ?_ (by first | omega | (dsimp only; omega) | (simp only [heap_drew, World.size_alloc, Gz.size_setCell]; omega)) _ | refine Below.alloc ?_ (by first | omega | (dsimp only; omega) | (simp only [heap_drew, World.size_alloc, Gz.size_setCell]; omega)) _ | refine Below.drew ?_); exact Below.refl _ _)
          have hw11' := hw10.trans (hb11.mono hw10.size)
          have ho11 := ho10.below hb11
          clear hw11 c3
          refine (sameSnap_any si ti A6 B6 A B D6 D n c6 c m d6 d p f6 f l k' z w11 ho11.is (H.out.below hw11') (by omega) (by omega)).mono ?_
          rintro e w12 ⟨rfl, hb12⟩
          have c3 := (k3.ext hb12).cell
          have hw12 := hw11'.trans (hb12.mono hw11'.size)
          go_wp2_with fail
          refine (pieces_prog p _ (by omega) (by omega)).mono ?_
          rintro e _ ⟨rfl, rfl⟩
          have hpe : ((i : Int) + 1 == pieces p) = true := by rw [HPI.out]; simp
          go_wp2
          go_ret
          exact ⟨rfl, hw12⟩
        · have hdd : decide (q = p - r) = false := decide_eq_false hd
          have hq64 := HQ.out.resolve_right hd
          have hC : ComeAt w4 w2.heap.size si ti z n7 w9 := ⟨hbr9, by omega, _, _, _, _, k8, ho9.lower (by omega), by have := HN.out; omega, .inr ⟨rfl, rfl⟩⟩
          go_wp2_with fail
          go_roundg (p + 1 - (i + 1))
          case measure => omega
          case rel => exact ⟨i + 1, n7, rfl, by go_num, by have := HN.out; have := HI.out; omega, .inr (by have := HN.out; omega), rfl, hC⟩
end Go.Proofs.Ytmjohallhdcdnaa

/- Contract of Merge: what it answers, of a log that is right and any entries. -/
import Derived.Test.YtglabhfmeinogaaLIdx
import Derived.Test.YtglabhfmeinogaaLCopied
import Derived.Test.YtglabhfmeinogaaLRun
import Derived.Test.YtglabhfmeinogaaLSlice
namespace Go.Gz
open Go.RowKit
/-- Blocks of other types are as they were. -/
def SameBut (e : TypeId) (w w' : World) : Prop := ∀ (g : Nat) (t : TypeId) (cur : Array Value), w.heap[g]? = some (.cells cur t (0, 0)) → t ≠ e → w'.heap[g]? = some (.cells cur t (0, 0))
theorem Own.sameBut {w w' : World} {base size n c : Nat} {e e' : TypeId} {A : Option Addr} {xs : List Value} (h : Own w base e size A n c xs) (hs : SameBut e' w w') (hne : e ≠ e') : Own w' base e size A n c xs := by
  refine h.imp id fun h => ⟨h.1, ?_⟩
  rcases h.2 with hn | ⟨g, cap, cur, hv, hbg, hgg, rest⟩
  · exact .inl hn
  · exact .inr ⟨g, cap, cur, hv, hbg, hs g _ _ hgg hne, rest⟩
theorem BlkT.sameBut {w w' : World} {g : Nat} {t e : TypeId} {cs : List Value} (h : BlkT w g t cs) (hs : SameBut e w w') (hne : t ≠ e) : BlkT w' g t cs := hs g _ _ h hne
theorem SameBut.of_below {w w' : World} {e : TypeId} (hb : Below w.heap.size w w') : SameBut e w w' := fun g t cur hg _ => (hb.block g (Array.getElem?_eq_some_iff.1 hg).1).trans hg
theorem SameBut.of_blk {w w' : World} {g : Nat} {e : TypeId} {cs : List Value} (h : BlkT w g e cs) (hg : w.grownBy w' (some g)) : SameBut e w w' := fun k t cur hk hne =>
  (hg.block k (Array.getElem?_eq_some_iff.1 hk).1 (fun e' => by
    injection e' with e'
    subst e'
    have h2 : w.heap[k]? = _ := h
    rw [h2] at hk
    injection hk with hk
    injection hk with _ hk
    exact hne hk.symm)).trans hk
theorem Own.take {w : World} {base size n c : Nat} {e : TypeId} {A : Option Addr} {xs : List Value} (h : Own w base e size A n c xs) {p : Nat} (hp : p ≤ n) : Own w base e size A p c (xs.take (p * size)) := by
  have hle : p * size ≤ n * size := Nat.mul_le_mul_right _ hp
  rcases h with ⟨rfl, rfl, rfl⟩ | h
  · exact .inl ⟨by omega, rfl, by simp⟩
  · refine .inr ⟨by rw [List.length_take, h.1]; omega, ?_⟩
    rcases h.2 with ⟨hv, h0⟩ | ⟨g, cap, cur, hv, hbg, hgg, hnc, hcm, hcs, htake⟩
    · injection hv with h1 h2 h3
      exact .inl ⟨by rw [h1, h3, show p = 0 by omega], by omega⟩
    · injection hv with h1 h2 h3
      refine .inr ⟨g, cap, cur, by rw [h1, h3], hbg, hgg, by omega, hcm, hcs, ?_⟩
      rw [← htake, List.take_take, Nat.min_eq_left hle]
theorem step_append_own_T {P : Program} {w : World} {ops : Array Oper} {o : Oper} {a : Act} {K : Act → World → Prop} {Q : Exit → Act → World → Prop} {E : Prop} (dst : Option Tmp) (hd : o.dst = dst) (hgd : o.guard = none) (s x : Operand) (t : TypeId)
    (ho : o.op = .call { callee := .builtin .append, args := #[s, x], argTypes := #[t, t] })
    (base : Nat) (e : TypeId) (i : TypeInfo) (z : Value) (size bytes : Nat) (ht : P.underlying t = some (.slice e)) (hi : P.info? e = some i) (hz : i.zero = some z)
    (hsize : i.size = size) (hby : i.bytes = bytes) (hzs : z.cells.size = size) (hsz : 0 < size)
    (B : Option Addr) (n d : Nat) (xs : List Value) (hs : a.eval s = .slice B n d) (hown : Own w base e size B n d xs)
    (A : Option Addr) (m c : Nat) (news : List Value) (hx : a.eval x = .slice A m c) (hr : SlA w size A m news) (h1 : ∀ u ∈ news, u.oneCell' = true)
    (hbytes : (n + m) * bytes ≤ 140737488355328) (hb0 : 0 < bytes) (hbase : base ≤ w.heap.size)
    (h : ∀ A' c' w', Own w' base e size A' (n + m) c' (xs ++ news) → Below base w w' → SameBut e w w' → K (a.put dst (.slice A' (n + m) c')) w') :
    if Region.wanted o (yielded ops a.tmps) = true then Oper.wp P o a w K Q else E := by
  rcases hown with ⟨rfl, rfl, rfl⟩ | hrow
  · exact step_append_own_sl dst hd hgd s x t ho w.heap.size e i z size bytes ht hi hz hsize hby hzs hsz B 0 0 [] hs (.inl ⟨rfl, rfl, rfl⟩) A m c news hx hr h1 hbytes hb0 (Nat.le_refl _) fun A' c' w' ho hb _ => h A' c' w' (ho.lower hbase) (hb.mono hbase) (SameBut.of_below hb)
  · refine step_append_own_sl dst hd hgd s x t ho base e i z size bytes ht hi hz hsize hby hzs hsz B n d xs hs (.inr hrow) A m c news hx hr h1 hbytes hb0 hbase fun A' c' w' ho hb hg => h A' c' w' ho hb fun k t' cur hk hne => (hg.block k (Array.getElem?_eq_some_iff.1 hk).1 (fun e' => ?_)).trans hk
    rcases hrow.2 with ⟨hv, _⟩ | ⟨g, cap, cur', hv, _, hgg, _⟩
    · rw [hv] at e'
      simp [Value.ownBlock] at e'
    · rw [hv] at e'
      simp only [Value.ownBlock, Option.some.injEq] at e'
      subst e'
      rw [hgg] at hk
      injection hk with hk
      injection hk with _ hk
      exact hne hk.symm
end Go.Gz
namespace Go.Proofs.Ytglabhfmeinogaa
open Go.RowKit Go.Gz
attribute [local go_sem] World.cell?_alloc_some frozen?_alloc_some

theorem OwnE.sameBut {w w' : World} {base : Nat} {cs : List Value} {x : Ent} {e : TypeId} (h : OwnE w base cs x) (hs : SameBut e w w') (h1 : 5 ≠ e) (h2 : 3 ≠ e) : OwnE w' base cs x := by
  obtain ⟨D, dc, V, vc, L, lc, q, a, b⟩ := h
  exact ⟨D, dc, V, vc, L, lc, q, a.sameBut hs h1, b.1.sameBut hs h2, b.2.sameBut hs h2⟩
theorem OwnSnap.sameBut {w w' : World} {base : Nat} {A B D : Option Addr} {n c m d p f : Nat} {l k z : List Int} {e : TypeId} (h : OwnSnap w base A B D n c m d p f l k z) (hs : SameBut e w w') (h1 : 5 ≠ e) (h2 : 3 ≠ e) : OwnSnap w' base A B D n c m d p f l k z :=
  ⟨⟨h.1.1.sameBut hs h2, h.1.2.sameBut hs h2⟩, h.2.sameBut hs h1⟩
theorem OwnSnap.lower {w : World} {base base' : Nat} {A B D : Option Addr} {n c m d p f : Nat} {l k z : List Int} (h : OwnSnap w base A B D n c m d p f l k z) (hb : base' ≤ base) : OwnSnap w base' A B D n c m d p f l k z := ⟨h.1.lower hb, h.2.lower hb⟩
theorem OwnSnap.grown {w w' : World} {base : Nat} {A B D : Option Addr} {n c m d p f g : Nat} {l k z : List Int} (h : OwnSnap w base A B D n c m d p f l k z) (hg : w.grownBy w' (some g)) (hb : g < base) : OwnSnap w' base A B D n c m d p f l k z := by
  have hr : ∀ k, some g = some k → k < base := fun k hk => by injection hk with hk; omega
  exact ⟨⟨h.1.1.grown hg hr, h.1.2.grown hg hr⟩, h.2.grown hg hr⟩
theorem OwnEs.grown {w w' : World} {base n c g : Nat} {A : Option Addr} {xs : List Ent} (h : OwnEs w base A n c xs) (hg : w.grownBy w' (some g)) (hb : g < base) : OwnEs w' base A n c xs := by
  obtain ⟨zs, q1, q2, q3, q4⟩ := h
  exact ⟨zs, q1, q2, q3.grown hg (fun k hk => by injection hk with hk; omega), fun z hz => (q4 z hz).grown hg hb⟩
theorem OwnEs.sameBut {w w' : World} {base n c : Nat} {A : Option Addr} {xs : List Ent} {e : TypeId} (h : OwnEs w base A n c xs) (hs : SameBut e w w') (h1 : 5 ≠ e) (h2 : 3 ≠ e) (h3 : 47 ≠ e) : OwnEs w' base A n c xs := by
  obtain ⟨zs, q1, q2, q3, q4⟩ := h
  exact ⟨zs, q1, q2, q3.sameBut hs h3, fun z hz => (q4 z hz).sameBut hs h1 h2⟩

/-- The log, in new memory, and the rest of the answer. -/
def OwnLog (w : World) (base : Nat) (bi bt : Int) (na nb nd n : Nat) (l k z : List Int) (xs : List Ent) (v : Value) : Prop :=
  ∃ A ca B cb D cd O c, v = lg bi bt A na ca B nb cb D nd cd O n c ∧ OwnSnap w base A B D na ca nb cb nd cd l k z ∧ OwnEs w base O n c xs
/-- May the entries be merged? -/
def MayB (bi bt cm ix tm : Int) (xs more : List Ent) : Prop := runB ix tm more = true ∧ termO bi bt xs ix = some tm ∧ AllNot (heldB cm bi bt xs) more
def MergeNo (bi bt cm ix tm : Int) (xs more : List Ent) (e : Ending) : Prop :=
  ¬ MayB bi bt cm ix tm xs more ∧ ∃ E : Int, E ≠ 0 ∧ e = .returned (.tuple #[lg 0 0 none 0 0 none 0 0 none 0 0 none 0 0, .int .u64 0, .slice none 0 0, .int .i64 E])
def MergeOld (w : World) (base : Nat) (bi bt cm ix tm : Int) (na nb nd n : Nat) (l k z : List Int) (xs more : List Ent) (e : Ending) : Prop :=
  MayB bi bt cm ix tm xs more ∧ AllNot (freshB bi bt xs) more ∧ ∃ v, OwnLog w base bi bt na nb nd n l k z xs v ∧ e = .returned (.tuple #[v, .int .u64 0, .slice none 0 0, .int .i64 0])
def MergeNew (w : World) (base : Nat) (bi bt cm ix tm : Int) (na nb nd n m : Nat) (l k z : List Int) (xs more : List Ent) (e : Ending) : Prop :=
  MayB bi bt cm ix tm xs more ∧ ∃ (f p : Nat) (x : Ent), more[f]? = some x ∧ freshB bi bt xs x = true ∧ AllNot (freshB bi bt xs) (more.take f) ∧ p ≤ n ∧ AtLeast xs p x.1 ∧ Under xs p x.1 ∧
    ∃ v C cc, OwnLog w base bi bt na nb nd (p + (m - f)) l k z (xs.take p ++ more.drop f) v ∧ OwnEs w base C (m - f) cc (more.drop f) ∧ e = .returned (.tuple #[v, .int .u64 (if p < n then x.1 else 0), .slice C (m - f) cc, .int .i64 0])
/-- What Merge answers. -/
def MergeIs (w : World) (base : Nat) (bi bt cm ix tm : Int) (na nb nd n m : Nat) (l k z : List Int) (xs more : List Ent) (e : Ending) : Prop :=
  MergeNo bi bt cm ix tm xs more e ∨ MergeOld w base bi bt cm ix tm na nb nd n l k z xs more e ∨ MergeNew w base bi bt cm ix tm na nb nd n m l k z xs more e


set_option maxHeartbeats 8000000 in
theorem merge_any (bi bt : Int) (A : Option Addr) (na ca : Nat) (B : Option Addr) (nb cb : Nat) (D : Option Addr) (nd cd : Nat) (O : Option Addr) (n c : Nat) (l k z : List Int) (xs : List Ent) (cm ix tm : Int) (M : Option Addr) (m mc : Nat) (more : List Ent) (w : World)
    (h : IsLog w A B D O na nb nd n l k z xs) (hf : ∀ x ∈ xs, Fits x) (hna : na * 8 ≤ 140737488355328) (hnb : nb * 8 ≤ 140737488355328) (hnd : nd ≤ 140737488355328) (hr : Right bi xs)
    (hM : IsEs w M m more) (hfm : ∀ x ∈ more, Fits x) (hmc : m ≤ mc) (hsum : (n + m) * 96 ≤ 140737488355328) (hi0' : 0 ≤ ix) (hi1' : ix < 18446744073709551616) :
    Calls Try.prog 14 #[lg bi bt A na ca B nb cb D nd cd O n c, .int .u64 cm, .int .u64 ix, .int .u64 tm, .slice M m mc] w fun e w' => Below w.heap.size w w' ∧ MergeIs w' w.heap.size bi bt cm ix tm na nb nd n m l k z xs more e := by
  obtain ⟨i0, hi, hz0, hz1', hz2'⟩ := info_parts infoEnt
  have H := Lib.hid h
  have HF := Lib.hid hf
  have HR := Lib.hid hr
  have HM := Lib.hid hM
  have HFM := Lib.hid hfm
  have hml := hM.len
  clear h hf hr hM hfm
  go_enter Try.func14, Try.ntmps14
  go_wp2_with fail
  refine name_calls (fun w1 hw1 => ?_)
  have k5 : Blk w1 w.heap.size [.int .u64 bi, .int .u64 bt, .slice A na ca, .slice B nb cb, .slice D nd cd, .slice O n c] := by rw [hw1]; exact ((Blk.new _ _ _ _ rfl).alloc _).alloc _
  have k6 : Blk w1 (w.heap.size + 1) [.int .u64 cm] := by rw [hw1]; exact (Blk.new _ _ _ _ (by simp)).alloc _
  have k10 : Blk w1 (w.heap.size + 2) [.int .u64 0, .int .u64 0, .slice none 0 0, .slice none 0 0, .slice none 0 0, .slice none 0 0] := by rw [hw1]; exact Blk.new _ _ _ _ (by simp)
  have hb1 : Below w.heap.size w w1 := by rw [hw1]; exact (by (repeat first | refine Below.setCell ?_ (by first | omega | (dsimp only; omega) | (simp only [heap_drew, World.size_alloc, Gz.size_setCell]; omega)) _ | refine Below.alloc ?_ (by first | omega | (dsimp only; omega) | (simp only [heap_drew, World.size_alloc, Gz.size_setCell]; omega)) _ | refine Below.drew ?_); exact Below.refl _ _)
  have hz1 : w1.heap.size = w.heap.size + 3 := by rw [hw1]; simp
  clear hw1
  refine (run_any ix tm M m mc more w1 (HM.out.below hb1) HFM.out (by omega) hi0' hi1').mono ?_
  rintro e w2 ⟨rfl, hb2⟩
  have k5 := k5.ext hb2
  have k6 := k6.ext hb2
  have k10 := k10.ext hb2
  have hz2 := hb2.size
  have hb2 := hb1.trans (hb2.mono hb1.size)
  obtain ⟨b, hb⟩ : ∃ b, b = runB ix tm more := ⟨_, rfl⟩
  rw [← hb]
  have HB := Lib.hid hb
  clear hb
  cases b with
  | false =>
    go_wp2_with (with_reducible refine stop_store ?_)
    refine hide (wpList_store_blk rfl 31 (.tmp 10) (.tmp 28) rfl (w.heap.size + 2) [.int .u64 0, .int .u64 0, .slice none 0 0, .slice none 0 0, .slice none 0 0, .slice none 0 0] rfl rfl _ k10 rfl (by kernel_rfl) rfl ?_)
    intro wf kf hgf hzf
    go_wp2
    refine bodyPost_ret (v := .tuple #[lg 0 0 none 0 0 none 0 0 none 0 0 none 0 0, .int .u64 0, .slice none 0 0, .int .i64 1]) ?_ rfl ⟨below_grown hb2 hgf (by omega) (by omega), .inl ⟨?_, 1, by decide, rfl⟩⟩
    · simp [results, Try.results14, go_sem, kf.cell]
    · rintro ⟨q1, q2, q3⟩
      rw [q1] at HB; cases HB.out
  | true =>
    have c5 := k5.cell
    go_wp2_with fail
    refine (term_any bi bt A na ca B nb cb D nd cd O n c xs ix w2 (H.out.2.below hb2) (by omega)).mono ?_
    rintro e w3 ⟨hb3, tt, b, rfl, hT⟩
    have HT := Lib.hid (hT HR.out)
    have k5 := k5.ext hb3
    have k6 := k6.ext hb3
    have k10 := k10.ext hb3
    have hz3 := hb3.size
    have hb3 := hb2.trans (hb3.mono hb2.size)
    clear hT c5
    cases b with
    | false =>
      go_wp2_with (with_reducible refine stop_store ?_)
      refine hide (wpList_store_blk rfl 31 (.tmp 10) (.tmp 42) rfl (w.heap.size + 2) [.int .u64 0, .int .u64 0, .slice none 0 0, .slice none 0 0, .slice none 0 0, .slice none 0 0] rfl rfl _ k10 rfl (by kernel_rfl) rfl ?_)
      intro wf kf hgf hzf
      go_wp2
      refine bodyPost_ret (v := .tuple #[lg 0 0 none 0 0 none 0 0 none 0 0 none 0 0, .int .u64 0, .slice none 0 0, .int .i64 61]) ?_ rfl ⟨below_grown hb3 hgf (by omega) (by omega), .inl ⟨?_, 61, by decide, rfl⟩⟩
      · simp [results, Try.results14, go_sem, kf.cell]
      · rintro ⟨q1, q2, q3⟩
        have := HT.out; rw [q2] at this; cases this
    | true =>
      by_cases ht : tt = tm
      rotate_left 1
      · have ht0 : (tt != tm) = true := bne_iff_ne.2 ht
        go_wp2_with (with_reducible refine stop_store ?_)
        refine hide (wpList_store_blk rfl 31 (.tmp 10) (.tmp 42) rfl (w.heap.size + 2) [.int .u64 0, .int .u64 0, .slice none 0 0, .slice none 0 0, .slice none 0 0, .slice none 0 0] rfl rfl _ k10 rfl (by kernel_rfl) rfl ?_)
        intro wf kf hgf hzf
        go_wp2
        refine bodyPost_ret (v := .tuple #[lg 0 0 none 0 0 none 0 0 none 0 0 none 0 0, .int .u64 0, .slice none 0 0, .int .i64 61]) ?_ rfl ⟨below_grown hb3 hgf (by omega) (by omega), .inl ⟨?_, 61, by decide, rfl⟩⟩
        · simp [results, Try.results14, go_sem, kf.cell]
        · rintro ⟨q1, q2, q3⟩
          have := HT.out; rw [q2] at this; exact ht (Option.some.inj this).symm
      subst ht
      go_wp2_with (with_reducible refine stop_store ?_)
      refine hide (name_list (fun w4 hw4 => ?_))
      have k16 : Blk w4 w3.heap.size [.nilFunc] := by rw [hw4]; exact Blk.new _ _ _ _ rfl
      have hbw4 : Below w3.heap.size w3 w4 := by rw [hw4]; exact below_alloc_one _ _
      have k5 := k5.ext hbw4
      have k6 := k6.ext hbw4
      have k10 := k10.ext hbw4
      have hb4 : Below w.heap.size w w4 := by rw [hw4]; exact hb3.alloc hb3.size _
      have hz4 : w4.heap.size = w3.heap.size + 1 := by rw [hw4]; simp
      clear hw4
      refine hide (wpList_store_part rfl 69 (.tmp 16) (.tmp 43) rfl w3.heap.size 0 _ [fOther w.heap.size] rfl rfl rfl _ k16 (by simp) (by kernel_rfl) rfl _ rfl ?_)
      intro w5 k16 hg5 hz5
      have k5 := blk_grown k5 hg5 (by omega)
      have k6 := blk_grown k6 hg5 (by omega)
      have k10 := blk_grown k10 hg5 (by omega)
      have hb5 : Below w.heap.size w w5 := below_grown hb4 hg5 (by omega) (by omega)
      go_wp2_with fail
      refine (contains_any bi bt A na ca B nb cb D nd cd O n c xs cm w.heap.size (w.heap.size + 1) w3.heap.size M m mc more w5 k5 k6 k16 (H.out.2.below hb5) HR.out (by omega) (HM.out.below hb5) (by omega)).mono ?_
      rintro e w5' ⟨hb5', b, rfl, hsm⟩
      have HSM := Lib.hid hsm
      clear hsm
      have k5 := k5.ext hb5'
      have k10 := k10.ext hb5'
      have k16 := k16.ext hb5'
      have hz5' := hb5'.size
      have hb5 := hb5.trans (hb5'.mono hb5.size)
      cases b with
      | true =>
        go_wp2_with (with_reducible refine stop_store ?_)
        refine hide (wpList_store_blk rfl 31 (.tmp 10) (.tmp 48) rfl (w.heap.size + 2) [.int .u64 0, .int .u64 0, .slice none 0 0, .slice none 0 0, .slice none 0 0, .slice none 0 0] rfl rfl _ k10 rfl (by kernel_rfl) rfl ?_)
        intro wf kf hgf hzf
        go_wp2
        refine bodyPost_ret (v := .tuple #[lg 0 0 none 0 0 none 0 0 none 0 0 none 0 0, .int .u64 0, .slice none 0 0, .int .i64 62]) ?_ rfl ⟨below_grown hb5 hgf (by omega) (by omega), .inl ⟨?_, 62, by decide, rfl⟩⟩
        · simp [results, Try.results14, go_sem, kf.cell]
        · rintro ⟨q1, q2, q3⟩
          have hs := HSM.out; simp only [SomeIs, if_true] at hs; obtain ⟨y, hy, hp⟩ := hs; rw [q3 y hy] at hp; cases hp
      | false =>
        have HMAY := Lib.hid (show MayB bi bt cm ix tt xs more from ⟨HB.out.symm, HT.out, by have hs := HSM.out; simpa [SomeIs] using hs⟩)
        have c5 := k5.cell
        go_wp2_with fail
        refine (copied_any bi bt A na ca B nb cb D nd cd O n c l k z xs w5' (H.out.below hb5) HF.out (by omega) hna hnb hnd).mono ?_
        rintro e w6 ⟨hb6, A7, a7, B7, b7, D7, d7, O7, c7, rfl, hos, ho7⟩
        have k5 := k5.ext hb6
        have k10 := k10.ext hb6
        have k16 := k16.ext hb6
        have hz6 := hb6.size
        have hb6 := hb5.trans (hb6.mono hb5.size)
        have hos := hos.lower (base' := w.heap.size + 3) (by omega)
        have ho7 := ho7.lower (base' := w.heap.size + 3) (by omega)
        clear c5
        go_wp2_with (with_reducible refine stop_store ?_)
        refine hide (name_list (fun w7 hw7 => ?_))
        have hbw : Below w6.heap.size w6 w7 := by rw [hw7]; exact below_alloc_one _ _
        have k18 : BlkT w7 w6.heap.size 31 [.int .u64 0, .int .u64 0, .slice none 0 0, .slice none 0 0, .slice none 0 0, .slice none 0 0] := by rw [hw7]; exact BlkT.new _ _ _
        have hz7 : w7.heap.size = w6.heap.size + 1 := by rw [hw7]; simp
        clear hw7
        have k5 := k5.ext hbw
        have k10 := k10.ext hbw
        have k16 := k16.ext hbw
        have hos := hos.below hbw
        have ho7 := ho7.below hbw
        have hb7 := hb6.trans (hbw.mono hb6.size)
        refine hide (wpList_store_partT rfl 31 (.tmp 18) (.tmp 50) rfl w6.heap.size 0 31 _ [.int .u64 bi, .int .u64 bt, .slice A7 na a7, .slice B7 nb b7, .slice D7 nd d7, .slice O7 n c7] rfl rfl rfl _ k18 (by simp) (by kernel_rfl) rfl _ rfl ?_)
        intro w8 k18' hg8 hz8
        have hs8 := SameBut.of_blk k18 hg8
        have k5 := blk_grown k5 hg8 (by omega)
        have k10 := blk_grown k10 hg8 (by omega)
        have k16 := blk_grown k16 hg8 (by omega)
        have hos := hos.sameBut hs8 (by decide) (by decide)
        have ho7 := ho7.sameBut hs8 (by decide) (by decide) (by decide)
        have hb8 : Below w.heap.size w w8 := below_grown hb7 hg8 (by omega) (by omega)
        clear k18 hs8
        have k18 := k18'
        simp only [List.take_succ_cons, List.take_zero, List.drop_succ_cons, List.drop_zero, List.cons_append, List.nil_append, List.length_cons, List.length_nil] at k18
        clear k18'
        have c18 := k18.blk.cell
        go_wp2_with fail
        refine (idxFresh_any bi bt A na ca B nb cb D nd cd O n c xs w.heap.size w3.heap.size M m mc more w8 k5 k16 (H.out.2.below hb8) HR.out (by omega) (HM.out.below hb8) (by omega)).mono ?_
        rintro e w9 ⟨hb9, hF⟩
        have k5 := k5.ext hb9
        have k10 := k10.ext hb9
        have k18 := k18.below hb9
        have hos := hos.below hb9
        have ho7 := ho7.below hb9
        have hz9 := hb9.size
        have hb9 := hb8.trans (hb9.mono hb8.size)
        clear c18
        have c18 := k18.blk.cell
        rcases hF with ⟨f, x, rfl, hx, hfx, hU⟩ | ⟨rfl, hU⟩
        rotate_left 1
        · have HU := Lib.hid hU
          clear hU
          go_wp2_with (with_reducible refine stop_store ?_)
          refine hide (wpList_store_blk rfl 31 (.tmp 10) (.tmp 56) rfl (w.heap.size + 2) [.int .u64 bi, .int .u64 bt, .slice A7 na a7, .slice B7 nb b7, .slice D7 nd d7, .slice O7 n c7] rfl rfl _ k10 rfl (by kernel_rfl) rfl ?_)
          intro wf kf hgf hzf
          go_wp2
          refine bodyPost_ret (v := .tuple #[lg bi bt A7 na a7 B7 nb b7 D7 nd d7 O7 n c7, .int .u64 0, .slice none 0 0, .int .i64 0]) ?_ rfl ⟨below_grown hb9 hgf (by omega) (by omega), .inr (.inl ⟨HMAY.out, HU.out, _, ⟨A7, a7, B7, b7, D7, d7, O7, c7, rfl, (hos.grown hgf (by omega)).lower (by omega), (ho7.grown hgf (by omega)).lower (by omega)⟩, rfl⟩)⟩
          simp [results, Try.results14, go_sem, kf.cell]
        · have HX := Lib.hid hx
          have HFX := Lib.hid hfx
          have HAN := Lib.hid hU
          have hfm : f < m := by have := (List.getElem?_eq_some_iff.1 hx).1; omega
          clear hx hfx hU
          have b0 : ¬ (f : Int) < 0 := by omega
          have b1 : (f : Int) < (m : Int) := by omega
          cases M with
          | none => obtain ⟨zs, _, h2, h3, _⟩ := HM.out; have := h3.2.1 rfl; omega
          | some ad =>
          obtain ⟨x', D', dc, V, vc, L, lc, hx', _, _, _, m0, _⟩ := (HM.out.below hb9).at hfm
          rw [HX.out] at hx'
          obtain rfl := Option.some.inj hx'
          have c5 := k5.cell
          go_wp2_with fail
          refine (place_any bi bt A na ca B nb cb D nd cd O n c xs x.1 w9 (H.out.2.below hb9) (by omega)).mono ?_
          rintro e wa ⟨hba, p, rfl, hpn, hPA, hPU⟩
          have HPA := Lib.hid hPA
          have HPU := Lib.hid hPU
          clear hPA hPU m0 c5 c18
          have k5 := k5.ext hba
          have k10 := k10.ext hba
          have k18 := k18.below hba
          have hos := hos.below hba
          have ho7 := ho7.below hba
          have hza := hba.size
          have hb9 := hb9.trans (hba.mono hb9.size)
          have c5 := k5.cell
          have hpc : p ≤ c7 := by have : n ≤ c7 := by obtain ⟨_, _, _, q, _⟩ := ho7; exact q.le
                                  omega
          have hs1 := run_slice_high (P := Try.prog) 29 47 i0 Try.underlying29 hi .i64 O7 n c7 p hpc
          have hs2 := run_slice_low (P := Try.prog) 29 47 i0 6 Try.underlying29 hi hz1' .i64 (some ad) m mc f (by omega)
          have HMC := Lib.hid (HM.out.cut (p := f) (by omega) hmc)
          by_cases hlt : p < n
          · have b2 : (p : Int) < (n : Int) := by omega
            have c18 := k18.blk.cell 5
            go_wp2_with fail
            refine wp_region_phase 9 (S := fun W => W.cell? ⟨w6.heap.size, 5, none⟩ = some (.slice O7 n c7)) (by kernel_rfl) rfl (by kernel_rfl) (fun hS => ?_) c18
            simp only [List.take_succ_cons, List.take_zero, List.drop_succ_cons, List.drop_zero]
            refine take_at (i := 0) (oi := _) (dst := some 71) (v := ?_) rfl rfl (by kernel_rfl) (by kernel_rfl) (by kernel_rfl) (fun _ _ _ h => h) (Or.inl ⟨by rfl, by intro w hSw; (try dsimp only at hSw); go_simp; (try with_reducible rfl)⟩) (by assumption) ?_; (try simp only [Act.put, List.setIfInBounds_toArray, List.set_cons_zero, List.set_cons_succ])
            refine take_at (i := 1) (oi := _) (dst := some 72) (v := ?_) rfl rfl (by kernel_rfl) (by kernel_rfl) (by kernel_rfl) (fun _ _ _ h => h) (Or.inl ⟨by rfl, by intro w hSw; (try dsimp only at hSw); go_simp; (try with_reducible rfl)⟩) (by assumption) ?_; (try simp only [Act.put, List.setIfInBounds_toArray, List.set_cons_zero, List.set_cons_succ])
            refine take_at (i := 2) (oi := _) (dst := some 73) (v := ?_) rfl rfl (by kernel_rfl) (by kernel_rfl) (by kernel_rfl) (fun _ _ _ h => h) (Or.inl ⟨by rfl, by intro w hSw; (try dsimp only at hSw); go_simp; (try with_reducible rfl)⟩) (by assumption) ?_; (try simp only [Act.put, List.setIfInBounds_toArray, List.set_cons_zero, List.set_cons_succ])
            refine take_at (i := 3) (oi := _) (dst := some 74) (v := ?_) rfl rfl (by kernel_rfl) (by kernel_rfl) (by kernel_rfl) (fun _ _ _ h => h) (Or.inl ⟨by rfl, by intro w hSw; (try dsimp only at hSw); go_simp; (try with_reducible rfl)⟩) (by assumption) ?_; (try simp only [Act.put, List.setIfInBounds_toArray, List.set_cons_zero, List.set_cons_succ])
            refine take_at (i := 4) (oi := _) (dst := some 75) (v := ?_) rfl rfl (by kernel_rfl) (by kernel_rfl) (by kernel_rfl) (fun _ _ _ h => h) (Or.inl ⟨by rfl, by intro w hSw; (try dsimp only at hSw); go_simp; (try with_reducible rfl)⟩) (by assumption) ?_; (try simp only [Act.put, List.setIfInBounds_toArray, List.set_cons_zero, List.set_cons_succ])
            refine take_at (i := 5) (oi := _) (dst := some 76) (v := ?_) rfl rfl (by kernel_rfl) (by kernel_rfl) (by kernel_rfl) (fun _ _ _ h => h) (Or.inl ⟨by rfl, by intro w hSw; (try dsimp only at hSw); go_simp; (try with_reducible rfl)⟩) (by assumption) ?_; (try simp only [Act.put, List.setIfInBounds_toArray, List.set_cons_zero, List.set_cons_succ])
            refine take_at (i := 6) (oi := _) (dst := some 77) (v := ?_) rfl rfl (by kernel_rfl) (by kernel_rfl) (by kernel_rfl) (fun _ _ _ h => h) (Or.inl ⟨by rfl, by intro w hSw; (try dsimp only at hSw); go_simp; (try with_reducible rfl)⟩) (by assumption) ?_; (try simp only [Act.put, List.setIfInBounds_toArray, List.set_cons_zero, List.set_cons_succ])
            refine wpAnyH_ready (rs := [7]) (by kernel_rfl) (by simp) ?_; refine AllReadyH.cons (o := _) rfl (fun K hK => ?_) AllReadyH.nil; go_simp
            refine (entries_any (cutA (some ad) mc f 6) (m - f) (mc - f) (more.drop f) _ ((HMC.out).below hb9.drew) (fun x hx => HFM.out x (List.mem_of_mem_drop hx)) (by omega)).mono ?_
            rintro e w10 ⟨hb10, A10, c10, rfl, ho10⟩
            simp only [heap_drew] at hb10 ho10
            have hb10 := (Below.refl wa.heap.size wa).drew.trans hb10
            have k18 := k18.below hb10
            have c18 := k18.blk.cell 5
            refine hK.out _ _ c18 (fun hS10 => ?_)
            clear hK
            obtain ⟨zs8, r1, r2, r3, r4⟩ := ho10
            have ho7 := ho7.below (w' := w10) hb10
            obtain ⟨zs7, t1, t2, t3, t4⟩ := ho7
            refine wpAnyH_ready (rs := [8]) (by kernel_rfl) (by simp) ?_; refine AllReadyH.cons (o := _) rfl (fun K hK => ?_) AllReadyH.nil
            refine step_append_own_T (some 79) rfl rfl (.tmp 74) (.tmp 78) 29 rfl (w.heap.size + 3) 47 i0 _ 6 96 Try.underlying29 hi hz0 hz1' hz2' rfl (by omega) O7 p c7 _ rfl (t3.take hpn) A10 (m - f) c10 (zs8.flatMap (·.1)) rfl r3.sl (fun v hv => by obtain ⟨y, hy, hv⟩ := List.mem_flatMap.1 hv; exact (r4 y hy).one v hv) (by omega) (by omega) (by have := hb10.size; omega) ?_
            intro A11 c11 w11 ho11 hb11 hs11
            have k18 := k18.sameBut hs11 (by decide)
            have c18 := k18.blk.cell 5
            refine hK.out _ _ c18 (fun hS11 => ?_)
            clear hK
            refine wpAnyH_done (by kernel_rfl) ?_ _
            have hz10 := hb10.size
            have hz11 := hb11.size
            have hb9' : Below w.heap.size w w10 := hb9.trans (hb10.mono hb9.size)
            have hb11' : Below w.heap.size w w11 := hb9'.trans (hb11.mono (by omega))
            have k10 := (k10.ext hb10).below hb11 (by omega)
            have hos : OwnSnap w11 (w.heap.size + 3) A7 B7 D7 na a7 nb b7 nd d7 l k z := (hos.below hb10).sameBut hs11 (by decide) (by decide)
            have hnew : OwnEs w11 (w.heap.size + 3) A11 (p + (m - f)) c11 (xs.take p ++ more.drop f) := by
              rw [flat_take (fun z : List Value × Ent => z.1) 6 zs7 (fun z hz => (t4 z hz).len) p, ← List.flatMap_append] at ho11
              refine ⟨zs7.take p ++ zs8, by rw [List.map_append, List.map_take, t1, r1], by rw [List.length_append, List.length_take, t2, r2]; omega, ho11, fun y hy => ?_⟩
              rcases List.mem_append.1 hy with hy | hy
              · exact (t4 y (List.mem_of_mem_take hy)).sameBut hs11 (by decide) (by decide)
              · exact ((r4 y hy).lower (by omega)).sameBut hs11 (by decide) (by decide)
            clear ho11 t1 t2 t3 t4 r1 r2 r3 r4 hS hS10 hS11 c18
            go_wp2_with (with_reducible refine stop_store ?_)
            refine hide (wpList_store_partT rfl 29 (.tmp 80) (.tmp 79) rfl w6.heap.size 5 31 _ [.slice A11 (p + (m - f)) c11] rfl rfl rfl _ k18 (by simp) (by kernel_rfl) rfl _ rfl ?_)
            intro w12 k18' hg12 hz12
            have hs12 := SameBut.of_blk k18 hg12
            have k10 := blk_grown k10 hg12 (by omega)
            have hos := hos.sameBut hs12 (by decide) (by decide)
            have hnew := hnew.sameBut hs12 (by decide) (by decide) (by decide)
            have hb12 : Below w.heap.size w w12 := below_grown hb11' hg12 (by omega) (by have := k18.lt; omega)
            clear k18 hs11 hs12
            have k18 := k18'
            simp only [List.take_succ_cons, List.take_zero, List.drop_succ_cons, List.drop_zero, List.cons_append, List.nil_append, List.length_cons, List.length_nil] at k18
            clear k18'
            have c18 := k18.blk.cell
            go_wp2_with fail
            refine wp_region_held_drew (S := fun W => ∀ j, W.cell? ⟨w6.heap.size, j, none⟩ = ([.int .u64 bi, .int .u64 bt, .slice A7 na a7, .slice B7 nb b7, .slice D7 nd d7, .slice A11 (p + (m - f)) c11] : List Value)[j]?) (by kernel_rfl) c18 (fun hS => ?_)
            simp only [List.size_toArray, List.length_cons, List.length_nil]
            refine take_at (i := 0) (oi := _) (dst := some 81) (v := ?_) rfl rfl (by kernel_rfl) (by kernel_rfl) (by kernel_rfl) (fun _ _ _ h => h) (Or.inl ⟨by rfl, by intro w hSw; (try dsimp only at hSw); go_simp; (try with_reducible rfl)⟩) (by assumption) ?_; (try simp only [Act.put, List.setIfInBounds_toArray, List.set_cons_zero, List.set_cons_succ])
            refine take_at (i := 1) (oi := _) (dst := some 82) (v := ?_) rfl rfl (by kernel_rfl) (by kernel_rfl) (by kernel_rfl) (fun _ _ _ h => h) (Or.inl ⟨by rfl, by intro w hSw; (try dsimp only at hSw); go_simp; (try with_reducible rfl)⟩) (by assumption) ?_; (try simp only [Act.put, List.setIfInBounds_toArray, List.set_cons_zero, List.set_cons_succ])
            refine take_at (i := 2) (oi := _) (dst := some 83) (v := ?_) rfl rfl (by kernel_rfl) (by kernel_rfl) (by kernel_rfl) (fun _ _ _ h => h) (Or.inl ⟨by rfl, by intro w hSw; (try dsimp only at hSw); go_simp; (try with_reducible rfl)⟩) (by assumption) ?_; (try simp only [Act.put, List.setIfInBounds_toArray, List.set_cons_zero, List.set_cons_succ])
            refine take_at (i := 3) (oi := _) (dst := some 84) (v := ?_) rfl rfl (by kernel_rfl) (by kernel_rfl) (by kernel_rfl) (fun _ _ _ h => h) (Or.inl ⟨by rfl, by intro w hSw; (try dsimp only at hSw); go_simp; (try with_reducible rfl)⟩) (by assumption) ?_; (try simp only [Act.put, List.setIfInBounds_toArray, List.set_cons_zero, List.set_cons_succ])
            refine take_at (i := 4) (oi := _) (dst := some 85) (v := ?_) rfl rfl (by kernel_rfl) (by kernel_rfl) (by kernel_rfl) (fun _ _ _ h => h) (Or.inl ⟨by rfl, by intro w hSw; (try dsimp only at hSw); go_simp; (try with_reducible rfl)⟩) (by assumption) ?_; (try simp only [Act.put, List.setIfInBounds_toArray, List.set_cons_zero, List.set_cons_succ])
            refine wpAnyH_ready (rs := [5]) (by kernel_rfl) (by simp) ?_; refine AllReadyH.cons (o := _) rfl (fun K hK => ?_) AllReadyH.nil; go_simp
            refine (entries_any (cutA (some ad) mc f 6) (m - f) (mc - f) (more.drop f) _ ((HMC.out).below hb12.drew) (fun x hx => HFM.out x (List.mem_of_mem_drop hx)) (by omega)).mono ?_
            rintro e w13 ⟨hb13, C13, c13, rfl, ho13⟩
            simp only [heap_drew] at hb13 ho13
            have hb13 := (Below.refl w12.heap.size w12).drew.trans hb13
            have k18 := k18.below hb13
            have c18 := k18.blk.cell
            refine hK.out _ _ c18 (fun hS13 => ?_)
            clear hK
            have k10 := k10.ext hb13
            refine wpAnyH_ready (rs := [6]) (by kernel_rfl) (by simp) ?_; refine AllReadyH.cons (o := _) rfl (fun K hK => ?_) AllReadyH.nil
            refine step_store_part rfl rfl 31 (.tmp 10) (.tmp 81) rfl (w.heap.size + 2) 0 _ [.int .u64 bi, .int .u64 bt, .slice A7 na a7, .slice B7 nb b7, .slice D7 nd d7, .slice A11 (p + (m - f)) c11] rfl rfl rfl _ k10 (by simp) (by kernel_rfl) rfl _ rfl ?_
            intro w14 k14 hg14 hz14
            have k18 := blk_grown k18.blk hg14 (by omega)
            refine hK.out _ _ k18.cell (fun hS14 => ?_)
            clear hK
            simp only [Act.put, List.setIfInBounds_toArray, List.set_cons_zero, List.set_cons_succ]
            refine take_at (i := 7) (oi := _) (dst := some 11) (v := ?_) rfl rfl (by kernel_rfl) (by kernel_rfl) (by kernel_rfl) (fun _ _ _ h => h) (Or.inl ⟨by rfl, by intro w hSw; (try dsimp only at hSw); go_simp; (try with_reducible rfl)⟩) (by assumption) ?_; (try simp only [Act.put, List.setIfInBounds_toArray, List.set_cons_zero, List.set_cons_succ])
            refine take_at (i := 8) (oi := _) (dst := some 12) (v := ?_) rfl rfl (by kernel_rfl) (by kernel_rfl) (by kernel_rfl) (fun _ _ _ h => h) (Or.inl ⟨by rfl, by intro w hSw; (try dsimp only at hSw); go_simp; (try with_reducible rfl)⟩) (by assumption) ?_; (try simp only [Act.put, List.setIfInBounds_toArray, List.set_cons_zero, List.set_cons_succ])
            refine take_at (i := 9) (oi := _) (dst := some 13) (v := ?_) rfl rfl (by kernel_rfl) (by kernel_rfl) (by kernel_rfl) (fun _ _ _ h => h) (Or.inl ⟨by rfl, by intro w hSw; (try dsimp only at hSw); go_simp; (try with_reducible rfl)⟩) (by assumption) ?_; (try simp only [Act.put, List.setIfInBounds_toArray, List.set_cons_zero, List.set_cons_succ])
            refine wpAnyH_done (by kernel_rfl) ?_ _
            have hb13' : Below w.heap.size w w13 := hb12.trans (hb13.mono hb12.size)
            have hz13 := hb13.size
            have hos : OwnSnap w14 (w.heap.size + 3) A7 B7 D7 na a7 nb b7 nd d7 l k z := (hos.below hb13).grown hg14 (by omega)
            have hnew := (hnew.below hb13).grown hg14 (by omega)
            have ho14 := (ho13.lower (base' := w.heap.size + 3) (by omega)).grown hg14 (by omega)
            clear hS hS13 hS14 c18
            go_wp2
            refine bodyPost_ret (v := .tuple #[lg bi bt A7 na a7 B7 nb b7 D7 nd d7 A11 (p + (m - f)) c11, .int .u64 x.1, .slice C13 (m - f) c13, .int .i64 0]) ?_ rfl ⟨below_grown hb13' hg14 (by omega) (by omega), .inr (.inr ⟨HMAY.out, f, p, x, HX.out, HFX.out, HAN.out, hpn, HPA.out, HPU.out, _, C13, c13, ⟨A7, a7, B7, b7, D7, d7, A11, c11, rfl, hos.lower (by omega), hnew.lower (by omega)⟩, ho14.lower (by omega), by rw [if_pos hlt]⟩)⟩
            simp [results, Try.results14, go_sem, k14.cell]
          · have b2 : ¬ (p : Int) < (n : Int) := by omega
            have c18 := k18.blk.cell 5
            go_wp2_with fail
            refine wp_region_phase 9 (S := fun W => W.cell? ⟨w6.heap.size, 5, none⟩ = some (.slice O7 n c7)) (by kernel_rfl) rfl (by kernel_rfl) (fun hS => ?_) c18
            simp only [List.take_succ_cons, List.take_zero, List.drop_succ_cons, List.drop_zero]
            refine take_at (i := 0) (oi := _) (dst := some 71) (v := ?_) rfl rfl (by kernel_rfl) (by kernel_rfl) (by kernel_rfl) (fun _ _ _ h => h) (Or.inl ⟨by rfl, by intro w hSw; (try dsimp only at hSw); go_simp; (try with_reducible rfl)⟩) (by assumption) ?_; (try simp only [Act.put, List.setIfInBounds_toArray, List.set_cons_zero, List.set_cons_succ])
            refine take_at (i := 1) (oi := _) (dst := some 72) (v := ?_) rfl rfl (by kernel_rfl) (by kernel_rfl) (by kernel_rfl) (fun _ _ _ h => h) (Or.inl ⟨by rfl, by intro w hSw; (try dsimp only at hSw); go_simp; (try with_reducible rfl)⟩) (by assumption) ?_; (try simp only [Act.put, List.setIfInBounds_toArray, List.set_cons_zero, List.set_cons_succ])
            refine take_at (i := 2) (oi := _) (dst := some 73) (v := ?_) rfl rfl (by kernel_rfl) (by kernel_rfl) (by kernel_rfl) (fun _ _ _ h => h) (Or.inl ⟨by rfl, by intro w hSw; (try dsimp only at hSw); go_simp; (try with_reducible rfl)⟩) (by assumption) ?_; (try simp only [Act.put, List.setIfInBounds_toArray, List.set_cons_zero, List.set_cons_succ])
            refine take_at (i := 3) (oi := _) (dst := some 74) (v := ?_) rfl rfl (by kernel_rfl) (by kernel_rfl) (by kernel_rfl) (fun _ _ _ h => h) (Or.inl ⟨by rfl, by intro w hSw; (try dsimp only at hSw); go_simp; (try with_reducible rfl)⟩) (by assumption) ?_; (try simp only [Act.put, List.setIfInBounds_toArray, List.set_cons_zero, List.set_cons_succ])
            refine take_at (i := 4) (oi := _) (dst := some 75) (v := ?_) rfl rfl (by kernel_rfl) (by kernel_rfl) (by kernel_rfl) (fun _ _ _ h => h) (Or.inl ⟨by rfl, by intro w hSw; (try dsimp only at hSw); go_simp; (try with_reducible rfl)⟩) (by assumption) ?_; (try simp only [Act.put, List.setIfInBounds_toArray, List.set_cons_zero, List.set_cons_succ])
            refine take_at (i := 5) (oi := _) (dst := some 76) (v := ?_) rfl rfl (by kernel_rfl) (by kernel_rfl) (by kernel_rfl) (fun _ _ _ h => h) (Or.inl ⟨by rfl, by intro w hSw; (try dsimp only at hSw); go_simp; (try with_reducible rfl)⟩) (by assumption) ?_; (try simp only [Act.put, List.setIfInBounds_toArray, List.set_cons_zero, List.set_cons_succ])
            refine take_at (i := 6) (oi := _) (dst := some 77) (v := ?_) rfl rfl (by kernel_rfl) (by kernel_rfl) (by kernel_rfl) (fun _ _ _ h => h) (Or.inl ⟨by rfl, by intro w hSw; (try dsimp only at hSw); go_simp; (try with_reducible rfl)⟩) (by assumption) ?_; (try simp only [Act.put, List.setIfInBounds_toArray, List.set_cons_zero, List.set_cons_succ])
            refine wpAnyH_ready (rs := [7]) (by kernel_rfl) (by simp) ?_; refine AllReadyH.cons (o := _) rfl (fun K hK => ?_) AllReadyH.nil; go_simp
            refine (entries_any (cutA (some ad) mc f 6) (m - f) (mc - f) (more.drop f) _ ((HMC.out).below hb9.drew) (fun x hx => HFM.out x (List.mem_of_mem_drop hx)) (by omega)).mono ?_
            rintro e w10 ⟨hb10, A10, c10, rfl, ho10⟩
            simp only [heap_drew] at hb10 ho10
            have hb10 := (Below.refl wa.heap.size wa).drew.trans hb10
            have k18 := k18.below hb10
            have c18 := k18.blk.cell 5
            refine hK.out _ _ c18 (fun hS10 => ?_)
            clear hK
            obtain ⟨zs8, r1, r2, r3, r4⟩ := ho10
            have ho7 := ho7.below (w' := w10) hb10
            obtain ⟨zs7, t1, t2, t3, t4⟩ := ho7
            refine wpAnyH_ready (rs := [8]) (by kernel_rfl) (by simp) ?_; refine AllReadyH.cons (o := _) rfl (fun K hK => ?_) AllReadyH.nil
            refine step_append_own_T (some 79) rfl rfl (.tmp 74) (.tmp 78) 29 rfl (w.heap.size + 3) 47 i0 _ 6 96 Try.underlying29 hi hz0 hz1' hz2' rfl (by omega) O7 p c7 _ rfl (t3.take hpn) A10 (m - f) c10 (zs8.flatMap (·.1)) rfl r3.sl (fun v hv => by obtain ⟨y, hy, hv⟩ := List.mem_flatMap.1 hv; exact (r4 y hy).one v hv) (by omega) (by omega) (by have := hb10.size; omega) ?_
            intro A11 c11 w11 ho11 hb11 hs11
            have k18 := k18.sameBut hs11 (by decide)
            have c18 := k18.blk.cell 5
            refine hK.out _ _ c18 (fun hS11 => ?_)
            clear hK
            refine wpAnyH_done (by kernel_rfl) ?_ _
            have hz10 := hb10.size
            have hz11 := hb11.size
            have hb9' : Below w.heap.size w w10 := hb9.trans (hb10.mono hb9.size)
            have hb11' : Below w.heap.size w w11 := hb9'.trans (hb11.mono (by omega))
            have k10 := (k10.ext hb10).below hb11 (by omega)
            have hos : OwnSnap w11 (w.heap.size + 3) A7 B7 D7 na a7 nb b7 nd d7 l k z := (hos.below hb10).sameBut hs11 (by decide) (by decide)
            have hnew : OwnEs w11 (w.heap.size + 3) A11 (p + (m - f)) c11 (xs.take p ++ more.drop f) := by
              rw [flat_take (fun z : List Value × Ent => z.1) 6 zs7 (fun z hz => (t4 z hz).len) p, ← List.flatMap_append] at ho11
              refine ⟨zs7.take p ++ zs8, by rw [List.map_append, List.map_take, t1, r1], by rw [List.length_append, List.length_take, t2, r2]; omega, ho11, fun y hy => ?_⟩
              rcases List.mem_append.1 hy with hy | hy
              · exact (t4 y (List.mem_of_mem_take hy)).sameBut hs11 (by decide) (by decide)
              · exact ((r4 y hy).lower (by omega)).sameBut hs11 (by decide) (by decide)
            clear ho11 t1 t2 t3 t4 r1 r2 r3 r4 hS hS10 hS11 c18
            go_wp2_with (with_reducible refine stop_store ?_)
            refine hide (wpList_store_partT rfl 29 (.tmp 80) (.tmp 79) rfl w6.heap.size 5 31 _ [.slice A11 (p + (m - f)) c11] rfl rfl rfl _ k18 (by simp) (by kernel_rfl) rfl _ rfl ?_)
            intro w12 k18' hg12 hz12
            have hs12 := SameBut.of_blk k18 hg12
            have k10 := blk_grown k10 hg12 (by omega)
            have hos := hos.sameBut hs12 (by decide) (by decide)
            have hnew := hnew.sameBut hs12 (by decide) (by decide) (by decide)
            have hb12 : Below w.heap.size w w12 := below_grown hb11' hg12 (by omega) (by have := k18.lt; omega)
            clear k18 hs11 hs12
            have k18 := k18'
            simp only [List.take_succ_cons, List.take_zero, List.drop_succ_cons, List.drop_zero, List.cons_append, List.nil_append, List.length_cons, List.length_nil] at k18
            clear k18'
            have c18 := k18.blk.cell
            go_wp2_with fail
            refine wp_region_held_drew (S := fun W => ∀ j, W.cell? ⟨w6.heap.size, j, none⟩ = ([.int .u64 bi, .int .u64 bt, .slice A7 na a7, .slice B7 nb b7, .slice D7 nd d7, .slice A11 (p + (m - f)) c11] : List Value)[j]?) (by kernel_rfl) c18 (fun hS => ?_)
            simp only [List.size_toArray, List.length_cons, List.length_nil]
            refine take_at (i := 0) (oi := _) (dst := some 81) (v := ?_) rfl rfl (by kernel_rfl) (by kernel_rfl) (by kernel_rfl) (fun _ _ _ h => h) (Or.inl ⟨by rfl, by intro w hSw; (try dsimp only at hSw); go_simp; (try with_reducible rfl)⟩) (by assumption) ?_; (try simp only [Act.put, List.setIfInBounds_toArray, List.set_cons_zero, List.set_cons_succ])
            refine take_at (i := 1) (oi := _) (dst := some 82) (v := ?_) rfl rfl (by kernel_rfl) (by kernel_rfl) (by kernel_rfl) (fun _ _ _ h => h) (Or.inl ⟨by rfl, by intro w hSw; (try dsimp only at hSw); go_simp; (try with_reducible rfl)⟩) (by assumption) ?_; (try simp only [Act.put, List.setIfInBounds_toArray, List.set_cons_zero, List.set_cons_succ])
            refine take_at (i := 2) (oi := _) (dst := some 83) (v := ?_) rfl rfl (by kernel_rfl) (by kernel_rfl) (by kernel_rfl) (fun _ _ _ h => h) (Or.inl ⟨by rfl, by intro w hSw; (try dsimp only at hSw); go_simp; (try with_reducible rfl)⟩) (by assumption) ?_; (try simp only [Act.put, List.setIfInBounds_toArray, List.set_cons_zero, List.set_cons_succ])
            refine take_at (i := 3) (oi := _) (dst := some 84) (v := ?_) rfl rfl (by kernel_rfl) (by kernel_rfl) (by kernel_rfl) (fun _ _ _ h => h) (Or.inl ⟨by rfl, by intro w hSw; (try dsimp only at hSw); go_simp; (try with_reducible rfl)⟩) (by assumption) ?_; (try simp only [Act.put, List.setIfInBounds_toArray, List.set_cons_zero, List.set_cons_succ])
            refine take_at (i := 4) (oi := _) (dst := some 85) (v := ?_) rfl rfl (by kernel_rfl) (by kernel_rfl) (by kernel_rfl) (fun _ _ _ h => h) (Or.inl ⟨by rfl, by intro w hSw; (try dsimp only at hSw); go_simp; (try with_reducible rfl)⟩) (by assumption) ?_; (try simp only [Act.put, List.setIfInBounds_toArray, List.set_cons_zero, List.set_cons_succ])
            refine wpAnyH_ready (rs := [5]) (by kernel_rfl) (by simp) ?_; refine AllReadyH.cons (o := _) rfl (fun K hK => ?_) AllReadyH.nil; go_simp
            refine (entries_any (cutA (some ad) mc f 6) (m - f) (mc - f) (more.drop f) _ ((HMC.out).below hb12.drew) (fun x hx => HFM.out x (List.mem_of_mem_drop hx)) (by omega)).mono ?_
            rintro e w13 ⟨hb13, C13, c13, rfl, ho13⟩
            simp only [heap_drew] at hb13 ho13
            have hb13 := (Below.refl w12.heap.size w12).drew.trans hb13
            have k18 := k18.below hb13
            have c18 := k18.blk.cell
            refine hK.out _ _ c18 (fun hS13 => ?_)
            clear hK
            have k10 := k10.ext hb13
            refine wpAnyH_ready (rs := [6]) (by kernel_rfl) (by simp) ?_; refine AllReadyH.cons (o := _) rfl (fun K hK => ?_) AllReadyH.nil
            refine step_store_part rfl rfl 31 (.tmp 10) (.tmp 81) rfl (w.heap.size + 2) 0 _ [.int .u64 bi, .int .u64 bt, .slice A7 na a7, .slice B7 nb b7, .slice D7 nd d7, .slice A11 (p + (m - f)) c11] rfl rfl rfl _ k10 (by simp) (by kernel_rfl) rfl _ rfl ?_
            intro w14 k14 hg14 hz14
            have k18 := blk_grown k18.blk hg14 (by omega)
            refine hK.out _ _ k18.cell (fun hS14 => ?_)
            clear hK
            simp only [Act.put, List.setIfInBounds_toArray, List.set_cons_zero, List.set_cons_succ]
            refine take_at (i := 7) (oi := _) (dst := some 11) (v := ?_) rfl rfl (by kernel_rfl) (by kernel_rfl) (by kernel_rfl) (fun _ _ _ h => h) (Or.inl ⟨by rfl, by intro w hSw; (try dsimp only at hSw); go_simp; (try with_reducible rfl)⟩) (by assumption) ?_; (try simp only [Act.put, List.setIfInBounds_toArray, List.set_cons_zero, List.set_cons_succ])
            refine take_at (i := 8) (oi := _) (dst := some 12) (v := ?_) rfl rfl (by kernel_rfl) (by kernel_rfl) (by kernel_rfl) (fun _ _ _ h => h) (Or.inl ⟨by rfl, by intro w hSw; (try dsimp only at hSw); go_simp; (try with_reducible rfl)⟩) (by assumption) ?_; (try simp only [Act.put, List.setIfInBounds_toArray, List.set_cons_zero, List.set_cons_succ])
            refine take_at (i := 9) (oi := _) (dst := some 13) (v := ?_) rfl rfl (by kernel_rfl) (by kernel_rfl) (by kernel_rfl) (fun _ _ _ h => h) (Or.inl ⟨by rfl, by intro w hSw; (try dsimp only at hSw); go_simp; (try with_reducible rfl)⟩) (by assumption) ?_; (try simp only [Act.put, List.setIfInBounds_toArray, List.set_cons_zero, List.set_cons_succ])
            refine wpAnyH_done (by kernel_rfl) ?_ _
            have hb13' : Below w.heap.size w w13 := hb12.trans (hb13.mono hb12.size)
            have hz13 := hb13.size
            have hos : OwnSnap w14 (w.heap.size + 3) A7 B7 D7 na a7 nb b7 nd d7 l k z := (hos.below hb13).grown hg14 (by omega)
            have hnew := (hnew.below hb13).grown hg14 (by omega)
            have ho14 := (ho13.lower (base' := w.heap.size + 3) (by omega)).grown hg14 (by omega)
            clear hS hS13 hS14 c18
            go_wp2
            refine bodyPost_ret (v := .tuple #[lg bi bt A7 na a7 B7 nb b7 D7 nd d7 A11 (p + (m - f)) c11, .int .u64 0, .slice C13 (m - f) c13, .int .i64 0]) ?_ rfl ⟨below_grown hb13' hg14 (by omega) (by omega), .inr (.inr ⟨HMAY.out, f, p, x, HX.out, HFX.out, HAN.out, hpn, HPA.out, HPU.out, _, C13, c13, ⟨A7, a7, B7, b7, D7, d7, A11, c11, rfl, hos.lower (by omega), hnew.lower (by omega)⟩, ho14.lower (by omega), by rw [if_neg hlt]⟩)⟩
            simp [results, Try.results14, go_sem, k14.cell]
end Go.Proofs.Ytglabhfmeinogaa

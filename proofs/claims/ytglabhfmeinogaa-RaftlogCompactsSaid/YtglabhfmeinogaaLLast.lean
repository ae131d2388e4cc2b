/- The program's Conf: the last change's configuration in new memory, or the snapshot's. -/
import Derived.Test.YtglabhfmeinogaaLBack
import Derived.Test.YtglabhfmeinogaaConf
import Derived.Test.YtglabhfmeinogaaLSame
namespace Go.Proofs.Ytglabhfmeinogaa
open Go.RowKit Go.Shelf Go.Gz
attribute [local go_sem] Oper.semAt_some

section
variable {w w' : World} {row : Option Nat}
/-- A turn of what is no cells. -/
def Turn (w w' : World) (row : Option Nat) : Prop := w.grownBy w' row ∧ ∀ r, row = some r → ∃ o : Obj, w.heap[r]? = some o ∧ o.isCells = false
theorem own_turn {base : Nat} {e : TypeId} {size n c : Nat} {A : Option Addr} {xs : List Value} (h : Gz.Own w base e size A n c xs) (ht : Turn w w' row) : Gz.Own w' base e size A n c xs := by
  refine h.imp id fun h => ⟨h.1, ?_⟩
  rcases h.2 with hn | ⟨g, cap, cur, hv, hbg, hgg, rest⟩
  · exact .inl hn
  · refine .inr ⟨g, cap, cur, hv, hbg, (ht.1.block g (Array.getElem?_eq_some_iff.1 hgg).1 (fun e => ?_)).trans hgg, rest⟩
    obtain ⟨o, ho, hc⟩ := ht.2 g e.symm
    rw [hgg] at ho
    injection ho with ho
    subst ho
    cases hc
theorem ownConf_turn {base : Nat} {A B : Option Addr} {n c m d : Nat} {l k : List Int} (h : OwnConf w base A B n c m d l k) (ht : Turn w w' row) : OwnConf w' base A B n c m d l k := ⟨own_turn h.1 ht, own_turn h.2 ht⟩
theorem blk_turn {g : Nat} {cs : List Value} (h : Blk w g cs) (ht : Turn w w' row) : Blk w' g cs := by
  refine h.grown ht.1 (fun e => ?_)
  obtain ⟨t, hg⟩ := h
  obtain ⟨o, ho, hc⟩ := ht.2 g e.symm
  rw [hg] at ho
  injection ho with ho
  subst ho
  cases hc
end

theorem keepsFrom_below {W W' : World} {B : Nat} (h : Below W.heap.size W W') : KeepsFrom B W W' := ⟨h.size, fun k o _ hk _ => (h.block k (Array.getElem?_eq_some_iff.1 hk).1).trans hk⟩

theorem name_bodyM {F : Fence} {n : Nat} {P : Program} {fn : Func} {R : Ending → World → Prop} {x : Exit} {a : Act} {w : World} (h : ∀ w1, w1 = w → bodyPostM F n P fn R x a w1) : bodyPostM F n P fn R x a w := h w rfl

/-- What the last change of a list of entries is. -/
def LastConf (xs : List Ent) (l k l' k' : List Int) (ix : Int) : Prop :=
  (∃ (j : Nat) (x : Ent), xs[j]? = some x ∧ x.2.2.1 = 3 ∧ (∀ (i : Nat) (y : Ent), j < i → xs[i]? = some y → ¬ y.2.2.1 = 3) ∧ l' = x.2.2.2.2.1 ∧ k' = x.2.2.2.2.2 ∧ ix = x.1) ∨
  ((∀ x ∈ xs, ¬ x.2.2.1 = 3) ∧ l' = l ∧ k' = k ∧ ix = 0)

set_option maxRecDepth 100000 in
set_option maxHeartbeats 4000000 in
theorem lastConf_any (bi bt : Int) (A : Option Addr) (na ca : Nat) (B : Option Addr) (nb cb : Nat) (D : Option Addr) (nd cd : Nat) (O : Option Addr) (n c : Nat) (l k z : List Int) (xs : List Ent) (w : World)
    (h : IsLog w A B D O na nb nd n l k z xs) (hf : ∀ x ∈ xs, Fits x) (hna : na * 8 ≤ 140737488355328) (hnb : nb * 8 ≤ 140737488355328) (hn : n ≤ 140737488355328) :
    Calls Try.prog 18 #[.agg #[.int .u64 bi, .int .u64 bt, .slice A na ca, .slice B nb cb, .slice D nd cd, .slice O n c]] w fun e w' => Below w.heap.size w w' ∧
      ∃ A' n' a' B' m' b' l' k' ix, e = .returned (.tuple #[.agg #[.slice A' n' a', .slice B' m' b'], .int .u64 ix]) ∧ OwnConf w' w.heap.size A' B' n' a' m' b' l' k' ∧ LastConf xs l k l' k' ix := by
  obtain ⟨hs, zs, hzx, hzl, hE, hz⟩ := h
  subst hzx hzl
  have HZ := Lib.hid hz
  have HE := Lib.hid hE
  have HC := Lib.hid hs.1
  have HF := Lib.hid hf
  clear hs hz hE hf
  refine (callsIn_wide (n := 6)).1 ?_
  refine callsIn_of_wp_marks Try.func18 rfl trivial ?_ rfl
  simp only [Try.ntmps18, List.size_toArray, List.length_cons, List.length_nil, Nat.reduceAdd, Nat.reduceSub, Array.replicate_succ, Array.replicate_zero, List.push_toArray, List.append_toArray, List.nil_append, List.cons_append]
  gi_wp2_with (refine ⟨trivial, ?_⟩; gi_at_call 39; refine (back_in _ _ trivial rfl _ _ _ _).mono ?_; rintro e w' ⟨rfl, hw'⟩)
  rw [← hw']
  have hB0 : Below w.heap.size w w' := by rw [hw']; exact ((((Below.refl _ w).alloc (Nat.le_refl _) _).alloc (by simp) _).alloc (by simp; omega) _).alloc (by simp; omega) _
  have k0 : Blk w' w.heap.size [.int .u64 bi, .int .u64 bt, .slice A na ca, .slice B nb cb, .slice D nd cd, .slice O zs.length c] := by rw [hw']; exact (((Blk.new w _ _ _ rfl).alloc _).alloc _).alloc _
  have k2 : Blk w' (w.heap.size + 1) [.slice none 0 0, .slice none 0 0] := by rw [hw']; exact ((Blk.new _ _ _ _ (by simp)).alloc _).alloc _
  have k3 : Blk w' (w.heap.size + 1 + 1) [.int .u64 0] := by rw [hw']; exact (Blk.new _ _ _ _ (by simp)).alloc _
  have kb : w'.cell? ⟨w.heap.size + 1 + 1 + 1, 0, none⟩ = some (.slice O zs.length c) := by rw [hw']; exact (Blk.new _ _ _ _ (by simp)).cell 0
  have hsz : w'.heap.size = w.heap.size + 1 + 1 + 1 + 1 := by rw [hw']; simp
  have HSL := Lib.hid (HE.out.below hB0)
  have HZ' := Lib.hid (fun z hz => (HZ.out z hz).below hB0)
  clear hw'
  refine wpIn_rangeFunc_ownH (F := Fence.wide) rfl (by omega) (gf := 54) (lb := #[.pointer (some ⟨w.heap.size + 1 + 1 + 1, 0, none⟩)]) rfl trivial (enters_of Try.func54 (by kernel_rfl) rfl)
    (back_stops Fence.wide (6 - 1) trivial rfl (by omega) (w.heap.size + 1 + 1 + 1) w' O c zs HSL.out HZ'.out hn kb (by omega)) belowK_t (belowK_b (Nat.le_refl _)) (Below.refl _ _) (fun _ => rfl)
    (fun pre W => (∀ x ∈ pre, ¬ (zs[x.val]'x.2).2.2.2.1 = 3) ∧ Below w'.heap.size w' W)
    (fun c pre W => (c = .ret ∧ ∃ (ini : List (Fin zs.length)) (last : Fin zs.length) (A' : Option Addr) (n' a' : Nat) (B' : Option Addr) (m' b' : Nat), pre = ini ++ [last] ∧ (∀ x ∈ ini, ¬ (zs[x.val]'x.2).2.2.2.1 = 3) ∧ (zs[last.val]'last.2).2.2.2.1 = 3 ∧
      Blk W (w.heap.size + 1) [.slice A' n' a', .slice B' m' b'] ∧ Blk W (w.heap.size + 1 + 1) [.int .u64 (zs[last.val]'last.2).2.1] ∧ OwnConf W w.heap.size A' B' n' a' m' b' (zs[last.val]'last.2).2.2.2.2.2.1 (zs[last.val]'last.2).2.2.2.2.2.2) ∧ Below w.heap.size w W)
    (OwnFrom.and (fun _ _ _ _ hs _ _ => hs) (ownFrom_below (Nat.le_refl _) (Nat.le_refl _)))
    (fun c => OwnFrom.and (fun s X Y row hs hg hr => by
      obtain ⟨hc, ini, last, A', n', a', B', m', b', e1, e2, e3, e4, e5, e6⟩ := hs
      have ht : Turn X Y row := ⟨hg, fun r e => (hr r e).2⟩
      exact ⟨hc, ini, last, A', n', a', B', m', b', e1, e2, e3, blk_turn e4 ht, blk_turn e5 ht, ownConf_turn e6 ht⟩) (ownFrom_below (Nat.le_refl _) (by omega)))
    ⟨fun x hx => (by cases hx), Below.refl _ _⟩
    (fun x a' W => ∃ Bx, w'.heap.size ≤ Bx ∧ Blk W Bx (zs[x.val]'x.2).1 ∧ a' = { tmps := #[.agg #[.int .u64 bi, .int .u64 bt, .slice A na ca, .slice B nb cb, .slice D nd cd, .slice O zs.length c], .pointer (some ⟨w.heap.size, 0, none⟩), .pointer (some ⟨w.heap.size + 1, 0, none⟩), .pointer (some ⟨w.heap.size + 1 + 1, 0, none⟩), undef, .pointer (some ⟨Bx, 0, none⟩), .pointer (some ⟨w.heap.size, 5, none⟩), .slice O zs.length c, .func (.func 54) #[] #[.pointer (some ⟨w.heap.size + 1 + 1 + 1, 0, none⟩)], .int .i64 (x.val : Int), .agg (zs[x.val]'x.2).1.toArray, undef, undef, undef, undef, undef, undef, undef, undef, undef, undef, undef, undef], defers := [] })
    (fun x a' _ X Y row hs hg hr => by obtain ⟨Bx, h1, h2, h3⟩ := hs; exact ⟨Bx, h1, blk_turn h2 ⟨hg, fun r e => (hr r e).2⟩, h3⟩)
    ?assign ?body ?done ?stop
  case assign =>
    rintro l pre x W K ⟨hp, hb⟩ hK
    obtain ⟨D1, dc, V, vc, L, lc, e, _, _⟩ := HZ'.out _ (List.getElem_mem x.2)
    simp only [encB, e] at hK ⊢
    gi_wp2
    exact hK _ _ ((KeepsOthers.alloc _ _).from _) ((Below.refl _ W).alloc hb.size _) ⟨hp, hb.alloc hb.size _⟩ ⟨W.heap.size, hb.size, Blk.new W _ _ _ rfl, rfl⟩
  case body =>
    rintro l0 pre x a' W hl ⟨r, hr⟩ ⟨hp, hb⟩ ⟨Bx, hBx, bX, rfl⟩ hlt
    obtain ⟨D1, dc, V, vc, L, lc, e, _, hcf⟩ := HZ'.out _ (List.getElem_mem x.2)
    have hfx := HF.out _ (List.mem_map_of_mem (List.getElem_mem x.2))
    obtain ⟨q, hq⟩ : ∃ q, zs[x.val]'x.2 = q := ⟨_, rfl⟩
    rw [hq] at e hcf hfx bX ⊢
    have hcf := Lib.hid (hcf.below hb)
    rw [e] at bX ⊢
    have cX := bX.cell
    have k2' := k2.ext hb
    have k3' := k3.ext hb
    have c2 := k2'.cell
    have c3 := k3'.cell
    clear k2 k3
    clear kb k0
    by_cases h3 : q.2.2.2.1 = 3
    · gi_wp2_with fail
      have f2 := k2'.frozen
      have hm : Try.prog.follows .mixedOrders = true := by kernel_rfl
      have f3 := k3'.frozen
      gi_region_with_o (refine ⟨trivial, ?_⟩; gi_at_call 40; refine (CallsIn.inRound l0 (callsIn_wide.2 (conf_any V L _ vc _ lc _ _ _ (hcf.out.below (Below.refl _ _).drew) hfx.2.1 hfx.2.2))).mono ?_; rintro e w1 ⟨hb1, A1, c1, B1, d1, rfl, ho⟩; have hb1 := of_drew hb1; have cX1 := (bX.ext hb1).cell; have c2' := (k2'.ext hb1).cell; have c3' := (k3'.ext hb1).cell; have f2' := (k2'.ext hb1).frozen; have f3' := (k3'.ext hb1).frozen)
      all_goals gi_wp2
      all_goals
        have hzW := hb.size
        have ho1 := ho.1
        have ho2 := ho.2
        simp only [World.drew] at ho1 ho2
        refine ⟨(keepsFrom_below hb1).trans (((KeepsOthers.setCell _ _ _).from _).trans (((KeepsOthers.setCell _ _ _).from _).trans ((KeepsOthers.setCell _ _ _).from _))), ⟨rfl, pre, x, A1, q.2.2.2.2.2.1.length, c1, B1, q.2.2.2.2.2.2.length, d1, rfl, hp, by rw [hq]; exact h3, ?_, ?_, ?_⟩, ?_⟩
        · exact (((k2'.ext hb1).set 0 _).set 1 _).far (by simp) _
        · rw [hq]; exact ((((k3'.ext hb1).far (by simp) _).far (by simp) _).set 0 _)
        · rw [hq]; exact ⟨(((ho1.set _ _ (by simp; omega)).set _ _ (by simp; omega)).set _ _ (by simp; omega)).lower (by omega), (((ho2.set _ _ (by simp; omega)).set _ _ (by simp; omega)).set _ _ (by simp; omega)).lower (by omega)⟩
        · exact ((((hB0.trans (hb.mono hB0.size)).trans (hb1.mono (by omega))).setCell (p := ⟨w.heap.size + 1, 0, none⟩) (by simp) _).setCell (p := ⟨w.heap.size + 1, 1, none⟩) (by simp) _).setCell (p := ⟨w.heap.size + 1 + 1, 0, none⟩) (by simp; omega) _
    · gi_wp2
      exact ⟨KeepsFrom.refl _ _, Below.refl _ _, fun y hy => (List.mem_append.1 hy).elim (hp y) (fun e => by simp at e; subst e; rw [hq]; exact h3), hb⟩
  case done =>
    rintro D ys W hD rfl ⟨hne, hb⟩ hK
    have k0' := k0.ext hb
    have k2' := k2.ext hb
    have k3' := k3.ext hb
    have c0 := k0'.cell
    have c2 := k2'.cell
    have c3 := k3'.cell
    have f2 := k2'.frozen
    have f3 := k3'.frozen
    have hb0 := hB0.trans (hb.mono hB0.size)
    have hcf := HC.out.below hb0
    clear kb
    gi_wp2_with (refine ⟨trivial, ?_⟩; gi_at_call 40; refine (callsIn_wide.2 (conf_any A B _ ca _ cb _ _ _ hcf hna hnb)).mono ?_; rintro e w1 ⟨hb1, A1, c1, B1, d1, rfl, ho⟩; have c2' := (k2'.ext hb1).cell; have c3' := (k3'.ext hb1).cell; have f2' := (k2'.ext hb1).frozen; have f3' := (k3'.ext hb1).frozen)
    refine name_bodyM (fun w2 hw2 => ?_)
    have ho1 := ho.1
    have ho2 := ho.2
    have hzW := hb.size
    have kA : Blk w2 (w.heap.size + 1) [.slice A1 na c1, .slice B1 nb d1] := by rw [hw2]; exact (((k2'.ext hb1).set 0 _).set 1 _).far (by simp) _
    have kB : Blk w2 (w.heap.size + 1 + 1) [.int .u64 0] := by rw [hw2]; exact ((((k3'.ext hb1).far (by simp) _).far (by simp) _).set 0 _)
    have hO : OwnConf w2 w.heap.size A1 B1 na c1 nb d1 l k := by rw [hw2]; exact ⟨(((ho1.set _ _ (by simp; omega)).set _ _ (by simp; omega)).set _ _ (by simp; omega)).lower (by omega), (((ho2.set _ _ (by simp; omega)).set _ _ (by simp; omega)).set _ _ (by simp; omega)).lower (by omega)⟩
    have hB2 : Below w.heap.size w w2 := by rw [hw2]; exact (((hb0.trans (hb1.mono (by omega))).setCell (p := ⟨w.heap.size + 1, 0, none⟩) (by simp) _).setCell (p := ⟨w.heap.size + 1, 1, none⟩) (by simp) _).setCell (p := ⟨w.heap.size + 1 + 1, 0, none⟩) (by simp; omega) _
    have hK' : w2.heap[D]? = some (.deferred (some [])) := by
      rw [hw2]
      exact (KeepsOthers.setCell _ _ _).same D _ ((KeepsOthers.setCell _ _ _).same D _ ((KeepsOthers.setCell _ _ _).same D _ ((hb1.block D (Array.getElem?_eq_some_iff.1 hK).1).trans hK) rfl) rfl) rfl
    refine ⟨by simp, .inl ⟨_, _, rfl, run_takeDeferred hK', ?_⟩⟩
    have ht : Turn w2 (w2.putObj D (.deferred none)) (some D) := ⟨grownBy_putObj' _ D _, fun r e => by cases e; exact ⟨_, hK', rfl⟩⟩
    have cA := (blk_turn kA ht).cell
    have cB := (blk_turn kB ht).cell
    refine ⟨.tuple #[.agg #[.slice A1 na c1, .slice B1 nb d1], .int .u64 0], ?_, hB2.trans (belowK_b (w := w) (Nat.le_refl _) w2 D _ _ (by omega) hK' rfl rfl), A1, na, c1, B1, nb, d1, l, k, 0, rfl, ownConf_turn hO ht, .inr ⟨fun y hy => ?_, rfl, rfl, rfl⟩⟩
    · simp [results, Try.results18, go_sem, cA, cB]
    · obtain ⟨q, hq, rfl⟩ := List.mem_map.1 hy
      obtain ⟨j, hj, rfl⟩ := List.mem_iff_getElem.1 hq
      exact hne ⟨j, hj⟩ ((backs_mem _).2 (by simp))
  case stop =>
    rintro D c pre W hD ⟨k', hk', rfl⟩ ⟨⟨rfl, ini, last, A', n', a', B', m', b', e1, e2, e3, e4, e5, e6⟩, hb⟩ hK
    gi_wp2
    have ht : Turn W (W.putObj D (.deferred none)) (some D) := ⟨grownBy_putObj' _ D _, fun r e => by cases e; exact ⟨_, hK, rfl⟩⟩
    have cA := (blk_turn e4 ht).cell
    have cB := (blk_turn e5 ht).cell
    refine ⟨by simp, .inl ⟨_, _, rfl, run_takeDeferred hK, ?_⟩⟩
    obtain ⟨k'', rfl⟩ : ∃ k'', k' = k'' + 1 := by
      cases k' with
      | zero => simp [backs] at e1
      | succ k'' => exact ⟨k'', rfl⟩
    simp only [backs] at e1
    obtain ⟨rfl, e7⟩ := List.append_inj' e1 rfl
    have hl : last.val = zs.length - 1 - k'' := by injection e7 with e7; rw [← e7]
    obtain ⟨lv, hlv⟩ := last
    simp only at hl e3 e5 e6 cB
    refine ⟨.tuple #[.agg #[.slice A' n' a', .slice B' m' b'], .int .u64 (zs[lv]'hlv).2.1], ?_, hb.trans (belowK_b (w := w) (Nat.le_refl _) W D _ _ (by omega) hK rfl rfl), A', n', a', B', m', b', _, _, _, rfl, ownConf_turn e6 ht, .inl ⟨lv, (zs[lv]'hlv).2, ?_, e3, fun i y hi hy => ?_, rfl, rfl, rfl⟩⟩
    · simp [results, Try.results18, go_sem, cA, cB]
    · rw [List.getElem?_map, List.getElem?_eq_getElem hlv]
      rfl
    · obtain ⟨hil, hy⟩ := List.getElem?_eq_some_iff.1 hy
      rw [List.length_map] at hil
      rw [← hy, List.getElem_map]
      exact e2 ⟨i, hil⟩ ((backs_mem _).2 (by simp only; omega))
end Go.Proofs.Ytglabhfmeinogaa

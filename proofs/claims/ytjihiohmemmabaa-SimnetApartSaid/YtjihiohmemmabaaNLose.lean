/- Lose: all bags from and to a node. -/
import Derived.Test.YtjihiohmemmabaaNPair
namespace Go.Gz
open Go.RowKit Go.Maps
theorem step_delete_ranges {P : Program} {w : World} {ops : Array Oper} {o : Oper} {a : Act} {K : Act → World → Prop} {Q : Exit → Act → World → Prop} {E : Prop} (hd : o.dst = none) (hgd : o.guard = none) (m x : Operand) (t k : TypeId) (hop : o.op = Op.call { callee := Callee.builtin Builtin.delete, args := #[m, x], argTypes := #[t, k] })
    (e : TypeId) (KK : Keyed P k) (ht : P.underlying t = some (.map k e)) (R : Value → Option (DataW Value × List MemPlace)) (b r n : Nat) (D : DataW Value) (left : Lit → Bool) (cnt : Nat)
    (hm : a.eval m = .map (some b)) (h : w.ranges P k R b r n D left cnt) (key : Value) (kl : Lit) (hx : a.eval x = key) (hkey : keyOf P k key = some kl)
    (hK : ∀ w' cnt', w'.ranges P k R b r n (D.del kl) (fun z => left z && !z.sameKey kl) cnt' → cnt' ≤ cnt → w.mapTurned w' b → K (a.put none (.tuple #[])) w') :
    if Region.wanted o (yielded ops a.tmps) = true then Oper.wp P o a w K Q else E := by
  have hw : Region.wanted o (yielded ops a.tmps) = true := by simp [Region.wanted, hgd]
  rw [if_pos hw]
  obtain ⟨w', cnt', hrun, r1, r2, r3⟩ := h.drop KK ht hkey o.type
  unfold Oper.wp
  simp [execOp, hop, resolve, invoke, builtin, hm, hx, hrun, Result.andThen]
  show K (a.put o.dst (.tuple #[])) _
  rw [hd]
  exact hK _ _ r1 r2 r3
end Go.Gz
namespace Go.Proofs.Ytjihiohmemmabaa
open Go.RowKit Go.Gz Go.Maps Go.ChangeMaps Go.MapKept
attribute [local go_sem] World.cell?_alloc_some frozen?_alloc_some

theorem Tells.del {D : DataW Value} {sl : Int → Int → Value} (h : Tells D sl) {i j : Int} (hi : Small i) (hj : Small j) : Tells (D.del (linkL i j)) (upd sl i j nilV) := by
  obtain ⟨h1, h2, h3⟩ := h
  refine ⟨h1.del _, fun a b ha hb => ?_, fun k hk => ?_⟩
  · unfold upd
    by_cases e : a = i ∧ b = j
    · obtain ⟨rfl, rfl⟩ := e
      rw [if_pos ⟨rfl, rfl⟩]
      exact atKey_del_same _
    · rw [if_neg e, atKey_del_other (fun e' => e (linkL_inj ha hb hi hj e')) _]
      exact h2 a b ha hb
  · by_cases e : k = linkL i j
    · subst e
      rw [has_del_same] at hk
      cases hk
    · rw [has_del_other e] at hk
      exact h3 k hk
theorem Tells.congr {D : DataW Value} {sl sl' : Int → Int → Value} (h : Tells D sl) (he : ∀ i j, Small i → Small j → sl i j = sl' i j) : Tells D sl' := ⟨h.1, fun i j hi hj => (h.2.1 i j hi hj).trans (by rw [he i j hi hj]), h.2.2⟩
/-- The bags while the links of a node are struck. -/
def cutB (b : Bool) (i j a : Int) (v : Value) : Value := if i = a ∨ j = a then (if b = false then nilV else v) else v
theorem cutB_no {b : Bool} {i j a : Int} {v : Value} (h : ¬ (i = a ∨ j = a)) : cutB b i j a v = v := by unfold cutB; rw [if_neg h]
theorem cutB_true {i j a : Int} {v : Value} : cutB true i j a v = v := by unfold cutB; split <;> rfl
theorem cutB_false {i j a : Int} {v : Value} (h : i = a ∨ j = a) : cutB false i j a v = nilV := by unfold cutB; rw [if_pos h]; rfl
def cutL (sl : Int → Int → Value) (a : Int) (left : Lit → Bool) : Int → Int → Value := fun i j => cutB (left (linkL i j)) i j a (sl i j)
theorem grownBy_on {w wr w' : World} {row : Option Nat} {b : Nat} (h : w.grownBy wr (some b)) (hg : wr.grownBy w' row) (hr : ∀ r, row = some r → r = b ∨ w.heap.size ≤ r) : w.grownBy w' (some b) :=
  ⟨hg.os.trans h.os, hg.tape.trans h.tape, hg.output.trans h.output, Nat.le_trans h.size hg.size, fun k hk hne => (hg.block k (Nat.lt_of_lt_of_le hk h.size) (fun e => by
    rcases hr k e.symm with h1 | h1
    · exact hne (by rw [h1])
    · omega)).trans (h.block k hk hne)⟩

theorem grown_of_drew {w w' : World} {row : Option Nat} (h : w.drew.grownBy w' row) : w.grownBy w' row := ⟨h.os, h.tape, h.output, h.size, h.block⟩
/-- What Lose answers, and the bags then. -/
def LoseF (nodes : Int) (f : Int → Int → List Pkt) (a : Int) (E : Int) (f' : Int → Int → List Pkt) : Prop := (¬ (1 ≤ a ∧ a ≤ nodes) ∧ E = 31 ∧ f' = f) ∨ ((1 ≤ a ∧ a ≤ nodes) ∧ E = 0 ∧ f' = fun i j => if i = a ∨ j = a then [] else f i j)
def LoseIs (w w' : World) (F : Nat → Prop) (g : Nat) (nodes : Int) (N : Nat) (f : Int → Int → List Pkt) (S : Int → Bool) (a : Int) (e : Ending) : Prop := Beside F w w' ∧
  ∃ (E : Int) (f' : Int → Int → List Pkt), e = .returned (.int .i64 E) ∧ LoseF nodes f a E f' ∧ NetIs w' (grow F w w') g nodes N f' S

set_option maxHeartbeats 4000000 in
theorem lose_any (w : World) (F : Nat → Prop) (g : Nat) (nodes : Int) (N : Nat) (f : Int → Int → List Pkt) (S : Int → Bool) (a : Int) (h : NetIs w F g nodes N f S) (hF : ∀ b, F b → b < w.heap.size) :
    Calls Try.prog 35 #[.pointer (some ⟨g, 0, none⟩), .int .i64 a] w fun e w' => LoseIs w w' F g nodes N f S a e := by
  have H := Lib.hid h
  clear h
  go_enter Try.func35, Try.ntmps35
  go_wp2_with fail
  refine (has_any w F g nodes N f S a H.out).mono ?_
  rintro e w2 ⟨rfl, hb2⟩
  by_cases hok : 1 ≤ a ∧ a ≤ nodes
  rotate_left 1
  · have e1 : (decide (1 ≤ a) && decide (a ≤ nodes)) = false := by simp; omega
    rw [e1]
    have HOK := Lib.hid hok
    clear hok e1
    go_wp2
    go_ret
    exact ⟨Beside.of_below hb2, 31, f, rfl, .inl ⟨HOK.out, rfl, rfl⟩, (H.out.below hb2).mono (fun q hq => .inl hq) (Nat.le_refl _)⟩
  have e1 : (decide (1 ≤ a) && decide (a ≤ nodes)) = true := by simp; omega
  rw [e1]
  have HOK := Lib.hid hok
  clear hok e1
  have H2 := Lib.hid (H.out.below hb2)
  obtain ⟨bm, am, kg, hFg, hFa, hne, hbags, hside⟩ := H2.out
  have HBAGS := Lib.hid hbags
  have hbmap := hbags.map
  obtain ⟨sl, ⟨D, hown0, hT⟩, hFb, hown, hap⟩ := hbags
  have cg := kg.blk.cell 1
  obtain ⟨w3, hrun1, hrg, hg1, hz1⟩ := hown0.range linkKeyed Try.underlying55
  have HRG := Lib.hid hrg
  have HT := Lib.hid hT
  have HOWN := Lib.hid hown
  have HAP := Lib.hid hap
  have HSIDE := Lib.hid hside
  have HMAP := Lib.hid hbmap
  have hbl := hF bm hFb
  have hgl := hF g hFg
  have hz02 := hb2.size
  have KG := Lib.hid (show ∀ W, w2.grownBy W (some bm) → BlkT W g 58 [.int .i64 nodes, .map (some bm), .map (some am)] from fun W hb => (hb.block g (by omega) (fun e => by injection e with e; exact cells_ne_map kg HMAP.out e.symm)).trans kg)
  have hb3 : w2.grownBy w3 (some bm) := hg1.but _
  have HG3 := Lib.hid hb3
  clear hown0 hrg hT hown hap hside kg hg1 hbmap hb3
  go_wp2_with fail
  go_loopw [5] (fun s5 wr => ∃ (left : Lit → Bool) (cnt : Nat) (D' : DataW Value), wr.ranges Try.prog linkT heldR bm w2.heap.size N D' left cnt ∧ Tells D' (cutL sl a left) ∧ w2.grownBy wr (some bm)) (fun _ wr => wr.rangeLeft bm w2.heap.size)
  case atStart =>
    refine ⟨has D, _, D, HRG.out, HT.out.congr (fun i j hi hj => ?_), HG3.out⟩
    unfold cutL
    cases hh : has D (linkL i j) with
    | true => exact cutB_true.symm
    | false =>
      by_cases e : i = a ∨ j = a
      · have e2 := HT.out.2.1 i j hi hj
        rw [atKey_of_not_has hh] at e2
        injection e2 with e2
        rw [cutB_false e]
        exact e2.symm
      · rw [cutB_no e]
  case round =>
    clear HRG HG3 hrun1 cg
    obtain ⟨left, cnt, D', hrg, hT', hbr⟩ := hrel
    have HT' := Lib.hid hT'
    have hwz := hbr.size
    clear hT'
    rcases hrg.next linkKeyed 0 with ⟨h0, hl, hrun⟩ | ⟨key, v, kl, y, w4, cnt2, hkey, hlk, hR, hat, hrun, hrg2, hlt, hg2, hz2, hent⟩
    · have HRG := Lib.hid hrg
      have HL := Lib.hid hl
      have HBR := Lib.hid hbr
      clear hrg hl hbr
      go_wp2
      go_ret
      have hbr := HBR.out
      have hbr0 : w.grownBy wr (some bm) := ((below_grownBy hb2).but _ |> fun h => grownBy_on h hbr (fun r e => by injection e with e; exact .inl e.symm))
      have ht : Turn w2 wr := turn_of_map hbr HMAP.out
      have hT2 : Tells D' (cutL sl a fun _ => false) := HT'.out.congr (fun i j _ _ => by unfold cutL; rw [HL.out])
      refine ⟨Beside.of_grown hbr0 (fun r e => by injection e with e; subst e; exact .inl hFb), 0, _, rfl, .inr ⟨HOK.out, rfl, rfl⟩, bm, am, KG.out wr hbr, .inl hFg, .inl hFa, hne, ⟨_, ⟨D', HRG.out.owns, hT2⟩, .inl hFb, fun i j hi hj => ?_, fun i j i' j' hi hj hi' hj' hne' => ?_⟩, HSIDE.out.kept hbr (fun e => hne (by injection e))⟩
      · unfold cutL
        by_cases e : i = a ∨ j = a
        · rw [cutB_false e]
          dsimp only
          rw [if_pos e]
          exact OwnPs.nil _ _
        · rw [cutB_no e]
          dsimp only
          rw [if_neg e]
          exact ((HOWN.out i j hi hj).turn ht).mono (fun q hq => .inl hq)
      · unfold cutL
        by_cases e : i = a ∨ j = a
        · rw [cutB_false e]
          exact .inl rfl
        · rw [cutB_no e]
          by_cases e' : i' = a ∨ j' = a
          · rw [cutB_false e']
            cases hq : (sl i j).ownBlock with
            | none => exact .inl rfl
            | some q => exact .inr (fun e => by cases e)
          · rw [cutB_no e']
            exact HAP.out i j i' j' hi hj hi' hj' hne'
    · obtain ⟨i, j, hi, hj, rfl⟩ := HT'.out.2.2 kl (has_true_of_atKey hat)
      obtain rfl := linkKeyed.inj hkey (keyLink hi hj)
      have HRR := Lib.hid hrg
      have HBR := Lib.hid (grownBy_on hbr hg2 (fun r e => by injection e with e; exact .inr (by omega)))
      have HRG2 := Lib.hid hrg2
      have HLK := Lib.hid hlk
      have HKEY := Lib.hid hkey
      have HI := Lib.hid hi
      have HJ := Lib.hid hj
      have hself : (linkL i j).sameKey (linkL i j) = true := WideAt.sameKey_self (linkL_key hi hj)
      have hstep : ∀ p q, Small p → Small q → (p = i ∧ q = j) ∨ (left (linkL p q) && !(linkL p q).sameKey (linkL i j)) = left (linkL p q) := fun p q hp hq => by
        by_cases e : p = i ∧ q = j
        · exact .inl e
        · refine .inr ?_
          have h3 : (linkL p q).sameKey (linkL i j) = false := sameKey_ne (fun e' => e (linkL_inj hp hq hi hj e'))
          simp [h3]
      have HSTEP := Lib.hid hstep
      have HSELF := Lib.hid hself
      clear hrg hbr hg2 hrg2 hkey hat hR hi hj hstep hself hlk hz2
      unfold linkV at hent
      go_wp2_with (with_reducible refine stop_store ?_)
      refine hide (name_list (fun w5 hw5 => ?_))
      have hb45 : Below w4.heap.size w4 w5 := by rw [hw5]; exact (by (repeat first | refine Below.setCell ?_ (by first | omega | (dsimp only; omega) | (simp only [heap_drew, World.size_alloc, Gz.size_setCell]; omega)) _ | refine Below.alloc ?_ (by first | omega | (dsimp only; omega) | (simp only [heap_drew, World.size_alloc, Gz.size_setCell]; omega)) _ | refine Below.drew ?_); exact Below.refl _ _)
      have k5 : Blk w5 w4.heap.size [.int .i64 0, .int .i64 0] := by rw [hw5]; exact Blk.new _ _ _ _ rfl
      have hz5 : w5.heap.size = w4.heap.size + 1 := by rw [hw5]; simp
      clear hw5 hent
      refine hide (wpList_store_blk rfl 60 (.tmp 5) (.tmp 18) rfl w4.heap.size [.int .i64 i, .int .i64 j] rfl rfl _ k5 rfl (by kernel_rfl) rfl ?_)
      intro w6 k5 hg6 hz6
      have hb46 := below_grown hb45 hg6 (Nat.le_refl _) (by omega)
      have c5 := k5.cell
      have hbl4 := HBR.out.size
      have HBR6 := Lib.hid (grownBy_on HBR.out (below_grownBy hb46) (fun r e => by cases e))
      have HRG6 := Lib.hid (HRG2.out.kept (below_grownBy hb46) (by simp) (by simp))
      clear hg6 hz6 hz5 hb45 HBR HRG2
      by_cases hij : i = a ∨ j = a
      rotate_left 1
      · have ea : (i == a) = false := beq_eq_false_iff_ne.2 (fun e => hij (.inl e))
        have eb : (j == a) = false := beq_eq_false_iff_ne.2 (fun e => hij (.inr e))
        have HNO := Lib.hid hij
        clear hij
        go_wp2
        go_roundw
        case rel =>
          refine ⟨_, cnt2, D', HRG6.out, HT'.out.congr (fun p q hp hq => ?_), HBR6.out⟩
          unfold cutL
          dsimp only
          rcases HSTEP.out p q hp hq with h | h
          · rw [h.1, h.2, cutB_no HNO.out, cutB_no HNO.out]
          · rw [h]
        case measure => rw [HRG6.out.left_eq, HRR.out.left_eq]; omega
      have c6 := (KG.out w6 HBR6.out).blk.cell
      have hcond : (i == a) = true ∨ ((i == a) = false ∧ (j == a) = true) := by
        by_cases e : i = a
        · exact .inl (beq_iff_eq.2 e)
        · exact .inr ⟨beq_eq_false_iff_ne.2 e, beq_iff_eq.2 (hij.resolve_left e)⟩
      have HIJ := Lib.hid hij
      clear hij
      have key : ∀ (w7 : World) (cnt7 : Nat), w7.ranges Try.prog linkT heldR bm w2.heap.size N (D'.del (linkL i j)) (fun z => (left z && !z.sameKey (linkL i j)) && !z.sameKey (linkL i j)) cnt7 → cnt7 ≤ cnt2 → w6.drew.mapTurned w7 bm → ∃ (left' : Lit → Bool) (cnt' : Nat) (D2 : DataW Value), w7.ranges Try.prog linkT heldR bm w2.heap.size N D2 left' cnt' ∧ Tells D2 (cutL sl a left') ∧ w2.grownBy w7 (some bm) := fun w7 cnt7 h1 h2 h3 => by
        rw [Maps.strike_twice] at h1
        refine ⟨_, cnt7, _, h1, (HT'.out.del HI.out HJ.out).congr (fun p q hp hq => ?_), grownBy_on HBR6.out (grown_of_drew h3.grown) (fun r e => by injection e with e; exact .inl e.symm)⟩
        unfold upd cutL
        dsimp only
        rcases HSTEP.out p q hp hq with h | h
        · rw [if_pos h, h.1, h.2, HSELF.out, Bool.not_true, Bool.and_false, cutB_false HIJ.out]
        · rw [h]
          by_cases e : p = i ∧ q = j
          · rw [if_pos e, e.1, e.2]
            rw [e.1, e.2, HSELF.out, Bool.not_true, Bool.and_false] at h
            rw [← h, cutB_false HIJ.out]
          · rw [if_neg e]
      have KEY := Lib.hid key
      clear key
      rcases hcond with ea | ⟨ea, eb⟩
      all_goals
        go_wp2_with fail
        refine wp_region_held_drew (S := fun W => W.cell? ⟨g, 1, none⟩ = some (.map (some bm)) ∧ ∀ q, W.cell? ⟨w4.heap.size, q, none⟩ = ([.int .i64 i, .int .i64 j] : List Value)[q]?) (by kernel_rfl) ⟨c6 1, c5⟩ (fun hS => ?_)
        simp only [List.size_toArray, List.length_cons, List.length_nil]
        refine take_at (i := 0) (oi := _) (dst := some 29) (v := ?_) rfl rfl (by kernel_rfl) (by kernel_rfl) (by kernel_rfl) (fun _ _ _ h => h) (Or.inl ⟨by rfl, by intro w hSw; (try dsimp only at hSw); go_simp; (try with_reducible rfl)⟩) (by assumption) ?_; (try simp only [Act.put, List.setIfInBounds_toArray, List.set_cons_zero, List.set_cons_succ])
        refine take_at (i := 1) (oi := _) (dst := some 30) (v := ?_) rfl rfl (by kernel_rfl) (by kernel_rfl) (by kernel_rfl) (fun _ _ _ h => h) (Or.inl ⟨by rfl, by intro w hSw; (try dsimp only at hSw); go_simp; (try with_reducible rfl)⟩) (by assumption) ?_; (try simp only [Act.put, List.setIfInBounds_toArray, List.set_cons_zero, List.set_cons_succ])
        refine take_at (i := 2) (oi := _) (dst := some 31) (v := ?_) rfl rfl (by kernel_rfl) (by kernel_rfl) (by kernel_rfl) (fun _ _ _ h => h) (Or.inl ⟨by rfl, by intro w hSw; (try dsimp only at hSw); go_simp; (try with_reducible rfl)⟩) (by assumption) ?_; (try simp only [Act.put, List.setIfInBounds_toArray, List.set_cons_zero, List.set_cons_succ])
        refine take_at (i := 3) (oi := _) (dst := some 32) (v := ?_) rfl rfl (by kernel_rfl) (by kernel_rfl) (by kernel_rfl) (fun _ _ _ h => h) (Or.inl ⟨by rfl, by intro w hSw; (try dsimp only at hSw); go_simp; (try with_reducible rfl)⟩) (by assumption) ?_; (try simp only [Act.put, List.setIfInBounds_toArray, List.set_cons_zero, List.set_cons_succ])
        refine take_at (i := 4) (oi := _) (dst := some 33) (v := ?_) rfl rfl (by kernel_rfl) (by kernel_rfl) (by kernel_rfl) (fun _ _ _ h => h) (Or.inl ⟨by rfl, by intro w hSw; (try dsimp only at hSw); go_simp; (try with_reducible rfl)⟩) (by assumption) ?_; (try simp only [Act.put, List.setIfInBounds_toArray, List.set_cons_zero, List.set_cons_succ])
        refine wpAnyH_ready (rs := [5]) (by kernel_rfl) (by simp) ?_; refine AllReadyH.cons (o := _) rfl (fun K hK => ?_) AllReadyH.nil
        refine step_delete_ranges rfl rfl (.tmp 32) (.tmp 33) 55 60 rfl 40 linkKeyed Try.underlying55 heldR bm w2.heap.size N D' _ cnt2 rfl (HRG6.out.kept (below_grownBy (Below.refl _ _).drew) (by simp) (by simp)) (linkV i j) (linkL i j) rfl HKEY.out ?_
        intro w7 cnt7 hr7 hle7 ht7
        obtain ⟨left', cnt', D2, h1, h2, h3⟩ := KEY.out w7 cnt7 hr7 hle7 ht7
        have H1 := Lib.hid h1
        have H2' := Lib.hid h2
        have H3 := Lib.hid h3
        have H4 := Lib.hid hr7
        have k57 := k5.grown (grown_of_drew ht7.grown) (fun e => by injection e with e; omega)
        clear h1 h2 h3 hr7 ht7
        refine hK.out _ _ ⟨(KG.out w7 H3.out).blk.cell 1, k57.cell⟩ (fun hS2 => ?_)
        clear hK hS hS2 k57
        refine wpAnyH_done (by kernel_rfl) ?_ _
        go_frame
        go_wp2
        go_roundw
        case rel => exact ⟨left', cnt', D2, H1.out, H2'.out, H3.out⟩
        case measure => rw [H4.out.left_eq, HRR.out.left_eq]; omega
end Go.Proofs.Ytjihiohmemmabaa

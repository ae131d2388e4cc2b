/- Part, Heal. -/
import Derived.Test.YtjihiohmemmabaaNHead
namespace Go.Proofs.Ytjihiohmemmabaa
open Go.RowKit Go.Gz Go.Maps Go.ChangeMaps Go.MapKept
attribute [local go_sem] World.cell?_alloc_some frozen?_alloc_some

theorem getD_mem (l : List Int) (i : Nat) (h : i < l.length) : l.getD i 0 ∈ l := by
  rw [List.getD_eq_getElem?_getD, List.getElem?_eq_getElem h]
  exact List.getElem_mem h
theorem below_grownBy {w w' : World} (h : Below w.heap.size w w') : w.grownBy w' none := ⟨h.os, h.tape, h.output, h.size, fun k hk _ => h.block k hk⟩
theorem aside_made (w : World) : AsideAt (w.alloc (.map #[] 0)) w.heap.size 0 (fun _ => false) := ⟨.map [], World.ownsMap_made w _ _ _, fun i _ => rfl⟩
theorem AsideAt.lt {w : World} {am N : Nat} {S : Int → Bool} (h : AsideAt w am N S) : am < w.heap.size := by
  obtain ⟨D, h1, _⟩ := h
  exact h1.lt
theorem AsideAt.map {w : World} {am N : Nat} {S : Int → Bool} (h : AsideAt w am N S) : ∃ es clock, w.heap[am]? = some (.map es clock) := by
  obtain ⟨D, ⟨es, clock, hb, _⟩, _⟩ := h
  exact ⟨es, clock, hb⟩
theorem AsideAt.kept {w w' : World} {am N : Nat} {S : Int → Bool} {row : Option Nat} (h : AsideAt w am N S) (hg : w.grownBy w' row) (hne : some am ≠ row) : AsideAt w' am N S := by
  obtain ⟨D, h1, h2⟩ := h
  exact ⟨D, h1.kept hg hne, h2⟩
theorem AsideAt.mono {w : World} {am N N' : Nat} {S : Int → Bool} (h : AsideAt w am N S) (hN : N ≤ N') : AsideAt w am N' S := by
  obtain ⟨D, h1, h2⟩ := h
  exact ⟨D, h1.mono hN, h2⟩
theorem aside_update {w : World} {am N : Nat} {S : Int → Bool} (h : AsideAt w am N S) (hN : N < maxLen) {i : Int} (hi : (Lit.int .i64 i).wf = true) :
    ∃ w', (Instr.mapUpdate 56 (.map (some am)) (.int .i64 i) (.bool true)).run Try.prog w = .ok () w' ∧ w.grownBy w' (some am) ∧ AsideAt w' am (N + 1) (fun j => S j || decide (j = i)) := by
  obtain ⟨D, h1, h2⟩ := h
  have K := Maps.int_keyed (P := Try.prog) Try.underlying3
  obtain ⟨w', hrun, h3, hg⟩ := h1.update K Try.underlying56 hN (Maps.keyOf_int_mk Try.underlying3 hi) (d := .lit (.bool true)) (ps := []) (plainElem_bool Try.underlying4 true)
  have hD : IsMap D := by
    obtain ⟨es, clock, _, _, _, rfl⟩ := h1
    exact ⟨_, rfl⟩
  refine ⟨w', hrun, hg, _, h3, fun j hj => ?_⟩
  by_cases e : j = i
  · subst e
    rw [atKey_put_same hD (K.key (Maps.keyOf_int_mk Try.underlying3 hi)) _ _]
    simp
  · rw [atKey_put_other (fun e' => e (by injection e')) _ _, h2 j hj]
    simp [e]
theorem clear_aside {w : World} {am N : Nat} {S : Int → Bool} (h : AsideAt w am N S) :
    ∃ w', (∀ ty, (Builtin.clear_ #[56] ty #[.map (some am)]).run Try.prog w = .ok (.tuple #[]) w') ∧ w.grownBy w' (some am) ∧ AsideAt w' am 0 (fun _ => false) := by
  obtain ⟨D, ⟨es, clock, hb, _⟩, _⟩ := h
  have hlt : am < w.heap.size := (Array.getElem?_eq_some_iff.1 hb).1
  refine ⟨setBlock w am (.map #[] clock), fun ty => ?_, ⟨rfl, rfl, rfl, by simp [setBlock], fun k _ hk => by simp only [setBlock]; rw [Array.getElem?_setIfInBounds_ne (fun e => hk (by rw [e]))]⟩, .map [], ⟨#[], clock, by simp [setBlock, hlt], ⟨by simp, stamped_empty clock, by simp⟩, Nat.le_refl _, rfl⟩, fun i _ => rfl⟩
  simp [Builtin.clear_, run_underlying Try.underlying56, MapKept.run_getObj_map hb, MapKept.run_setObj_map _ hb, Result.andThen, setBlock]

theorem row_same {w w' : World} {e t : TypeId} {size n : Nat} {v : Value} {xs : List Value} (h : w.ownsRow 0 e size v n xs) (hs : SameBut t w w') (hne : e ≠ t) : w'.ownsRow 0 e size v n xs := by
  refine ⟨h.1, ?_⟩
  rcases h.2 with hn | ⟨g, cap, cur, hv, hbg, hgg, rest⟩
  · exact .inl hn
  · exact .inr ⟨g, cap, cur, hv, hbg, hs g _ _ hgg hne, rest⟩
theorem OwnPs.same {w w' : World} {F : Nat → Prop} {v : Value} {xs : List Pkt} {t : TypeId} (h : OwnPs w F v xs) (hs : SameBut t w w') (h1 : 29 ≠ t) (h2 : 5 ≠ t) : OwnPs w' F v xs := by
  obtain ⟨zs, q1, q2, q3, q4⟩ := h
  exact ⟨zs, q1, row_same q2 hs h1, q3, fun z hz => (q4 z hz).same hs h2⟩
theorem OwnPs.turn {w w' : World} {F : Nat → Prop} {v : Value} {xs : List Pkt} (h : OwnPs w F v xs) (hs : Turn w w') : OwnPs w' F v xs := by
  obtain ⟨zs, q1, q2, q3, q4⟩ := h
  exact ⟨zs, q1, row_turn q2 hs, q3, fun z hz => (q4 z hz).turn hs⟩
theorem BagsAt.same {w w' : World} {F : Nat → Prop} {bm N q : Nat} {f : Int → Int → List Pkt} {t : TypeId} (h : BagsAt w F bm N f) (hg : w.grownBy w' (some q)) (hq : ¬ bm = q) (hs : SameBut t w w') (h1 : 29 ≠ t) (h2 : 5 ≠ t) : BagsAt w' F bm N f := by
  obtain ⟨sl, q1, q2, q3, q4⟩ := h
  exact ⟨sl, q1.kept hg (fun e => hq (by injection e)), q2, fun i j hi hj => (q3 i j hi hj).same hs h1 h2, q4⟩
theorem BagsAt.turn {w w' : World} {F : Nat → Prop} {bm N q : Nat} {f : Int → Int → List Pkt} (h : BagsAt w F bm N f) (hg : w.grownBy w' (some q)) (hq : ¬ bm = q) (hs : Turn w w') : BagsAt w' F bm N f := by
  obtain ⟨sl, q1, q2, q3, q4⟩ := h
  exact ⟨sl, q1.kept hg (fun e => hq (by injection e)), q2, fun i j hi hj => (q3 i j hi hj).turn hs, q4⟩
theorem same_of_cells {w w' : World} {q : Nat} {t : TypeId} {cs : List Value} (hg : w.grownBy w' (some q)) (hq : BlkT w q t cs) : SameBut t w w' := fun b u cur hb hne => (hg.block b (Array.getElem?_eq_some_iff.1 hb).1 (fun e => by
  injection e with e
  subst e
  have hq' : w.heap[b]? = some (.cells _ t (0, 0)) := hq
  rw [hb] at hq'
  injection hq' with hq'
  injection hq' with _ hq'
  exact hne hq')).trans hb
theorem turn_of_map {w w' : World} {q : Nat} (hg : w.grownBy w' (some q)) (hq : ∃ es clock, w.heap[q]? = some (.map es clock)) : Turn w w' := ⟨some q, hg, fun r e cur t fr h => by
  injection e with e
  subst e
  obtain ⟨es, clock, hm⟩ := hq
  rw [hm] at h
  cases h⟩
theorem cells_ne_map {w : World} {q b : Nat} {t : TypeId} {cs : List Value} (hq : BlkT w q t cs) (hb : ∃ es clock, w.heap[b]? = some (.map es clock)) : ¬ b = q := fun e => by
  subst e
  obtain ⟨es, clock, hm⟩ := hb
  have hq' : w.heap[b]? = some (.cells _ t (0, 0)) := hq
  rw [hm] at hq'
  cases hq'
theorem BagsAt.map {w : World} {F : Nat → Prop} {bm N : Nat} {f : Int → Int → List Pkt} (h : BagsAt w F bm N f) : ∃ es clock, w.heap[bm]? = some (.map es clock) := by
  obtain ⟨sl, ⟨D, ⟨es, clock, hb, _⟩, _⟩, _⟩ := h
  exact ⟨es, clock, hb⟩

/-- What Part answers, and the sides then. -/
def PartF (nodes : Int) (S : Int → Bool) (l : List Int) (E : Int) (S' : Int → Bool) : Prop := ((∃ v ∈ l, ¬ (1 ≤ v ∧ v ≤ nodes)) ∧ E = 31 ∧ S' = S) ∨ ((∀ v ∈ l, 1 ≤ v ∧ v ≤ nodes) ∧ E = 0 ∧ S' = fun i => decide (i ∈ l))
def PartIs (w w' : World) (F : Nat → Prop) (g : Nat) (nodes : Int) (N : Nat) (f : Int → Int → List Pkt) (S : Int → Bool) (l : List Int) (e : Ending) : Prop := Beside F w w' ∧
  ∃ (E : Int) (S' : Int → Bool), e = .returned (.int .i64 E) ∧ PartF nodes S l E S' ∧ NetIs w' (grow F w w') g nodes (max N l.length) f S'

set_option maxHeartbeats 1600000 in
theorem part_any (w : World) (F : Nat → Prop) (g : Nat) (nodes : Int) (N : Nat) (f : Int → Int → List Pkt) (S : Int → Bool) (A : Option Addr) (n c : Nat) (l : List Int) (h : NetIs w F g nodes N f S) (hF : ∀ b, F b → b < w.heap.size) (hn : nodes ≤ 7) (hs : SlA w 1 A n (nums .i64 l)) (hnl : n ≤ 140737488355328) :
    Calls Try.prog 14 #[.pointer (some ⟨g, 0, none⟩), .slice A n c] w fun e w' => PartIs w w' F g nodes N f S l e := by
  have hln := hs.len
  subst hln
  have H := Lib.hid h
  have HS := Lib.hid hs
  clear h hs
  have hmm := @run_makeMap Try.prog
  go_enter Try.func14, Try.ntmps14
  go_wp2_with fail
  refine name_world (fun w1 hw1 => ?_)
  have hb1 : Below w.heap.size w w1 := by rw [hw1]; exact (by (repeat first | refine Below.setCell ?_ (by first | omega | (dsimp only; omega) | (simp only [heap_drew, World.size_alloc, Gz.size_setCell]; omega)) _ | refine Below.alloc ?_ (by first | omega | (dsimp only; omega) | (simp only [heap_drew, World.size_alloc, Gz.size_setCell]; omega)) _ | refine Below.drew ?_); exact Below.refl _ _)
  have as1 : AsideAt w1 w.heap.size 0 (fun _ => false) := by rw [hw1]; exact aside_made w
  clear hw1 hmm
  go_loopw [11] (fun s11 wr => ∃ i : Nat, s11 = .int .i64 i ∧ i ≤ l.length ∧ (∀ v ∈ l.take i, 1 ≤ v ∧ v ≤ nodes) ∧ AsideAt wr w.heap.size i (fun j => decide (j ∈ l.take i)) ∧ Below w.heap.size w wr) (fun s11 _ => (l.length - RowKit.intOf s11).toNat)
  case atStart => exact ⟨0, rfl, Nat.zero_le _, fun v hv => (by simp at hv), by simpa using as1, hb1⟩
  case round =>
    clear as1 hb1
    obtain ⟨i, rfl, hi, hall, has, hb⟩ := hrel
    by_cases hlt : i < l.length
    · have q1 : (i : Int) < (l.length : Int) := by omega
      obtain ⟨ad, rfl⟩ : ∃ ad, A = some ad := by
        cases A with
        | none => have := HS.out.2.1 rfl; omega
        | some ad => exact ⟨ad, rfl⟩
      have ce := (HS.out.below hb).cell hlt
      have HNW := Lib.hid (H.out.below hb)
      have hget : l[i]? = some (l.getD i 0) := by simp [hlt]
      have htk : l.take (i + 1) = l.take i ++ [l.getD i 0] := by rw [List.take_add_one, hget]; rfl
      obtain ⟨v, hv⟩ : ∃ v, v = l.getD i 0 := ⟨_, rfl⟩
      rw [← hv] at ce htk
      have hvm : v ∈ l := by rw [hv]; exact getD_mem _ _ hlt
      have HA := Lib.hid has
      have HALL := Lib.hid hall
      have HTK := Lib.hid htk
      have HVM := Lib.hid hvm
      clear has hall htk hget hv hvm
      go_wp2_with fail
      refine (has_any wr F g nodes N f S v HNW.out).mono ?_
      rintro e w2 ⟨rfl, hb2⟩
      have hb2' := hb.trans (hb2.mono hb.size)
      by_cases hok : 1 ≤ v ∧ v ≤ nodes
      · have e1 : (decide (1 ≤ v) && decide (v ≤ nodes)) = true := by simp; omega
        rw [e1]
        have hsm : Small v := ⟨by omega, by omega⟩
        have HOK := Lib.hid hok
        have ha2 : AsideAt w2 w.heap.size i (fun j => decide (j ∈ l.take i)) := HA.out.kept (below_grownBy hb2) (by simp)
        obtain ⟨w3, hrun3, hg3, ha3⟩ := aside_update ha2 (by simp only [maxLen]; omega) (small_wf hsm)
        have HA3 := Lib.hid ha3
        clear ha3 ha2 hok hsm e1
        go_wp2
        go_roundw
        case rel =>
          refine ⟨i + 1, by go_num, by omega, ?_, ?_, below_grown hb2' hg3 (Nat.le_refl _) (by have := HA.out.lt; have := hb2.size; omega)⟩
          · rw [HTK.out]
            intro u hu
            rcases List.mem_append.1 hu with hu | hu
            · exact HALL.out u hu
            · simp at hu
              subst hu
              exact HOK.out
          · have e2 : (fun j => decide (j ∈ l.take (i + 1))) = fun j => decide (j ∈ l.take i) || decide (j = v) := by
              funext j
              rw [HTK.out]
              simp
            rw [e2]
            exact HA3.out
        case measure => simp [RowKit.intOf]; omega
      · have e1 : (decide (1 ≤ v) && decide (v ≤ nodes)) = false := by simp; omega
        rw [e1]
        have HOK := Lib.hid hok
        clear hok
        go_wp2
        go_ret
        exact ⟨Beside.of_below hb2', 31, S, rfl, .inl ⟨⟨v, HVM.out, HOK.out⟩, rfl, rfl⟩, (H.out.below hb2').mono (fun q hq => .inl hq) (Nat.le_max_left _ _)⟩
    · obtain rfl : i = l.length := by omega
      have q1 : ¬ ((l.length : Int) < (l.length : Int)) := by omega
      rw [List.take_length] at hall has
      have HA := Lib.hid has
      have HALL := Lib.hid hall
      obtain ⟨bm, am, kg, hFg, hFa, hne, hbags, hside⟩ := (Lib.hid (H.out.below hb)).out
      have HB := Lib.hid hbags
      clear has hall hbags hside
      have kgr : BlkT wr g 58 [.int .i64 nodes, .map (some bm), .map (some am)] := kg
      go_wp2_with (with_reducible refine stop_store ?_)
      refine hide (wpList_store_partT rfl 56 (.tmp 25) (.tmp 23) rfl g 2 58 _ [.map (some w.heap.size)] rfl rfl rfl _ kgr (by simp) (by kernel_rfl) rfl _ rfl ?_)
      intro w5 kg5 hg5 hz5
      simp only [List.take_succ_cons, List.take_zero, List.drop_succ_cons, List.drop_zero, List.cons_append, List.nil_append, List.length_cons, List.length_nil] at kg5
      go_wp2
      go_ret
      have hlt1 := HA.out.lt
      have hbm := (HB.out.map)
      have hbl : bm < w.heap.size := hF bm (by obtain ⟨_, _, hf, _⟩ := HB.out; exact hf)
      have hgl : g < w.heap.size := hF g hFg
      refine ⟨(Beside.of_below hb).trans (Beside.of_grown hg5 (fun r e => by injection e with e; subst e; exact .inl (.inl hFg))), 0, _, rfl, .inr ⟨HALL.out, rfl, rfl⟩, bm, w.heap.size, kg5, .inl hFg, .inr ⟨Nat.le_refl _, by omega⟩, by omega, ?_, ?_⟩
      · exact ((HB.out.same hg5 (cells_ne_map kgr hbm) (same_of_cells hg5 kgr) (by decide) (by decide)).mono (fun q hq => .inl hq)).raise (Nat.le_max_left _ _)
      · exact (HA.out.kept hg5 (by simp; omega)).mono (Nat.le_max_right _ _)
theorem heal_any (w : World) (F : Nat → Prop) (g : Nat) (nodes : Int) (N : Nat) (f : Int → Int → List Pkt) (S : Int → Bool) (h : NetIs w F g nodes N f S) (hF : ∀ b, F b → b < w.heap.size) :
    Calls Try.prog 16 #[.pointer (some ⟨g, 0, none⟩)] w fun e w' => (e = .returned (.tuple #[]) ∧ Beside F w w' ∧ Turn w w') ∧ NetIs w' (grow F w w') g nodes N f (fun _ => false) := by
  obtain ⟨bm, am, kg, hFg, hFa, hne, hbags, hside⟩ := h
  have cg := kg.blk.cell 2
  obtain ⟨w', hrun, hg, has⟩ := clear_aside hside
  go_enter Try.func16, Try.ntmps16
  go_wp2
  have hlt := hside.lt
  have hz := hg.size
  refine bodyPost_end (v := .tuple #[]) ?_ rfl ⟨⟨rfl, Beside.of_grown hg (fun r e => by injection e with e; subst e; exact .inl hFa), turn_of_map hg hside.map⟩, bm, am, (hg.block g (Array.getElem?_eq_some_iff.1 (show w.heap[g]? = some (.cells _ 58 (0, 0)) from kg)).1 (fun e => by injection e with e; exact cells_ne_map kg hside.map e.symm)).trans kg, .inl hFg, .inl hFa, hne, ?_, has.mono (Nat.zero_le _)⟩
  · simp [results, Try.results16, go_sem]
  · exact (hbags.turn hg (fun e => hne e.symm) (turn_of_map hg hside.map)).mono (fun q hq => .inl hq)
end Go.Proofs.Ytjihiohmemmabaa

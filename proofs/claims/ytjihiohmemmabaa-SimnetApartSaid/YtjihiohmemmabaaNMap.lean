/- The net's map of bags: keys are links, values are slices, told by what it holds at each link. -/
import Derived.Maps.Views
import Derived.Maps.RangeWalk
import Derived.WideKeyEntry
import Derived.DeepKeys4
import Derived.Test.YtjihiohmemmabaaRows
import Derived.Test.YtjihiohmemmabaaBase
import Derived.Test.YtjihiohmemmabaaPhase
import Derived.Test.YtjihiohmemmabaaStore
namespace Go.Proofs.Ytjihiohmemmabaa
open Go.RowKit Go.Gz Go.Maps Go.ChangeMaps Go.MapKept
open Go.WideElems (Fit rd rg)

abbrev linkT : TypeId := 60
abbrev bagsT : TypeId := 55
def linkV (i j : Int) : Value := .agg #[.int .i64 i, .int .i64 j]
def nilV : Value := .slice none 0 0
theorem laidOk : laidOutB Try.prog = true := by kernel_rfl
theorem linkLaw : WideMaps.KeyLaw Try.prog linkT := deep_law_laid laidOk (m := 2) (by omega) (of_decide_eq_true (by kernel_rfl)) (by kernel_rfl) (by kernel_rfl)
theorem linkKeyed : Keyed Try.prog linkT := Keyed.of_law linkLaw
def linkL (i j : Int) : Lit := .string (keyBytes [.int .i64 i, .int .i64 j])
def Small (i : Int) : Prop := 0 ≤ i ∧ i ≤ 7
def isKey (o : Option Lit) (s : List UInt8) : Bool := match o with | some (.string t) => t == s | _ => false
theorem isKey_eq {o : Option Lit} {s : List UInt8} (h : isKey o s = true) : o = some (.string s) := by
  unfold isKey at h
  split at h
  · rw [eq_of_beq h]
  · cases h
theorem keyLink_all : ((List.range 8).all fun i => (List.range 8).all fun j => isKey (keyOf Try.prog linkT (.agg #[.int .i64 (i : Nat), .int .i64 (j : Nat)])) (keyBytes [.int .i64 (i : Nat), .int .i64 (j : Nat)])) = true := by kernel_rfl
theorem keyLink {i j : Int} (hi : Small i) (hj : Small j) : keyOf Try.prog linkT (linkV i j) = some (linkL i j) := by
  have h := List.all_eq_true.1 (List.all_eq_true.1 keyLink_all i.toNat (List.mem_range.2 (by have := hi.1; have := hi.2; omega))) j.toNat (List.mem_range.2 (by have := hj.1; have := hj.2; omega))
  rw [Int.toNat_of_nonneg hi.1, Int.toNat_of_nonneg hj.1] at h
  exact isKey_eq h
theorem linkL_inj {i j i' j' : Int} (hi : Small i) (hj : Small j) (hi' : Small i') (hj' : Small j') (h : linkL i j = linkL i' j') : i = i' ∧ j = j' := by
  have h1 := keyLink hi hj
  have h2 := keyLink hi' hj'
  rw [h] at h1
  have := linkKeyed.inj h1 h2
  simpa [linkV] using this
theorem linkL_key {i j : Int} (hi : Small i) (hj : Small j) : WideAt.IsKeyLit (linkL i j) := linkKeyed.key (keyLink hi hj)

/-- A value, held as it is. -/
def heldR (v : Value) : Option (DataW Value × List MemPlace) := some (.held v, [])
def upd (sl : Int → Int → Value) (i j : Int) (v : Value) : Int → Int → Value := fun a b => if a = i ∧ b = j then v else sl a b

/-- The datum holds at each link what 'sl' says. -/
def Tells (D : DataW Value) (sl : Int → Int → Value) : Prop :=
  IsMap D ∧ (∀ i j, Small i → Small j → D.atKey (linkL i j) (.held nilV) = .held (sl i j)) ∧ ∀ k, has D k = true → ∃ i j, Small i ∧ Small j ∧ k = linkL i j
/-- Block b of the world is a map that holds at each link what 'sl' says. -/
def BagMap (w : World) (b N : Nat) (sl : Int → Int → Value) : Prop := ∃ D : DataW Value, w.ownsMap Try.prog linkT heldR b N D ∧ Tells D sl

theorem Tells.put {D : DataW Value} {sl : Int → Int → Value} (h : Tells D sl) {i j : Int} (hi : Small i) (hj : Small j) (v : Value) : Tells (D.put (linkL i j) (.held v)) (upd sl i j v) := by
  obtain ⟨h1, h2, h3⟩ := h
  refine ⟨?_, fun a b ha hb => ?_, fun k hk => ?_⟩
  · obtain ⟨es, rfl⟩ := h1
    exact ⟨_, rfl⟩
  · unfold upd
    by_cases e : a = i ∧ b = j
    · obtain ⟨rfl, rfl⟩ := e
      rw [if_pos ⟨rfl, rfl⟩]
      exact atKey_put_same h1 (linkL_key hi hj) _ _
    · rw [if_neg e, atKey_put_other (fun e' => e (linkL_inj ha hb hi hj e')) _ _]
      exact h2 a b ha hb
  · by_cases e : k = linkL i j
    · exact ⟨i, j, hi, hj, e⟩
    · refine h3 k ?_
      by_cases hh : has D k = true
      · exact hh
      · have h4 : has (D.put (linkL i j) (.held v)) k = has D k := by
          refine Bool.eq_iff_iff.2 ⟨fun h5 => ?_, fun h5 => absurd h5 hh⟩
          by_cases h6 : has D k = true
          · exact h6
          · exfalso
            have h7 : ∀ z, (D.put (linkL i j) (.held v)).atKey k z = z := fun z => by
              rw [atKey_put_other e]
              exact atKey_of_not_has (by simpa using h6) z
            rw [has_false_of_atKey h7] at h5
            cases h5
        rw [h4] at hk
        exact hk

theorem BagMap.kept {w w' : World} {b N : Nat} {sl : Int → Int → Value} {row : Option Nat} (h : BagMap w b N sl) (hg : w.grownBy w' row) (hne : some b ≠ row) : BagMap w' b N sl := by
  obtain ⟨D, h1, h2⟩ := h
  exact ⟨D, h1.kept hg hne, h2⟩
theorem BagMap.mono {w : World} {b N N' : Nat} {sl : Int → Int → Value} (h : BagMap w b N sl) (hn : N ≤ N') : BagMap w b N' sl := by
  obtain ⟨D, h1, h2⟩ := h
  exact ⟨D, h1.mono hn, h2⟩
theorem BagMap.lt {w : World} {b N : Nat} {sl : Int → Int → Value} (h : BagMap w b N sl) : b < w.heap.size := by
  obtain ⟨D, h1, _⟩ := h
  exact h1.lt
theorem bag_made (w : World) : BagMap (w.alloc (.map #[] 0)) w.heap.size 0 (fun _ _ => nilV) :=
  ⟨.map [], World.ownsMap_made w _ _ _, ⟨[], rfl⟩, fun _ _ _ _ => rfl, fun k hk => (by simp [has] at hk)⟩

theorem zeroBag (w : World) : (zeroValue 40).run Try.prog w = .ok nilV w := Try.zeroValue40 w
theorem bag_lookup {w : World} {b N : Nat} {sl : Int → Int → Value} (h : BagMap w b N sl) {i j : Int} (hi : Small i) (hj : Small j) : (Instr.lookup bagsT (.map (some b)) (linkV i j) false).run Try.prog w = .ok (sl i j) w := by
  obtain ⟨D, h1, h2⟩ := h
  obtain ⟨v, ps, hrun, hv⟩ := h1.lookup linkKeyed Try.underlying55 (zeroBag w) (zd := .held nilV) (zp := []) rfl (keyLink hi hj)
  rw [h2.2.1 i j hi hj] at hv
  simp only [heldR, Option.some.injEq, Prod.mk.injEq, DataW.held.injEq] at hv
  rw [← hv.1]
  exact hrun
theorem bag_update {w : World} {b N : Nat} {sl : Int → Int → Value} (h : BagMap w b N sl) (hN : N < maxLen) {i j : Int} (hi : Small i) (hj : Small j) (v : Value) :
    ∃ w', (Instr.mapUpdate bagsT (.map (some b)) (linkV i j) v).run Try.prog w = .ok () w' ∧ w.grownBy w' (some b) ∧ BagMap w' b (N + 1) (upd sl i j v) := by
  obtain ⟨D, h1, h2⟩ := h
  obtain ⟨w', hrun, h3, hg⟩ := h1.update linkKeyed Try.underlying55 hN (keyLink hi hj) (d := .held v) (ps := []) rfl
  exact ⟨w', hrun, hg, _, h3, h2.put hi hj v⟩
theorem setBlock_inj {w : World} {b : Nat} {o o' : Obj} (hb : b < w.heap.size) (h : setBlock w b o = setBlock w b o') : o = o' := by
  have h1 : (setBlock w b o).heap[b]? = (setBlock w b o').heap[b]? := by rw [h]
  simpa [setBlock, hb] using h1
/-- 'm[l] = append(m[l], ..)': the entry is taken, and stored into later. -/
theorem bag_entry {w : World} {b N : Nat} {sl : Int → Int → Value} (h : BagMap w b N sl) (hN : N < maxLen) {i j : Int} (hi : Small i) (hj : Small j) :
    ∃ (st : Nat) (w1 : World), (Instr.mapEntry bagsT (.map (some b)) (linkV i j)).run Try.prog w = .ok (.tuple #[sl i j, goInt st]) w1 ∧ w.grownBy w1 (some b) ∧ w1.heap.size = w.heap.size ∧ (∃ es clock, w1.heap[b]? = some (.map es clock)) ∧
      ∀ (w2 : World) (v : Value), w2.heap[b]? = w1.heap[b]? → ∃ w3, (Instr.entryStore bagsT (.map (some b)) (goInt st) v).run Try.prog w2 = .ok () w3 ∧ w2.grownBy w3 (some b) ∧ w3.heap.size = w2.heap.size ∧ BagMap w3 b (N + 1) (upd sl i j v) := by
  obtain ⟨D, h1, h2⟩ := h
  have hlt := h1.lt
  obtain ⟨es, clock, hb, F, hs, rfl⟩ := h1
  obtain ⟨v0, st, es1, clock1, hrun, hv0, hst⟩ := Go.WideElems.entry_then_store linkLaw Try.underlying55 (z := nilV) (fun u => zeroBag u) hb F (keyLink hi hj)
  have hv : v0 = sl i j := by
    have h3 := h2.2.1 i j hi hj
    rcases Maps.fit_look false linkKeyed Try.underlying55 (zeroBag w) hb F (keyLink hi hj) with ⟨_, hno, hat⟩ | ⟨e0, y, he, hk, _, hR, hat, _⟩
    · rw [hat] at h3
      rcases hv0 with ⟨e1, he1, hk1, _⟩ | ⟨_, rfl⟩
      · exact absurd hk1 (hno e1 he1)
      · injection h3
    · rw [hat] at h3
      rcases hv0 with ⟨e1, he1, hk1, rfl⟩ | ⟨hno, _⟩
      · have hst2 := (stamped_iff es clock).1 F.stamped
        obtain rfl := entry_eq_of_key hst2.2.2 he he1 (hk.trans hk1.symm)
        simp only [heldR, Option.some.injEq] at hR
        rw [← hR] at h3
        injection h3
      · exact absurd hk (hno e0 he)
  subst hv
  have hgr : ∀ (u : World) (o : Obj), b < u.heap.size → u.grownBy (setBlock u b o) (some b) := fun u o hu => ⟨rfl, rfl, rfl, by simp [setBlock], fun k _ hk => by simp only [setBlock]; rw [Array.getElem?_setIfInBounds_ne (fun e => hk (by rw [e]))]⟩
  refine ⟨st, _, hrun, hgr w _ hlt, by simp [setBlock], ⟨es1, clock1, by simp [setBlock, hlt]⟩, fun w2 v hw2 => ?_⟩
  have hw1 : (setBlock w b (.map es1 clock1)).heap[b]? = some (.map es1 clock1) := by simp [setBlock, hlt]
  rw [hw1] at hw2
  have hlt2 : b < w2.heap.size := (Array.getElem?_eq_some_iff.1 hw2).1
  obtain ⟨es', clock', hrun2, hupd⟩ := hst w2 v hw2
  obtain ⟨es2, clock2, hrun3, F', hput, _⟩ := Maps.fit_store (R' := heldR) linkKeyed Try.underlying55 hb F (Nat.lt_of_le_of_lt hs hN) (fun _ _ _ _ hz => hz) (keyLink hi hj) (val := v) (yv := (.held v, [])) rfl
  rw [hupd] at hrun3
  have hse : setBlock w b (.map es' clock') = setBlock w b (.map es2 clock2) := by injection hrun3
  have hoo := setBlock_inj hlt hse
  simp only [Obj.map.injEq] at hoo
  obtain ⟨rfl, rfl⟩ := hoo
  refine ⟨_, hrun2, hgr w2 _ hlt2, by simp [setBlock], _, ⟨es', clock', by simp [setBlock, hlt2], F', ?_, rfl⟩, ?_⟩
  · have e1 : es'.size = ((es'.toList.map (rg Try.prog linkT heldR)).foldr DataW.insert []).length := by rw [length_sorted]; simp
    rw [e1, hput]
    have h5 := List.length_filter_le (notKey (linkL i j)) ((es.toList.map (rg Try.prog linkT heldR)).foldr DataW.insert [])
    simp only [putKey, length_insert]
    rw [length_sorted] at h5
    simp only [List.length_map, Array.length_toList] at h5
    omega
  · have h6 := h2.put hi hj v
    rw [hput]
    exact h6
end Go.Proofs.Ytjihiohmemmabaa

/- Contract of spoil: it writes into the entries' own memory alone. -/
import Derived.Test.YtglabhfmeinogaaLRead
namespace Go.Gz
open Go.RowKit
/-- The same value, or another number of the same kind. -/
def Kin (v v' : Value) : Prop := v' = v ∨ ∃ k a b, v = .int k a ∧ v' = .int k b
/-- Every cell holds what it held, or another number of its kind. -/
def Keeps (w0 w : World) : Prop := ∀ p v, w0.cell? p = some v → (∃ v', w.cell? p = some v' ∧ Kin v v') ∧ w.frozen? p = w0.frozen? p
theorem Keeps.refl (w : World) : Keeps w w := fun _ v h => ⟨⟨v, h, .inl rfl⟩, rfl⟩
theorem Keeps.set {w0 w : World} {p : Addr} {k : IntKind} {a : Int} (h : Keeps w0 w) (hp : w.cell? p = some (.int k a)) (b : Int) : Keeps w0 (w.setCell p (.int k b)) := fun q v hq => by
  obtain ⟨⟨v', h1, h2⟩, h3⟩ := h q v hq
  refine ⟨?_, by rw [World.frozen?_setCell]; exact h3⟩
  by_cases e : p = q
  · subst e
    refine ⟨.int k b, World.cell?_setCell_same _ _ _ hp, .inr ?_⟩
    rw [hp] at h1
    have h1 := Option.some.inj h1
    subst h1
    rcases h2 with h2 | ⟨k', a', b', h4, h5⟩
    · exact ⟨k, a, b, h2.symm, rfl⟩
    · injection h5 with h5 h6
      subst h5
      exact ⟨k, a', b, h4, rfl⟩
  · exact ⟨v', (World.cell?_setCell_other _ _ _ _ e).trans h1, h2⟩
theorem Keeps.int {w0 w : World} {p : Addr} {k : IntKind} {a : Int} (h : Keeps w0 w) (hp : w0.cell? p = some (.int k a)) : ∃ b, w.cell? p = some (.int k b) := by
  obtain ⟨⟨v', h1, h2⟩, _⟩ := h p _ hp
  rcases h2 with rfl | ⟨k', a', b', h4, rfl⟩
  · exact ⟨a, h1⟩
  · injection h4 with h4 _
    subst h4
    exact ⟨b', h1⟩
theorem Keeps.slice {w0 w : World} {p : Addr} {A : Option Addr} {n c : Nat} (h : Keeps w0 w) (hp : w0.cell? p = some (.slice A n c)) : w.cell? p = some (.slice A n c) := by
  obtain ⟨⟨v', h1, h2⟩, _⟩ := h p _ hp
  rcases h2 with rfl | ⟨k', a', b', h4, rfl⟩
  · exact h1
  · cases h4
theorem Own.frozen {w : World} {base : Nat} {e : TypeId} {size n c : Nat} {A : Option Addr} {xs : List Value} (h : Own w base e size A n c xs) {g : Nat} (hA : A = some ⟨g, 0, none⟩) (hn : 0 < n) (i : Nat) : w.frozen? ⟨g, i, none⟩ = false := by
  rcases h with ⟨h0, _⟩ | h
  · omega
  · rcases h.2 with ⟨_, h0⟩ | ⟨g', cap, cur, hv, hbg, hgg, _⟩
    · omega
    · rw [hA] at hv
      injection hv with hv
      injection hv with hv
      injection hv with hv
      subst hv
      simp [World.frozen?, hgg]
end Go.Gz
namespace Go.Proofs.Ytglabhfmeinogaa
open Go.RowKit Go.Gz
attribute [local go_sem] World.cell?_alloc_some frozen?_alloc_some

/-- An own list of numbers, as cells that may be written. -/
theorem own_nums {w : World} {base : Nat} {e : TypeId} {n c : Nat} {A : Option Addr} {k : IntKind} {zs : List Int} (h : Own w base e 1 A n c (nums k zs)) (hn : 0 < n) :
    ∃ g, A = some ⟨g, 0, none⟩ ∧ base ≤ g ∧ ∀ wr, Keeps w wr → ∀ i, i < n → (∃ b, wr.cell? ⟨g, i, none⟩ = some (.int k b)) ∧ wr.frozen? ⟨g, i, none⟩ = false := by
  obtain ⟨g, hA, hb, _⟩ := h.addr hn
  refine ⟨g, hA, hb, fun wr hk i hi => ?_⟩
  subst hA
  have hl := h.sl.len
  have hc := h.sl.cell (j := i) (by omega)
  rw [Addr.add_lit, Nat.zero_add] at hc
  exact ⟨hk.int hc, by rw [(hk _ _ hc).2]; exact h.frozen rfl hn i⟩

set_option maxHeartbeats 4000000 in
theorem spoil_any (O : Option Addr) (n c base : Nat) (xs : List Ent) (w : World) (h : OwnEs w base O n c xs) (hf : ∀ x ∈ xs, Fits x) (hn : n ≤ 140737488355328) :
    Calls Try.prog 23 #[.slice O n c] w fun e w' => e = .returned (.tuple #[]) ∧ Below base w w' := by
  have H := Lib.hid h
  have HF := Lib.hid hf
  have hxl := h.is.len
  clear h hf
  go_enter Try.func23, Try.ntmps23
  go_wp2_with fail
  go_loopw [2] (fun s2 wr => ∃ j : Nat, s2 = .int .i64 j ∧ j ≤ n ∧ Keeps w wr ∧ Below base w wr) (fun s2 _ => (n - intOf s2).toNat)
  case atStart => exact ⟨0, rfl, by omega, Keeps.refl w, Below.refl _ _⟩
  case round =>
    obtain ⟨j, rfl, hj, hk, hbr⟩ := hrel
    have HK := Lib.hid hk
    clear hk
    by_cases hlt : j < n
    · have b1 : (j : Int) < (n : Int) := by omega
      obtain ⟨zs, hz1, hz2, hz3, hz4⟩ := H.out
      obtain ⟨g, rfl, hg, _⟩ := hz3.addr (by omega)
      have hjz : j < zs.length := by omega
      obtain ⟨D, dc, V, vc, L, lc, e, ho1, ho2⟩ := hz4 (zs[j]) (List.getElem_mem hjz)
      obtain ⟨x, hx⟩ : ∃ x, x = (zs[j]).2 := ⟨_, rfl⟩
      rw [← hx] at e ho1 ho2
      have cm := fun r hr => flat_cell (fun z : List Value × Ent => z.1) hz3.sl (fun z hz => (hz4 z hz).len) hjz r hr
      rw [e] at cm
      have m0 := cm 0 (by omega)
      have m3 := cm 3 (by omega)
      have m4 := cm 4 (by omega)
      rw [Addr.add_lit] at m0 m3 m4
      simp only [List.getElem?_cons_zero, List.getElem?_cons_succ, Nat.add_zero, Nat.zero_add] at m0 m3 m4
      have hfr := fun i => hz3.frozen rfl (show 0 < n by omega) i
      have HM0 := Lib.hid m0
      have HM3 := Lib.hid m3
      have HM4 := Lib.hid m4
      have HFR := Lib.hid hfr
      have HD := Lib.hid ho1
      have HV := Lib.hid ho2.1
      obtain ⟨dn, hdn⟩ : ∃ dn, dn = x.2.2.2.1.length := ⟨_, rfl⟩
      obtain ⟨vn, hvn⟩ : ∃ vn, vn = x.2.2.2.2.1.length := ⟨_, rfl⟩
      rw [← hdn] at HM3 HD
      rw [← hvn] at HM4 HV
      have hfx := HF.out x (by rw [hx, ← hz1]; exact List.mem_map_of_mem (List.getElem_mem hjz))
      have hdl : dn ≤ 140737488355328 := by rw [hdn]; exact hfx.1
      have hvl : vn ≤ 140737488355328 := by have := hfx.2.1; omega
      clear cm m0 m3 m4 hfr ho1 ho2 e hdn hvn hfx hx
      obtain ⟨v0, hv0⟩ := HK.out.int HM0.out
      have hv1 : wr.frozen? ⟨g, j * 6, none⟩ = false := by rw [(HK.out _ _ HM0.out).2]; exact HFR.out _
      go_wp2_with fail
      refine name_world (fun w2 hw2 => ?_)
      have HK2 := Lib.hid (show Keeps w w2 by rw [hw2]; exact HK.out.set hv0 999)
      have hb2 : Below base w w2 := by rw [hw2]; exact hbr.setCell (by dsimp only; omega) _
      clear hw2 hv0 hv1
      go_loopw [3] (fun s3 wr => ∃ k : Nat, s3 = .int .i64 k ∧ k ≤ dn ∧ Keeps w wr ∧ Below base w wr) (fun s3 _ => (dn - intOf s3).toNat)
      case atStart => exact ⟨0, rfl, by omega, HK2.out, hb2⟩
      case round =>
        obtain ⟨k, rfl, hkn, hk3, hb3⟩ := hrel
        have HK3 := Lib.hid hk3
        clear hk3
        have q3 := HK3.out.slice HM3.out
        by_cases hkl : k < dn
        · have b2 : (k : Int) < (dn : Int) := by omega
          obtain ⟨gd, rfl, hgd, hrd⟩ := own_nums HD.out (by omega)
          obtain ⟨⟨v, hv⟩, hvf⟩ := hrd _ HK3.out k hkl
          clear hrd
          go_wp2_with fail
          exact ⟨⟨k + 1, by go_num, by omega, HK3.out.set hv _, hb3.setCell (by dsimp only; omega) _⟩, by simp [intOf]; omega⟩
        · have b2 : ¬ (k : Int) < (dn : Int) := by omega
          go_wp2_with fail
          clear q3
          go_loopw [4] (fun s4 wr => ∃ k : Nat, s4 = .int .i64 k ∧ k ≤ vn ∧ Keeps w wr ∧ Below base w wr) (fun s4 _ => (vn - intOf s4).toNat)
          case atStart => exact ⟨0, rfl, by omega, HK3.out, hb3⟩
          case round =>
            obtain ⟨m, rfl, hmn, hk5, hb5⟩ := hrel
            have HK5 := Lib.hid hk5
            clear hk5
            have q4 := HK5.out.slice HM4.out
            by_cases hml : m < vn
            · have b3 : (m : Int) < (vn : Int) := by omega
              obtain ⟨gv, rfl, hgv, hrv⟩ := own_nums HV.out (by omega)
              obtain ⟨⟨v, hv⟩, hvf⟩ := hrv _ HK5.out m hml
              clear hrv
              go_wp2_with fail
              exact ⟨⟨m + 1, by go_num, by omega, HK5.out.set hv _, hb5.setCell (by dsimp only; omega) _⟩, by simp [intOf]; omega⟩
            · have b3 : ¬ (m : Int) < (vn : Int) := by omega
              go_wp2_with fail
              clear q4
              go_roundw
              case rel => exact ⟨j + 1, by go_num, by omega, HK5.out, hb5⟩
              case measure => simp [intOf]; omega
    · obtain rfl : j = n := by omega
      have b1 : ¬ (j : Int) < (j : Int) := by omega
      go_wp2
      refine bodyPost_end (v := .tuple #[]) ?_ rfl ⟨rfl, hbr⟩
      simp [results, Try.results23, go_sem]
end Go.Proofs.Ytglabhfmeinogaa

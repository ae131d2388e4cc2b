/- The calls of a step, on both nets. -/
import Derived.Test.YtjihiohmemmabaaNRefD
import Derived.Test.YtjihiohmemmabaaNRefB
import Derived.Test.YtjihiohmemmabaaNDelZ
namespace Go.Proofs.Ytjihiohmemmabaa
open Go.RowKit Go.Gz
attribute [local go_sem] World.cell?_alloc_some frozen?_alloc_some

abbrev Bags := Int → Int → List Pkt
abbrev Sides := Int → Bool
section
variable {nodes : Int} {f f' f2 : Bags} {S S' S2 : Sides} {x y : Pkt} {e e2 : Ending} {a b k E E2 : Int} {l : List Int}
theorem SendF.det (h : SendF nodes f S x e f') (h2 : SendF nodes f S x e2 f2) : e2 = e ∧ f2 = f' := by
  unfold SendF at h h2
  rcases h with ⟨a1, a2, a3⟩ | ⟨a1, a2, a3, a4⟩ | ⟨a1, a2, a3, a4, a5⟩ | ⟨a1, a2, a3, a4, a5⟩ <;> rcases h2 with ⟨b1, b2, b3⟩ | ⟨b1, b2, b3, b4⟩ | ⟨b1, b2, b3, b4, b5⟩ | ⟨b1, b2, b3, b4, b5⟩
  all_goals first
    | exact absurd a1 b1
    | exact absurd b1 a1
    | exact absurd b2 a2
    | exact absurd a2 b2
    | (exfalso; omega)
    | (constructor <;> simp_all)
theorem SendF.int (h : SendF nodes f S x e f') : ∃ E : Int, e = .returned (.int .i64 E) := by
  rcases h with ⟨_, a2, _⟩ | ⟨_, _, a3, _⟩ | ⟨_, _, _, a4, _⟩ | ⟨_, _, _, a4, _⟩ <;> exact ⟨_, by assumption⟩
theorem SendF.sane (h : SendF nodes f S x e f') (hs : Sane nodes f) (hx : x.2.2.2.length ≤ 140737488355328) : Sane nodes f' := by
  rcases h with ⟨_, _, rfl⟩ | ⟨_, _, _, rfl⟩ | ⟨_, _, _, _, rfl⟩ | ⟨h1, _, h3, _, rfl⟩
  · exact hs
  · exact hs
  · exact hs
  · exact hs.put h1 h3 hx
theorem updF_other {l : List Pkt} {i j p q : Int} (h : ¬ (i = p ∧ j = q)) : updF f i j l p q = f p q := by
  unfold updF
  rw [if_neg (fun e => h ⟨e.1.symm, e.2.symm⟩)]
theorem SendF.other (h : SendF nodes f S x e f') {p q : Int} (hpq : ¬ (x.1 = p ∧ x.2.1 = q)) : f' p q = f p q := by
  rcases h with ⟨_, _, rfl⟩ | ⟨_, _, _, rfl⟩ | ⟨_, _, _, _, rfl⟩ | ⟨h1, _, h3, _, rfl⟩
  · rfl
  · rfl
  · rfl
  · exact updF_other hpq
def zeroPkt : Pkt := (0, 0, 0, [])
/-- What Deliver tells. -/
def DelV (nodes : Int) (f : Bags) (a b k : Int) (x : Pkt) (E : Int) (f' : Bags) : Prop :=
  (¬ okWay nodes a b ∧ x = zeroPkt ∧ E = 31 ∧ f' = f) ∨ (okWay nodes a b ∧ (k < 0 ∨ (f a b).length ≤ k) ∧ x = zeroPkt ∧ E = 33 ∧ f' = f) ∨
  (okWay nodes a b ∧ ∃ m : Nat, k = m ∧ (f a b)[m]? = some x ∧ E = 0 ∧ f' = updF f a b ((f a b).eraseIdx m))
theorem DelV.det (h : DelV nodes f a b k x E f') (h2 : DelV nodes f a b k y E2 f2) : y = x ∧ E2 = E ∧ f2 = f' := by
  rcases h with ⟨a1, rfl, rfl, rfl⟩ | ⟨a1, a2, rfl, rfl, rfl⟩ | ⟨a1, m, rfl, a3, rfl, rfl⟩ <;> rcases h2 with ⟨b1, rfl, rfl, rfl⟩ | ⟨b1, b2, rfl, rfl, rfl⟩ | ⟨b1, m2, b2, b3, rfl, rfl⟩
  all_goals first
    | exact absurd a1 b1
    | exact absurd b1 a1
    | exact ⟨rfl, rfl, rfl⟩
    | skip
  · have := (List.getElem?_eq_some_iff.1 b3).1; omega
  · have := (List.getElem?_eq_some_iff.1 a3).1; omega
  · obtain rfl : m = m2 := by omega
    rw [a3] at b3
    injection b3 with b3
    exact ⟨b3.symm, rfl, rfl⟩
theorem DelV.sane (h : DelV nodes f a b k x E f') (hs : Sane nodes f) : Sane nodes f' := by
  rcases h with ⟨_, _, _, rfl⟩ | ⟨_, _, _, _, rfl⟩ | ⟨h1, m, _, _, _, rfl⟩
  · exact hs
  · exact hs
  · exact hs.drop h1
theorem DelV.other (h : DelV nodes f a b k x E f') {p q : Int} (hpq : ¬ (a = p ∧ b = q)) : f' p q = f p q := by
  rcases h with ⟨_, _, _, rfl⟩ | ⟨_, _, _, _, rfl⟩ | ⟨h1, m, _, _, _, rfl⟩
  · rfl
  · rfl
  · exact updF_other hpq
theorem DropF.det (h : DropF nodes f a b k E f') (h2 : DropF nodes f a b k E2 f2) : E2 = E ∧ f2 = f' := by
  rcases h with ⟨a1, rfl, rfl⟩ | ⟨a1, a2, rfl, rfl⟩ | ⟨a1, m, rfl, a3, rfl, rfl⟩ <;> rcases h2 with ⟨b1, rfl, rfl⟩ | ⟨b1, b2, rfl, rfl⟩ | ⟨b1, m2, b2, b3, rfl, rfl⟩
  all_goals first
    | exact absurd a1 b1
    | exact absurd b1 a1
    | exact ⟨rfl, rfl⟩
    | (exfalso; omega)
    | skip
  obtain rfl : m = m2 := by omega
  exact ⟨rfl, rfl⟩
theorem DropF.sane (h : DropF nodes f a b k E f') (hs : Sane nodes f) : Sane nodes f' := by
  rcases h with ⟨_, _, rfl⟩ | ⟨_, _, _, rfl⟩ | ⟨h1, m, _, _, _, rfl⟩
  · exact hs
  · exact hs
  · exact hs.drop h1
theorem DropF.other (h : DropF nodes f a b k E f') {p q : Int} (hpq : ¬ (a = p ∧ b = q)) : f' p q = f p q := by
  rcases h with ⟨_, _, rfl⟩ | ⟨_, _, _, rfl⟩ | ⟨h1, m, _, _, _, rfl⟩
  · rfl
  · rfl
  · exact updF_other hpq
theorem DoubF.det (h : DoubF nodes f a b k E f') (h2 : DoubF nodes f a b k E2 f2) : E2 = E ∧ f2 = f' := by
  rcases h with ⟨a1, rfl, rfl⟩ | ⟨a1, a2, rfl, rfl⟩ | ⟨a1, m, x, rfl, a3, a4⟩ <;> rcases h2 with ⟨b1, rfl, rfl⟩ | ⟨b1, b2, rfl, rfl⟩ | ⟨b1, m2, y, b2, b3, b4⟩
  all_goals first
    | exact absurd a1 b1
    | exact absurd b1 a1
    | exact ⟨rfl, rfl⟩
    | skip
  · have := (List.getElem?_eq_some_iff.1 b3).1; omega
  · have := (List.getElem?_eq_some_iff.1 a3).1; omega
  · obtain rfl : m = m2 := by omega
    rw [a3] at b3
    injection b3 with b3
    subst b3
    rcases a4 with ⟨c1, rfl, rfl⟩ | ⟨c1, rfl, rfl⟩ <;> rcases b4 with ⟨d1, rfl, rfl⟩ | ⟨d1, rfl, rfl⟩
    · exact ⟨rfl, rfl⟩
    · omega
    · omega
    · exact ⟨rfl, rfl⟩
theorem DoubF.sane (h : DoubF nodes f a b k E f') (hs : Sane nodes f) : Sane nodes f' := by
  rcases h with ⟨_, _, rfl⟩ | ⟨_, _, _, rfl⟩ | ⟨h1, m, x, _, hx, ⟨_, _, rfl⟩ | ⟨hl, _, rfl⟩⟩
  · exact hs
  · exact hs
  · exact hs
  · exact hs.put h1 hl ((hs.2 a b).2 x (List.mem_of_getElem? hx))
theorem DoubF.other (h : DoubF nodes f a b k E f') {p q : Int} (hpq : ¬ (a = p ∧ b = q)) : f' p q = f p q := by
  rcases h with ⟨_, _, rfl⟩ | ⟨_, _, _, rfl⟩ | ⟨h1, m, x, _, hx, ⟨_, _, rfl⟩ | ⟨hl, _, rfl⟩⟩
  · rfl
  · rfl
  · rfl
  · exact updF_other hpq
theorem PartF.det (h : PartF nodes S l E S') (h2 : PartF nodes S l E2 S2) : E2 = E ∧ S2 = S' := by
  rcases h with ⟨⟨v, hv, a1⟩, rfl, rfl⟩ | ⟨a1, rfl, rfl⟩ <;> rcases h2 with ⟨⟨v2, hv2, b1⟩, rfl, rfl⟩ | ⟨b1, rfl, rfl⟩
  · exact ⟨rfl, rfl⟩
  · exact absurd (b1 v hv) a1
  · exact absurd (a1 v2 hv2) b1
  · exact ⟨rfl, rfl⟩
theorem LoseF.det (h : LoseF nodes f a E f') (h2 : LoseF nodes f a E2 f2) : E2 = E ∧ f2 = f' := by
  rcases h with ⟨a1, rfl, rfl⟩ | ⟨a1, rfl, rfl⟩ <;> rcases h2 with ⟨b1, rfl, rfl⟩ | ⟨b1, rfl, rfl⟩
  · exact ⟨rfl, rfl⟩
  · exact absurd b1 a1
  · exact absurd a1 b1
  · exact ⟨rfl, rfl⟩
theorem LoseF.sane (h : LoseF nodes f a E f') (hs : Sane nodes f) : Sane nodes f' := by
  rcases h with ⟨_, _, rfl⟩ | ⟨_, _, rfl⟩
  · exact hs
  · refine ⟨fun i j hno => ?_, fun i j => ?_⟩
    · dsimp only
      split
      · rfl
      · exact hs.1 i j hno
    · dsimp only
      split
      · exact ⟨by simp, fun x hx => by cases hx⟩
      · exact hs.2 i j
end

section
variable {w0 w wr w' : World} {F0 : Nat → Prop} {g r n N N' : Nat} {f f' f2 : Bags} {S S' S2 : Sides} {ks : List (Nat × TypeId × List Value)} {cs : List Value} {x : Pkt} {a b k E : Int}
theorem TS.step1 {F G : Nat → Prop} (h0 : w0.heap.size ≤ w.heap.size) (h1 : Two w0 wr F G g r n N f S f2 S2) (h2 : Beside F0 w wr) (h3 : ∀ b, F b ∨ G b → grow F0 w wr b) (h4 : ∀ z ∈ ks, BlkT wr z.1 z.2.1 z.2.2 ∧ ¬ F z.1 ∧ ¬ G z.1 ∧ w.heap.size ≤ z.1) (hb : Beside F wr w') (hn : NetIs w' (grow F wr w') g n N' f' S') : TS w0 w w' F0 g r n N' f' S' f2 S2 ks := by
  have hz := hb.size
  have hz2 := h2.size
  refine ⟨h0, grow F wr w', G, h1.first hb hn, h2.trans (hb.mono (fun b hh => h3 b (.inl hh))), fun b hh => ?_, fun z hz' => ⟨(hb.2.2.2.2 z.1 (h4 z hz').1.lt (h4 z hz').2.1).trans (h4 z hz').1, fun hh => ?_, (h4 z hz').2.2⟩⟩
  · rcases hh with (hh | hh) | hh
    · exact grow_up hz (h3 b (.inl hh))
    · exact .inr ⟨by omega, hh.2⟩
    · exact grow_up hz (h3 b (.inr hh))
  · rcases hh with hh | hh
    · exact (h4 z hz').2.1 hh
    · have := (h4 z hz').1.lt; omega
theorem TS.step2 {F G : Nat → Prop} (h0 : w0.heap.size ≤ w.heap.size) (h1 : Two w0 wr F G g r n N f S f2 S2) (h2 : Beside F0 w wr) (h3 : ∀ b, F b ∨ G b → grow F0 w wr b) (h4 : ∀ z ∈ ks, BlkT wr z.1 z.2.1 z.2.2 ∧ ¬ F z.1 ∧ ¬ G z.1 ∧ w.heap.size ≤ z.1) (hb : Beside G wr w') (hn : RefIs w' (grow G wr w') r n f' S') : TS w0 w w' F0 g r n N f S f' S' ks := by
  have hz := hb.size
  have hz2 := h2.size
  refine ⟨h0, F, grow G wr w', h1.second hb hn, h2.trans (hb.mono (fun b hh => h3 b (.inr hh))), fun b hh => ?_, fun z hz' => ⟨(hb.2.2.2.2 z.1 (h4 z hz').1.lt (h4 z hz').2.2.1).trans (h4 z hz').1, (h4 z hz').2.1, fun hh => ?_, (h4 z hz').2.2.2⟩⟩
  · rcases hh with hh | (hh | hh)
    · exact grow_up hz (h3 b (.inl hh))
    · exact grow_up hz (h3 b (.inr hh))
    · exact .inr ⟨by omega, hh.2⟩
  · rcases hh with hh | hh
    · exact (h4 z hz').2.2.1 hh
    · have := (h4 z hz').1.lt; omega
theorem Two.flt {F G : Nat → Prop} (h : Two w0 w F G g r n N f S f2 S2) : ∀ b, F b → b < w.heap.size := fun b hh => (h.fin b hh).2
theorem Two.glt {F G : Nat → Prop} (h : Two w0 w F G g r n N f S f2 S2) : ∀ b, G b → b < w.heap.size := fun b hh => (h.gin b hh).2

theorem ts_send1 (h : TS w0 w wr F0 g r n N f S f2 S2 ks) (hn : n ≤ 7) (hN : N < maxLen) (hx : IsP wr cs x) (hxl : x.2.2.2.length ≤ 140737488355328) :
    Calls Try.prog 10 #[.pointer (some ⟨g, 0, none⟩), .agg cs.toArray] wr fun e w' => ∃ (E : Int) (f' : Bags), e = .returned (.int .i64 E) ∧ SendF n f S x (.returned (.int .i64 E)) f' ∧ TS w0 w w' F0 g r n (N + 1) f' S f2 S2 ks := by
  obtain ⟨h0, F, G, h1, h2, h3, h4⟩ := h
  refine (send_any wr F g n N f S cs x h1.net h1.flt (by omega) hN hx hxl).mono ?_
  rintro e w' ⟨hb, f', hs, hnet⟩
  obtain ⟨E, rfl⟩ := hs.int
  exact ⟨E, f', rfl, hs, TS.step1 h0 h1 h2 h3 h4 hb hnet⟩
theorem ts_send2 (h : TS w0 w wr F0 g r n N f' S f S ks) (hs : SendF n f S x (.returned (.int .i64 E)) f') (hn : n ≤ 7) (hx : IsP wr cs x) (hxl : x.2.2.2.length ≤ 140737488355328) :
    Calls Try.prog 29 #[.pointer (some ⟨r, 0, none⟩), .agg cs.toArray] wr fun e w' => e = .returned (.int .i64 E) ∧ TS w0 w w' F0 g r n N f' S f' S ks := by
  obtain ⟨h0, F, G, h1, h2, h3, h4⟩ := h
  refine (rsend_any wr G r n f S cs x h1.ref h1.glt hn hx hxl).mono ?_
  rintro e w' ⟨hb, f2, hs2, hnet⟩
  obtain ⟨rfl, rfl⟩ := hs.det hs2
  exact ⟨rfl, TS.step2 h0 h1 h2 h3 h4 hb hnet⟩
theorem ts_drop1 (h : TS w0 w wr F0 g r n N f S f2 S2 ks) (hs : Sane n f) (hn : n ≤ 7) (hN : N < maxLen) :
    Calls Try.prog 13 #[.pointer (some ⟨g, 0, none⟩), .int .i64 a, .int .i64 b, .int .i64 k] wr fun e w' => ∃ (E : Int) (f' : Bags), e = .returned (.int .i64 E) ∧ DropF n f a b k E f' ∧ TS w0 w w' F0 g r n (N + 1) f' S f2 S2 ks := by
  obtain ⟨h0, F, G, h1, h2, h3, h4⟩ := h
  refine (drop_any wr F g n N f S a b k h1.net h1.flt (by omega) hN (Nat.le_trans (hs.2 a b).1 (by decide))).mono ?_
  rintro e w' ⟨hb, E, f', rfl, hd, hnet⟩
  exact ⟨E, f', rfl, hd, TS.step1 h0 h1 h2 h3 h4 hb hnet⟩
theorem ts_drop2 (h : TS w0 w wr F0 g r n N f' S f S ks) (hd : DropF n f a b k E f') (hs : Sane n f) (hn : n ≤ 7) :
    Calls Try.prog 31 #[.pointer (some ⟨r, 0, none⟩), .int .i64 a, .int .i64 b, .int .i64 k] wr fun e w' => e = .returned (.int .i64 E) ∧ TS w0 w w' F0 g r n N f' S f' S ks := by
  obtain ⟨h0, F, G, h1, h2, h3, h4⟩ := h
  refine (rdrop_any wr G r n f S a b k h1.ref h1.glt hn (Nat.le_trans (hs.2 a b).1 (by decide))).mono ?_
  rintro e w' ⟨hb, E2, f2, rfl, hd2, hnet⟩
  obtain ⟨rfl, rfl⟩ := hd.det hd2
  exact ⟨rfl, TS.step2 h0 h1 h2 h3 h4 hb hnet⟩
theorem ts_double1 (h : TS w0 w wr F0 g r n N f S f2 S2 ks) (hs : Sane n f) (hn : n ≤ 7) (hN : N < maxLen) :
    Calls Try.prog 11 #[.pointer (some ⟨g, 0, none⟩), .int .i64 a, .int .i64 b, .int .i64 k] wr fun e w' => ∃ (E : Int) (f' : Bags), e = .returned (.int .i64 E) ∧ DoubF n f a b k E f' ∧ TS w0 w w' F0 g r n (N + 1) f' S f2 S2 ks := by
  obtain ⟨h0, F, G, h1, h2, h3, h4⟩ := h
  refine (double_any wr F g n N f S a b k h1.net h1.flt (by omega) hN (Nat.le_trans (hs.2 a b).1 (by decide)) (hs.2 a b).2).mono ?_
  rintro e w' ⟨hb, E, f', rfl, hd, hnet⟩
  exact ⟨E, f', rfl, hd, TS.step1 h0 h1 h2 h3 h4 hb hnet⟩
theorem ts_double2 (h : TS w0 w wr F0 g r n N f' S f S ks) (hd : DoubF n f a b k E f') (hs : Sane n f) (hn : n ≤ 7) :
    Calls Try.prog 32 #[.pointer (some ⟨r, 0, none⟩), .int .i64 a, .int .i64 b, .int .i64 k] wr fun e w' => e = .returned (.int .i64 E) ∧ TS w0 w w' F0 g r n N f' S f' S ks := by
  obtain ⟨h0, F, G, h1, h2, h3, h4⟩ := h
  refine (rdouble_any wr G r n f S a b k h1.ref h1.glt hn (Nat.le_trans (hs.2 a b).1 (by decide)) (hs.2 a b).2).mono ?_
  rintro e w' ⟨hb, E2, f2, rfl, hd2, hnet⟩
  obtain ⟨rfl, rfl⟩ := hd.det hd2
  exact ⟨rfl, TS.step2 h0 h1 h2 h3 h4 hb hnet⟩
theorem ts_lose1 (h : TS w0 w wr F0 g r n N f S f2 S2 ks) :
    Calls Try.prog 35 #[.pointer (some ⟨g, 0, none⟩), .int .i64 a] wr fun e w' => ∃ (E : Int) (f' : Bags), e = .returned (.int .i64 E) ∧ LoseF n f a E f' ∧ TS w0 w w' F0 g r n N f' S f2 S2 ks := by
  obtain ⟨h0, F, G, h1, h2, h3, h4⟩ := h
  refine (lose_any wr F g n N f S a h1.net h1.flt).mono ?_
  rintro e w' ⟨hb, E, f', rfl, hd, hnet⟩
  exact ⟨E, f', rfl, hd, TS.step1 h0 h1 h2 h3 h4 hb hnet⟩
theorem ts_lose2 (h : TS w0 w wr F0 g r n N f' S f S ks) (hd : LoseF n f a E f') (hn : n ≤ 7) :
    Calls Try.prog 36 #[.pointer (some ⟨r, 0, none⟩), .int .i64 a] wr fun e w' => e = .returned (.int .i64 E) ∧ TS w0 w w' F0 g r n N f' S f' S ks := by
  obtain ⟨h0, F, G, h1, h2, h3, h4⟩ := h
  refine (rlose_any wr G r n f S a h1.ref h1.glt hn).mono ?_
  rintro e w' ⟨hb, E2, f2, rfl, hd2, hnet⟩
  obtain ⟨rfl, rfl⟩ := hd.det hd2
  exact ⟨rfl, TS.step2 h0 h1 h2 h3 h4 hb (hnet.mono (fun _ hh => .inl hh))⟩
theorem ts_heal1 (h : TS w0 w wr F0 g r n N f S f2 S2 ks) :
    Calls Try.prog 16 #[.pointer (some ⟨g, 0, none⟩)] wr fun e w' => e = .returned (.tuple #[]) ∧ TS w0 w w' F0 g r n N f (fun _ => false) f2 S2 ks := by
  obtain ⟨h0, F, G, h1, h2, h3, h4⟩ := h
  refine (heal_any wr F g n N f S h1.net h1.flt).mono ?_
  rintro e w' ⟨⟨rfl, hb, _⟩, hnet⟩
  exact ⟨rfl, TS.step1 h0 h1 h2 h3 h4 hb hnet⟩
theorem ts_heal2 (h : TS w0 w wr F0 g r n N f S f2 S2 ks) (hn : n ≤ 7) :
    Calls Try.prog 34 #[.pointer (some ⟨r, 0, none⟩)] wr fun e w' => e = .returned (.tuple #[]) ∧ TS w0 w w' F0 g r n N f S f2 (fun _ => false) ks := by
  obtain ⟨h0, F, G, h1, h2, h3, h4⟩ := h
  refine (rheal_any wr G r n f2 S2 h1.ref h1.glt hn).mono ?_
  rintro e w' ⟨rfl, hb, hnet⟩
  exact ⟨rfl, TS.step2 h0 h1 h2 h3 h4 hb hnet⟩
theorem ts_part1 {A : Option Addr} {m c : Nat} {l : List Int} (h : TS w0 w wr F0 g r n N f S f2 S2 ks) (hn : n ≤ 7) (hs : SlA w0 1 A m (nums .i64 l)) (hm : m ≤ 140737488355328) (hN : l.length ≤ N) :
    Calls Try.prog 14 #[.pointer (some ⟨g, 0, none⟩), .slice A m c] wr fun e w' => ∃ (E : Int) (S' : Sides), e = .returned (.int .i64 E) ∧ PartF n S l E S' ∧ TS w0 w w' F0 g r n N f S' f2 S2 ks := by
  have hbel := h.bel
  obtain ⟨h0, F, G, h1, h2, h3, h4⟩ := h
  refine (part_any wr F g n N f S A m c l h1.net h1.flt (by omega) (hs.below hbel) hm).mono ?_
  rintro e w' ⟨hb, E, S', rfl, hd, hnet⟩
  rw [Nat.max_eq_left hN] at hnet
  exact ⟨E, S', rfl, hd, TS.step1 h0 h1 h2 h3 h4 hb hnet⟩
theorem ts_part2 {A : Option Addr} {m c : Nat} {l : List Int} (h : TS w0 w wr F0 g r n N f S' f S ks) (hd : PartF n S l E S') (hn : n ≤ 7) (hs : SlA w0 1 A m (nums .i64 l)) (hm : m ≤ 140737488355328) :
    Calls Try.prog 33 #[.pointer (some ⟨r, 0, none⟩), .slice A m c] wr fun e w' => e = .returned (.int .i64 E) ∧ TS w0 w w' F0 g r n N f S' f S' ks := by
  have hbel := h.bel
  obtain ⟨h0, F, G, h1, h2, h3, h4⟩ := h
  refine (rpart_any wr G r n f S A m c l h1.ref h1.glt hn (fun W hW => hs.below (hbel.trans (hW.below (fun b hh => (h1.gin b hh).1) hbel.size))) hm).mono ?_
  rintro e w' ⟨hb, E2, S2, rfl, hd2, hnet⟩
  obtain ⟨rfl, rfl⟩ := hd.det hd2
  exact ⟨rfl, TS.step2 h0 h1 h2 h3 h4 hb hnet⟩

/-- ... with a packet of the first net's memory. -/
def TP (w0 w wr : World) (F0 : Nat → Prop) (g r n N : Nat) (f : Bags) (S : Sides) (f2 : Bags) (S2 : Sides) (ks : List (Nat × TypeId × List Value)) (cs : List Value) (x : Pkt) : Prop :=
  w0.heap.size ≤ w.heap.size ∧ ∃ F G, Two w0 wr F G g r n N f S f2 S2 ∧ Beside F0 w wr ∧ (∀ b, F b ∨ G b → grow F0 w wr b) ∧ (∀ z ∈ ks, BlkT wr z.1 z.2.1 z.2.2 ∧ ¬ F z.1 ∧ ¬ G z.1 ∧ w.heap.size ≤ z.1) ∧ RdP wr F cs x
theorem TP.ts (h : TP w0 w wr F0 g r n N f S f2 S2 ks cs x) : TS w0 w wr F0 g r n N f S f2 S2 ks := by
  obtain ⟨h0, F, G, h1, h2, h3, h4, _⟩ := h
  exact ⟨h0, F, G, h1, h2, h3, h4⟩
theorem TP.new (h : TP w0 w wr F0 g r n N f S f2 S2 ks cs x) (hb : Below wr.heap.size wr w') {q : Nat} {t : TypeId} {ds : List Value} (k : BlkT w' q t ds) (hq : wr.heap.size ≤ q) : TP w0 w w' F0 g r n N f S f2 S2 ((q, t, ds) :: ks) cs x := by
  have hs := h.ts.size
  obtain ⟨h0, F, G, h1, h2, h3, h4, h5⟩ := h
  refine ⟨h0, F, G, h1.below hb, h2.trans (Beside.of_below hb), fun b hh => grow_up hb.size (h3 b hh), fun z hz => ?_, h5.grown (Spared.of_below hb)⟩
  rcases List.mem_cons.1 hz with rfl | hz
  · exact ⟨k, fun hh => by have := h1.fin _ hh; dsimp only at this; omega, fun hh => by have := h1.gin _ hh; dsimp only at this; omega, by dsimp only; omega⟩
  · exact ⟨(h4 z hz).1.below hb, (h4 z hz).2⟩
theorem zero_rd (w : World) (F : Nat → Prop) : RdP w F [.int .i64 0, .int .i64 0, .int .i64 0, .slice none 0 0] zeroPkt := ⟨none, 0, rfl, .inl ⟨rfl, rfl, rfl⟩⟩
theorem DelF.view {w : World} {F : Nat → Prop} {nodes : Int} {f f' : Bags} {a b k E : Int} {cs : List Value} (h : DelF nodes w F f a b k cs E f') (hz : ¬ E = 0 → cs = [.int .i64 0, .int .i64 0, .int .i64 0, .slice none 0 0]) : ∃ x, DelV nodes f a b k x E f' ∧ RdP w F cs x := by
  rcases h with ⟨h1, h2, h3⟩ | ⟨h1, h2, h3, h4⟩ | ⟨h1, m, x, h2, h3, h4, h5, h6⟩
  · rw [hz (by omega)]
    exact ⟨zeroPkt, .inl ⟨h1, rfl, h2, h3⟩, zero_rd w F⟩
  · rw [hz (by omega)]
    exact ⟨zeroPkt, .inr (.inl ⟨h1, h2, rfl, h3, h4⟩), zero_rd w F⟩
  · exact ⟨x, .inr (.inr ⟨h1, m, h2, h3, h5, h6⟩), h4⟩
theorem ts_deliver1 (h : TS w0 w wr F0 g r n N f S f2 S2 ks) (hs : Sane n f) (hn : n ≤ 7) (hN : N < maxLen) :
    Calls Try.prog 15 #[.pointer (some ⟨g, 0, none⟩), .int .i64 a, .int .i64 b, .int .i64 k] wr fun e w' => ∃ (x : Pkt) (D : Option Addr) (dc : Nat) (E : Int) (f' : Bags), e = .returned (.tuple #[.agg #[.int .i64 x.1, .int .i64 x.2.1, .int .i64 x.2.2.1, .slice D x.2.2.2.length dc], .int .i64 E]) ∧ DelV n f a b k x E f' ∧ TP w0 w w' F0 g r n (N + 1) f' S f2 S2 ks [.int .i64 x.1, .int .i64 x.2.1, .int .i64 x.2.2.1, .slice D x.2.2.2.length dc] x := by
  obtain ⟨h0, F, G, h1, h2, h3, h4⟩ := h
  refine (deliver_z wr F g n N f S a b k h1.net h1.flt (by omega) hN (Nat.le_trans (hs.2 a b).1 (by decide))).mono ?_
  rintro e w' ⟨hb, cs, E, f', _, rfl, hd, hz, hnet⟩
  obtain ⟨x, hv, hr⟩ := hd.view hz
  have hr' := hr
  obtain ⟨D, dc, rfl, _⟩ := hr
  refine ⟨x, D, dc, E, f', rfl, hv, h0, grow F wr w', G, h1.first hb hnet, ?_⟩
  have hts := TS.step1 h0 h1 h2 h3 h4 hb hnet
  have hz := hb.size
  have hz2 := h2.size
  refine ⟨h2.trans (hb.mono (fun b hh => h3 b (.inl hh))), fun b hh => ?_, fun z hz' => ⟨(hb.2.2.2.2 z.1 (h4 z hz').1.lt (h4 z hz').2.1).trans (h4 z hz').1, fun hh => ?_, (h4 z hz').2.2⟩, hr'⟩
  · rcases hh with (hh | hh) | hh
    · exact grow_up hz (h3 b (.inl hh))
    · exact .inr ⟨by omega, hh.2⟩
    · exact grow_up hz (h3 b (.inr hh))
  · rcases hh with hh | hh
    · exact (h4 z hz').2.1 hh
    · have := (h4 z hz').1.lt; omega
theorem ts_deliver2 (h : TP w0 w wr F0 g r n N f' S f S ks cs x) (hd : DelV n f a b k x E f') (hs : Sane n f) (hn : n ≤ 7) :
    Calls Try.prog 30 #[.pointer (some ⟨r, 0, none⟩), .int .i64 a, .int .i64 b, .int .i64 k] wr fun e w' => ∃ (D : Option Addr) (dc : Nat), e = .returned (.tuple #[.agg #[.int .i64 x.1, .int .i64 x.2.1, .int .i64 x.2.2.1, .slice D x.2.2.2.length dc], .int .i64 E]) ∧ IsP w' cs x ∧ IsP w' [.int .i64 x.1, .int .i64 x.2.1, .int .i64 x.2.2.1, .slice D x.2.2.2.length dc] x ∧ TS w0 w w' F0 g r n N f' S f' S ks := by
  obtain ⟨h0, F, G, h1, h2, h3, h4, h5⟩ := h
  refine (rdeliver_any wr G r n f S a b k h1.ref h1.glt hn (Nat.le_trans (hs.2 a b).1 (by decide))).mono ?_
  rintro e w' ⟨hb, cs2, E2, f2, _, rfl, hd2, hz, hnet⟩
  obtain ⟨y, hv, hr⟩ := hd2.view hz
  obtain ⟨rfl, rfl, rfl⟩ := hd.det hv
  have hr' := hr.is
  obtain ⟨D, dc, rfl, _⟩ := hr
  exact ⟨D, dc, rfl, (h5.blocks (fun b hh => hb.2.2.2.2 b (h1.fin b hh).2 (fun hg => h1.apart b hh hg))).is, hr', TS.step2 h0 h1 h2 h3 h4 hb hnet⟩
end
end Go.Proofs.Ytjihiohmemmabaa

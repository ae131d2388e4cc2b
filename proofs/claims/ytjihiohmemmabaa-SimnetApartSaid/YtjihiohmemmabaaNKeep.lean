/- The net, and what is kept beside it, over the steps of a law. -/
import Derived.Test.YtjihiohmemmabaaNList
namespace Go.Proofs.Ytjihiohmemmabaa
open Go.RowKit Go.Gz
attribute [local go_sem] World.cell?_alloc_some frozen?_alloc_some

/-- No more than the document allows. -/
def Sane (nodes : Int) (f : Int → Int → List Pkt) : Prop := (∀ i j, ¬ okWay nodes i j → f i j = []) ∧ ∀ i j, (f i j).length ≤ 64 ∧ ∀ x ∈ f i j, x.2.2.2.length ≤ 140737488355328
theorem Sane.nil (nodes : Int) : Sane nodes (fun _ _ => []) := ⟨fun _ _ _ => rfl, fun _ _ => ⟨by simp, fun x hx => by cases hx⟩⟩
theorem Sane.upd {nodes : Int} {f : Int → Int → List Pkt} {i j : Int} {l : List Pkt} (h : Sane nodes f) (hok : okWay nodes i j) (hl : l.length ≤ 64) (hx : ∀ x ∈ l, x.2.2.2.length ≤ 140737488355328) : Sane nodes (updF f i j l) := by
  refine ⟨fun a b hno => ?_, fun a b => ?_⟩
  · unfold updF
    rw [if_neg (fun e => hno (by rw [e.1, e.2]; exact hok))]
    exact h.1 a b hno
  · unfold updF
    split
    · exact ⟨hl, hx⟩
    · exact h.2 a b
theorem Sane.zero {nodes : Int} {f : Int → Int → List Pkt} (h : Sane nodes f) : f 0 0 = [] := h.1 0 0 (fun hh => by have := hh.1.1; omega)
theorem Sane.put {nodes : Int} {f : Int → Int → List Pkt} {i j : Int} {x : Pkt} (h : Sane nodes f) (hok : okWay nodes i j) (hl : (f i j).length < 64) (hx : x.2.2.2.length ≤ 140737488355328) : Sane nodes (updF f i j (f i j ++ [x])) :=
  h.upd hok (by simp; omega) (fun y hy => by
    rcases List.mem_append.1 hy with hy | hy
    · exact (h.2 i j).2 y hy
    · simp at hy; subst hy; exact hx)
theorem Sane.drop {nodes : Int} {f : Int → Int → List Pkt} {i j : Int} {m : Nat} (h : Sane nodes f) (hok : okWay nodes i j) : Sane nodes (updF f i j ((f i j).eraseIdx m)) :=
  h.upd hok (Nat.le_trans (by rw [List.length_eraseIdx]; split <;> omega) (h.2 i j).1) (fun y hy => (h.2 i j).2 y (List.mem_of_mem_eraseIdx hy))

/-- The net of three nodes; lists of packets and blocks beside it. -/
def KS (w1 w : World) (g N : Nat) (f : Int → Int → List Pkt) (ls : List (Value × List Pkt)) (ks : List (Nat × List Value)) : Prop := ∃ F : Nat → Prop, Live w1 w F g 3 N f (fun _ => false) ∧ (∀ z ∈ ls, PList w1 w F z.1 z.2) ∧ ∀ z ∈ ks, Blk w z.1 z.2 ∧ Free w1 w F z.1
section
variable {w1 w w' : World} {g N : Nat} {f : Int → Int → List Pkt} {ls ls' : List (Value × List Pkt)} {ks ks' : List (Nat × List Value)} {cs : List Value} {x : Pkt} {a b k : Int}
theorem KS.below (h : KS w1 w g N f ls ks) (hb : Below w.heap.size w w') : KS w1 w' g N f ls ks := by
  obtain ⟨F, h1, h2, h3⟩ := h
  exact ⟨F, h1.below hb, fun z hz => (h2 z hz).below hb, fun z hz => ⟨(h3 z hz).1.ext hb, (h3 z hz).2.up hb.size⟩⟩
theorem KS.new (h : KS w1 w g N f ls ks) (hb : Below w.heap.size w w') {q : Nat} {cs : List Value} (k : Blk w' q cs) (hq : w.heap.size ≤ q) : KS w1 w' g N f ls ((q, cs) :: ks) := by
  obtain ⟨F, h1, h2, h3⟩ := h
  refine ⟨F, h1.below hb, fun z hz => (h2 z hz).below hb, fun z hz => ?_⟩
  rcases List.mem_cons.1 hz with rfl | hz
  · exact ⟨k, by have := h1.2.2.size; dsimp only; omega, k.lt, fun hh => by have := h1.lt _ hh; dsimp only at this; omega⟩
  · exact ⟨(h3 z hz).1.ext hb, (h3 z hz).2.up hb.size⟩
theorem KS.sub (h : KS w1 w g N f ls ks) (hk : ∀ z ∈ ks', z ∈ ks) (hl : ∀ z ∈ ls', z ∈ ls) : KS w1 w g N f ls' ks' := by
  obtain ⟨F, h1, h2, h3⟩ := h
  exact ⟨F, h1, fun z hz => h2 z (hl z hz), fun z hz => h3 z (hk z hz)⟩
theorem KS.blk (h : KS w1 w g N f ls ks) {q : Nat} {cs : List Value} (hz : (q, cs) ∈ ks) : Blk w q cs := by
  obtain ⟨F, h1, h2, h3⟩ := h
  exact (h3 _ hz).1
theorem KS.bel (h : KS w1 w g N f ls ks) : Below w1.heap.size w1 w := by
  obtain ⟨F, h1, _⟩ := h
  exact h1.2.2
theorem KS.is (h : KS w1 w g N f ls ks) {A : Option Addr} {n c : Nat} {xs : List Pkt} (hz : (.slice A n c, xs) ∈ ls) : IsPs w A n xs := by
  obtain ⟨F, h1, h2, _⟩ := h
  exact (h2 _ hz).is h1.2.2
theorem KS.step {F : Nat → Prop} {N' : Nat} {f' : Int → Int → List Pkt} (h1 : Live w1 w F g 3 N f (fun _ => false)) (h2 : ∀ z ∈ ls, PList w1 w F z.1 z.2) (h3 : ∀ z ∈ ks, Blk w z.1 z.2 ∧ Free w1 w F z.1) (hb : Beside F w w') (hn : NetIs w' (grow F w w') g 3 N' f' (fun _ => false)) : KS w1 w' g N' f' ls ks :=
  ⟨grow F w w', h1.step hb hn, fun z hz => (h2 z hz).beside hb, fun z hz => ⟨hb.blk (h3 z hz).1 (h3 z hz).2.2.2, (h3 z hz).2.on hb⟩⟩

theorem ks_send (h : KS w1 w g N f ls ks) (hN : N < maxLen) (hx : IsP w cs x) (hxl : x.2.2.2.length ≤ 140737488355328) :
    Calls Try.prog 10 #[.pointer (some ⟨g, 0, none⟩), .agg cs.toArray] w fun e w' => ∃ (E : Int) (f' : Int → Int → List Pkt), e = .returned (.int .i64 E) ∧ KS w1 w' g (N + 1) f' ls ks ∧ ((¬ E = 0 ∧ f' = f) ∨ (E = 0 ∧ okWay 3 x.1 x.2.1 ∧ (f x.1 x.2.1).length < 64 ∧ f' = updF f x.1 x.2.1 (f x.1 x.2.1 ++ [x]))) := by
  obtain ⟨F, h1, h2, h3⟩ := h
  refine (send_any w F g 3 N _ _ cs x h1.1 h1.lt (by decide) hN hx hxl).mono ?_
  rintro e w' ⟨hbes, f', hsf, hnet⟩
  rcases hsf with ⟨hno, rfl, rfl⟩ | ⟨_, hs, _⟩ | ⟨hok, _, hge, rfl, rfl⟩ | ⟨hok, _, hlt, rfl, rfl⟩
  · exact ⟨31, f', rfl, KS.step h1 h2 h3 hbes hnet, .inl ⟨by decide, rfl⟩⟩
  · exact absurd rfl hs
  · exact ⟨32, f', rfl, KS.step h1 h2 h3 hbes hnet, .inl ⟨by decide, rfl⟩⟩
  · exact ⟨0, _, rfl, KS.step h1 h2 h3 hbes hnet, .inr ⟨rfl, hok, hlt, rfl⟩⟩
theorem ks_double (h : KS w1 w g N f ls ks) (hs : Sane 3 f) (hN : N < maxLen) :
    Calls Try.prog 11 #[.pointer (some ⟨g, 0, none⟩), .int .i64 a, .int .i64 b, .int .i64 k] w fun e w' => ∃ (E : Int) (f' : Int → Int → List Pkt), e = .returned (.int .i64 E) ∧ KS w1 w' g (N + 1) f' ls ks ∧ ((¬ E = 0 ∧ f' = f) ∨ (E = 0 ∧ okWay 3 a b ∧ (f a b).length < 64 ∧ ∃ (m : Nat) (x : Pkt), k = m ∧ (f a b)[m]? = some x ∧ f' = updF f a b (f a b ++ [x]))) := by
  obtain ⟨F, h1, h2, h3⟩ := h
  refine (double_any w F g 3 N _ _ a b k h1.1 h1.lt (by decide) hN (Nat.le_trans (hs.2 a b).1 (by decide)) (hs.2 a b).2).mono ?_
  rintro e w' ⟨hbes, E, f', rfl, hdf, hnet⟩
  rcases hdf with ⟨hno, rfl, rfl⟩ | ⟨_, hs, rfl, rfl⟩ | ⟨hok, m, x, hk, hx, ⟨hge, rfl, rfl⟩ | ⟨hlt, rfl, rfl⟩⟩
  · exact ⟨31, f', rfl, KS.step h1 h2 h3 hbes hnet, .inl ⟨by decide, rfl⟩⟩
  · exact ⟨33, f', rfl, KS.step h1 h2 h3 hbes hnet, .inl ⟨by decide, rfl⟩⟩
  · exact ⟨32, f', rfl, KS.step h1 h2 h3 hbes hnet, .inl ⟨by decide, rfl⟩⟩
  · exact ⟨0, _, rfl, KS.step h1 h2 h3 hbes hnet, .inr ⟨rfl, hok, hlt, m, x, hk, hx, rfl⟩⟩
theorem ks_deliver (h : KS w1 w g N f ls ks) (hs : Sane 3 f) (hN : N < maxLen) :
    Calls Try.prog 15 #[.pointer (some ⟨g, 0, none⟩), .int .i64 a, .int .i64 b, .int .i64 k] w fun e w' => ∃ (c0 c1 c2 c3 : Value) (E : Int) (f' : Int → Int → List Pkt), e = .returned (.tuple #[.agg #[c0, c1, c2, c3], .int .i64 E]) ∧ (∀ v ∈ [c0, c1, c2, c3], v.oneCell' = true) ∧ KS w1 w' g (N + 1) f' ls ks ∧ ((¬ E = 0 ∧ f' = f) ∨ (E = 0 ∧ okWay 3 a b ∧ ∃ (m : Nat) (x : Pkt), (f a b)[m]? = some x ∧ IsP w' [c0, c1, c2, c3] x ∧ f' = updF f a b ((f a b).eraseIdx m))) := by
  obtain ⟨F, h1, h2, h3⟩ := h
  refine (deliver_any w F g 3 N _ _ a b k h1.1 h1.lt (by decide) hN (Nat.le_trans (hs.2 a b).1 (by decide))).mono ?_
  rintro e w' ⟨hbes, cs, E, f', ⟨hl, hone⟩, rfl, hdf, hnet⟩
  match cs, hl with
  | [c0, c1, c2, c3], _ =>
  rcases hdf with ⟨hno, rfl, rfl⟩ | ⟨_, hs, rfl, rfl⟩ | ⟨hok, m, x, hk, hx, hr, rfl, rfl⟩
  · exact ⟨c0, c1, c2, c3, 31, f', rfl, hone, KS.step h1 h2 h3 hbes hnet, .inl ⟨by decide, rfl⟩⟩
  · exact ⟨c0, c1, c2, c3, 33, f', rfl, hone, KS.step h1 h2 h3 hbes hnet, .inl ⟨by decide, rfl⟩⟩
  · exact ⟨c0, c1, c2, c3, 0, _, rfl, hone, KS.step h1 h2 h3 hbes hnet, .inr ⟨rfl, hok, m, x, hx, hr.is, rfl⟩⟩
theorem ks_bag (h : KS w1 w g N f ls ks) (hs : Sane 3 f) :
    Calls Try.prog 18 #[.pointer (some ⟨g, 0, none⟩), .int .i64 a, .int .i64 b] w fun e w' => ∃ (A : Option Addr) (c : Nat) (E : Int) (xs : List Pkt), e = .returned (.tuple #[.slice A xs.length c, .int .i64 E]) ∧ KS w1 w' g N f ((.slice A xs.length c, xs) :: ls) ks ∧ ((okWay 3 a b ∧ E = 0 ∧ xs = f a b) ∨ (¬ okWay 3 a b ∧ E = 31 ∧ xs = [])) := by
  have h0 := h
  obtain ⟨F, h1, h2, h3⟩ := h
  refine (bag_any w F g 3 N _ _ a b h1.1 (by decide) hs.zero (Nat.le_trans (hs.2 a b).1 (by decide)) (hs.2 a b).2).mono ?_
  rintro e w' ⟨hb, A, c, E, xs, rfl, hl, hA, hc⟩
  refine ⟨A, c, E, xs, rfl, ⟨F, h1.below hb, fun z hz => ?_, fun z hz => ⟨(h3 z hz).1.ext hb, (h3 z hz).2.up hb.size⟩⟩, hc⟩
  rcases List.mem_cons.1 hz with rfl | hz
  · exact PList.of_own hl hA h1.2.2.size h1.lt
  · exact (h2 z hz).below hb
end

/-- What was sent and is still on its way. -/
def Way (a b : Int) (f : Int → Int → List Pkt) (ss : List Pkt) : Prop := (ss.map pk).Perm ((f a b).map pk)
theorem Way.other {a b i j : Int} {f : Int → Int → List Pkt} {ss l : List Pkt} (h : Way a b f ss) (hne : ¬ (i = a ∧ j = b)) : Way a b (updF f i j l) ss := by
  unfold Way updF
  rw [if_neg (fun e => hne ⟨e.1.symm, e.2.symm⟩)]
  exact h
theorem Way.put {a b : Int} {f : Int → Int → List Pkt} {ss : List Pkt} {x y : Pkt} (h : Way a b f ss) (he : pk x = pk y) : Way a b (updF f a b (f a b ++ [y])) (ss ++ [x]) := by
  unfold Way
  rw [updF_same, List.map_append, List.map_append, List.map_singleton, List.map_singleton, he]
  exact h.append_right _
theorem Way.mem {a b : Int} {f : Int → Int → List Pkt} {ss : List Pkt} {x : Pkt} {m : Nat} (h : Way a b f ss) (hx : (f a b)[m]? = some x) : ∃ y ∈ ss, pk y = pk x := by
  have h1 : pk x ∈ ss.map pk := h.mem_iff.2 (List.mem_map.2 ⟨x, List.mem_of_getElem? hx, rfl⟩)
  exact List.mem_map.1 h1
theorem map_erase (l : List Pkt) (m : Nat) : (l.eraseIdx m).map pk = (l.map pk).eraseIdx m := by
  rw [List.eraseIdx_eq_take_drop_succ, List.eraseIdx_eq_take_drop_succ, List.map_append, List.map_take, List.map_drop]
theorem cons_erase_perm {α : Type} (l : List α) {m : Nat} (hm : m < l.length) : (l[m] :: l.eraseIdx m).Perm l := by
  have h : l.take m ++ l[m] :: l.drop (m + 1) = l := by rw [List.getElem_cons_drop, List.take_append_drop]
  rw [List.eraseIdx_eq_take_drop_succ]
  have h2 := (List.perm_middle (a := l[m]) (l₁ := l.take m) (l₂ := l.drop (m + 1))).symm
  rw [h] at h2
  exact h2
theorem Way.drop {a b : Int} {f : Int → Int → List Pkt} {ss : List Pkt} {x y : Pkt} {m k : Nat} (h : Way a b f ss) (hx : (f a b)[m]? = some x) (hy : ss[k]? = some y) (he : pk y = pk x) : Way a b (updF f a b ((f a b).eraseIdx m)) (ss.eraseIdx k) := by
  unfold Way
  rw [updF_same, map_erase, map_erase]
  have hm : m < ((f a b).map pk).length := by rw [List.length_map]; exact (List.getElem?_eq_some_iff.1 hx).1
  have hk : k < (ss.map pk).length := by rw [List.length_map]; exact (List.getElem?_eq_some_iff.1 hy).1
  have h1 := cons_erase_perm _ hm
  have h2 := cons_erase_perm _ hk
  have e1 : ((f a b).map pk)[m] = pk x := by simp [(List.getElem?_eq_some_iff.1 hx).2]
  have e2 : (ss.map pk)[k] = pk x := by simp [(List.getElem?_eq_some_iff.1 hy).2, he]
  rw [e1] at h1
  rw [e2] at h2
  exact (List.perm_cons _).1 (h2.trans (h.trans h1.symm))
theorem Way.len {a b : Int} {f : Int → Int → List Pkt} {ss : List Pkt} (h : Way a b f ss) : ss.length = (f a b).length := by
  have := h.length_eq
  simpa using this
end Go.Proofs.Ytjihiohmemmabaa

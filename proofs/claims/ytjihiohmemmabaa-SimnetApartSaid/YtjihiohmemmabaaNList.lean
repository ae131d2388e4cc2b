/- Lists of packets beside the net; calls read before the call. -/
import Derived.Test.YtjihiohmemmabaaNBag
namespace Go.Gz
open Go.RowKit
theorem wpList_append_at {P : Program} {w : World} {ops : Array Oper} {rest : List Oper} {o : Oper} {a : Act} {Q : Exit → Act → World → Prop} (hgd : o.guard = none) (s x : Operand) (t : TypeId)
    (ho : o.op = .call { callee := .builtin .append, args := #[s, x], argTypes := #[t, t] })
    (e : TypeId) (i : TypeInfo) (z : Value) (size bytes : Nat) (ht : P.underlying t = some (.slice e)) (hi : P.info? e = some i) (hz : i.zero = some z)
    (hsize : i.size = size) (hby : i.bytes = bytes) (hzs : z.cells.size = size) (hsz : 0 < size)
    (B : Option Addr) (n d : Nat) (xs : List Value) (hs : a.eval s = .slice B n d) (hown : w.ownsRow 0 e size (.slice B n d) n xs)
    (ad : Addr) (m c : Nat) (news : List Value) (hx : a.eval x = .slice (some ad) m c) (hr : SlA w size (some ad) m news) (h1 : ∀ u ∈ news, u.oneCell' = true)
    (hbytes : (n + m) * bytes ≤ 140737488355328) (hb0 : 0 < bytes)
    (h : ∀ A' c' w', w'.ownsRow 0 e size (.slice A' (n + m) c') (n + m) (xs ++ news) → w.grownBy w' (Value.slice B n d).ownBlock → ((Value.slice A' (n + m) c').ownBlock = (Value.slice B n d).ownBlock ∨ (Value.slice A' (n + m) c').ownBlock = some w.heap.size) → wpList P ops Q rest (a.put o.dst (.slice A' (n + m) c')) w') : wpList P ops Q (o :: rest) a w := by
  refine wpList_plain hgd fun K hK => ?_
  have h63 : n + m ≤ maxLen := by
    have : n + m ≤ (n + m) * bytes := Nat.le_mul_of_pos_right _ hb0
    simp only [maxLen]; omega
  obtain ⟨v', w', hrun, h2, h3, _, h5⟩ := run_append_own_at (P := P) w 0 t o.type e i z size bytes ht hi hz hsize hby hzs hsz _ n xs hown ad m c news hr.1 (hr.2.2 ad rfl) h1 h63 hbytes (Nat.zero_le _)
  obtain ⟨A', c', rfl⟩ : ∃ A c, v' = .slice A (n + m) c := by
    rcases h2.2 with ⟨rfl, h0⟩ | ⟨g, cap, cur, rfl, _⟩
    · exact ⟨none, 0, by rw [h0]⟩
    · exact ⟨_, _, rfl⟩
  unfold Oper.wp execOp
  simp only [ho, resolve, invoke, builtin, Sem.run_bind, Sem.run_pure, Result.andThen_ok, List.map_toArray, List.map_cons, List.map_nil, hs, hx, hrun]
  exact hK _ _ (h A' c' w' h2 h3 h5)
end Go.Gz
namespace Go.Proofs.Ytjihiohmemmabaa
open Go.RowKit Go.Gz
attribute [local go_sem] World.cell?_alloc_some frozen?_alloc_some

/-- Of the call's own, and no part of the net. -/
def Free (w1 w : World) (F : Nat → Prop) (b : Nat) : Prop := w1.heap.size ≤ b ∧ b < w.heap.size ∧ ¬ F b
/-- Four cells read as a packet, whose bytes are as they were at w1, or of the call's own. -/
def IsX (w1 w : World) (F : Nat → Prop) (cs : List Value) (x : Pkt) : Prop := ∃ D c, cs = [.int .i64 x.1, .int .i64 x.2.1, .int .i64 x.2.2.1, .slice D x.2.2.2.length c] ∧ (SlA w1 1 D x.2.2.2.length (nums .u8 x.2.2.2) ∨ DataF w (Free w1 w F) D x.2.2.2.length c x.2.2.2)
/-- A slice of packets of the call's own, beside the net. -/
def PList (w1 w : World) (F : Nat → Prop) (v : Value) (xs : List Pkt) : Prop := ∃ zs : List (List Value × Pkt), zs.map (·.2) = xs ∧ w.ownsRow 0 29 4 v zs.length (zs.flatMap (·.1)) ∧ (∀ g, v.ownBlock = some g → Free w1 w F g) ∧ ∀ z ∈ zs, IsX w1 w F z.1 z.2
section
variable {w1 w w' : World} {F G : Nat → Prop} {cs : List Value} {x : Pkt} {xs : List Pkt} {v : Value}
theorem Free.on (h : Beside F w w') {b : Nat} (hb : Free w1 w F b) : Free w1 w' (grow F w w') b := by
  have := h.size
  exact ⟨hb.1, by have := hb.2.1; omega, fun hh => hh.elim hb.2.2 (fun hh => by have := hb.2.1; omega)⟩
theorem Free.up (h : w.heap.size ≤ w'.heap.size) {b : Nat} (hb : Free w1 w F b) : Free w1 w' F b := ⟨hb.1, by have := hb.2.1; omega, hb.2.2⟩
theorem row_blocks {e : TypeId} {size n : Nat} {v : Value} {xs : List Value} (h : w.ownsRow 0 e size v n xs) (hb : ∀ g, v.ownBlock = some g → w'.heap[g]? = w.heap[g]?) : w'.ownsRow 0 e size v n xs := by
  refine ⟨h.1, ?_⟩
  rcases h.2 with hn | ⟨g, cap, cur, hv, hbg, hgg, rest⟩
  · exact .inl hn
  · exact .inr ⟨g, cap, cur, hv, hbg, (hb g (by rw [hv]; rfl)).trans hgg, rest⟩
theorem DataF.blocks {D : Option Addr} {n c : Nat} {l : List Int} (h : DataF w F D n c l) (hb : ∀ g, F g → w'.heap[g]? = w.heap[g]?) : DataF w' F D n c l := h.imp id fun ⟨h1, h2⟩ => ⟨row_blocks h1 (fun g e => by
  cases D with
  | none => cases e
  | some ad => simp only [Value.ownBlock, Option.some.injEq] at e; subst e; exact hb _ (h2 ad rfl)), h2⟩
theorem IsX.beside (h : IsX w1 w F cs x) (hb : Beside F w w') : IsX w1 w' (grow F w w') cs x := by
  obtain ⟨D, c, e, h⟩ := h
  exact ⟨D, c, e, h.imp id (fun h => (h.blocks (fun g hg => hb.2.2.2.2 g hg.2.1 hg.2.2)).mono (fun _ hh => hh.on hb))⟩
theorem IsX.below (h : IsX w1 w F cs x) (hb : Below w.heap.size w w') : IsX w1 w' F cs x := by
  obtain ⟨D, c, e, h⟩ := h
  exact ⟨D, c, e, h.imp id (fun h => (h.grown (Spared.of_below hb)).mono (fun _ hh => hh.up hb.size))⟩
theorem IsX.same (h : IsX w1 w F cs x) (hs : SameBut 29 w w') (hz : w.heap.size ≤ w'.heap.size) : IsX w1 w' F cs x := by
  obtain ⟨D, c, e, h⟩ := h
  exact ⟨D, c, e, h.imp id (fun h => (h.same hs (by decide)).mono (fun _ hh => hh.up hz))⟩
theorem IsX.is (h : IsX w1 w F cs x) (hb : Below w1.heap.size w1 w) : IsP w cs x := by
  obtain ⟨D, c, e, h⟩ := h
  exact ⟨D, c, e, h.elim (fun h => h.below hb) (fun h => h.sl)⟩
theorem IsX.one (h : IsX w1 w F cs x) : ∀ v ∈ cs, v.oneCell' = true := by
  obtain ⟨D, c, e, _⟩ := h
  rw [e]
  intro v hv
  simp at hv
  rcases hv with rfl | rfl | rfl | rfl <;> rfl
theorem IsX.len (h : IsX w1 w F cs x) : cs.length = 4 := by
  obtain ⟨D, c, e, _⟩ := h
  rw [e]
  rfl
theorem PList.beside (h : PList w1 w F v xs) (hb : Beside F w w') : PList w1 w' (grow F w w') v xs := by
  obtain ⟨zs, h1, h2, h3, h4⟩ := h
  exact ⟨zs, h1, row_blocks h2 (fun g e => hb.2.2.2.2 g (h3 g e).2.1 (h3 g e).2.2), fun g e => (h3 g e).on hb, fun z hz => (h4 z hz).beside hb⟩
theorem PList.below (h : PList w1 w F v xs) (hb : Below w.heap.size w w') : PList w1 w' F v xs := by
  obtain ⟨zs, h1, h2, h3, h4⟩ := h
  exact ⟨zs, h1, row_blocks h2 (fun g e => hb.block g (h3 g e).2.1), fun g e => (h3 g e).up hb.size, fun z hz => (h4 z hz).below hb⟩
theorem PList.nil (w1 w : World) (F : Nat → Prop) : PList w1 w F nilV [] := ⟨[], rfl, World.ownsRow_nil _ _ _ _, fun g e => (by cases e), fun z hz => (by cases hz)⟩
theorem PList.slice (h : PList w1 w F v xs) : ∃ A c, v = .slice A xs.length c := by
  obtain ⟨zs, h1, ⟨_, h2⟩, _⟩ := h
  rw [← h1, List.length_map]
  rcases h2 with ⟨rfl, h0⟩ | ⟨g, cap, cur, rfl, _⟩
  · exact ⟨none, 0, by rw [h0]⟩
  · exact ⟨_, _, rfl⟩
theorem PList.is {A : Option Addr} {n c : Nat} (h : PList w1 w F (.slice A n c) xs) (hb : Below w1.heap.size w1 w) : IsPs w A n xs := by
  obtain ⟨zs, h1, h2, h3, h4⟩ := h
  have hn : n = zs.length := by
    rcases h2.2 with ⟨hv, h0⟩ | ⟨g, cap, cur, hv, _⟩
    · injection hv with _ hv _; omega
    · injection hv
  exact ⟨zs, h1, hn.symm, by rw [hn]; rw [hn] at h2; exact ownsRow_sl h2, fun z hz => (h4 z hz).is hb⟩
theorem PList.of_own {base n c : Nat} {A : Option Addr} (h : OwnL w base A n c xs) (hA : A = none ∨ 0 < n) (hb : w1.heap.size ≤ base) (hF : ∀ b, F b → b < base) : PList w1 w F (.slice A n c) xs := by
  obtain ⟨zs, h1, rfl, h3, h4⟩ := h
  have hD : ∀ z ∈ zs, IsX w1 w F z.1 z.2 := fun z hz => by
    obtain ⟨D, c, e, hd⟩ := h4 z hz
    refine ⟨D, c, e, .inr ?_⟩
    refine hd.imp id (fun ⟨q1, q2⟩ => ⟨q1, fun ad e => ⟨Nat.le_trans hb (q2 ad e), (q1.lt ad.block (by rw [e]; rfl)).2, fun hh => by have := hF _ hh; have := q2 ad e; omega⟩⟩)
  rcases h3 with ⟨h0, hc, hx⟩ | h3
  · rcases hA with rfl | hpos
    · subst hc
      rw [h0]
      have : zs = [] := List.length_eq_zero_iff.1 h0
      subst this
      subst h1
      exact PList.nil w1 w F
    · omega
  · refine ⟨zs, h1, ⟨h3.1, ?_⟩, fun g e => ⟨Nat.le_trans hb ((h3.lt g e).1), (h3.lt g e).2, fun hh => by have := hF g hh; have := (h3.lt g e).1; omega⟩, hD⟩
    rcases h3.2 with hn | ⟨g, cap, cur, hv, hbg, rest⟩
    · exact .inl hn
    · exact .inr ⟨g, cap, cur, hv, Nat.zero_le _, rest⟩
/-- Some more behind it: what append makes. -/
theorem PList.put {n c m c' : Nat} {A A' : Option Addr} {zs : List (List Value × Pkt)} {rs : List (List Value × Pkt)} (h1 : zs.length = n) (h2 : w.ownsRow 0 29 4 (.slice A n c) n (zs.flatMap (·.1))) (h3 : ∀ g, (Value.slice A n c).ownBlock = some g → Free w1 w F g) (h4 : ∀ z ∈ zs, IsX w1 w F z.1 z.2) (hr : ∀ z ∈ rs, IsX w1 w F z.1 z.2) (hrl : rs.length = m)
    (ho : w'.ownsRow 0 29 4 (.slice A' (n + m) c') (n + m) (zs.flatMap (·.1) ++ rs.flatMap (·.1))) (hg : w.grownBy w' (Value.slice A n c).ownBlock) (hv : (Value.slice A' (n + m) c').ownBlock = (Value.slice A n c).ownBlock ∨ (Value.slice A' (n + m) c').ownBlock = some w.heap.size) (hw1 : w1.heap.size ≤ w.heap.size) (hF : ∀ b, F b → b < w.heap.size) :
    PList w1 w' F (.slice A' (n + m) c') ((zs ++ rs).map (·.2)) := by
  subst h1
  have hs : SameBut 29 w w' := fun b u cur hb hne => (hg.block b (Array.getElem?_eq_some_iff.1 hb).1 (fun eq => by
    obtain ⟨cur', hc⟩ := row_block h2 eq.symm
    rw [hb] at hc
    injection hc with hc
    injection hc with _ hc
    exact hne hc)).trans hb
  have hz := hg.size
  refine ⟨zs ++ rs, rfl, by rw [List.length_append, hrl, List.flatMap_append]; exact ho, fun g e => ?_, fun z hz' => ?_⟩
  · rcases hv with h | h
    · rw [h] at e
      exact (h3 g e).up hz
    · rw [h] at e
      injection e with e
      subst e
      exact ⟨hw1, by have := ho.lt w.heap.size h; exact this.2, fun hh => by have := hF _ hh; omega⟩
  · rcases List.mem_append.1 hz' with h | h
    · exact (h4 z h).same hs hz
    · exact (hr z h).same hs hz
theorem Live.spare {g : Nat} {nodes : Int} {N : Nat} {f : Int → Int → List Pkt} {S : Int → Bool} {row : Option Nat} (h : Live w1 w F g nodes N f S) (hg : w.grownBy w' row) (hr : ∀ r, row = some r → ¬ F r ∧ w1.heap.size ≤ r) : Live w1 w' F g nodes N f S := by
  have hz := hg.size
  refine ⟨h.1.grown ⟨row, hg, fun r e => (hr r e).1⟩, fun b hh => ⟨(h.2.1 b hh).1, by have := (h.2.1 b hh).2; omega⟩, ?_⟩
  exact h.2.2.grown hg h.2.2.size (fun r e => (hr r e).2)
end

/-- A call: which one, its nodes, a place, a kind; bytes; a list. -/
abbrev OpV := Int × Int × Int × Int × Int × List Int × List Int
def IsO (w : World) (cs : List Value) (o : OpV) : Prop := ∃ D dc E ec, cs = [.int .i64 o.1, .int .i64 o.2.1, .int .i64 o.2.2.1, .int .i64 o.2.2.2.1, .int .i64 o.2.2.2.2.1, .slice D o.2.2.2.2.2.1.length dc, .slice E o.2.2.2.2.2.2.length ec] ∧ SlA w 1 D o.2.2.2.2.2.1.length (nums .u8 o.2.2.2.2.2.1) ∧ SlA w 1 E o.2.2.2.2.2.2.length (nums .i64 o.2.2.2.2.2.2) ∧ o.2.2.2.2.2.1.length ≤ dc
structure GoodO (o : OpV) : Prop where
  call : -9223372036854775808 ≤ o.1 ∧ o.1 < 9223372036854775808
  data : o.2.2.2.2.2.1.length ≤ 140737488355328
  bytes : ∀ v ∈ o.2.2.2.2.2.1, 0 ≤ v ∧ v ≤ 255
  side : o.2.2.2.2.2.2.length * 8 ≤ 140737488355328
theorem IsO.below {w w' : World} {cs : List Value} {o : OpV} (h : IsO w cs o) (hb : Below w.heap.size w w') : IsO w' cs o := by
  obtain ⟨D, dc, E, ec, e, h1, h2, h3⟩ := h
  exact ⟨D, dc, E, ec, e, h1.below hb, h2.below hb, h3⟩
theorem IsO.len {w : World} {cs : List Value} {o : OpV} (h : IsO w cs o) : cs.length = 7 := by
  obtain ⟨D, dc, E, ec, e, _⟩ := h
  rw [e]
  rfl
def IsOs (w : World) (A : Option Addr) (n : Nat) (os : List OpV) : Prop := ∃ zs : List (List Value × OpV), zs.map (·.2) = os ∧ zs.length = n ∧ SlA w 7 A n (zs.flatMap (·.1)) ∧ ∀ z ∈ zs, IsO w z.1 z.2
theorem IsOs.below {w w' : World} {A : Option Addr} {n : Nat} {os : List OpV} (h : IsOs w A n os) (hb : Below w.heap.size w w') : IsOs w' A n os := by
  obtain ⟨zs, h1, h2, h3, h4⟩ := h
  exact ⟨zs, h1, h2, h3.below hb, fun z hz => (h4 z hz).below hb⟩
theorem IsOs.len {w : World} {A : Option Addr} {n : Nat} {os : List OpV} (h : IsOs w A n os) : os.length = n := by
  obtain ⟨zs, h1, h2, _⟩ := h
  rw [← h1, List.length_map, h2]
theorem IsOs.addr {w : World} {A : Option Addr} {n : Nat} {os : List OpV} (h : IsOs w A n os) (hn : 0 < n) : ∃ ad, A = some ad := by
  obtain ⟨zs, h1, h2, h3, _⟩ := h
  cases A with
  | none => have := h3.2.1 rfl; omega
  | some ad => exact ⟨ad, rfl⟩
theorem IsOs.at {w : World} {n : Nat} {ad : Addr} {os : List OpV} (h : IsOs w (some ad) n os) {j : Nat} (hj : j < n) : ∃ o D dc E ec, os[j]? = some o ∧ IsO w [.int .i64 o.1, .int .i64 o.2.1, .int .i64 o.2.2.1, .int .i64 o.2.2.2.1, .int .i64 o.2.2.2.2.1, .slice D o.2.2.2.2.2.1.length dc, .slice E o.2.2.2.2.2.2.length ec] o ∧
    SlA w 1 D o.2.2.2.2.2.1.length (nums .u8 o.2.2.2.2.2.1) ∧ SlA w 1 E o.2.2.2.2.2.2.length (nums .i64 o.2.2.2.2.2.2) ∧
    w.cell? (ad.add (j * 7)) = some (.int .i64 o.1) ∧ w.cell? ⟨(ad.add (j * 7)).block, (ad.add (j * 7)).off + 1, none⟩ = some (.int .i64 o.2.1) ∧ w.cell? ⟨(ad.add (j * 7)).block, (ad.add (j * 7)).off + 2, none⟩ = some (.int .i64 o.2.2.1) ∧
    w.cell? ⟨(ad.add (j * 7)).block, (ad.add (j * 7)).off + 3, none⟩ = some (.int .i64 o.2.2.2.1) ∧ w.cell? ⟨(ad.add (j * 7)).block, (ad.add (j * 7)).off + 4, none⟩ = some (.int .i64 o.2.2.2.2.1) ∧
    w.cell? ⟨(ad.add (j * 7)).block, (ad.add (j * 7)).off + 5, none⟩ = some (.slice D o.2.2.2.2.2.1.length dc) ∧ w.cell? ⟨(ad.add (j * 7)).block, (ad.add (j * 7)).off + 6, none⟩ = some (.slice E o.2.2.2.2.2.2.length ec) := by
  obtain ⟨zs, h1, rfl, h3, h4⟩ := h
  have hz := h4 (zs[j]) (List.getElem_mem hj)
  have hz0 := hz
  obtain ⟨D, dc, E, ec, e, hd, he, hdc⟩ := hz
  have cm := fun r hr => flat_cell (fun z : List Value × OpV => z.1) h3 (fun z hz => (h4 z hz).len) hj r hr
  rw [e] at cm
  rw [e] at hz0
  refine ⟨(zs[j]).2, D, dc, E, ec, by rw [← h1]; simp [hj], hz0, hd, he, cm 0 (by omega), ?_, ?_, ?_, ?_, ?_, ?_⟩
  · rw [add_of ad (j * 7) 1 (by omega)]; exact cm 1 (by omega)
  · rw [add_of ad (j * 7) 2 (by omega)]; exact cm 2 (by omega)
  · rw [add_of ad (j * 7) 3 (by omega)]; exact cm 3 (by omega)
  · rw [add_of ad (j * 7) 4 (by omega)]; exact cm 4 (by omega)
  · rw [add_of ad (j * 7) 5 (by omega)]; exact cm 5 (by omega)
  · rw [add_of ad (j * 7) 6 (by omega)]; exact cm 6 (by omega)
end Go.Proofs.Ytjihiohmemmabaa

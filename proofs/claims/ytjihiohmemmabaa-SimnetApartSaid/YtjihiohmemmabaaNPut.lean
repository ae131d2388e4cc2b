/- put: a packet into a bag. -/
import Derived.Test.YtjihiohmemmabaaNPkt
namespace Go.Proofs.Ytjihiohmemmabaa
open Go.RowKit Go.Gz
attribute [local go_sem] World.cell?_alloc_some frozen?_alloc_some

/-- What is not in F is as it was. -/
def Beside (F : Nat → Prop) (w w' : World) : Prop := w'.os = w.os ∧ w'.tape = w.tape ∧ w'.output = w.output ∧ w.heap.size ≤ w'.heap.size ∧ ∀ k, k < w.heap.size → ¬ F k → w'.heap[k]? = w.heap[k]?
/-- F, and all new blocks. -/
def grow (F : Nat → Prop) (w w' : World) : Nat → Prop := fun b => F b ∨ (w.heap.size ≤ b ∧ b < w'.heap.size)
def updF (f : Int → Int → List Pkt) (i j : Int) (l : List Pkt) : Int → Int → List Pkt := fun a b => if a = i ∧ b = j then l else f a b
section
variable {F : Nat → Prop} {w w1 w2 : World}
theorem Beside.refl (F : Nat → Prop) (w : World) : Beside F w w := ⟨rfl, rfl, rfl, Nat.le_refl _, fun _ _ _ => rfl⟩
theorem Beside.trans (h : Beside F w w1) (k : Beside (grow F w w1) w1 w2) : Beside F w w2 :=
  ⟨k.1.trans h.1, k.2.1.trans h.2.1, k.2.2.1.trans h.2.2.1, Nat.le_trans h.2.2.2.1 k.2.2.2.1, fun b hb hF => (k.2.2.2.2 b (Nat.lt_of_lt_of_le hb h.2.2.2.1) (fun hg => hg.elim hF (fun hh => by omega))).trans (h.2.2.2.2 b hb hF)⟩
theorem Beside.of_below (h : Below w.heap.size w w1) : Beside F w w1 := ⟨h.os, h.tape, h.output, h.size, fun k hk _ => h.block k hk⟩
theorem Beside.of_grown {row : Option Nat} (h : w.grownBy w1 row) (hr : ∀ r, row = some r → F r ∨ w.heap.size ≤ r) : Beside F w w1 := ⟨h.os, h.tape, h.output, h.size, fun k hk hF => h.block k hk (fun e => (hr k e.symm).elim hF (fun hh => by omega))⟩
theorem Beside.below {B : Nat} (h : Beside F w w1) (hF : ∀ b, F b → B ≤ b) (hB : B ≤ w.heap.size) : Below B w w1 := ⟨h.1, h.2.1, h.2.2.1, h.2.2.2.1, fun k hk => h.2.2.2.2 k (by omega) (fun hh => by have := hF k hh; omega)⟩
theorem Beside.blk {g : Nat} {cs : List Value} (h : Beside F w w1) (k : Blk w g cs) (hg : ¬ F g) : Blk w1 g cs := k.of_block (h.2.2.2.2 g k.lt hg)
theorem Beside.size (h : Beside F w w1) : w.heap.size ≤ w1.heap.size := h.2.2.2.1
end
theorem BagsAt.raise {w : World} {F : Nat → Prop} {bm N N' : Nat} {f : Int → Int → List Pkt} (h : BagsAt w F bm N f) (hn : N ≤ N') : BagsAt w F bm N' f := by
  obtain ⟨sl, h1, rest⟩ := h
  exact ⟨sl, h1.mono hn, rest⟩
theorem NetIs.mono {w : World} {F G : Nat → Prop} {g : Nat} {nodes : Int} {N N' : Nat} {f : Int → Int → List Pkt} {S : Int → Bool} (h : NetIs w F g nodes N f S) (hF : ∀ b, F b → G b) (hn : N ≤ N') : NetIs w G g nodes N' f S := by
  obtain ⟨bm, am, h1, h2, h3, hne, h4, D, h5, h6⟩ := h
  exact ⟨bm, am, h1, hF _ h2, hF _ h3, hne, (h4.mono hF).raise hn, D, h5.mono hn, h6⟩

theorem step_append_at {P : Program} {w : World} {ops : Array Oper} {o : Oper} {a : Act} {K : Act → World → Prop} {Q : Exit → Act → World → Prop} {E : Prop} (dst : Option Tmp) (hd : o.dst = dst) (hgd : o.guard = none) (s x : Operand) (t : TypeId)
    (ho : o.op = .call { callee := .builtin .append, args := #[s, x], argTypes := #[t, t] })
    (e : TypeId) (i : TypeInfo) (z : Value) (size bytes : Nat) (ht : P.underlying t = some (.slice e)) (hi : P.info? e = some i) (hz : i.zero = some z)
    (hsize : i.size = size) (hby : i.bytes = bytes) (hzs : z.cells.size = size) (hsz : 0 < size)
    (B : Option Addr) (n d : Nat) (xs : List Value) (hs : a.eval s = .slice B n d) (hown : w.ownsRow 0 e size (.slice B n d) n xs)
    (ad : Addr) (m c : Nat) (news : List Value) (hx : a.eval x = .slice (some ad) m c) (hr : SlA w size (some ad) m news) (h1 : ∀ u ∈ news, u.oneCell' = true)
    (hbytes : (n + m) * bytes ≤ 140737488355328) (hb0 : 0 < bytes)
    (h : ∀ A' c' w', w'.ownsRow 0 e size (.slice A' (n + m) c') (n + m) (xs ++ news) → w.grownBy w' (Value.slice B n d).ownBlock → ((Value.slice A' (n + m) c').ownBlock = (Value.slice B n d).ownBlock ∨ (Value.slice A' (n + m) c').ownBlock = some w.heap.size) → K (a.put dst (.slice A' (n + m) c')) w') :
    if Region.wanted o (yielded ops a.tmps) = true then Oper.wp P o a w K Q else E := by
  subst hd
  have hw : Region.wanted o (yielded ops a.tmps) = true := by simp [Region.wanted, hgd]
  rw [if_pos hw]
  have h63 : n + m ≤ maxLen := by
    have : n + m ≤ (n + m) * bytes := Nat.le_mul_of_pos_right _ hb0
    simp only [maxLen]; omega
  obtain ⟨v', w', hrun, h2, h3, _, h5⟩ := run_append_own_at (P := P) w 0 t o.type e i z size bytes ht hi hz hsize hby hzs hsz _ n xs hown ad m c news hr.1 (hr.2.2 ad rfl) h1 h63 hbytes (Nat.zero_le _)
  obtain ⟨A', c', rfl⟩ : ∃ A c, v' = .slice A (n + m) c := by
    rcases h2.2 with ⟨rfl, h0⟩ | ⟨g, cap, cur, rfl, _⟩
    · exact ⟨none, 0, by rw [h0]⟩
    · exact ⟨_, _, rfl⟩
  unfold Oper.wp execOp
  simp only [ho, resolve, invoke, builtin, Sem.run_bind, Sem.run_pure, Result.andThen_ok, List.map_toArray, List.map_cons, List.map_nil, hs, hx, hrun]
  exact h A' c' w' h2 h3 h5
theorem infoPkt : (Try.prog.info? 29).map (fun i => (i.zero, i.size, i.bytes)) = some (some (.agg #[.int .i64 0, .int .i64 0, .int .i64 0, .slice none 0 0]), 4, 48) := by kernel_rfl

/-- A bag's slice set anew: what the three steps make of it. -/
theorem bags_set {w4 w5 w6 w7 : World} {F G : Nat → Prop} {bm N : Nat} {f : Int → Int → List Pkt} {sl : Int → Int → Value} {i j : Int} {v' : Value} {zs zs' : List (List Value × Pkt)} (hi : Small i) (hj : Small j) (hFG : ∀ b, F b → G b)
    (hBM : BagMap w4 bm N sl) (hbm : F bm) (hown : ∀ a b, Small a → Small b → OwnPs w4 F (sl a b) (f a b)) (hap : ∀ i j a b, Small i → Small j → Small a → Small b → ¬ (i = a ∧ j = b) → (sl i j).ownBlock = none ∨ (sl i j).ownBlock ≠ (sl a b).ownBlock)
    (hz2 : w4.ownsRow 0 29 4 (sl i j) zs.length (zs.flatMap (·.1))) (hz3 : ∀ z ∈ zs', RdP w4 G z.1 z.2)
    (hg5 : w4.grownBy w5 (some bm)) (hm5 : ∃ es clock, w5.heap[bm]? = some (.map es clock)) (hz5 : w5.heap.size = w4.heap.size) (hg6 : w5.grownBy w6 (sl i j).ownBlock) (ho6 : w6.ownsRow 0 29 4 v' zs'.length (zs'.flatMap (·.1))) (hv' : v'.ownBlock = (sl i j).ownBlock ∨ v'.ownBlock = some w5.heap.size) (hGn : v'.ownBlock = some w5.heap.size → G w5.heap.size)
    (hg7 : w6.grownBy w7 (some bm)) (hBM7 : BagMap w7 bm (N + 1) (upd sl i j v')) : BagsAt w7 G bm (N + 1) (updF f i j (zs'.map (·.2))) := by
  have hb4 : ∃ es clock, w4.heap[bm]? = some (.map es clock) := by
    obtain ⟨D, ⟨es, clock, hb, _⟩, _⟩ := hBM
    exact ⟨es, clock, hb⟩
  have hltb := hBM.lt
  have nocells : ∀ {u : World} {es : Array MapEntry} {clock : Nat}, u.heap[bm]? = some (.map es clock) → ∀ cur t fr, ¬ u.heap[bm]? = some (.cells cur t fr) := fun h cur t fr h' => by rw [h] at h'; cases h'
  have ht5 : Turn w4 w5 := ⟨some bm, hg5, fun r e => by injection e with e; subst e; obtain ⟨es, clock, hb⟩ := hb4; exact nocells hb⟩
  -- the block of the bag's own row, in w5
  have hrow5 : ∀ g, (sl i j).ownBlock = some g → ∃ cur, w5.heap[g]? = some (.cells cur 29 (0, 0)) := fun g e => by
    have h5 := (row_turn hz2 ht5).2
    rcases h5 with ⟨hv, _⟩ | ⟨g', cap, cur, hv, _, hgg, _⟩
    · rw [hv] at e; cases e
    · rw [hv] at e
      simp only [Value.ownBlock, Option.some.injEq] at e
      subst e
      exact ⟨cur, hgg⟩
  have hmap7 : ∃ es clock, w7.heap[bm]? = some (.map es clock) := by
    obtain ⟨D, ⟨es, clock, hb, _⟩, _⟩ := hBM7
    exact ⟨es, clock, hb⟩
  have hsame6 : SameBut 29 w5 w6 := fun g t cur hg hne => (hg6.block g (Array.getElem?_eq_some_iff.1 hg).1 (fun e => by
    obtain ⟨cur', h'⟩ := hrow5 g e.symm
    rw [hg] at h'
    injection h' with h'
    injection h' with _ h'
    exact hne h')).trans hg
  have ht7 : Turn w6 w7 := ⟨some bm, hg7, fun r e cur t fr h' => by
    injection e with e
    subst e
    have hlt5 : bm < w5.heap.size := by omega
    by_cases e2 : some bm = (sl i j).ownBlock
    · obtain ⟨cur', h5⟩ := hrow5 bm e2.symm
      have h4 : ∃ cur', w4.heap[bm]? = some (.cells cur' 29 (0, 0)) := by
        rcases hz2.2 with ⟨hv, _⟩ | ⟨g', cap, cur2, hv, _, hgg, _⟩
        · rw [hv] at e2; cases e2
        · rw [hv] at e2
          simp only [Value.ownBlock, Option.some.injEq] at e2
          subst e2
          exact ⟨cur2, hgg⟩
      obtain ⟨cur3, h4⟩ := h4
      obtain ⟨es, clock, hb⟩ := hb4
      rw [hb] at h4
      cases h4
    · rw [hg6.block bm hlt5 e2] at h'
      obtain ⟨es, clock, hb⟩ := hm5
      rw [hb] at h'
      cases h'⟩
  refine ⟨upd sl i j v', hBM7, hFG _ hbm, fun a b ha hb => ?_, fun a b a' b' ha hb ha' hb' hne => ?_⟩
  · unfold upd updF
    by_cases e : a = i ∧ b = j
    · rw [if_pos e, if_pos e]
      refine ⟨zs', rfl, row_turn ho6 ht7, fun g hg => ?_, fun z hz => (((hz3 z hz).turn ht5).same hsame6 (by decide)).turn ht7⟩
      rcases hv' with h' | h'
      · rw [h'] at hg
        obtain ⟨_, _, _, h3, _⟩ := hown i j hi hj
        exact hFG _ (h3 g hg)
      · have h'' := h'
        rw [h'] at hg
        injection hg with hg
        subst hg
        exact hGn h''
    · rw [if_neg e, if_neg e]
      obtain ⟨zs2, q1, q2, q3, q4⟩ := hown a b ha hb
      refine ⟨zs2, q1, row_turn ((row_turn q2 ht5).kept hg6 ?_) ht7, fun g hg => hFG _ (q3 g hg), fun z hz => ((((q4 z hz).turn ht5).same hsame6 (by decide)).turn ht7).mono hFG⟩
      exact hap a b i j ha hb hi hj e
  · unfold upd
    by_cases e : a = i ∧ b = j
    · by_cases e' : a' = i ∧ b' = j
      · exact absurd ⟨e.1.trans e'.1.symm, e.2.trans e'.2.symm⟩ hne
      · rw [if_pos e, if_neg e']
        rcases hv' with h' | h'
        · rw [h']
          exact hap i j a' b' hi hj ha' hb' (fun q => e' ⟨q.1.symm, q.2.symm⟩)
        · refine .inr (fun q => ?_)
          rw [h'] at q
          obtain ⟨zs2, _, q2, _⟩ := hown a' b' ha' hb'
          have := (q2.lt _ q.symm).2
          omega
    · rw [if_neg e]
      by_cases e' : a' = i ∧ b' = j
      · rw [if_pos e']
        rcases hv' with h' | h'
        · rw [h']
          exact hap a b i j ha hb hi hj e
        · cases hab : (sl a b).ownBlock with
          | none => exact .inl rfl
          | some g =>
            refine .inr (fun q => ?_)
            rw [h'] at q
            injection q with q
            obtain ⟨zs2, _, q2, _⟩ := hown a b ha hb
            have := (q2.lt _ hab).2
            omega
      · rw [if_neg e']
        exact hap a b a' b' ha hb ha' hb' hne

/-- A bag, with one more. -/
theorem bags_put {w4 w5 w6 w7 : World} {F G : Nat → Prop} {bm N : Nat} {f : Int → Int → List Pkt} {sl : Int → Int → Value} {i j : Int} {v' : Value} {cs' : List Value} {x : Pkt} {zs : List (List Value × Pkt)} (hi : Small i) (hj : Small j) (hFG : ∀ b, F b → G b)
    (hBM : BagMap w4 bm N sl) (hbm : F bm) (hown : ∀ a b, Small a → Small b → OwnPs w4 F (sl a b) (f a b)) (hap : ∀ i j a b, Small i → Small j → Small a → Small b → ¬ (i = a ∧ j = b) → (sl i j).ownBlock = none ∨ (sl i j).ownBlock ≠ (sl a b).ownBlock)
    (hz1 : zs.map (·.2) = f i j) (hz2 : w4.ownsRow 0 29 4 (sl i j) zs.length (zs.flatMap (·.1))) (hz3 : ∀ z ∈ zs, RdP w4 F z.1 z.2) (hx : RdP w4 G cs' x)
    (hg5 : w4.grownBy w5 (some bm)) (hm5 : ∃ es clock, w5.heap[bm]? = some (.map es clock)) (hz5 : w5.heap.size = w4.heap.size) (hg6 : w5.grownBy w6 (sl i j).ownBlock) (ho6 : w6.ownsRow 0 29 4 v' (zs.length + 1) (zs.flatMap (·.1) ++ cs')) (hv' : v'.ownBlock = (sl i j).ownBlock ∨ v'.ownBlock = some w5.heap.size) (hGn : v'.ownBlock = some w5.heap.size → G w5.heap.size)
    (hg7 : w6.grownBy w7 (some bm)) (hBM7 : BagMap w7 bm (N + 1) (upd sl i j v')) : BagsAt w7 G bm (N + 1) (updF f i j (f i j ++ [x])) := by
  have e1 : (zs ++ [(cs', x)]).map (·.2) = f i j ++ [x] := by simp [hz1]
  rw [← e1]
  refine bags_set (zs := zs) hi hj hFG hBM hbm hown hap hz2 (fun z hz => ?_) hg5 hm5 hz5 hg6 (by simpa using ho6) hv' hGn hg7 hBM7
  rcases List.mem_append.1 hz with hz | hz
  · exact (hz3 z hz).mono hFG
  · simp only [List.mem_singleton] at hz
    subst hz
    exact hx

theorem blk_sl {w : World} {g size n : Nat} {cs : List Value} (h : Blk w g cs) (hl : cs.length = n * size) : SlA w size (some ⟨g, 0, none⟩) n cs :=
  ⟨hl, fun e => (by cases e), fun ad e j u hu => by injection e with e; subst e; rw [Addr.add_lit, Nat.zero_add, h.cell]; exact hu⟩
theorem row_block {w : World} {e : TypeId} {size n : Nat} {v : Value} {xs : List Value} (h : w.ownsRow 0 e size v n xs) {r : Nat} (hr : v.ownBlock = some r) : ∃ cur, w.heap[r]? = some (.cells cur e (0, 0)) := by
  rcases h.2 with ⟨rfl, _⟩ | ⟨g, cap, cur, rfl, _, hgg, _⟩
  · cases hr
  · simp only [Value.ownBlock, Option.some.injEq] at hr
    subst hr
    exact ⟨cur, hgg⟩

/-- What put answers. -/
def PutIs (w w' : World) (F : Nat → Prop) (g : Nat) (nodes : Int) (N : Nat) (f : Int → Int → List Pkt) (S : Int → Bool) (i j : Int) (x : Pkt) (e : Ending) : Prop := Beside F w w' ∧
  ((64 ≤ (f i j).length ∧ e = .returned (.int .i64 32) ∧ NetIs w' (grow F w w') g nodes (N + 1) f S) ∨ ((f i j).length < 64 ∧ e = .returned (.int .i64 0) ∧ NetIs w' (grow F w w') g nodes (N + 1) (updF f i j (f i j ++ [x])) S))

set_option maxHeartbeats 4000000 in
theorem put_any (w : World) (F : Nat → Prop) (g : Nat) (nodes : Int) (N : Nat) (f : Int → Int → List Pkt) (S : Int → Bool) (i j : Int) (cs : List Value) (x : Pkt) (h : NetIs w F g nodes N f S) (hF : ∀ b, F b → b < w.heap.size) (hi : Small i) (hj : Small j) (hN : N < maxLen) (hx : IsP w cs x) (hxl : x.2.2.2.length ≤ 140737488355328) :
    Calls Try.prog 24 #[.pointer (some ⟨g, 0, none⟩), .agg #[.int .i64 i, .int .i64 j], .agg cs.toArray] w fun e w' => PutIs w w' F g nodes N f S i j x e := by
  obtain ⟨i0, hi0, hz0, hz1', hz2'⟩ := info_parts infoPkt
  have HNET := Lib.hid h
  obtain ⟨bm, am, kg, hFg, hFa, hne, ⟨sl, hBM, hFb, hown, hap⟩, hside⟩ := h
  obtain ⟨D0, d0, rfl, hD⟩ := hx
  have HBM := Lib.hid hBM
  have HOWN := Lib.hid hown
  have HAP := Lib.hid hap
  have HSIDE := Lib.hid hside
  have HX := Lib.hid (show IsP w [.int .i64 x.1, .int .i64 x.2.1, .int .i64 x.2.2.1, .slice D0 x.2.2.2.length d0] x from ⟨D0, d0, rfl, hD⟩)
  obtain ⟨A, c, hsl⟩ := (hown i j hi hj).slice
  obtain ⟨n, hn⟩ : ∃ n, n = (f i j).length := ⟨_, rfl⟩
  rw [← hn] at hsl
  have HSL := Lib.hid hsl
  have HN := Lib.hid hn
  clear hBM hown hap hside hD hsl hn
  go_enter Try.func24, Try.ntmps24
  go_wp2_with fail
  refine name_world (fun w1 hw1 => ?_)
  have k4 : Blk w1 w.heap.size [.int .i64 i, .int .i64 j] := by rw [hw1]; exact (Blk.new _ _ _ _ rfl).alloc _
  have k5 : Blk w1 (w.heap.size + 1) [.int .i64 x.1, .int .i64 x.2.1, .int .i64 x.2.2.1, .slice D0 x.2.2.2.length d0] := by rw [hw1]; exact Blk.new _ _ _ _ (by simp)
  have hb1 : Below w.heap.size w w1 := by rw [hw1]; exact (by (repeat first | refine Below.setCell ?_ (by first | omega | (dsimp only; omega) | (simp only [heap_drew, World.size_alloc, Gz.size_setCell]; omega)) _ | refine Below.alloc ?_ (by first | omega | (dsimp only; omega) | (simp only [heap_drew, World.size_alloc, Gz.size_setCell]; omega)) _ | refine Below.drew ?_); exact Below.refl _ _)
  have hz1 : w1.heap.size = w.heap.size + 2 := by rw [hw1]; simp
  clear hw1
  have kg1 := kg.below hb1
  have cg := kg1.blk.cell 1
  have c40 := k4.cell 0
  have c41 := k4.cell 1
  have hglt := kg.lt
  have hBM1 : ∀ W, Below w.heap.size w W → BagMap W bm N sl := fun W hb => HBM.out.kept (row := none) ⟨hb.os, hb.tape, hb.output, hb.size, fun k hk _ => hb.block k hk⟩ (by simp)
  have HBM1 := Lib.hid hBM1
  have hlk : (Instr.lookup 55 (.map (some bm)) (.agg #[.int .i64 i, .int .i64 j]) false).run Try.prog w1.drew = .ok (.slice A n c) w1.drew := by
    have := bag_lookup (HBM1.out w1.drew hb1.drew) hi hj
    rw [HSL.out] at this
    exact this
  clear hBM1
  refine wp_region_held_drew (S := fun W => W = w1.drew) (by kernel_rfl) rfl (fun hS => ?_)
  simp only [List.size_toArray, List.length_cons, List.length_nil]
  refine take_at (i := 0) (oi := _) (dst := some 7) (v := ?_) rfl rfl (by kernel_rfl) (by kernel_rfl) (by kernel_rfl) (fun _ _ _ h => h) (Or.inl ⟨by rfl, by intro w hSw; (try dsimp only at hSw); go_simp; (try with_reducible rfl)⟩) (by assumption) ?_; (try simp only [Act.put, List.setIfInBounds_toArray, List.set_cons_zero, List.set_cons_succ])
  refine take_at (i := 1) (oi := _) (dst := some 8) (v := ?_) rfl rfl (by kernel_rfl) (by kernel_rfl) (by kernel_rfl) (fun _ _ _ h => h) (Or.inl ⟨by rfl, by intro w hSw; (try dsimp only at hSw); go_simp; (try with_reducible rfl)⟩) (by assumption) ?_; (try simp only [Act.put, List.setIfInBounds_toArray, List.set_cons_zero, List.set_cons_succ])
  refine take_at (i := 2) (oi := _) (dst := some 9) (v := ?_) rfl rfl (by kernel_rfl) (by kernel_rfl) (by kernel_rfl) (fun _ _ _ h => h) (Or.inl ⟨by rfl, by intro w hSw; (try dsimp only at hSw); go_simp; (try with_reducible rfl)⟩) (by assumption) ?_; (try simp only [Act.put, List.setIfInBounds_toArray, List.set_cons_zero, List.set_cons_succ])
  refine take_at (i := 3) (oi := _) (dst := some 10) (v := ?_) rfl rfl (by kernel_rfl) (by kernel_rfl) (by kernel_rfl) (fun _ _ _ h => h) (Or.inl ⟨by rfl, by intro w hSw; (try dsimp only at hSw); go_simp; (try with_reducible rfl)⟩) (by assumption) ?_; (try simp only [Act.put, List.setIfInBounds_toArray, List.set_cons_zero, List.set_cons_succ])
  refine take_at (i := 4) (oi := _) (dst := some 11) (v := ?_) rfl rfl (by kernel_rfl) (by kernel_rfl) (by kernel_rfl) (fun _ _ _ h => h) (Or.inl ⟨by rfl, by intro w hSw; (try dsimp only at hSw); go_simp; (try with_reducible rfl)⟩) (by assumption) ?_; (try simp only [Act.put, List.setIfInBounds_toArray, List.set_cons_zero, List.set_cons_succ])
  refine take_at (i := 5) (oi := _) (dst := some 12) (v := ?_) rfl rfl (by kernel_rfl) (by kernel_rfl) (by kernel_rfl) (fun _ _ _ h => h) (Or.inl ⟨by rfl, by intro w hSw; (try dsimp only at hSw); go_simp; (try with_reducible rfl)⟩) (by assumption) ?_; (try simp only [Act.put, List.setIfInBounds_toArray, List.set_cons_zero, List.set_cons_succ])
  refine take_at (i := 6) (oi := _) (dst := some 13) (v := ?_) rfl rfl (by kernel_rfl) (by kernel_rfl) (by kernel_rfl) (fun _ _ _ h => h) (Or.inl ⟨by rfl, by intro w hSw; (try dsimp only at hSw); go_simp; (try with_reducible rfl)⟩) (by assumption) ?_; (try simp only [Act.put, List.setIfInBounds_toArray, List.set_cons_zero, List.set_cons_succ])
  refine take_at (i := 7) (oi := _) (dst := some 14) (v := ?_) rfl rfl (by kernel_rfl) (by kernel_rfl) (by kernel_rfl) (fun _ _ _ h => h) (Or.inl ⟨by rfl, by intro w hSw; (try dsimp only at hSw); go_simp; (try with_reducible rfl)⟩) (by assumption) ?_; (try simp only [Act.put, List.setIfInBounds_toArray, List.set_cons_zero, List.set_cons_succ])
  refine wpAnyH_done (by kernel_rfl) ?_ _
  by_cases h64 : 64 ≤ n
  · have b1 : (64 : Int) ≤ (n : Int) := by omega
    clear hS
    go_wp2
    go_ret
    exact ⟨Beside.of_below hb1.drew, .inl ⟨by rw [← HN.out]; exact h64, rfl, (HNET.out.below hb1.drew).mono (fun b hb => .inl hb) (by omega)⟩⟩
  have b1 : ¬ (64 : Int) ≤ (n : Int) := by omega
  clear hS hlk
  go_wp2_with fail
  refine name_world (fun w2 hw2 => ?_)
  have hb2 : Below w.heap.size w w2 := by rw [hw2]; exact hb1.drew
  have kg2 : Blk w2 g [.int .i64 nodes, .map (some bm), .map (some am)] := by rw [hw2]; exact kg1.blk.drew
  have k4 : Blk w2 w.heap.size [.int .i64 i, .int .i64 j] := by rw [hw2]; exact k4.drew
  have k5 : Blk w2 (w.heap.size + 1) [.int .i64 x.1, .int .i64 x.2.1, .int .i64 x.2.2.1, .slice D0 x.2.2.2.length d0] := by rw [hw2]; exact k5.drew
  have hz2 : w2.heap.size = w.heap.size + 2 := by rw [hw2]; exact hz1
  clear hw2 cg c40 c41 b1
  have mkS : ∀ W, Blk W g [.int .i64 nodes, .map (some bm), .map (some am)] → Blk W w.heap.size [.int .i64 i, .int .i64 j] → Blk W (w.heap.size + 1) [.int .i64 x.1, .int .i64 x.2.1, .int .i64 x.2.2.1, .slice D0 x.2.2.2.length d0] →
      (∀ r, W.cell? ⟨g, r, none⟩ = ([.int .i64 nodes, .map (some bm), .map (some am)] : List Value)[r]?) ∧ (∀ r, W.cell? ⟨w.heap.size, r, none⟩ = ([.int .i64 i, .int .i64 j] : List Value)[r]?) ∧ ∀ r, W.cell? ⟨w.heap.size + 1, r, none⟩ = ([.int .i64 x.1, .int .i64 x.2.1, .int .i64 x.2.2.1, .slice D0 x.2.2.2.length d0] : List Value)[r]? := fun W a b c => ⟨a.cell, b.cell, c.cell⟩
  have MKS := Lib.hid mkS
  clear mkS
  refine wp_region_held_drew (S := fun W => (∀ r, W.cell? ⟨g, r, none⟩ = ([.int .i64 nodes, .map (some bm), .map (some am)] : List Value)[r]?) ∧ (∀ r, W.cell? ⟨w.heap.size, r, none⟩ = ([.int .i64 i, .int .i64 j] : List Value)[r]?) ∧ ∀ r, W.cell? ⟨w.heap.size + 1, r, none⟩ = ([.int .i64 x.1, .int .i64 x.2.1, .int .i64 x.2.2.1, .slice D0 x.2.2.2.length d0] : List Value)[r]?) (by kernel_rfl) (MKS.out _ kg2.drew k4.drew k5.drew) (fun hS => ?_)
  simp only [List.size_toArray, List.length_cons, List.length_nil]
  refine take_at (i := 0) (oi := _) (dst := some 15) (v := ?_) rfl rfl (by kernel_rfl) (by kernel_rfl) (by kernel_rfl) (fun _ _ _ h => h) (Or.inl ⟨by rfl, by intro w hSw; (try dsimp only at hSw); go_simp; (try with_reducible rfl)⟩) (by assumption) ?_; (try simp only [Act.put, List.setIfInBounds_toArray, List.set_cons_zero, List.set_cons_succ])
  refine take_at (i := 1) (oi := _) (dst := some 16) (v := ?_) rfl rfl (by kernel_rfl) (by kernel_rfl) (by kernel_rfl) (fun _ _ _ h => h) (Or.inl ⟨by rfl, by intro w hSw; (try dsimp only at hSw); go_simp; (try with_reducible rfl)⟩) (by assumption) ?_; (try simp only [Act.put, List.setIfInBounds_toArray, List.set_cons_zero, List.set_cons_succ])
  refine take_at (i := 2) (oi := _) (dst := some 17) (v := ?_) rfl rfl (by kernel_rfl) (by kernel_rfl) (by kernel_rfl) (fun _ _ _ h => h) (Or.inl ⟨by rfl, by intro w hSw; (try dsimp only at hSw); go_simp; (try with_reducible rfl)⟩) (by assumption) ?_; (try simp only [Act.put, List.setIfInBounds_toArray, List.set_cons_zero, List.set_cons_succ])
  refine take_at (i := 3) (oi := _) (dst := some 18) (v := ?_) rfl rfl (by kernel_rfl) (by kernel_rfl) (by kernel_rfl) (fun _ _ _ h => h) (Or.inl ⟨by rfl, by intro w hSw; (try dsimp only at hSw); go_simp; (try with_reducible rfl)⟩) (by assumption) ?_; (try simp only [Act.put, List.setIfInBounds_toArray, List.set_cons_zero, List.set_cons_succ])
  refine take_at (i := 4) (oi := _) (dst := some 19) (v := ?_) rfl rfl (by kernel_rfl) (by kernel_rfl) (by kernel_rfl) (fun _ _ _ h => h) (Or.inl ⟨by rfl, by intro w hSw; (try dsimp only at hSw); go_simp; (try with_reducible rfl)⟩) (by assumption) ?_; (try simp only [Act.put, List.setIfInBounds_toArray, List.set_cons_zero, List.set_cons_succ])
  refine take_at (i := 5) (oi := _) (dst := some 21) (v := ?_) rfl rfl (by kernel_rfl) (by kernel_rfl) (by kernel_rfl) (fun _ _ _ h => h) (Or.inl ⟨by rfl, by intro w hSw; (try dsimp only at hSw); go_simp; (try with_reducible rfl)⟩) (by assumption) ?_; (try simp only [Act.put, List.setIfInBounds_toArray, List.set_cons_zero, List.set_cons_succ])
  refine wpAnyH_ready (rs := [6]) (by kernel_rfl) (by simp) ?_; refine AllReadyH.cons (o := _) rfl (fun K hK => ?_) AllReadyH.nil; go_simp
  refine (copied_any _ x _ (HX.out.below hb2.drew) hxl).mono ?_
  rintro e w3 ⟨hb3, cs', rfl, hx'⟩
  have hb3 := of_drew hb3
  have hz3 := hb3.size
  have hx' : RdP w3 (fun b => w2.heap.size ≤ b ∧ b < w3.heap.size) cs' x := hx'
  obtain ⟨D3, d3, rfl, hd3⟩ := hx'
  have HX3 := Lib.hid (show RdP w3 (fun b => w2.heap.size ≤ b ∧ b < w3.heap.size) [.int .i64 x.1, .int .i64 x.2.1, .int .i64 x.2.2.1, .slice D3 x.2.2.2.length d3] x from ⟨D3, d3, rfl, hd3⟩)
  have kg3 := kg2.ext hb3
  have k4 := k4.ext hb3
  have k5 := k5.ext hb3
  have hbw3 := hb2.trans (hb3.mono hb2.size)
  refine hK.out _ _ (MKS.out _ kg3 k4 k5) (fun hS3 => ?_)
  clear hK hd3 hS
  refine wpAnyH_ready (rs := [7]) (by kernel_rfl) (by simp) ?_; refine AllReadyH.cons (o := _) rfl (fun K hK => ?_) AllReadyH.nil; go_simp
  have hb34 := below_alloc_one w3 (.cells #[.int .i64 x.1, .int .i64 x.2.1, .int .i64 x.2.2.1, .slice D3 x.2.2.2.length d3] 29)
  have k23 := Blk.new w3 29 [.int .i64 x.1, .int .i64 x.2.1, .int .i64 x.2.2.1, .slice D3 x.2.2.2.length d3] _ rfl
  have hz4 : (w3.alloc (.cells #[.int .i64 x.1, .int .i64 x.2.1, .int .i64 x.2.2.1, .slice D3 x.2.2.2.length d3] 29)).heap.size = w3.heap.size + 1 := by simp
  refine hK.out _ _ (MKS.out _ (kg3.ext hb34) (k4.ext hb34) (k5.ext hb34)) (fun hS4 => ?_)
  clear hK hS3
  generalize w3.alloc (.cells #[.int .i64 x.1, .int .i64 x.2.1, .int .i64 x.2.2.1, .slice D3 x.2.2.2.length d3] 29) = w4 at hS4 hb34 k23 hz4 ⊢
  have kg4 := kg3.ext hb34
  have k4 := k4.ext hb34
  have k5 := k5.ext hb34
  have hbw4 := hbw3.trans (hb34.mono hbw3.size)
  obtain ⟨st, w5, hrun5, hg5, hz5, hm5, hback⟩ := bag_entry (HBM1.out w4 hbw4) hN hi hj
  have HBACK := Lib.hid hback
  rw [HSL.out] at hrun5
  simp only [linkV, goInt] at hrun5
  have hgbm : g ≠ bm := fun e => by
    subst e
    obtain ⟨D, ⟨es, clock, hb, _⟩, _⟩ := HBM1.out w4 hbw4
    obtain ⟨t, ht⟩ := kg4
    rw [hb] at ht
    cases ht
  have hbl := hF bm hFb
  have kg5 := kg4.grown hg5 (fun e => by injection e with e; exact hgbm e)
  have k4 := k4.grown hg5 (fun e => by injection e with e; omega)
  have k5 := k5.grown hg5 (fun e => by injection e with e; omega)
  have k23 := k23.grown hg5 (fun e => by injection e with e; omega)
  clear hback
  refine wpAnyH_ready (rs := [8]) (by kernel_rfl) (by simp) ?_; refine AllReadyH.cons (o := _) rfl (fun K hK => ?_) AllReadyH.nil; go_simp
  refine hK.out _ _ (MKS.out _ kg5 k4 k5) (fun hS5 => ?_)
  clear hK hS4 hrun5
  refine take_at (i := 9) (oi := _) (dst := some 20) (v := ?_) rfl rfl (by kernel_rfl) (by kernel_rfl) (by kernel_rfl) (fun _ _ _ h => h) (Or.inl ⟨by rfl, by intro w hSw; (try dsimp only at hSw); go_simp; (try with_reducible rfl)⟩) (by assumption) ?_; (try simp only [Act.put, List.setIfInBounds_toArray, List.set_cons_zero, List.set_cons_succ])
  refine take_at (i := 11) (oi := _) (dst := some 26) (v := ?_) rfl rfl (by kernel_rfl) (by kernel_rfl) (by kernel_rfl) (fun _ _ _ h => h) (Or.inl ⟨by rfl, by intro w hSw; (try dsimp only at hSw); go_simp; (try with_reducible rfl)⟩) (by assumption) ?_; (try simp only [Act.put, List.setIfInBounds_toArray, List.set_cons_zero, List.set_cons_succ])
  obtain ⟨zs, q1, q2, q3, q4⟩ := (HOWN.out i j hi hj).grown (Spared.of_below hbw4)
  have hzl : zs.length = n := by rw [HN.out, ← q1, List.length_map]
  have ht5 : Turn w4 w5 := ⟨some bm, hg5, fun r e cur t fr h' => by
    injection e with e
    subst e
    obtain ⟨D, ⟨es, clock, hb, _⟩, _⟩ := HBM1.out w4 hbw4
    rw [hb] at h'
    cases h'⟩
  have q25 := row_turn q2 ht5
  have hrF : ∀ r, (Value.slice A n c).ownBlock = some r → F r := fun r e => q3 r (by rw [HSL.out]; exact e)
  have hrg : ∀ r, (Value.slice A n c).ownBlock = some r → r ≠ g := fun r e e2 => by
    subst e2
    obtain ⟨cur, hc⟩ := row_block q25 (by rw [HSL.out]; exact e)
    have hT : BlkT w5 r 58 [.int .i64 nodes, .map (some bm), .map (some am)] := (hg5.block r (by have := hbw4.size; omega) (fun e => by injection e with e; exact hgbm e)).trans (kg.below hbw4)
    have hT' : w5.heap[r]? = some (.cells _ 58 (0, 0)) := hT
    rw [hc] at hT'
    injection hT' with hT'
    injection hT' with _ hT'
    exact absurd hT' (by decide)
  have Q1 := Lib.hid q1
  have Q2 := Lib.hid q2
  have Q4 := Lib.hid q4
  rw [hzl, HSL.out] at q25
  clear q1 q2 q3 q4
  refine wpAnyH_ready (rs := [10]) (by kernel_rfl) (by simp) ?_; refine AllReadyH.cons (o := _) rfl (fun K hK => ?_) AllReadyH.nil
  refine step_append_at (some 25) rfl rfl (.tmp 20) (.tmp 23) 40 rfl 29 i0 _ 4 48 Try.underlying40 hi0 hz0 hz1' hz2' rfl (by omega) A n c (zs.flatMap (·.1)) rfl q25 ⟨w3.heap.size, 0, none⟩ 1 1 [.int .i64 x.1, .int .i64 x.2.1, .int .i64 x.2.2.1, .slice D3 x.2.2.2.length d3] rfl (blk_sl k23 rfl) HX3.out.one (by omega) (by omega) ?_
  intro A6 c6 w6 ho6 hg6 hv6
  have kg6 := kg5.grown hg6 (fun e => hrg g e.symm rfl)
  have k4 := k4.grown hg6 (fun e => by have := hF _ (hrF _ e.symm); omega)
  have k5 := k5.grown hg6 (fun e => by have := hF _ (hrF _ e.symm); omega)
  refine hK.out _ _ (MKS.out _ kg6 k4 k5) (fun hS6 => ?_)
  clear hK hS5
  have hbm6 : w6.heap[bm]? = w5.heap[bm]? := hg6.block bm (by have := hbw4.size; omega) (fun e => by
    obtain ⟨cur, hc⟩ := row_block q25 e.symm
    obtain ⟨es, clock, hb⟩ := hm5
    rw [hc] at hb
    cases hb)
  obtain ⟨w7, hrun7, hg7, hz7, hBM7⟩ := HBACK.out w6 (.slice A6 (n + 1) c6) hbm6
  simp only [goInt] at hrun7
  have HBM7 := Lib.hid hBM7
  clear hBM7 hbm6
  refine wpAnyH_ready (rs := [12]) (by kernel_rfl) (by simp) ?_; refine AllReadyH.cons (o := _) rfl (fun K hK => ?_) AllReadyH.nil; go_simp
  have kg7 := kg6.grown hg7 (fun e => by injection e with e; exact hgbm e)
  have k4 := k4.grown hg7 (fun e => by injection e with e; omega)
  have k5 := k5.grown hg7 (fun e => by injection e with e; omega)
  refine hK.out _ _ (MKS.out _ kg7 k4 k5) (fun hS7 => ?_)
  clear hK hS6 hrun7
  refine wpAnyH_done (by kernel_rfl) ?_ _
  go_wp2
  go_ret
  have hz6 := hg6.size
  have hwz : w.heap.size ≤ w7.heap.size := by omega
  have hbes : Beside F w w7 := by
    refine (Beside.of_below hbw4).trans ((Beside.of_grown hg5 (fun r e => ?_)).trans ((Beside.of_grown hg6 (fun r e => ?_)).trans (Beside.of_grown hg7 (fun r e => ?_))))
    · injection e with e
      subst e
      exact .inl (.inl hFb)
    · exact .inl (.inl (.inl (hrF r e)))
    · injection e with e
      subst e
      exact .inl (.inl (.inl (.inl hFb)))
  refine ⟨hbes, .inr ⟨by rw [← HN.out]; omega, rfl, bm, am, ?_, .inl hFg, .inl hFa, hne, ?_, ?_⟩⟩
  · have hT5 : w5.heap[g]? = w4.heap[g]? := hg5.block g (by have := hbw4.size; omega) (fun e => by injection e with e; exact hgbm e)
    have hT6 : w6.heap[g]? = w5.heap[g]? := hg6.block g (by have := hbw4.size; omega) (fun e => hrg g e.symm rfl)
    have hT7 : w7.heap[g]? = w6.heap[g]? := hg7.block g (by have := hbw4.size; omega) (fun e => by injection e with e; exact hgbm e)
    exact hT7.trans (hT6.trans (hT5.trans (kg.below hbw4)))
  · refine bags_put (w4 := w4) (w5 := w5) (w6 := w6) (F := F) hi hj (fun b hb => .inl hb) (HBM1.out w4 hbw4) hFb (fun a b ha hb => (HOWN.out a b ha hb).grown (Spared.of_below hbw4)) HAP.out Q1.out Q2.out Q4.out (cs' := [.int .i64 x.1, .int .i64 x.2.1, .int .i64 x.2.2.1, .slice D3 x.2.2.2.length d3]) (((HX3.out.grown (Spared.of_below hb34)).mono (fun b hb => .inr ⟨by omega, by omega⟩))) hg5 hm5 hz5 (by rw [HSL.out]; exact hg6) (by rw [hzl]; exact ho6) (by rw [HSL.out]; exact hv6) (fun e => .inr ⟨by omega, by have := (ho6.lt _ e).2; omega⟩) hg7 HBM7.out
  · obtain ⟨Da, ha1, ha2⟩ := HSIDE.out
    have hal := ha1.lt
    have hamap : ∃ es clock, w5.heap[am]? = some (.map es clock) := by
      obtain ⟨es, clock, hb, _⟩ := ha1
      refine ⟨es, clock, ((hg5.block am (by have := hbw4.size; omega) (fun e => by injection e with e; exact hne e)).trans (hbw4.block am hal)).trans hb⟩
    refine ⟨Da, ((((ha1.kept (row := none) ⟨hbw4.os, hbw4.tape, hbw4.output, hbw4.size, fun k hk _ => hbw4.block k hk⟩ (by simp)).kept hg5 (fun e => by injection e with e; exact hne e)).kept hg6 (fun e => ?_)).kept hg7 (fun e => by injection e with e; exact hne e)).mono (by omega), ha2⟩
    obtain ⟨cur, hc⟩ := row_block q25 e.symm
    obtain ⟨es, clock, hb⟩ := hamap
    rw [hc] at hb
    cases hb
end Go.Proofs.Ytjihiohmemmabaa

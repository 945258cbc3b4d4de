/- What the law's spoil comes to: it turns cells of bytes and of texts alone, in the tree's own rows. -/
import Derived.Test.YtmhlmbmenoihnaaDoorK1
namespace Go.Proofs.YtmhlmbmenoihnaaDoor.K
open Go.RowKit Go.Proofs.YtmhlmbmenoihnaaDoor.G Go.Proofs.YtmhlmbmenoihnaaDoorW.PrintWords Go.Proofs.YtmhlmbmenoihnaaDoorW.PrintLast Go.Proofs.YtmhlmbmenoihnaaDoorW.PrintMore Go.Proofs.YtmhlmbmenoihnaaDoor.OT Go.Proofs.YtmhlmbmenoihnaaDoor.P
set_option linter.unusedVariables false
set_option linter.unusedSimpArgs false

/-- Cells of bytes and of texts alone have turned, and what is new. -/
structure Kw (w w' : World) : Prop where
  size : w.heap.size ≤ w'.heap.size
  same : ∀ (k : Nat) (cells : Array Value) (q : Nat), w.heap[k]? = some (.cells cells q (0, 0)) → q ≠ 5 → q ≠ 9 → w'.heap[k]? = some (.cells cells q (0, 0))
  bytes : ∀ (k : Nat) (cells : Array Value), w.heap[k]? = some (.cells cells 5 (0, 0)) → ∃ cells' : Array Value, w'.heap[k]? = some (.cells cells' 5 (0, 0)) ∧ ∀ (i : Nat) (x : Int), cells[i]? = some (.int .u8 x) → ∃ y, cells'[i]? = some (.int .u8 y)
  texts : ∀ (k : Nat) (cells : Array Value), w.heap[k]? = some (.cells cells 9 (0, 0)) → ∃ cells' : Array Value, w'.heap[k]? = some (.cells cells' 9 (0, 0)) ∧ ∀ (i : Nat) (x : ByteArray), cells[i]? = some (.string x) → ∃ y, cells'[i]? = some (.string y)
theorem Kw.of_below {w w' : World} (h : Below w.heap.size w w') : Kw w w' :=
  ⟨h.size, fun k c q e _ _ => (h.block k (blk_lt e)).trans e, fun k c e => ⟨c, (h.block k (blk_lt e)).trans e, fun i x hx => ⟨x, hx⟩⟩, fun k c e => ⟨c, (h.block k (blk_lt e)).trans e, fun i x hx => ⟨x, hx⟩⟩⟩
theorem Kw.refl (w : World) : Kw w w := Kw.of_below (Below.refl _ _)
theorem Kw.trans {a b c : World} (h : Kw a b) (k : Kw b c) : Kw a c :=
  ⟨Nat.le_trans h.size k.size, fun g cs q e h1 h2 => k.same g cs q (h.same g cs q e h1 h2) h1 h2, fun g cs e => by
    obtain ⟨c1, e1, f1⟩ := h.bytes g cs e
    obtain ⟨c2, e2, f2⟩ := k.bytes g c1 e1
    exact ⟨c2, e2, fun i x hx => by obtain ⟨y, hy⟩ := f1 i x hx; exact f2 i y hy⟩, fun g cs e => by
    obtain ⟨c1, e1, f1⟩ := h.texts g cs e
    obtain ⟨c2, e2, f2⟩ := k.texts g c1 e1
    exact ⟨c2, e2, fun i x hx => by obtain ⟨y, hy⟩ := f1 i x hx; exact f2 i y hy⟩⟩
theorem Kw.set {w : World} {g : Nat} {cs : Array Value} {t : Nat} (h : w.heap[g]? = some (.cells cs t (0, 0))) (i : Nat) (u : Value) (ht : (t = 5 ∧ ∃ y, u = .int .u8 y) ∨ (t = 9 ∧ ∃ y, u = .string y)) : Kw w (w.setCell ⟨g, i, none⟩ u) := by
  have far : ∀ (k : Nat) (o : Obj), w.heap[k]? = some o → k ≠ g → (w.setCell ⟨g, i, none⟩ u).heap[k]? = some o := fun k o e hk => (Below.heap_setCell w ⟨g, i, none⟩ u k hk).trans e
  refine ⟨by simp [World.setCell], fun k c q e h1 h2 => far k _ e ?_, fun k c e => ?_, fun k c e => ?_⟩
  · rintro rfl
    rw [h] at e
    injection e with e
    injection e with _ e
    rcases ht with ⟨ht, _⟩ | ⟨ht, _⟩
    · exact h1 (e ▸ ht)
    · exact h2 (e ▸ ht)
  · by_cases hk : k = g
    · subst hk
      rw [h] at e
      injection e with e
      injection e with e1 e2
      subst e1 e2
      rcases ht with ⟨_, y, rfl⟩ | ⟨ht, _⟩
      · refine ⟨_, blk_set h i _, fun j x hx => ?_⟩
        by_cases hj : i = j
        · subst hj
          have hlt := (Array.getElem?_eq_some_iff.1 hx).1
          exact ⟨y, by rw [Array.getElem?_setIfInBounds_self_of_lt hlt]⟩
        · exact ⟨x, by rw [Array.getElem?_setIfInBounds_ne hj]; exact hx⟩
      · exact absurd ht (by decide)
    · exact ⟨c, far k _ e hk, fun j x hx => ⟨x, hx⟩⟩
  · by_cases hk : k = g
    · subst hk
      rw [h] at e
      injection e with e
      injection e with e1 e2
      subst e1 e2
      rcases ht with ⟨ht, _⟩ | ⟨_, y, rfl⟩
      · exact absurd ht (by decide)
      · refine ⟨_, blk_set h i _, fun j x hx => ?_⟩
        by_cases hj : i = j
        · subst hj
          have hlt := (Array.getElem?_eq_some_iff.1 hx).1
          exact ⟨y, by rw [Array.getElem?_setIfInBounds_self_of_lt hlt]⟩
        · exact ⟨x, by rw [Array.getElem?_setIfInBounds_ne hj]; exact hx⟩
    · exact ⟨c, far k _ e hk, fun j x hx => ⟨x, hx⟩⟩

/-- A row that may be spoilt: of bytes; of texts; of trees. -/
def SpB (w : World) (base : Nat) (v : Value) (n : Nat) : Prop := ∃ A c, v = .slice A n c ∧ n ≤ c ∧ n ≤ maxLen ∧ (0 < n → ∃ (g : Nat) (cells : Array Value), A = some ⟨g, 0, none⟩ ∧ base ≤ g ∧ w.heap[g]? = some (.cells cells 5 (0, 0)) ∧ ∀ (i : Nat), i < n → ∃ x, cells[i]? = some (.int .u8 x))
def SpS (w : World) (base : Nat) (v : Value) (n : Nat) : Prop := ∃ A c, v = .slice A n c ∧ n ≤ c ∧ n ≤ maxLen ∧ (0 < n → ∃ (g : Nat) (cells : Array Value), A = some ⟨g, 0, none⟩ ∧ base ≤ g ∧ w.heap[g]? = some (.cells cells 9 (0, 0)) ∧ ∀ (i : Nat), i < n → ∃ x, cells[i]? = some (.string x))
mutual
def SpT (w : World) (base : Nat) : T → Value → Value → Value → Prop
  | ⟨_, _, f2, f3, f4⟩, v2, v3, v4 => SpB w base v2 f2.length ∧ SpS w base v3 f3.length ∧ ∃ A c, v4 = .slice A f4.length c ∧ f4.length ≤ c ∧ f4.length ≤ maxLen ∧ (0 < f4.length → ∃ (g : Nat) (cells : Array Value), A = some ⟨g, 0, none⟩ ∧ base ≤ g ∧ w.heap[g]? = some (.cells cells 26 (0, 0)) ∧ SpL w base f4 cells 0)
def SpL (w : World) (base : Nat) : List T → Array Value → Nat → Prop
  | [], _, _ => True
  | t :: ts, cells, i => (∃ a b u2 u3 u4, cells[i * 5]? = some (.int .u8 a) ∧ cells[i * 5 + 1]? = some (.bool b) ∧ cells[i * 5 + 2]? = some u2 ∧ cells[i * 5 + 3]? = some u3 ∧ cells[i * 5 + 4]? = some u4 ∧ SpT w base t u2 u3 u4) ∧ SpL w base ts cells (i + 1)
end
theorem SpB.keep {w w' : World} {base : Nat} {v : Value} {n : Nat} (k : Kw w w') (h : SpB w base v n) : SpB w' base v n := by
  obtain ⟨A, c, e, h1, h2, h3⟩ := h
  refine ⟨A, c, e, h1, h2, fun hn => ?_⟩
  obtain ⟨g, cells, e1, e2, e3, e4⟩ := h3 hn
  obtain ⟨c2, f1, f2⟩ := k.bytes g cells e3
  exact ⟨g, c2, e1, e2, f1, fun i hi => by obtain ⟨x, hx⟩ := e4 i hi; exact f2 i x hx⟩
theorem SpS.keep {w w' : World} {base : Nat} {v : Value} {n : Nat} (k : Kw w w') (h : SpS w base v n) : SpS w' base v n := by
  obtain ⟨A, c, e, h1, h2, h3⟩ := h
  refine ⟨A, c, e, h1, h2, fun hn => ?_⟩
  obtain ⟨g, cells, e1, e2, e3, e4⟩ := h3 hn
  obtain ⟨c2, f1, f2⟩ := k.texts g cells e3
  exact ⟨g, c2, e1, e2, f1, fun i hi => by obtain ⟨x, hx⟩ := e4 i hi; exact f2 i x hx⟩
mutual
theorem SpT.keep {w w' : World} {base : Nat} (k : Kw w w') : ∀ (t : T) (v2 v3 v4 : Value), SpT w base t v2 v3 v4 → SpT w' base t v2 v3 v4
  | ⟨_, _, f2, f3, f4⟩, v2, v3, v4, h => by
    rw [SpT] at h ⊢
    obtain ⟨h1, h2, A, c, e, h3, h4, h5⟩ := h
    refine ⟨h1.keep k, h2.keep k, A, c, e, h3, h4, fun hn => ?_⟩
    obtain ⟨g, cells, e1, e2, e3, e4⟩ := h5 hn
    exact ⟨g, cells, e1, e2, k.same g cells _ e3 (by decide) (by decide), SpL.keep k f4 cells 0 e4⟩
theorem SpL.keep {w w' : World} {base : Nat} (k : Kw w w') : ∀ (ts : List T) (cells : Array Value) (i : Nat), SpL w base ts cells i → SpL w' base ts cells i
  | [], _, _, _ => by rw [SpL]; trivial
  | t :: ts, cells, i, h => by
    rw [SpL] at h ⊢
    obtain ⟨⟨a, b, u2, u3, u4, c0, c1, c2, c3, c4, ht⟩, hr⟩ := h
    exact ⟨⟨a, b, u2, u3, u4, c0, c1, c2, c3, c4, SpT.keep k t u2 u3 u4 ht⟩, SpL.keep k ts cells (i + 1) hr⟩
end
theorem SpL.get {w : World} {base : Nat} : ∀ {ts : List T} {cells : Array Value} {i : Nat}, SpL w base ts cells i → ∀ (j : Nat) (hj : j < ts.length), ∃ a b u2 u3 u4, cells[(i + j) * 5]? = some (.int .u8 a) ∧ cells[(i + j) * 5 + 1]? = some (.bool b) ∧ cells[(i + j) * 5 + 2]? = some u2 ∧ cells[(i + j) * 5 + 3]? = some u3 ∧ cells[(i + j) * 5 + 4]? = some u4 ∧ SpT w base ts[j] u2 u3 u4
  | t :: ts, cells, i, h, 0, hj => by
    rw [SpL] at h
    exact h.1
  | t :: ts, cells, i, h, j + 1, hj => by
    rw [SpL] at h
    have := SpL.get h.2 j (Nat.lt_of_succ_lt_succ hj)
    rw [show i + 1 + j = i + (j + 1) by omega] at this
    exact this

theorem cell_row {cur : Array Value} {N s z : Nat} {l : List Value} (h : ((cur.toList.take N).drop s).take z = l) {j : Nat} {u : Value} (hu : l[j]? = some u) : cur[s + j]? = some u := by
  rw [← h, List.getElem?_take] at hu
  split at hu
  · rw [List.getElem?_drop, List.getElem?_take] at hu
    split at hu
    · simpa using hu
    · cases hu
  · cases hu
theorem SpB.of_R {w : World} {base : Nat} {ok : Nat → Prop} {v : Value} {l : List Int} (h : (Kd.int .u8).R 5 w base ok v l) : SpB w base v l.length := by
  obtain ⟨A, c, rfl, h1, _⟩ := Kd.R_reads h
  obtain ⟨_, inner, ho, hr⟩ := h
  rcases ho.2 with ⟨e1, e2⟩ | ⟨g, cap, cur, e1, hg, hh, h2, h3, h4, h5⟩
  · exact ⟨A, c, rfl, h1, by omega, fun hn => absurd e2 (by omega)⟩
  · injection e1 with e1 _ e2
    subst e1 e2
    refine ⟨_, _, rfl, h1, by omega, fun _ => ⟨g, cur, rfl, hg, hh, fun i hi => ⟨l[i], ?_⟩⟩⟩
    have h6 : (inner.drop (i * 1)).take 1 = [.int .u8 l[i]] := hr.2 i l[i] (List.getElem?_eq_getElem hi)
    rw [← h5, Nat.mul_one i] at h6
    exact cell_row h6 (j := 0) rfl
theorem SpS.of_R {w : World} {base : Nat} {ok : Nat → Prop} {v : Value} {l : List ByteArray} (h : Kd.string.R 9 w base ok v l) : SpS w base v l.length := by
  obtain ⟨A, c, rfl, h1, _⟩ := Kd.R_reads h
  obtain ⟨_, inner, ho, hr⟩ := h
  rcases ho.2 with ⟨e1, e2⟩ | ⟨g, cap, cur, e1, hg, hh, h2, h3, h4, h5⟩
  · exact ⟨A, c, rfl, h1, by omega, fun hn => absurd e2 (by omega)⟩
  · injection e1 with e1 _ e2
    subst e1 e2
    refine ⟨_, _, rfl, h1, by omega, fun _ => ⟨g, cur, rfl, hg, hh, fun i hi => ⟨l[i], ?_⟩⟩⟩
    have h6 : (inner.drop (i * 1)).take 1 = [.string l[i]] := hr.2 i l[i] (List.getElem?_eq_getElem hi)
    rw [← h5, Nat.mul_one i] at h6
    exact cell_row h6 (j := 0) rfl
theorem SpT.of_R {w : World} {base : Nat} (m : Nat) : ∀ (t : T), SizeOf.sizeOf t < m → ∀ (ok2 ok3 ok4 : Nat → Prop) (v2 v3 v4 : Value), (Kd.int .u8).R 5 w base ok2 v2 t.f2 → Kd.string.R 9 w base ok3 v3 t.f3 → k26.R 26 w base ok4 v4 t.f4 → SpT w base t v2 v3 v4 := by
  induction m with
  | zero => intro t h; exact absurd h (Nat.not_lt_zero _)
  | succ m ih =>
    intro t hs ok2 ok3 ok4 v2 v3 v4 h2 h3 h4
    have hkid : ∀ u ∈ t.f4, SizeOf.sizeOf u < m := fun u hu => by have := size_kid hu; omega
    clear hs
    obtain ⟨f0, f1, f2, f3, f4⟩ := t
    rw [SpT]
    refine ⟨SpB.of_R h2, SpS.of_R h3, ?_⟩
    obtain ⟨A, c, rfl, h1, _⟩ := Kd.R_reads h4
    obtain ⟨_, inner, ho, hr⟩ := h4
    rcases ho.2 with ⟨e1, e2⟩ | ⟨g, cap, cur, e1, hg, hh, hq, h3', h4', h5⟩
    · exact ⟨A, c, rfl, h1, by show f4.length ≤ maxLen; have : f4.length = 0 := e2; omega, fun hn => absurd (show f4.length = 0 from e2) (by omega)⟩
    · injection e1 with e1 _ e2
      subst e1 e2
      refine ⟨_, _, rfl, h1, Nat.le_trans hq h3', fun _ => ⟨g, cur, rfl, hg, hh, ?_⟩⟩
      have key : ∀ d i, i + d = f4.length → SpL w base (f4.drop i) cur i := by
        intro d
        induction d with
        | zero => intro i hi; rw [List.drop_of_length_le (by omega), SpL]; trivial
        | succ d ihd =>
          intro i hi
          have hil : i < f4.length := by omega
          rw [List.drop_eq_getElem_cons hil, SpL]
          refine ⟨?_, ihd (i + 1) (by omega)⟩
          have hm := hr.2 i f4[i] (List.getElem?_eq_getElem hil)
          obtain ⟨u2, u3, u4, hcs, g2, g3, g4⟩ := k26_openM hm
          rw [← h5] at hcs
          have hcs' : ((cur.toList.take (f4.length * 5)).drop (i * 5)).take 5 = _ := hcs
          exact ⟨_, _, u2, u3, u4, cell_row hcs' (j := 0) rfl, cell_row hcs' (j := 1) rfl, cell_row hcs' (j := 2) rfl, cell_row hcs' (j := 3) rfl, cell_row hcs' (j := 4) rfl, ih f4[i] (hkid _ (List.getElem_mem hil)) _ _ _ u2 u3 u4 g2 g3 g4⟩
      have := key f4.length 0 (by omega)
      rwa [List.drop_zero] at this

/-- The box of the tree that is spoilt. -/
structure Sx (w wx : World) (base gb : Nat) (cs : Array Value) : Prop where
  box : wx.heap[gb]? = some (.cells cs 26 (0, 0))
  low : Below base w wx
  kw : Kw w wx
theorem Sx.step {w wx w2 : World} {base gb : Nat} {cs : Array Value} (h : Sx w wx base gb cs) (hb : Below base wx w2) (k : Kw wx w2) : Sx w w2 base gb cs :=
  ⟨k.same _ _ _ h.box (by decide) (by decide), h.low.trans hb, h.kw.trans k⟩
theorem Sx.drew {w wx : World} {base gb : Nat} {cs : Array Value} (h : Sx w wx base gb cs) : Sx w wx.drew base gb cs := h.step (below_drew (Below.refl _ _)) (Kw.of_below (below_drew (Below.refl _ _)))
theorem Sx.set {w wx : World} {base gb g : Nat} {cs c2 : Array Value} {q : Nat} (h : Sx w wx base gb cs) (hg : base ≤ g) (hh : wx.heap[g]? = some (.cells c2 q (0, 0))) (i : Nat) (u : Value) (ht : (q = 5 ∧ ∃ y, u = .int .u8 y) ∨ (q = 9 ∧ ∃ y, u = .string y)) : Sx w (wx.setCell ⟨g, i, none⟩ u) base gb cs :=
  h.step ((Below.refl base wx).setCell hg _) (Kw.set hh i u ht)

set_option maxHeartbeats 4000000 in
set_option maxRecDepth 100000 in
theorem spoil_c (m : Nat) : ∀ (t : T), SizeOf.sizeOf t < m → ∀ (w : World) (base : Nat) (a : Int) (b : Bool) (v2 v3 v4 : Value), base ≤ w.heap.size → SpT w base t v2 v3 v4 →
    Calls Tryd.prog 26 #[.agg #[.int .u8 a, .bool b, v2, v3, v4]] w fun e w' => e = .returned (.tuple #[]) ∧ Below base w w' ∧ Kw w w' := by
  induction m with
  | zero => intro t h; exact absurd h (Nat.not_lt_zero _)
  | succ m ih =>
    intro t hs w base a b v2 v3 v4 hbase hsp
    have IH := Aside0.mk ih
    have hkid : ∀ u ∈ t.f4, SizeOf.sizeOf u < m := fun u hu => by have := size_kid hu; omega
    have HK := Aside0.mk hkid
    clear hs ih hkid
    obtain ⟨f0, f1, f2, f3, f4⟩ := t
    rw [SpT] at hsp
    obtain ⟨⟨A2, c2, rfl, l2, m2, s2⟩, ⟨A3, c3, rfl, l3, m3, s3⟩, A4, c4, rfl, l4, m4, s4⟩ := hsp
    have S2 := Aside0.mk (show SpB w base (.slice A2 f2.length c2) f2.length from ⟨A2, c2, rfl, l2, m2, s2⟩)
    have S3 := Aside0.mk (show SpS w base (.slice A3 f3.length c3) f3.length from ⟨A3, c3, rfl, l3, m3, s3⟩)
    have S4 := Aside0.mk s4
    clear s2 s3 s4
    unfold maxLen at m2 m3 m4
    have hu26 := Tryd.underlying26
    have hx : Sx w (w.alloc (.cells #[.int .u8 a, .bool b, .slice A2 f2.length c2, .slice A3 f3.length c3, .slice A4 f4.length c4] 26)) base w.heap.size #[.int .u8 a, .bool b, .slice A2 f2.length c2, .slice A3 f3.length c3, .slice A4 f4.length c4] :=
      ⟨heap_alloc_new _ _, (below_alloc (Below.refl _ _) _).mono hbase, Kw.of_below (below_alloc (Below.refl _ _) _)⟩
    go_enter Tryd.func26, Tryd.ntmps26
    go_upto_region 1 with fail
    generalize w.alloc (.cells #[.int .u8 a, .bool b, .slice A2 f2.length c2, .slice A3 f3.length c3, .slice A4 f4.length c4] 26) = W1 at *
    generalize hws : w.heap.size = gb at *
    have HWS := Aside0.mk hws
    clear hws
    go_wp2_with fail
    go_loopg [2] f2.length (fun g v5 wx => ∃ i : Nat, i + g = f2.length ∧ v5 = .int .i64 i ∧ Sx w wx base gb #[.int .u8 a, .bool b, .slice A2 f2.length c2, .slice A3 f3.length c3, .slice A4 f4.length c4])
    case atStart => exact ⟨0, by omega, rfl, hx⟩
    case round =>
      clear hx
      obtain ⟨i, hig, rfl, hbx⟩ := hrel
      have BX := Aside0.mk hbx
      clear hbx
      cases gk with
      | zero =>
        obtain rfl : i = f2.length := by omega
        have z2 : wr.cell? ⟨gb, 2, none⟩ = some (.slice A2 f2.length c2) := (blk_cell BX.out.box 2).trans rfl
        have z3 : wr.cell? ⟨gb, 3, none⟩ = some (.slice A3 f3.length c3) := (blk_cell BX.out.box 3).trans rfl
        have z4 : wr.cell? ⟨gb, 4, none⟩ = some (.slice A4 f4.length c4) := (blk_cell BX.out.box 4).trans rfl
        have BX1 := BX.out
        go_wp2_with fail
        go_loopg [3] f4.length (fun g v5 wx => ∃ i : Nat, i + g = f4.length ∧ v5 = .int .i64 i ∧ Sx w wx base gb #[.int .u8 a, .bool b, .slice A2 f2.length c2, .slice A3 f3.length c3, .slice A4 f4.length c4])
        case atStart => exact ⟨0, by omega, rfl, BX1⟩
        case round =>
          clear BX1
          obtain ⟨i, hig, rfl, hbx⟩ := hrel
          have BX := Aside0.mk hbx
          clear hbx
          cases gk with
          | zero =>
            obtain rfl : i = f4.length := by omega
            have z2 : wr.cell? ⟨gb, 2, none⟩ = some (.slice A2 f2.length c2) := (blk_cell BX.out.box 2).trans rfl
            have z3 : wr.cell? ⟨gb, 3, none⟩ = some (.slice A3 f3.length c3) := (blk_cell BX.out.box 3).trans rfl
            have z4 : wr.cell? ⟨gb, 4, none⟩ = some (.slice A4 f4.length c4) := (blk_cell BX.out.box 4).trans rfl
            have BX2 := BX.out
            go_wp2_with fail
            go_loopg [4] f3.length (fun g v5 wx => ∃ i : Nat, i + g = f3.length ∧ v5 = .int .i64 i ∧ Sx w wx base gb #[.int .u8 a, .bool b, .slice A2 f2.length c2, .slice A3 f3.length c3, .slice A4 f4.length c4])
            case atStart => exact ⟨0, by omega, rfl, BX2⟩
            case round =>
              clear BX2
              obtain ⟨i, hig, rfl, hbx⟩ := hrel
              have BX := Aside0.mk hbx
              clear hbx
              cases gk with
              | zero =>
                obtain rfl : i = f3.length := by omega
                have z2 : wr.cell? ⟨gb, 2, none⟩ = some (.slice A2 f2.length c2) := (blk_cell BX.out.box 2).trans rfl
                have z3 : wr.cell? ⟨gb, 3, none⟩ = some (.slice A3 f3.length c3) := (blk_cell BX.out.box 3).trans rfl
                have z4 : wr.cell? ⟨gb, 4, none⟩ = some (.slice A4 f4.length c4) := (blk_cell BX.out.box 4).trans rfl
                have BX3 := BX.out
                go_wp2_with fail
                go_end0
                exact ⟨rfl, BX3.low, BX3.kw⟩
              | succ gk =>
                have hi : i < f3.length := by omega
                have HIG := Aside0.mk (show i + 1 + gk = f3.length by omega)
                have j0 : (0 : Int) ≤ (i : Int) := by omega
                have j1 : (i : Int) < (f3.length : Int) := by omega
                obtain ⟨A', c', e', _, _, h3⟩ := S3.out.keep BX.out.kw
                injection e' with e1 _ e2
                subst e1 e2
                obtain ⟨g, cells, eA, hg, hh, hc⟩ := h3 (by omega)
                obtain ⟨x, hx⟩ := hc i hi
                obtain ⟨ad, had⟩ : ∃ ad : Addr, ad = ⟨g, 0, none⟩ := ⟨_, rfl⟩
                rw [← had] at eA
                subst eA
                have had' : ad.add i = ⟨g, i, none⟩ := by
                  rw [had]
                  simp [Addr.add]
                  try omega
                have hcell : wr.cell? (ad.add i) = some (.string x) := by rw [had']; exact (blk_cell hh i).trans hx
                have hfz : wr.frozen? (ad.add i) = false := by rw [had']; exact blk_frozen hh i
                have HSET := Aside0.mk (show ∀ u : ByteArray, Sx w (wr.setCell (ad.add i) (.string u)) base gb #[.int .u8 a, .bool b, .slice A2 f2.length c2, .slice (some ad) f3.length c3, .slice A4 f4.length c4] from fun u => by rw [had']; exact BX.out.set hg hh i _ (.inr ⟨rfl, _, rfl⟩))
                have z2 : wr.cell? ⟨gb, 2, none⟩ = some (.slice A2 f2.length c2) := (blk_cell BX.out.box 2).trans rfl
                have z3 : wr.cell? ⟨gb, 3, none⟩ = some (.slice (some ad) f3.length c3) := (blk_cell BX.out.box 3).trans rfl
                have z4 : wr.cell? ⟨gb, 4, none⟩ = some (.slice A4 f4.length c4) := (blk_cell BX.out.box 4).trans rfl
                clear had had' hh hc hx hg
                go_wp2_with fail
                go_roundg gk
                case measure => omega
                case rel => exact ⟨i + 1, HIG.out, by go_num, HSET.out _⟩
          | succ gk =>
            have hi : i < f4.length := by omega
            have HIG := Aside0.mk (show i + 1 + gk = f4.length by omega)
            have j0 : (0 : Int) ≤ (i : Int) := by omega
            have j1 : (i : Int) < (f4.length : Int) := by omega
            obtain ⟨g, cells, eA, hg, hh0, hl⟩ := S4.out (by omega)
            have hh := BX.out.kw.same _ _ _ hh0 (by decide) (by decide)
            obtain ⟨p, q, u2, u3, u4, d0, d1, d2, d3, d4, ht⟩ := SpL.get (SpL.keep BX.out.kw _ _ _ hl) i hi
            rw [Nat.zero_add] at d0 d1 d2 d3 d4
            obtain ⟨ad, had⟩ : ∃ ad : Addr, ad = ⟨g, 0, none⟩ := ⟨_, rfl⟩
            rw [← had] at eA
            subst eA
            have had' : ad.add (i * 5) = ⟨g, i * 5, none⟩ := by
              rw [had]
              simp [Addr.add]
              try omega
            have hx0 : wr.cell? (ad.add (i * 5)) = some (.int .u8 p) := by rw [had']; exact (blk_cell hh _).trans d0
            have hx1 : wr.cell? ⟨(ad.add (i * 5)).block, (ad.add (i * 5)).off + 1, none⟩ = some (.bool q) := by rw [had']; exact (blk_cell hh _).trans d1
            have hx2 : wr.cell? ⟨(ad.add (i * 5)).block, (ad.add (i * 5)).off + 2, none⟩ = some u2 := by rw [had']; exact (blk_cell hh _).trans d2
            have hx3 : wr.cell? ⟨(ad.add (i * 5)).block, (ad.add (i * 5)).off + 3, none⟩ = some u3 := by rw [had']; exact (blk_cell hh _).trans d3
            have hx4 : wr.cell? ⟨(ad.add (i * 5)).block, (ad.add (i * 5)).off + 4, none⟩ = some u4 := by rw [had']; exact (blk_cell hh _).trans d4
            have hsz := BX.out.kw.size
            rw [HWS.out] at hsz
            have CALL := Aside0.mk (IH.out f4[i] (HK.out _ (List.getElem_mem hi)) wr base p q u2 u3 u4 (by omega) ht)
            have z2 : wr.cell? ⟨gb, 2, none⟩ = some (.slice A2 f2.length c2) := (blk_cell BX.out.box 2).trans rfl
            have z3 : wr.cell? ⟨gb, 3, none⟩ = some (.slice A3 f3.length c3) := (blk_cell BX.out.box 3).trans rfl
            have z4 : wr.cell? ⟨gb, 4, none⟩ = some (.slice (some ad) f4.length c4) := (blk_cell BX.out.box 4).trans rfl
            clear had had' hh hh0 hl d0 d1 d2 d3 d4 ht hg hsz
            go_wp2_with fail
            refine CALL.out.mono ?_
            rintro e w2 ⟨rfl, hb2, hk2⟩
            have BX2 := Aside0.mk (BX.out.step hb2 hk2)
            clear hb2 hk2 CALL
            go_wp2_with fail
            go_roundg gk
            case measure => omega
            case rel => exact ⟨i + 1, HIG.out, by go_num, BX2.out⟩
      | succ gk =>
        have hi : i < f2.length := by omega
        have HIG := Aside0.mk (show i + 1 + gk = f2.length by omega)
        have j0 : (0 : Int) ≤ (i : Int) := by omega
        have j1 : (i : Int) < (f2.length : Int) := by omega
        obtain ⟨A', c', e', _, _, h3⟩ := S2.out.keep BX.out.kw
        injection e' with e1 _ e2
        subst e1 e2
        obtain ⟨g, cells, eA, hg, hh, hc⟩ := h3 (by omega)
        obtain ⟨x, hx⟩ := hc i hi
        obtain ⟨ad, had⟩ : ∃ ad : Addr, ad = ⟨g, 0, none⟩ := ⟨_, rfl⟩
        rw [← had] at eA
        subst eA
        have had' : ad.add i = ⟨g, i, none⟩ := by
          rw [had]
          simp [Addr.add]
          try omega
        have hcell : wr.cell? (ad.add i) = some (.int .u8 x) := by rw [had']; exact (blk_cell hh i).trans hx
        have hfz : wr.frozen? (ad.add i) = false := by rw [had']; exact blk_frozen hh i
        have HSET := Aside0.mk (show ∀ u : Int, Sx w (wr.setCell (ad.add i) (.int .u8 u)).drew base gb #[.int .u8 a, .bool b, .slice (some ad) f2.length c2, .slice A3 f3.length c3, .slice A4 f4.length c4] from fun u => by rw [had']; exact (BX.out.set hg hh i _ (.inl ⟨rfl, _, rfl⟩)).drew)
        have z2 : wr.cell? ⟨gb, 2, none⟩ = some (.slice (some ad) f2.length c2) := (blk_cell BX.out.box 2).trans rfl
        have z3 : wr.cell? ⟨gb, 3, none⟩ = some (.slice A3 f3.length c3) := (blk_cell BX.out.box 3).trans rfl
        have z4 : wr.cell? ⟨gb, 4, none⟩ = some (.slice A4 f4.length c4) := (blk_cell BX.out.box 4).trans rfl
        clear had had' hh hc hx hg
        go_wp2_with fail
        refine start_ (n := 11) (S := fun w' => w'.cell? ⟨gb, 2, none⟩ = some (.slice (some ad) f2.length c2) ∧ w'.cell? (ad.add i) = some (.int .u8 x)) (ds := [10]) #[false, false, false, false, false, false, false, false, false, false, false] (by kernel_rfl) rfl rfl ⟨z2, hcell⟩ (fun hHeld => ?_)
        refine pure_ (i := 0) (N := some 12) (v := ?_) (a' := ?_) #[true, false, false, false, false, false, false, false, false, false, false] rfl rfl (by kernel_rfl) (fun _ _ _ h => h) (Or.inl ⟨by rfl, ?_⟩) ?_ ?_
        rotate_left
        · intro w'
          go_simp
          with_reducible rfl
        rotate_left
        · simp only [Act.put, List.setIfInBounds_toArray, List.set_cons_zero, List.set_cons_succ, i64_w, i32_w]
          rfl
        refine pure_ (i := 2) (N := some 14) (v := ?_) (a' := ?_) #[true, false, true, false, false, false, false, false, false, false, false] rfl rfl (by kernel_rfl) (fun _ _ _ h => h) (Or.inl ⟨by rfl, ?_⟩) ?_ ?_
        rotate_left
        · intro w'
          go_simp
          with_reducible rfl
        rotate_left
        · simp only [Act.put, List.setIfInBounds_toArray, List.set_cons_zero, List.set_cons_succ, i64_w, i32_w]
          rfl
        refine pure_ (i := 3) (N := some 15) (v := ?_) (a' := ?_) #[true, false, true, true, false, false, false, false, false, false, false] rfl rfl (by kernel_rfl) (fun _ _ _ h => h) (Or.inl ⟨by rfl, ?_⟩) ?_ ?_
        rotate_left
        · intro w'
          go_simp
          with_reducible rfl
        rotate_left
        · simp only [Act.put, List.setIfInBounds_toArray, List.set_cons_zero, List.set_cons_succ, i64_w, i32_w]
          rfl
        refine pure_ (i := 5) (N := some 17) (v := ?_) (a' := ?_) #[true, false, true, true, false, true, false, false, false, false, false] rfl rfl (by kernel_rfl) (fun _ _ _ h => h) (Or.inl ⟨by rfl, ?_⟩) ?_ ?_
        rotate_left
        · intro w'
          go_simp
          with_reducible rfl
        rotate_left
        · simp only [Act.put, List.setIfInBounds_toArray, List.set_cons_zero, List.set_cons_succ, i64_w, i32_w]
          rfl
        refine take_ (i := 1) (N := some 13) (v := ?_) (a' := ?_) #[true, true, true, true, false, true, false, false, false, false, false] rfl rfl (by kernel_rfl) (fun _ _ _ h => h) (Or.inl ⟨by rfl, ?_⟩) hHeld ?_ ?_
        rotate_left
        · rintro w' ⟨s0, s1⟩
          go_simp
          with_reducible rfl
        rotate_left
        · simp only [Act.put, List.setIfInBounds_toArray, List.set_cons_zero, List.set_cons_succ, i64_w, i32_w]
          rfl
        refine take_ (i := 4) (N := some 16) (v := ?_) (a' := ?_) #[true, true, true, true, true, true, false, false, false, false, false] rfl rfl (by kernel_rfl) (fun _ _ _ h => h) (Or.inl ⟨by rfl, ?_⟩) hHeld ?_ ?_
        rotate_left
        · rintro w' ⟨s0, s1⟩
          go_simp
          with_reducible rfl
        rotate_left
        · simp only [Act.put, List.setIfInBounds_toArray, List.set_cons_zero, List.set_cons_succ, i64_w, i32_w]
          rfl
        refine pure_ (i := 6) (N := some 18) (v := ?_) (a' := ?_) #[true, true, true, true, true, true, true, false, false, false, false] rfl rfl (by kernel_rfl) (fun _ _ _ h => h) (Or.inl ⟨by rfl, ?_⟩) ?_ ?_
        rotate_left
        · intro w'
          go_simp
          with_reducible rfl
        rotate_left
        · simp only [Act.put, List.setIfInBounds_toArray, List.set_cons_zero, List.set_cons_succ, i64_w, i32_w]
          rfl
        refine take_ (i := 7) (N := some 19) (v := ?_) (a' := ?_) #[true, true, true, true, true, true, true, true, false, false, false] rfl rfl (by kernel_rfl) (fun _ _ _ h => h) (Or.inl ⟨by rfl, ?_⟩) hHeld ?_ ?_
        rotate_left
        · rintro w' ⟨s0, s1⟩
          go_simp
          with_reducible rfl
        rotate_left
        · simp only [Act.put, List.setIfInBounds_toArray, List.set_cons_zero, List.set_cons_succ, i64_w, i32_w]
          rfl
        refine pure_ (i := 8) (N := some 20) (v := ?_) (a' := ?_) #[true, true, true, true, true, true, true, true, true, false, false] rfl rfl (by kernel_rfl) (fun _ _ _ h => h) (Or.inl ⟨by rfl, ?_⟩) ?_ ?_
        rotate_left
        · intro w'
          go_simp
          with_reducible rfl
        rotate_left
        · simp only [Act.put, List.setIfInBounds_toArray, List.set_cons_zero, List.set_cons_succ, i64_w, i32_w]
          rfl
        refine pure_ (i := 9) (N := some 21) (v := ?_) (a' := ?_) #[true, true, true, true, true, true, true, true, true, true, false] rfl rfl (by kernel_rfl) (fun _ _ _ h => h) (Or.inl ⟨by rfl, ?_⟩) ?_ ?_
        rotate_left
        · intro w'
          go_simp
          with_reducible rfl
        rotate_left
        · simp only [Act.put, List.setIfInBounds_toArray, List.set_cons_zero, List.set_cons_succ, i64_w, i32_w]
          rfl
        refine last_ (i := 10) (N := none) #[true, true, true, true, true, true, true, true, true, true, true] rfl rfl (by kernel_rfl) (by decide) (fun K hK => ?_)
        refine skip_ (w1 := ?_) (by rfl) rfl ?_ ?_
        rotate_left
        · go_simp
          rfl
        refine hK.out _ _ ?_
        clear hK K
        refine done_ (by kernel_rfl) ?_
        go_wp2_with fail
        go_roundg gk
        case measure => omega
        case rel => exact ⟨i + 1, HIG.out, by go_num, HSET.out _⟩
end Go.Proofs.YtmhlmbmenoihnaaDoor.K

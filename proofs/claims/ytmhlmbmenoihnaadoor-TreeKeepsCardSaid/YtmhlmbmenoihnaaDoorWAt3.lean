/- What the document's At comes to: what stands at a path. -/
import Derived.Test.YtmhlmbmenoihnaaDoorK1
import Derived.Test.YtmhlmbmenoihnaaDoorH6
import Derived.Test.YtmhlmbmenoihnaaDoorG5
namespace Go.Proofs.YtmhlmbmenoihnaaDoor.K
open Go.RowKit Go.Proofs.YtmhlmbmenoihnaaDoor.G Go.Proofs.YtmhlmbmenoihnaaDoorW.PrintWords Go.Proofs.YtmhlmbmenoihnaaDoorW.PrintLast Go.Proofs.YtmhlmbmenoihnaaDoorW.PrintMore Go.Proofs.YtmhlmbmenoihnaaDoor.OT Go.Proofs.YtmhlmbmenoihnaaDoor.P
set_option linter.unusedVariables false
set_option linter.unusedSimpArgs false

def findZ (l : List ByteArray) (n : ByteArray) : Int := match findI l n with
  | some i => i
  | none => -1
theorem findI_step {l : List ByteArray} {n : ByteArray} : ∀ (i : Nat), (h : i < l.length) → (∀ j (hj : j < l.length), j < i → l[j] ≠ n) → l[i] = n → findI l n = some i := by
  induction l with
  | nil => intro i h; exact absurd h (Nat.not_lt_zero _)
  | cons s l ih =>
    intro i h hb he
    rw [findI]
    cases i with
    | zero => rw [if_pos (show s = n from he)]
    | succ i =>
      rw [if_neg (show ¬ s = n from hb 0 (Nat.succ_pos _) (Nat.succ_pos _)), ih i (Nat.lt_of_succ_lt_succ h) (fun j hj hji => hb (j + 1) (Nat.succ_lt_succ hj) (Nat.succ_lt_succ hji)) he]
      rfl

set_option maxHeartbeats 4000000 in
set_option maxRecDepth 100000 in
theorem find_walk (t : T) (n : ByteArray) (hok : okT t) (A2 : Option Addr) (c2 : Nat) (A3 : Option Addr) (c3 : Nat) (A4 : Option Addr) (c4 : Nat) (w : World) (hc : TC w t A2 c2 A3 c3 A4 c4) :
    Calls Tryd.prog 36 #[.agg #[.int .u8 t.f0, .bool t.f1, .slice A2 t.f2.length c2, .slice A3 t.f3.length c3, .slice A4 t.f4.length c4], .string n] w fun e w' => e = .returned (.int .i64 (findZ t.f3 n)) ∧ Below w.heap.size w w' := by
  have HC := Aside0.mk hc
  have hnl := (okT_names hok).1
  unfold reach at hnl
  clear hc
  have hu26 := Tryd.underlying26
  have hB0 : Below w.heap.size w (w.alloc (.cells #[.int .u8 t.f0, .bool t.f1, .slice A2 t.f2.length c2, .slice A3 t.f3.length c3, .slice A4 t.f4.length c4] 26)) := below_alloc (Below.refl _ _) _
  have hx0 := heap_alloc_new w (.cells #[.int .u8 t.f0, .bool t.f1, .slice A2 t.f2.length c2, .slice A3 t.f3.length c3, .slice A4 t.f4.length c4] 26 (0, 0))
  have BX := Bx.mk hx0 hB0
  clear hB0 hx0
  go_enter Tryd.func36, Tryd.ntmps36
  go_upto_region 1 with fail
  generalize w.alloc (.cells #[.int .u8 t.f0, .bool t.f1, .slice A2 t.f2.length c2, .slice A3 t.f3.length c3, .slice A4 t.f4.length c4] 26) = W1 at *
  generalize w.heap.size = gb at *
  go_wp2_with fail
  go_loopg [5] t.f3.length (fun g v5 wx => ∃ i : Nat, i + g = t.f3.length ∧ v5 = .int .i64 i ∧ Bx w wx gb #[.int .u8 t.f0, .bool t.f1, .slice A2 t.f2.length c2, .slice A3 t.f3.length c3, .slice A4 t.f4.length c4] ∧ ∀ j (hj : j < t.f3.length), j < i → t.f3[j] ≠ n)
  case atStart => exact ⟨0, by omega, rfl, BX, fun j _ h => absurd h (Nat.not_lt_zero _)⟩
  case round =>
    clear BX
    obtain ⟨i, hig, rfl, hbx, hne⟩ := hrel
    have BX := Aside0.mk hbx
    have HN := Aside0.mk hne
    clear hbx hne
    have z3 : wr.cell? ⟨gb, 3, none⟩ = some (.slice A3 t.f3.length c3) := (blk_cell BX.out.box 3).trans rfl
    cases gk with
    | zero =>
      obtain rfl : i = t.f3.length := by omega
      have hz : findZ t.f3 n = -1 := by
        unfold findZ
        cases hf : findI t.f3 n with
        | none => rfl
        | some q =>
          obtain ⟨h1, h2⟩ := findI_some hf
          exact absurd h2 (HN.out q h1 h1)
      have HZ := Aside0.mk hz
      clear hz
      go_wp2_with fail
      go_ret
      exact ⟨by rw [HZ.out]; rfl, BX.out.low⟩
    | succ gk =>
      have hi : i < t.f3.length := by omega
      obtain ⟨ad, el, hx⟩ := Kd.at_string HC.out.2.1.1 (i : Int) (by omega) (by omega)
      cases el
      rw [Int.toNat_natCast, rdB _ _ hi] at hx
      replace hx := (BX.out.low.cell (World.block_lt_of_cell? w _ hx)).trans hx
      have j0 : (0 : Int) ≤ (i : Int) := by omega
      have j1 : (i : Int) < (t.f3.length : Int) := by omega
      by_cases he : t.f3[i] = n
      · have HZ := Aside0.mk (show findZ t.f3 n = (i : Int) by unfold findZ; rw [findI_step i hi HN.out he])
        rw [he] at hx
        have k0 : (n.toList == n.toList) = true := beq_self_eq_true _
        clear he
        go_wp2_with fail
        go_ret
        exact ⟨by rw [HZ.out]; rfl, BX.out.low⟩
      · have HN2 := Aside0.mk (show ∀ j (hj : j < t.f3.length), j < i + 1 → t.f3[j] ≠ n from fun j hj hji => by
          by_cases h : j = i
          · subst h; exact he
          · exact HN.out j hj (by omega))
        have k0 : (t.f3[i].toList == n.toList) = false := by
          rw [beq_eq_false_iff_ne]
          exact fun h => he (list_inj h)
        clear he
        have BXo := BX.out
        clear BX
        go_wp2_with fail
        go_roundg gk
        case measure => omega
        case rel => exact ⟨i + 1, by omega, by go_num, BXo, HN2.out⟩
theorem split_r (p : ByteArray) (w : World) : Calls Tryd.prog 18 #[.string p] w fun e w' => ∃ B d, e = .returned (.tuple #[.slice B (H.splitOf p).1.length d, .int .i64 (H.splitOf p).2]) ∧ Kd.string.R 9 w' w.heap.size (fun _ => True) (.slice B (H.splitOf p).1.length d) (H.splitOf p).1 ∧ Below w.heap.size w w' := by
  obtain ⟨k, hk⟩ := (r03_split p).get
  refine (r03_Split.calls k p (H.splitOf p).1 (H.splitOf p).2 w hk).mono ?_
  rintro e w' ⟨v, rfl, h2, hb⟩
  obtain ⟨B, d, rfl⟩ := Kd.R_slice h2
  exact ⟨B, d, rfl, h2, hb⟩
theorem R_put5 {W : World} {g : Nat} {a0 a1 a2 a3 a4 : Value} (h : W.heap[g]? = some (.cells #[a0, a1, a2, a3, a4] 26 (0, 0))) {base : Nat} {ok : Nat → Prop} {v : Value} {l : List ByteArray} (hr : Kd.string.R 9 W base ok v l) (v0 v1 v2 v3 v4 : Value) :
    Kd.string.R 9 (((((W.setCell ⟨g, 0, none⟩ v0).setCell ⟨g, 1, none⟩ v1).setCell ⟨g, 2, none⟩ v2).setCell ⟨g, 3, none⟩ v3).setCell ⟨g, 4, none⟩ v4) base ok v l := by
  have ht : ∀ q, q ∈ 9 :: Kd.string.E → q ≠ 26 := by
    intro q hq
    have : q ∈ [9] := hq
    rw [List.mem_singleton] at this
    rw [this]; decide
  have h1 := blk_put h 0 v0 rfl
  have h2 := blk_put h1 1 v1 rfl
  have h3 := blk_put h2 2 v2 rfl
  have h4 := blk_put h3 3 v3 rfl
  exact Kd.R_set (Kd.R_set (Kd.R_set (Kd.R_set (Kd.R_set hr h ht 0 v0) h1 ht 1 v1) h2 ht 2 v2) h3 ht 3 v3) h4 ht 4 v4

/-- The two variables: what is stood at, and the answer's place (still nothing). -/
structure At3 (w wx : World) (gb g4 : Nat) (cs : Array Value) : Prop where
  box : wx.heap[gb]? = some (.cells cs 26 (0, 0))
  res : wx.heap[g4]? = some (.cells #[.int .u8 0, .bool false, .slice none 0 0, .slice none 0 0, .slice none 0 0] 26 (0, 0))
  low : Below w.heap.size w wx
  ge : w.heap.size ≤ gb
  ge4 : w.heap.size ≤ g4
  ne : gb ≠ g4
theorem At3.below {w wx w2 : World} {gb g4 : Nat} {cs : Array Value} (h : At3 w wx gb g4 cs) (hb : Below wx.heap.size wx w2) : At3 w w2 gb g4 cs :=
  ⟨blk_below h.box hb, blk_below h.res hb, below_then h.low h.low.size hb, h.ge, h.ge4, h.ne⟩

theorem put5 {w W : World} {g : Nat} {a0 a1 a2 a3 a4 : Value} (h : W.heap[g]? = some (.cells #[a0, a1, a2, a3, a4] 26 (0, 0))) (hb : Below w.heap.size w W) (hg : w.heap.size ≤ g) (v0 v1 v2 v3 v4 : Value) :
    (((((W.setCell ⟨g, 0, none⟩ v0).setCell ⟨g, 1, none⟩ v1).setCell ⟨g, 2, none⟩ v2).setCell ⟨g, 3, none⟩ v3).setCell ⟨g, 4, none⟩ v4).heap[g]? = some (.cells #[v0, v1, v2, v3, v4] 26 (0, 0)) ∧
    Below w.heap.size w (((((W.setCell ⟨g, 0, none⟩ v0).setCell ⟨g, 1, none⟩ v1).setCell ⟨g, 2, none⟩ v2).setCell ⟨g, 3, none⟩ v3).setCell ⟨g, 4, none⟩ v4) :=
  ⟨blk_put (blk_put (blk_put (blk_put (blk_put h 0 v0 rfl) 1 v1 rfl) 2 v2 rfl) 3 v3 rfl) 4 v4 rfl, below_set (below_set (below_set (below_set (below_set hb hg) hg) hg) hg) hg⟩
theorem At3.put {w W : World} {gb g4 : Nat} {a0 a1 a2 a3 a4 : Value} (h : At3 w W gb g4 #[a0, a1, a2, a3, a4]) (v0 v1 v2 v3 v4 : Value) :
    At3 w (((((W.setCell ⟨gb, 0, none⟩ v0).setCell ⟨gb, 1, none⟩ v1).setCell ⟨gb, 2, none⟩ v2).setCell ⟨gb, 3, none⟩ v3).setCell ⟨gb, 4, none⟩ v4) gb g4 #[v0, v1, v2, v3, v4] := by
  obtain ⟨h1, h2⟩ := put5 h.box h.low h.ge v0 v1 v2 v3 v4
  refine ⟨h1, ?_, h2, h.ge, h.ge4, h.ne⟩
  have hn := h.ne.symm
  rw [Below.heap_setCell _ _ _ _ hn, Below.heap_setCell _ _ _ _ hn, Below.heap_setCell _ _ _ _ hn, Below.heap_setCell _ _ _ _ hn, Below.heap_setCell _ _ _ _ hn]
  exact h.res
theorem tc_z (w : World) : TC w z none 0 none 0 none 0 :=
  ⟨⟨⟨rfl, Nat.zero_le _, fun h => absurd h (Nat.lt_irrefl _)⟩, Nat.le_refl _⟩, ⟨⟨rfl, Nat.zero_le _, fun h => absurd h (Nat.lt_irrefl _)⟩, Nat.le_refl _⟩, ⟨rfl, Nat.zero_le _, fun h => absurd h (Nat.lt_irrefl _)⟩, Nat.le_refl _⟩

set_option maxHeartbeats 4000000 in
set_option maxRecDepth 100000 in
theorem at3_walk (t : T) (p : ByteArray) (hok : okT t) (hwf : wfT t) (A2 : Option Addr) (c2 : Nat) (A3 : Option Addr) (c3 : Nat) (A4 : Option Addr) (c4 : Nat) (w : World) (hc : TC w t A2 c2 A3 c3 A4 c4) :
    Calls Tryd.prog 21 #[.agg #[.int .u8 t.f0, .bool t.f1, .slice A2 t.f2.length c2, .slice A3 t.f3.length c3, .slice A4 t.f4.length c4], .string p] w fun e w' => ∃ B2 d2 B3 d3 B4 d4, e = .returned (.tuple #[.agg #[.int .u8 (atOf t p).1.f0, .bool (atOf t p).1.f1, .slice B2 (atOf t p).1.f2.length d2, .slice B3 (atOf t p).1.f3.length d3, .slice B4 (atOf t p).1.f4.length d4], .int .i64 (atOf t p).2]) ∧ TC w' (atOf t p).1 B2 d2 B3 d3 B4 d4 ∧ Below w.heap.size w w' := by
  have HC := Aside0.mk hc
  have HOK := Aside0.mk hok
  have HWF := Aside0.mk hwf
  clear hc hok hwf
  have hu26 := Tryd.underlying26
  have a3 : At3 w ((w.alloc (.cells #[.int .u8 t.f0, .bool t.f1, .slice A2 t.f2.length c2, .slice A3 t.f3.length c3, .slice A4 t.f4.length c4] 26)).alloc (.cells #[.int .u8 0, .bool false, .slice none 0 0, .slice none 0 0, .slice none 0 0] 26)) w.heap.size (w.heap.size + 1) #[.int .u8 t.f0, .bool t.f1, .slice A2 t.f2.length c2, .slice A3 t.f3.length c3, .slice A4 t.f4.length c4] :=
    ⟨blk_alloc (heap_alloc_new _ _) _, by have := heap_alloc_new (w.alloc (.cells #[.int .u8 t.f0, .bool t.f1, .slice A2 t.f2.length c2, .slice A3 t.f3.length c3, .slice A4 t.f4.length c4] 26)) (.cells #[.int .u8 0, .bool false, .slice none 0 0, .slice none 0 0, .slice none 0 0] 26 (0, 0)); simpa using this, below_alloc (below_alloc (Below.refl _ _) _) _, Nat.le_refl _, Nat.le_succ _, by omega⟩
  go_enter Tryd.func21, Tryd.ntmps21
  go_upto_region 1 with fail
  have W3 := Aside0.mk a3
  clear a3
  generalize (w.alloc (.cells #[.int .u8 t.f0, .bool t.f1, .slice A2 t.f2.length c2, .slice A3 t.f3.length c3, .slice A4 t.f4.length c4] 26)).alloc (.cells #[.int .u8 0, .bool false, .slice none 0 0, .slice none 0 0, .slice none 0 0] 26) = W1 at *
  generalize w.heap.size + 1 = g4 at *
  generalize w.heap.size = gb at *
  go_wp2_with fail
  refine (split_r p _).mono ?_
  rintro e w1 ⟨B, d, rfl, hl, hb1⟩
  have V3 := Aside0.mk (W3.out.below hb1)
  clear hb1 W3
  have hat : atOf t p = if (H.splitOf p).2 = 0 then walkT t (H.splitOf p).1 else (z, (H.splitOf p).2) := rfl
  have hll := splitOf_len p
  generalize H.splitOf p = sp at *
  obtain ⟨l, se⟩ := sp
  have y0 : w1.cell? ⟨g4, 0, none⟩ = some (.int .u8 0) := (blk_cell V3.out.res 0).trans rfl
  have y1 : w1.cell? ⟨g4, 1, none⟩ = some (.bool false) := (blk_cell V3.out.res 1).trans rfl
  have y2 : w1.cell? ⟨g4, 2, none⟩ = some (.slice none 0 0) := (blk_cell V3.out.res 2).trans rfl
  have y3 : w1.cell? ⟨g4, 3, none⟩ = some (.slice none 0 0) := (blk_cell V3.out.res 3).trans rfl
  have y4 : w1.cell? ⟨g4, 4, none⟩ = some (.slice none 0 0) := (blk_cell V3.out.res 4).trans rfl
  have q0 := blk_frozen V3.out.res 0
  have q1 := blk_frozen V3.out.res 1
  have q2 := blk_frozen V3.out.res 2
  have q3 := blk_frozen V3.out.res 3
  have q4 := blk_frozen V3.out.res 4
  by_cases n1 : se = 0
  · have k1 : (se != 0) = false := by rw [n1]; rfl
    rw [if_pos n1] at hat
    have HAT := Aside0.mk hat
    clear hat
    go_wp2_with fail
    go_loopg [8, 9] l.length (fun g v8 v9 wx => ∃ (i : Nat) (u : T) (B2 : Option Addr) (d2 : Nat) (B3 : Option Addr) (d3 : Nat) (B4 : Option Addr) (d4 : Nat), i + g = l.length ∧ v8 = .int .i64 i ∧ okT u ∧ wfT u ∧ TC w u B2 d2 B3 d3 B4 d4 ∧ At3 w wx gb g4 #[.int .u8 u.f0, .bool u.f1, .slice B2 u.f2.length d2, .slice B3 u.f3.length d3, .slice B4 u.f4.length d4] ∧ walkT t l = walkT u (l.drop i) ∧ Kd.string.R 9 wx W1.heap.size (fun _ => True) (.slice B l.length d) l)
    case atStart => exact ⟨0, t, A2, c2, A3, c3, A4, c4, by omega, rfl, HOK.out, HWF.out, HC.out, V3.out, rfl, hl⟩
    case round =>
      clear V3 hl HC HOK HWF y0 y1 y2 y3 y4 q0 q1 q2 q3 q4
      obtain ⟨i, u, B2, d2, B3, d3, B4, d4, hig, rfl, hok, hwf, htc, h3, hwk, hl⟩ := hrel
      have HOK := Aside0.mk hok
      have HWF := Aside0.mk hwf
      have HTC := Aside0.mk htc
      have H3 := Aside0.mk h3
      have HL := Aside0.mk hl
      have HWK := Aside0.mk hwk
      clear hok hwf htc h3 hl hwk
      have z0 : wr.cell? ⟨gb, 0, none⟩ = some (.int .u8 u.f0) := (blk_cell H3.out.box 0).trans rfl
      have z1 : wr.cell? ⟨gb, 1, none⟩ = some (.bool u.f1) := (blk_cell H3.out.box 1).trans rfl
      have z2 : wr.cell? ⟨gb, 2, none⟩ = some (.slice B2 u.f2.length d2) := (blk_cell H3.out.box 2).trans rfl
      have z3 : wr.cell? ⟨gb, 3, none⟩ = some (.slice B3 u.f3.length d3) := (blk_cell H3.out.box 3).trans rfl
      have z4 : wr.cell? ⟨gb, 4, none⟩ = some (.slice B4 u.f4.length d4) := (blk_cell H3.out.box 4).trans rfl
      have y0 : wr.cell? ⟨g4, 0, none⟩ = some (.int .u8 0) := (blk_cell H3.out.res 0).trans rfl
      have y1 : wr.cell? ⟨g4, 1, none⟩ = some (.bool false) := (blk_cell H3.out.res 1).trans rfl
      have y2 : wr.cell? ⟨g4, 2, none⟩ = some (.slice none 0 0) := (blk_cell H3.out.res 2).trans rfl
      have y3 : wr.cell? ⟨g4, 3, none⟩ = some (.slice none 0 0) := (blk_cell H3.out.res 3).trans rfl
      have y4 : wr.cell? ⟨g4, 4, none⟩ = some (.slice none 0 0) := (blk_cell H3.out.res 4).trans rfl
      have q0 := blk_frozen H3.out.res 0
      have q1 := blk_frozen H3.out.res 1
      have q2 := blk_frozen H3.out.res 2
      have q3 := blk_frozen H3.out.res 3
      have q4 := blk_frozen H3.out.res 4
      cases gk with
      | zero =>
        obtain rfl : i = l.length := by omega
        go_wp2_with fail
        obtain ⟨hr, hb⟩ := put5 H3.out.res H3.out.low H3.out.ge4 (.int .u8 u.f0) (.bool u.f1) (.slice B2 u.f2.length d2) (.slice B3 u.f3.length d3) (.slice B4 u.f4.length d4)
        refine bodyPost_ret (results_ct rfl _ _ g4 26 #[.int .u8 u.f0, .bool u.f1, .slice B2 u.f2.length d2, .slice B3 u.f3.length d3, .slice B4 u.f4.length d4] (0, 0) _ rfl hr Tryd.underlying26 rfl (by kernel_rfl)) rfl ?_
        have hw := HWK.out
        rw [List.drop_of_length_le (Nat.le_refl _), walkT] at hw
        rw [HAT.out, hw]
        exact ⟨B2, d2, B3, d3, B4, d4, rfl, HTC.out.below hb, hb⟩
      | succ gk =>
        have hi : i < l.length := by omega
        have HIG := Aside0.mk (show i + 1 + gk = l.length by omega)
        have hll : l.length ≤ 401 := hll
        have hwk := HWK.out
        rw [List.drop_eq_getElem_cons hi, walkT] at hwk
        have j0 : (0 : Int) ≤ (i : Int) := by omega
        have j1 : (i : Int) < (l.length : Int) := by omega
        by_cases n3 : u.f0 = 3
        · have k3 : (u.f0 != 3) = false := by rw [n3]; rfl
          rw [if_pos n3] at hwk
          obtain ⟨adl, el, hxl⟩ := Kd.at_string (Kd.R_reads' HL.out).2.2 (i : Int) (by omega) (by omega)
          cases el
          rw [Int.toNat_natCast, rdB _ _ hi] at hxl
          obtain ⟨s, hs⟩ : ∃ s, l[i] = s := ⟨_, rfl⟩
          rw [hs] at hxl hwk
          clear hs
          have HK := Aside0.mk hwk
          have HWK2 := Aside0.mk (show walkT t l = walkT u (s :: l.drop (i + 1)) by rw [hwk, walkT, if_pos n3])
          have N3 := Aside0.mk n3
          clear hwk n3
          have HFI := Aside0.mk (fun W (h : Below w.heap.size w W) => find_walk u s HOK.out B2 d2 B3 d3 B4 d4 W (HTC.out.below h))
          go_wp2_with fail
          refine start_ (n := 7) (S := fun w' => w'.cell? ⟨gb, 0, none⟩ = some (.int .u8 u.f0) ∧ w'.cell? ⟨gb, 1, none⟩ = some (.bool u.f1) ∧ w'.cell? ⟨gb, 2, none⟩ = some (.slice B2 u.f2.length d2) ∧ w'.cell? ⟨gb, 3, none⟩ = some (.slice B3 u.f3.length d3) ∧ w'.cell? ⟨gb, 4, none⟩ = some (.slice B4 u.f4.length d4) ∧ w'.cell? (adl.add i) = some (.string s) ∧ Below w.heap.size w w') (ds := [5]) #[false, false, false, false, false, false, false] (by kernel_rfl) rfl rfl ⟨z0, z1, z2, z3, z4, hxl, (below_then H3.out.low H3.out.low.size (below_drew (Below.refl _ _)))⟩ (fun hHeld => ?_)
          refine pure_ (i := 1) (N := some 30) (v := ?_) (a' := ?_) #[false, true, false, false, false, false, false] rfl rfl (by kernel_rfl) (fun _ _ _ h => h) (Or.inl ⟨by rfl, ?_⟩) ?_ ?_
          rotate_left
          · intro w'
            go_simp
            with_reducible rfl
          rotate_left
          · simp only [Act.put, List.setIfInBounds_toArray, List.set_cons_zero, List.set_cons_succ, i64_w, i32_w]
            rfl
          refine pure_ (i := 2) (N := some 31) (v := ?_) (a' := ?_) #[false, true, true, false, false, false, false] rfl rfl (by kernel_rfl) (fun _ _ _ h => h) (Or.inl ⟨by rfl, ?_⟩) ?_ ?_
          rotate_left
          · intro w'
            go_simp
            with_reducible rfl
          rotate_left
          · simp only [Act.put, List.setIfInBounds_toArray, List.set_cons_zero, List.set_cons_succ, i64_w, i32_w]
            rfl
          refine pure_ (i := 3) (N := some 32) (v := ?_) (a' := ?_) #[false, true, true, true, false, false, false] rfl rfl (by kernel_rfl) (fun _ _ _ h => h) (Or.inl ⟨by rfl, ?_⟩) ?_ ?_
          rotate_left
          · intro w'
            go_simp
            with_reducible rfl
          rotate_left
          · simp only [Act.put, List.setIfInBounds_toArray, List.set_cons_zero, List.set_cons_succ, i64_w, i32_w]
            rfl
          refine take_ (i := 0) (N := some 29) (v := ?_) (a' := ?_) #[true, true, true, true, false, false, false] rfl rfl (by kernel_rfl) (fun _ _ _ h => h) (Or.inl ⟨by rfl, ?_⟩) hHeld ?_ ?_
          rotate_left
          · rintro w' ⟨s0, s1, s2, s3, s4, s5, s6⟩
            go_simp
            with_reducible rfl
          rotate_left
          · simp only [Act.put, List.setIfInBounds_toArray, List.set_cons_zero, List.set_cons_succ, i64_w, i32_w]
            rfl
          refine take_ (i := 4) (N := some 33) (v := ?_) (a' := ?_) #[true, true, true, true, true, false, false] rfl rfl (by kernel_rfl) (fun _ _ _ h => h) (Or.inl ⟨by rfl, ?_⟩) hHeld ?_ ?_
          rotate_left
          · rintro w' ⟨s0, s1, s2, s3, s4, s5, s6⟩
            go_simp
            with_reducible rfl
          rotate_left
          · simp only [Act.put, List.setIfInBounds_toArray, List.set_cons_zero, List.set_cons_succ, i64_w, i32_w]
            rfl
          refine last_ (i := 5) (N := some 34) #[true, true, true, true, true, true, false] rfl rfl (by kernel_rfl) (by decide) (fun K hK => ?_)
          refine goes_ Tryd.func36 (by kernel_rfl) rfl #[.agg #[.int .u8 u.f0, .bool u.f1, .slice B2 u.f2.length d2, .slice B3 u.f3.length d3, .slice B4 u.f4.length d4], .string s] (by rfl) rfl rfl (by simp only [List.map_toArray, List.map_cons, List.map_nil]; rfl) ?_
          with_reducible refine (HFI.out _ hHeld.2.2.2.2.2.2).mono ?_
          rintro e w2 ⟨rfl, hb2⟩
          refine ⟨_, rfl, ?_⟩
          refine hK.out _ _ ?_
          clear hK K
          refine norm_ (a' := ?_) ?_ ?_
          rotate_left
          · show Act.put _ (some 34) _ = _
            simp only [Act.put, List.setIfInBounds_toArray, List.set_cons_zero, List.set_cons_succ, i64_w, i32_w]
            rfl
          refine pure_ (i := 6) (N := some 9) (v := ?_) (a' := ?_) #[true, true, true, true, true, true, true] rfl rfl (by kernel_rfl) (fun _ _ _ h => h) (Or.inl ⟨by rfl, ?_⟩) ?_ ?_
          rotate_left
          · intro w'
            go_simp
            with_reducible rfl
          rotate_left
          · simp only [Act.put, List.setIfInBounds_toArray, List.set_cons_zero, List.set_cons_succ, i64_w, i32_w]
            rfl
          refine done_ (by kernel_rfl) ?_
          have hb3 : Below wr.heap.size wr w2 := below_then (below_drew (Below.refl _ _)) (Nat.le_refl _) hb2
          have H4 := Aside0.mk (H3.out.below hb3)
          have HL4 := Aside0.mk (Kd.R_below HL.out hb3)
          clear hb2 hb3 z0 z1 z2 z3 z4 y0 y1 y2 y3 y4 q0 q1 q2 q3 q4 hxl H3 HL HFI HWK hHeld
          cases hf : findI u.f3 s with
          | none =>
            have hk := HK.out
            rw [hf] at hk
            have HK2 := Aside0.mk hk
            rw [show findZ u.f3 s = -1 by unfold findZ; rw [hf]]
            clear hf hk HK
            have z0 : w2.cell? ⟨gb, 0, none⟩ = some (.int .u8 u.f0) := (blk_cell H4.out.box 0).trans rfl
            have z1 : w2.cell? ⟨gb, 1, none⟩ = some (.bool u.f1) := (blk_cell H4.out.box 1).trans rfl
            have z2 : w2.cell? ⟨gb, 2, none⟩ = some (.slice B2 u.f2.length d2) := (blk_cell H4.out.box 2).trans rfl
            have z3 : w2.cell? ⟨gb, 3, none⟩ = some (.slice B3 u.f3.length d3) := (blk_cell H4.out.box 3).trans rfl
            have z4 : w2.cell? ⟨gb, 4, none⟩ = some (.slice B4 u.f4.length d4) := (blk_cell H4.out.box 4).trans rfl
            have x0 := blk_frozen H4.out.box 0
            have x1 := blk_frozen H4.out.box 1
            have x2 := blk_frozen H4.out.box 2
            have x3 := blk_frozen H4.out.box 3
            have x4 := blk_frozen H4.out.box 4
            have y0 : w2.cell? ⟨g4, 0, none⟩ = some (.int .u8 0) := (blk_cell H4.out.res 0).trans rfl
            have y1 : w2.cell? ⟨g4, 1, none⟩ = some (.bool false) := (blk_cell H4.out.res 1).trans rfl
            have y2 : w2.cell? ⟨g4, 2, none⟩ = some (.slice none 0 0) := (blk_cell H4.out.res 2).trans rfl
            have y3 : w2.cell? ⟨g4, 3, none⟩ = some (.slice none 0 0) := (blk_cell H4.out.res 3).trans rfl
            have y4 : w2.cell? ⟨g4, 4, none⟩ = some (.slice none 0 0) := (blk_cell H4.out.res 4).trans rfl
            have q0 := blk_frozen H4.out.res 0
            have q1 := blk_frozen H4.out.res 1
            have q2 := blk_frozen H4.out.res 2
            have q3 := blk_frozen H4.out.res 3
            have q4 := blk_frozen H4.out.res 4
            go_wp2_with fail
            obtain ⟨hr, hb⟩ := put5 H4.out.res H4.out.low H4.out.ge4 (.int .u8 0) (.bool false) (.slice none 0 0) (.slice none 0 0) (.slice none 0 0)
            refine bodyPost_ret (results_ct rfl _ _ g4 26 #[.int .u8 0, .bool false, .slice none 0 0, .slice none 0 0, .slice none 0 0] (0, 0) _ rfl hr Tryd.underlying26 rfl (by kernel_rfl)) rfl ?_
            rw [HAT.out, HK2.out]
            exact ⟨none, 0, none, 0, none, 0, rfl, tc_z _, hb⟩
          | some k =>
            have hk := HK.out
            rw [hf] at hk
            obtain ⟨hk3, hke⟩ := findI_some hf
            have hlen : u.f3.length = u.f4.length := ownB_len _ (wfT_parts HWF.out).1
            have hk4 : k < u.f4.length := by omega
            rw [show findZ u.f3 s = (k : Int) by unfold findZ; rw [hf]]
            obtain ⟨ad4, E2, e2, E3, e3, E4, e4, el, hx0, hx1, hx2, hx3, hx4, l2, g2, l3, g3, l4, g5⟩ := at_T26 HTC.out.2.2.1 (k : Int) (by omega) (by omega)
            cases el
            rw [rdT _ _ hk4] at hx0 hx1 hx2 hx3 hx4 l2 g2 l3 g3 l4 g5
            rw [Int.toNat_natCast] at hx0 hx1 hx2 hx3 hx4
            have hok2 := okL_mem (okT_kids HOK.out).2 _ (List.getElem_mem hk4)
            have hwf2 := wfL_mem (wfT_parts HWF.out).2.2 _ (List.getElem_mem hk4)
            have hk' : walkT u (s :: l.drop (i + 1)) = walkT u.f4[k] (l.drop (i + 1)) := by
              rw [walkT, if_pos N3.out, hf]
              simp only [List.getElem?_eq_getElem hk4]
            obtain ⟨v, hv⟩ : ∃ v, u.f4[k] = v := ⟨_, rfl⟩
            rw [hv] at hx0 hx1 hx2 hx3 hx4 l2 g2 l3 g3 l4 g5 hok2 hwf2 hk'
            have HK2 := Aside0.mk (HWK2.out.trans hk')
            have HVT := Aside0.mk (show TC w v E2 e2 E3 e3 E4 e4 from ⟨⟨g2, l2⟩, ⟨g3, l3⟩, g5, l4⟩)
            have HV := Aside0.mk (And.intro hok2 hwf2)
            clear hf hk HK hke hlen hv hok2 hwf2 hk' l2 g2 l3 g3 l4 g5
            replace hx0 := (H4.out.low.cell (World.block_lt_of_cell? w _ hx0)).trans hx0
            replace hx1 := (H4.out.low.cell (World.block_lt_of_cell? w _ hx1)).trans hx1
            replace hx2 := (H4.out.low.cell (World.block_lt_of_cell? w _ hx2)).trans hx2
            replace hx3 := (H4.out.low.cell (World.block_lt_of_cell? w _ hx3)).trans hx3
            replace hx4 := (H4.out.low.cell (World.block_lt_of_cell? w _ hx4)).trans hx4
            have k5 : decide ((k : Int) < 0) = false := decide_eq_false (by omega)
            have u0 : (0 : Int) ≤ (k : Int) := by omega
            have u1 : (k : Int) < (u.f4.length : Int) := by omega
            have z0 : w2.cell? ⟨gb, 0, none⟩ = some (.int .u8 u.f0) := (blk_cell H4.out.box 0).trans rfl
            have z1 : w2.cell? ⟨gb, 1, none⟩ = some (.bool u.f1) := (blk_cell H4.out.box 1).trans rfl
            have z2 : w2.cell? ⟨gb, 2, none⟩ = some (.slice B2 u.f2.length d2) := (blk_cell H4.out.box 2).trans rfl
            have z3 : w2.cell? ⟨gb, 3, none⟩ = some (.slice B3 u.f3.length d3) := (blk_cell H4.out.box 3).trans rfl
            have z4 : w2.cell? ⟨gb, 4, none⟩ = some (.slice (some ad4) u.f4.length d4) := (blk_cell H4.out.box 4).trans rfl
            have x0 := blk_frozen H4.out.box 0
            have x1 := blk_frozen H4.out.box 1
            have x2 := blk_frozen H4.out.box 2
            have x3 := blk_frozen H4.out.box 3
            have x4 := blk_frozen H4.out.box 4
            have y0 : w2.cell? ⟨g4, 0, none⟩ = some (.int .u8 0) := (blk_cell H4.out.res 0).trans rfl
            have y1 : w2.cell? ⟨g4, 1, none⟩ = some (.bool false) := (blk_cell H4.out.res 1).trans rfl
            have y2 : w2.cell? ⟨g4, 2, none⟩ = some (.slice none 0 0) := (blk_cell H4.out.res 2).trans rfl
            have y3 : w2.cell? ⟨g4, 3, none⟩ = some (.slice none 0 0) := (blk_cell H4.out.res 3).trans rfl
            have y4 : w2.cell? ⟨g4, 4, none⟩ = some (.slice none 0 0) := (blk_cell H4.out.res 4).trans rfl
            have q0 := blk_frozen H4.out.res 0
            have q1 := blk_frozen H4.out.res 1
            have q2 := blk_frozen H4.out.res 2
            have q3 := blk_frozen H4.out.res 3
            have q4 := blk_frozen H4.out.res 4
            go_wp2_with fail
            go_roundg gk
            case measure => omega
            case rel =>
              have hig2 := HIG.out
              exact ⟨i + 1, v, E2, e2, E3, e3, E4, e4, hig2, by go_num, HV.out.1, HV.out.2, HVT.out, H4.out.put _ _ _ _ _, HK2.out, R_put5 H4.out.box HL4.out _ _ _ _ _⟩
        · have k3 : (u.f0 != 3) = true := bne_iff_ne.2 n3
          rw [if_neg n3] at hwk
          go_wp2_with fail
          obtain ⟨hr, hb⟩ := put5 H3.out.res H3.out.low H3.out.ge4 (.int .u8 0) (.bool false) (.slice none 0 0) (.slice none 0 0) (.slice none 0 0)
          refine bodyPost_ret (results_ct rfl _ _ g4 26 #[.int .u8 0, .bool false, .slice none 0 0, .slice none 0 0, .slice none 0 0] (0, 0) _ rfl hr Tryd.underlying26 rfl (by kernel_rfl)) rfl ?_
          rw [HAT.out, hwk]
          exact ⟨none, 0, none, 0, none, 0, rfl, tc_z _, hb⟩
  · have k1 : (se != 0) = true := bne_iff_ne.2 n1
    go_wp2_with fail
    obtain ⟨hr, hb⟩ := put5 V3.out.res V3.out.low V3.out.ge4 (.int .u8 0) (.bool false) (.slice none 0 0) (.slice none 0 0) (.slice none 0 0)
    refine bodyPost_ret (results_ct rfl _ _ g4 26 #[.int .u8 0, .bool false, .slice none 0 0, .slice none 0 0, .slice none 0 0] (0, 0) _ rfl hr Tryd.underlying26 rfl (by kernel_rfl)) rfl ?_
    rw [hat, if_neg n1]
    exact ⟨none, 0, none, 0, none, 0, rfl, tc_z _, hb⟩
end Go.Proofs.YtmhlmbmenoihnaaDoor.K

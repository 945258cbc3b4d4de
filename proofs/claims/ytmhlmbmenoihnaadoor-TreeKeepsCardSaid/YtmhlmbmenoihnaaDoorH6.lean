/- What the document's own test of one tree comes to (what is in it aside). -/
import Derived.Test.YtmhlmbmenoihnaaDoorH4
import Derived.Test.YtmhlmbmenoihnaaDoorP0
import Derived.Deep.DeepCutAuto
import Derived.Deep.CutBlock
namespace Go.Proofs.YtmhlmbmenoihnaaDoor.G
open Go.RowKit Go.Proofs.YtmhlmbmenoihnaaDoorW.PrintWords Go.Proofs.YtmhlmbmenoihnaaDoorW.PrintLast Go.Proofs.YtmhlmbmenoihnaaDoorW.PrintMore
set_option linter.unusedVariables false
set_option linter.unusedSimpArgs false

theorem geq_str6 (t : TypeId) (a b : ByteArray) : binOp .geq t (.string a) (.string b) = pure (.bool !(Op.bytesLess a.toList b.toList)) := by simp [binOp, Op.stringOp]
attribute [local go_sem] geq_str6
/-- Names that are names, and rise. -/
def goodNames : Option ByteArray → List ByteArray → Bool
  | _, [] => true
  | p, s :: ns => decide (H.nameOf s = true ∧ (∀ q, p = some q → Op.bytesLess q.toList s.toList = true)) && goodNames (some s) ns
theorem goodNames_cons (p : Option ByteArray) (s : ByteArray) (ns : List ByteArray) : goodNames p (s :: ns) = (decide (H.nameOf s = true ∧ (∀ q, p = some q → Op.bytesLess q.toList s.toList = true)) && goodNames (some s) ns) := by rw [goodNames]
def ownR (t : S26) : Bool := ownB t && goodNames none t.f3

theorem name_r (s : ByteArray) (b : Bool) (h : H.nameOf s = b) (hs : s.size ≤ 140737488351232) (w : World) : Calls Tryd.prog 16 #[.string s] w fun e w' => e = .returned (.bool b) ∧ Below w.heap.size w w' := by
  obtain ⟨K, hK⟩ := P.r03_name s hs
  refine (r03_Name.calls K s b w (by rw [← h]; exact hK K (Nat.le_refl _))).mono ?_
  rintro e w' ⟨rfl, n, rfl⟩
  exact ⟨rfl, pw_below_drewN (Below.refl _ _) n⟩

def noZero (l : List Int) : Bool := l.all fun b => decide (b ≠ 0)
theorem byteAt_neg : ∀ (l : List Int), (∀ b ∈ l, 0 ≤ b ∧ b ≤ 255) → decide (H.byteAt l 0 < 0) = noZero l
  | [], _ => rfl
  | b :: l, h => by
    have ih := byteAt_neg l (fun x hx => h x (.tail _ hx))
    have hb := h b (.head _)
    have hge : ∀ l : List UInt8, -1 ≤ Lib.indexByte l 0 := fun l => by rw [← Lib.index_one]; exact Lib.index_ge _ _
    unfold H.byteAt at ih ⊢
    have hc : Lib.bytesOf (b :: l) = b.toNat.toUInt8 :: Lib.bytesOf l := rfl
    have h0 : ((0 : Int).toNat.toUInt8) = (0 : UInt8) := rfl
    rw [h0] at ih ⊢
    have hg := hge (Lib.bytesOf l)
    rw [hc, Lib.indexByte]
    unfold noZero at ih ⊢
    rw [List.all_cons, ← ih]
    by_cases hz : b = 0
    · subst hz
      rfl
    · have hne : (b.toNat.toUInt8 == (0 : UInt8)) = false := by
        rw [beq_eq_false_iff_ne]
        intro e
        have := congrArg UInt8.toNat e
        simp at this
        omega
      rw [hne, if_neg Bool.false_ne_true, decide_eq_true (show b ≠ 0 from hz), Bool.true_and]
      by_cases hm : Lib.indexByte (Lib.bytesOf l) 0 = -1
      · rw [if_pos (beq_iff_eq.2 hm), hm]
      · rw [if_neg (by intro h; exact hm (beq_iff_eq.1 h))]
        rw [decide_eq_false (by omega), decide_eq_false (by omega)]

structure Bx (w wx : World) (gb : Nat) (cs : Array Value) : Prop where
  box : wx.heap[gb]? = some (.cells cs 26 (0, 0))
  low : Below w.heap.size w wx
theorem Bx.below {w wx w2 : World} {gb : Nat} {cs : Array Value} (h : Bx w wx gb cs) (hb : Below wx.heap.size wx w2) : Bx w w2 gb cs :=
  ⟨(hb.block _ (blk_lt h.box)).trans h.box, below_then h.low h.low.size hb⟩
theorem Bx.drew {w wx : World} {gb : Nat} {cs : Array Value} (h : Bx w wx gb cs) : Bx w wx.drew gb cs := h.below (below_drew (Below.refl _ _))

/-- What the contract speaks of: rows no longer than memory may be, bytes that are bytes. -/
def fitT (t : S26) : Bool := smallB t && (t.f2.all (fun b => decide (0 ≤ b ∧ b ≤ 255)) && t.f3.all (fun s => decide (s.size ≤ 140737488351232)))

set_option maxHeartbeats 4000000 in
set_option maxRecDepth 100000 in
theorem own_walk (f0 : Int) (f1 : Bool) (f2 : List Int) (f3 : List ByteArray) (f4 : List S26) (A2 : Option Addr) (c2 : Nat) (A3 : Option Addr) (c3 : Nat) (A4 : Option Addr) (c4 : Nat) (w : World)
      (hr2 : Kd.C (Kd.int .u8) w A2 f2.length f2) (hc2 : f2.length ≤ c2) (hr3 : Kd.C Kd.string w A3 f3.length f3) (hc3 : f3.length ≤ c3) (hr4 : Kd.C k26 w A4 f4.length f4) (hc4 : f4.length ≤ c4)
      (hl2 : f2.length ≤ 140737488351232) (hl3 : f3.length ≤ 140737488351232) (hl4 : f4.length ≤ 140737488351232) (hby : ∀ b ∈ f2, 0 ≤ b ∧ b ≤ 255) (hna : ∀ s ∈ f3, s.size ≤ 140737488351232) (own : Bool) (hown : ownR ⟨f0, f1, f2, f3, f4⟩ = own) :
      Calls Tryd.prog 43 #[.agg #[.int .u8 f0, .bool f1, .slice A2 f2.length c2, .slice A3 f3.length c3, .slice A4 f4.length c4]] w fun e w' => e = .returned (.bool own) ∧ Below w.heap.size w w' := by
  have HR2 := Aside0.mk hr2
  have HR3 := Aside0.mk hr3
  have HR4 := Aside0.mk hr4
  have HOWN := Aside0.mk hown
  have HBY := Aside0.mk hby
  have HNA := Aside0.mk hna
  clear hr2 hr3 hr4 hown hby hna
  have hu26 := Tryd.underlying26
  have hB0 : Below w.heap.size w (w.alloc (.cells #[.int .u8 f0, .bool f1, .slice A2 f2.length c2, .slice A3 f3.length c3, .slice A4 f4.length c4] 26)) := below_alloc (Below.refl _ _) _
  have hx0 : (w.alloc (.cells #[.int .u8 f0, .bool f1, .slice A2 f2.length c2, .slice A3 f3.length c3, .slice A4 f4.length c4] 26)).heap[w.heap.size]? = some (.cells #[.int .u8 f0, .bool f1, .slice A2 f2.length c2, .slice A3 f3.length c3, .slice A4 f4.length c4] 26 (0, 0)) := heap_alloc_new _ _
  have BX := Aside0.mk (Bx.mk hx0 hB0)
  clear hB0 hx0
  go_enter Tryd.func43, Tryd.ntmps43
  go_upto_region 1 with fail
  generalize w.alloc (.cells #[.int .u8 f0, .bool f1, .slice A2 f2.length c2, .slice A3 f3.length c3, .slice A4 f4.length c4] 26) = W1 at *
  generalize w.heap.size = gb at *
  have z0 : W1.cell? ⟨gb, 0, none⟩ = some (.int .u8 f0) := (blk_cell BX.out.box 0).trans rfl
  have z1 : W1.cell? ⟨gb, 1, none⟩ = some (.bool f1) := (blk_cell BX.out.box 1).trans rfl
  have z2 : W1.cell? ⟨gb, 2, none⟩ = some (.slice A2 f2.length c2) := (blk_cell BX.out.box 2).trans rfl
  have z3 : W1.cell? ⟨gb, 3, none⟩ = some (.slice A3 f3.length c3) := (blk_cell BX.out.box 3).trans rfl
  have z4 : W1.cell? ⟨gb, 4, none⟩ = some (.slice A4 f4.length c4) := (blk_cell BX.out.box 4).trans rfl
  have hsum : IntKind.i64.wrap ((f3.length : Int) + (f4.length : Int)) = ((f3.length + f4.length : Nat) : Int) := by rw [wrap_small _ (by omega) (by omega)]; omega
  by_cases e1 : f0 = 1
  · subst e1
    have hfin : own = decide (f3.length + f4.length = 0) := by
      rw [← HOWN.out, ownR, own1]
      by_cases h0 : f3.length + f4.length = 0
      · have : f3 = [] := List.length_eq_zero_iff.1 (by omega)
        rw [decide_eq_true h0, this]; rfl
      · rw [decide_eq_false h0]; rfl
    have HF := Aside0.mk hfin
    clear hfin
    go_wp2_with fail
    go_ret
    have hq : (((f3.length : Int) + (f4.length : Int)) == 0) = decide (f3.length + f4.length = 0) := by
      by_cases h0 : f3.length + f4.length = 0
      · rw [decide_eq_true h0, beq_iff_eq]; omega
      · rw [decide_eq_false h0, beq_eq_false_iff_ne]; omega
    exact ⟨by rw [HF.out]; exact congrArg (fun b => Ending.returned (.bool b)) hq, BX.out.low⟩
  · have k0 : (f0 == 1) = false := beq_eq_false_iff_ne.2 e1
    by_cases e2 : f0 = 2
    · subst e2
      clear e1 k0
      go_wp2_with fail
      have BX0 := BX.out
      clear z0 z1 z2 z3 z4 BX
      go_loopg [3] f2.length (fun g v3 wx => ∃ i : Nat, i + g = f2.length ∧ v3 = .int .i64 i ∧ Bx w wx gb #[.int .u8 2, .bool f1, .slice A2 f2.length c2, .slice A3 f3.length c3, .slice A4 f4.length c4] ∧ noZero f2 = noZero (f2.drop i))
      case atStart => exact ⟨0, by omega, rfl, BX0, rfl⟩
      case round =>
        clear BX0
        obtain ⟨i, hig, rfl, hbx, hnz⟩ := hrel
        have BX := Aside0.mk hbx
        have NZ := Aside0.mk hnz
        clear hbx hnz
        have z1 : wr.cell? ⟨gb, 1, none⟩ = some (.bool f1) := (blk_cell BX.out.box 1).trans rfl
        have z2 : wr.cell? ⟨gb, 2, none⟩ = some (.slice A2 f2.length c2) := (blk_cell BX.out.box 2).trans rfl
        have z3 : wr.cell? ⟨gb, 3, none⟩ = some (.slice A3 f3.length c3) := (blk_cell BX.out.box 3).trans rfl
        have z4 : wr.cell? ⟨gb, 4, none⟩ = some (.slice A4 f4.length c4) := (blk_cell BX.out.box 4).trans rfl
        have hO2 : own = ((decide (f3.length + f4.length = 0) && (!f1 && (decide (f2.length ≠ 0) && (decide (f2.length ≤ 400) && noZero f2)))) && goodNames none f3) := by
          rw [← HOWN.out, ownR, own2, byteAt_neg f2 HBY.out]
        cases gk with
        | zero =>
          obtain rfl : i = f2.length := by omega
          rw [show noZero f2 = true from by rw [NZ.out, List.drop_eq_nil_of_le (Nat.le_refl _)]; rfl, Bool.and_true] at hO2
          have HO2 := Aside0.mk hO2
          clear hO2 NZ
          cases f1 with
          | true =>
            have HF := Aside0.mk (show own = false by rw [HO2.out]; simp)
            clear HO2
            go_wp2_with fail
            go_ret
            exact ⟨by rw [HF.out]; rfl, BX.out.low⟩
          | false =>
            by_cases s0 : f3.length + f4.length = 0
            · have q0 : (((f3.length : Int) + (f4.length : Int)) == 0) = true := by rw [beq_iff_eq]; omega
              have hn : f3 = [] := List.length_eq_zero_iff.1 (by omega)
              have hO3 : own = (decide (f2.length ≠ 0) && decide (f2.length ≤ 400)) := by rw [HO2.out, decide_eq_true s0, hn]; simp [goodNames]
              have HO3 := Aside0.mk hO3
              clear HO2 hO3 hn s0
              by_cases s1 : 1 ≤ f2.length
              · have q1 : decide (1 ≤ f2.length) = true := decide_eq_true s1
                have HF := Aside0.mk (show own = decide ((f2.length : Int) ≤ 400) by rw [HO3.out, decide_eq_true (show f2.length ≠ 0 by omega), Bool.true_and]; exact decide_eq_decide.2 (by omega))
                clear HO3
                go_wp2_with fail
                go_ret
                exact ⟨by rw [HF.out]; rfl, BX.out.low⟩
              · have q1 : decide (1 ≤ f2.length) = false := decide_eq_false s1
                have HF := Aside0.mk (show own = false by rw [HO3.out, decide_eq_false (show ¬ f2.length ≠ 0 by omega), Bool.false_and])
                clear HO3
                go_wp2_with fail
                go_ret
                exact ⟨by rw [HF.out]; rfl, BX.out.low⟩
            · have q0 : (((f3.length : Int) + (f4.length : Int)) == 0) = false := by rw [beq_eq_false_iff_ne]; omega
              have HF := Aside0.mk (show own = false by rw [HO2.out, decide_eq_false s0]; simp)
              clear HO2 s0
              go_wp2_with fail
              go_ret
              exact ⟨by rw [HF.out]; rfl, BX.out.low⟩
        | succ gk =>
          have hi : i < f2.length := by omega
          obtain ⟨ad, e2, hx⟩ := Kd.at_int HR2.out (i : Int) (by omega) (by omega)
          cases e2
          replace hx := (BX.out.low.cell (World.block_lt_of_cell? w _ hx)).trans hx
          rw [Int.toNat_natCast] at hx
          have hxe : rd f2 (i : Int) = f2[i] := by unfold rd; rw [Int.toNat_natCast, List.getD_eq_getElem?_getD, List.getElem?_eq_getElem hi]; rfl
          rw [hxe] at hx
          have hnz2 : noZero f2 = (decide (f2[i] ≠ 0) && noZero (f2.drop (i + 1))) := by
            rw [NZ.out, List.drop_eq_getElem_cons hi]; rfl
          have NZ2 := Aside0.mk hnz2
          clear hnz2 NZ hxe
          have j0 : (0 : Int) ≤ (i : Int) := by omega
          have j1 : (i : Int) < (f2.length : Int) := by omega
          generalize f2[i] = x at *
          by_cases hz : x = 0
          · have k9 : (x == 0) = true := beq_iff_eq.2 hz
            have HF := Aside0.mk (show own = false by rw [hO2, NZ2.out, decide_eq_false (show ¬ x ≠ 0 from fun h => h hz)]; simp)
            clear hO2 hz NZ2
            go_wp2_with fail
            go_ret
            exact ⟨by rw [HF.out]; rfl, BX.out.low⟩
          · have k9 : (x == 0) = false := beq_eq_false_iff_ne.2 hz
            have NZ3 := Aside0.mk (show noZero f2 = noZero (f2.drop (i + 1)) by rw [NZ2.out, decide_eq_true (show x ≠ 0 from hz), Bool.true_and])
            clear hO2 hz NZ2
            go_wp2_with fail
            go_roundg gk
            case measure => omega
            case rel => exact ⟨i + 1, by omega, by go_num, BX.out, NZ3.out⟩
    · have k1 : (f0 == 2) = false := beq_eq_false_iff_ne.2 e2
      by_cases e3 : f0 = 3
      · subst e3
        clear e1 e2 k0 k1
        go_wp2_with fail
        have BX0 := BX.out
        clear z0 z1 z2 z3 z4 BX
        go_loopg [4] f3.length (fun g v4 wx => ∃ i : Nat, i + g = f3.length ∧ v4 = .int .i64 i ∧ Bx w wx gb #[.int .u8 3, .bool f1, .slice A2 f2.length c2, .slice A3 f3.length c3, .slice A4 f4.length c4] ∧ goodNames none f3 = goodNames (prevOf f3 i) (f3.drop i))
        case atStart => exact ⟨0, by omega, rfl, BX0, rfl⟩
        case round =>
          clear BX0
          obtain ⟨i, hig, rfl, hbx, hgn⟩ := hrel
          have BX := Aside0.mk hbx
          have GN := Aside0.mk hgn
          clear hbx hgn
          have z1 : wr.cell? ⟨gb, 1, none⟩ = some (.bool f1) := (blk_cell BX.out.box 1).trans rfl
          have z2 : wr.cell? ⟨gb, 2, none⟩ = some (.slice A2 f2.length c2) := (blk_cell BX.out.box 2).trans rfl
          have w3' : wr.cell? ⟨gb, 3, none⟩ = some (.slice A3 f3.length c3) := (blk_cell BX.out.box 3).trans rfl
          have z4 : wr.cell? ⟨gb, 4, none⟩ = some (.slice A4 f4.length c4) := (blk_cell BX.out.box 4).trans rfl
          have hO3 : own = ((decide (f3.length = f4.length) && (!f1 && decide (f2.length = 0))) && goodNames none f3) := by rw [← HOWN.out, ownR, own3]
          cases gk with
          | zero =>
            obtain rfl : i = f3.length := by omega
            rw [show goodNames none f3 = true from by rw [GN.out, List.drop_eq_nil_of_le (Nat.le_refl _), goodNames], Bool.and_true] at hO3
            have HO3 := Aside0.mk hO3
            clear hO3 GN
            cases f1 with
            | true =>
              have HF := Aside0.mk (show own = false by rw [HO3.out]; simp)
              clear HO3
              go_wp2_with fail
              go_ret
              exact ⟨by rw [HF.out]; rfl, BX.out.low⟩
            | false =>
              by_cases s0 : f2.length = 0
              · have q0 : ((f2.length : Int) == 0) = true := by rw [beq_iff_eq]; omega
                have q1 : (f2.length == 0) = true := beq_iff_eq.2 s0
                have HF := Aside0.mk (show own = ((f3.length : Int) == (f4.length : Int)) by
                  rw [HO3.out, decide_eq_true s0]
                  by_cases h : f3.length = f4.length
                  · rw [decide_eq_true h, h]; simp
                  · rw [decide_eq_false h, show ((f3.length : Int) == (f4.length : Int)) = false from by rw [beq_eq_false_iff_ne]; omega]; rfl)
                clear HO3 s0
                go_wp2_with fail
                go_ret
                exact ⟨by rw [HF.out]; rfl, BX.out.low⟩
              · have q0 : ((f2.length : Int) == 0) = false := by rw [beq_eq_false_iff_ne]; omega
                have q1 : (f2.length == 0) = false := beq_eq_false_iff_ne.2 s0
                have HF := Aside0.mk (show own = false by rw [HO3.out, decide_eq_false s0]; simp)
                clear HO3 s0
                go_wp2_with fail
                go_ret
                exact ⟨by rw [HF.out]; rfl, BX.out.low⟩
          | succ gk =>
            have hi : i < f3.length := by omega
            obtain ⟨ad3, e3, hx3⟩ := Kd.at_string HR3.out (i : Int) (by omega) (by omega)
            cases e3
            replace hx3 := (BX.out.low.cell (World.block_lt_of_cell? w _ hx3)).trans hx3
            rw [Int.toNat_natCast] at hx3
            have hxe : rdOf ByteArray.empty f3 (i : Int) = f3[i] := by unfold rdOf; rw [Int.toNat_natCast, List.getD_eq_getElem?_getD, List.getElem?_eq_getElem hi]; rfl
            rw [hxe] at hx3
            have hsz : f3[i].size ≤ 140737488351232 := HNA.out _ (List.getElem_mem hi)
            have hgn2 : goodNames none f3 = (decide (H.nameOf f3[i] = true ∧ (∀ q, prevOf f3 i = some q → Op.bytesLess q.toList f3[i].toList = true)) && goodNames (some f3[i]) (f3.drop (i + 1))) := by
              rw [GN.out, List.drop_eq_getElem_cons hi, goodNames_cons]
            have hpv : prevOf f3 (i + 1) = some f3[i] := by
              unfold prevOf
              rw [if_neg (by omega), Nat.add_sub_cancel, List.getD_eq_getElem?_getD, List.getElem?_eq_getElem hi]; rfl
            rw [← hpv] at hgn2
            have GN2 := Aside0.mk hgn2
            clear hgn2 GN hxe hpv
            have j0 : (0 : Int) ≤ (i : Int) := by omega
            have j1 : (i : Int) < (f3.length : Int) := by omega
            have BXq := BX.out
            generalize f3[i] = x at *
            have HSZ := Aside0.mk hsz
            clear hsz
            cases hnm : H.nameOf x with
            | false =>
              have HF := Aside0.mk (show own = false by rw [hO3, GN2.out, decide_eq_false (p := H.nameOf x = true ∧ (∀ q, prevOf f3 i = some q → Op.bytesLess q.toList x.toList = true)) (fun h => by rw [hnm] at h; exact Bool.false_ne_true h.1)]; simp)
              have HNM := Aside0.mk hnm
              clear hO3 GN2 hnm
              go_wp2_with fail
              refine start_ (n := 25) (S := fun w' => w'.cell? ⟨gb, 3, none⟩ = some (.slice (some ad3) f3.length c3) ∧ w'.cell? (ad3.add i) = some (.string x)) (ds := [5]) #[false, false, false, false, false, false, false, false, false, false, false, false, false, false, false, false, false, false, false, false, false, false, false, false, false] (by kernel_rfl) rfl rfl ⟨w3', hx3⟩ (fun hHeld => ?_)
              refine pure_ (i := 0) (N := some 66) (v := ?_) (a' := ?_) #[true, false, false, false, false, false, false, false, false, false, false, false, false, false, false, false, false, false, false, false, false, false, false, false, false] rfl rfl (by kernel_rfl) (fun _ _ _ h => h) (Or.inl ⟨by rfl, ?_⟩) ?_ ?_
              rotate_left
              · intro w'
                go_simp
                with_reducible rfl
              rotate_left
              · simp only [Act.put, List.setIfInBounds_toArray, List.set_cons_zero, List.set_cons_succ, i64_w, i32_w]
                rfl
              refine pure_ (i := 2) (N := some 68) (v := ?_) (a' := ?_) #[true, false, true, false, false, false, false, false, false, false, false, false, false, false, false, false, false, false, false, false, false, false, false, false, false] rfl rfl (by kernel_rfl) (fun _ _ _ h => h) (Or.inl ⟨by rfl, ?_⟩) ?_ ?_
              rotate_left
              · intro w'
                go_simp
                with_reducible rfl
              rotate_left
              · simp only [Act.put, List.setIfInBounds_toArray, List.set_cons_zero, List.set_cons_succ, i64_w, i32_w]
                rfl
              refine take_ (i := 1) (N := some 67) (v := ?_) (a' := ?_) #[true, true, true, false, false, false, false, false, false, false, false, false, false, false, false, false, false, false, false, false, false, false, false, false, false] rfl rfl (by kernel_rfl) (fun _ _ _ h => h) (Or.inl ⟨by rfl, ?_⟩) hHeld ?_ ?_
              rotate_left
              · rintro w' ⟨s0, s1⟩
                go_simp
                with_reducible rfl
              rotate_left
              · simp only [Act.put, List.setIfInBounds_toArray, List.set_cons_zero, List.set_cons_succ, i64_w, i32_w]
                rfl
              refine pure_ (i := 3) (N := some 69) (v := ?_) (a' := ?_) #[true, true, true, true, false, false, false, false, false, false, false, false, false, false, false, false, false, false, false, false, false, false, false, false, false] rfl rfl (by kernel_rfl) (fun _ _ _ h => h) (Or.inl ⟨by rfl, ?_⟩) ?_ ?_
              rotate_left
              · intro w'
                go_simp
                with_reducible rfl
              rotate_left
              · simp only [Act.put, List.setIfInBounds_toArray, List.set_cons_zero, List.set_cons_succ, i64_w, i32_w]
                rfl
              refine take_ (i := 4) (N := some 70) (v := ?_) (a' := ?_) #[true, true, true, true, true, false, false, false, false, false, false, false, false, false, false, false, false, false, false, false, false, false, false, false, false] rfl rfl (by kernel_rfl) (fun _ _ _ h => h) (Or.inl ⟨by rfl, ?_⟩) hHeld ?_ ?_
              rotate_left
              · rintro w' ⟨s0, s1⟩
                go_simp
                with_reducible rfl
              rotate_left
              · simp only [Act.put, List.setIfInBounds_toArray, List.set_cons_zero, List.set_cons_succ, i64_w, i32_w]
                rfl
              refine last_ (i := 5) (N := some 71) #[true, true, true, true, true, true, false, false, false, false, false, false, false, false, false, false, false, false, false, false, false, false, false, false, false] rfl rfl (by kernel_rfl) (by decide) (fun K hK => ?_)
              refine goes_ Tryd.func16 (by kernel_rfl) rfl #[.string x] (by rfl) rfl rfl (by simp only [List.map_toArray, List.map_cons, List.map_nil]; rfl) ?_
              with_reducible refine (name_r x false HNM.out HSZ.out _).mono ?_
              rintro e w2 ⟨rfl, hb2⟩
              refine ⟨_, rfl, ?_⟩
              refine hK.out _ _ ?_
              clear hK K
              refine norm_ (a' := ?_) ?_ ?_
              rotate_left
              · show Act.put _ (some 71) _ = _
                simp only [Act.put, List.setIfInBounds_toArray, List.set_cons_zero, List.set_cons_succ, i64_w, i32_w]
                rfl
              refine pure_ (i := 6) (N := some 72) (v := ?_) (a' := ?_) #[true, true, true, true, true, true, true, false, false, false, false, false, false, false, false, false, false, false, false, false, false, false, false, false, false] rfl rfl (by kernel_rfl) (fun _ _ _ h => h) (Or.inl ⟨by rfl, ?_⟩) ?_ ?_
              rotate_left
              · intro w'
                go_simp
                with_reducible rfl
              rotate_left
              · simp only [Act.put, List.setIfInBounds_toArray, List.set_cons_zero, List.set_cons_succ, i64_w, i32_w]
                rfl
              refine pure_ (i := 7) (N := some 73) (v := ?_) (a' := ?_) #[true, true, true, true, true, true, true, true, false, false, false, false, false, false, false, false, false, false, false, false, false, false, false, false, false] rfl rfl (by kernel_rfl) (fun _ _ _ h => h) (Or.inl ⟨by rfl, ?_⟩) ?_ ?_
              rotate_left
              · intro w'
                go_simp
                with_reducible rfl
              rotate_left
              · simp only [Act.put, List.setIfInBounds_toArray, List.set_cons_zero, List.set_cons_succ, i64_w, i32_w]
                rfl
              refine pure_ (i := 8) (N := some 74) (v := undef) (a' := ?_) #[true, true, true, true, true, true, true, true, true, false, false, false, false, false, false, false, false, false, false, false, false, false, false, false, false] rfl rfl (by kernel_rfl) (fun _ _ _ h => h) (Or.inr ⟨by rfl, rfl⟩) ?_ ?_
              rotate_left
              · simp only [Act.put, List.setIfInBounds_toArray, List.set_cons_zero, List.set_cons_succ, i64_w, i32_w]
                rfl
              refine pure_ (i := 9) (N := some 75) (v := undef) (a' := ?_) #[true, true, true, true, true, true, true, true, true, true, false, false, false, false, false, false, false, false, false, false, false, false, false, false, false] rfl rfl (by kernel_rfl) (fun _ _ _ h => h) (Or.inr ⟨by rfl, rfl⟩) ?_ ?_
              rotate_left
              · simp only [Act.put, List.setIfInBounds_toArray, List.set_cons_zero, List.set_cons_succ, i64_w, i32_w]
                rfl
              refine pure_ (i := 10) (N := some 76) (v := undef) (a' := ?_) #[true, true, true, true, true, true, true, true, true, true, true, false, false, false, false, false, false, false, false, false, false, false, false, false, false] rfl rfl (by kernel_rfl) (fun _ _ _ h => h) (Or.inr ⟨by rfl, rfl⟩) ?_ ?_
              rotate_left
              · simp only [Act.put, List.setIfInBounds_toArray, List.set_cons_zero, List.set_cons_succ, i64_w, i32_w]
                rfl
              refine pure_ (i := 11) (N := some 77) (v := undef) (a' := ?_) #[true, true, true, true, true, true, true, true, true, true, true, true, false, false, false, false, false, false, false, false, false, false, false, false, false] rfl rfl (by kernel_rfl) (fun _ _ _ h => h) (Or.inr ⟨by rfl, rfl⟩) ?_ ?_
              rotate_left
              · simp only [Act.put, List.setIfInBounds_toArray, List.set_cons_zero, List.set_cons_succ, i64_w, i32_w]
                rfl
              refine pure_ (i := 12) (N := some 78) (v := undef) (a' := ?_) #[true, true, true, true, true, true, true, true, true, true, true, true, true, false, false, false, false, false, false, false, false, false, false, false, false] rfl rfl (by kernel_rfl) (fun _ _ _ h => h) (Or.inr ⟨by rfl, rfl⟩) ?_ ?_
              rotate_left
              · simp only [Act.put, List.setIfInBounds_toArray, List.set_cons_zero, List.set_cons_succ, i64_w, i32_w]
                rfl
              refine pure_ (i := 13) (N := some 79) (v := undef) (a' := ?_) #[true, true, true, true, true, true, true, true, true, true, true, true, true, true, false, false, false, false, false, false, false, false, false, false, false] rfl rfl (by kernel_rfl) (fun _ _ _ h => h) (Or.inr ⟨by rfl, rfl⟩) ?_ ?_
              rotate_left
              · simp only [Act.put, List.setIfInBounds_toArray, List.set_cons_zero, List.set_cons_succ, i64_w, i32_w]
                rfl
              refine pure_ (i := 14) (N := some 80) (v := undef) (a' := ?_) #[true, true, true, true, true, true, true, true, true, true, true, true, true, true, true, false, false, false, false, false, false, false, false, false, false] rfl rfl (by kernel_rfl) (fun _ _ _ h => h) (Or.inr ⟨by rfl, rfl⟩) ?_ ?_
              rotate_left
              · simp only [Act.put, List.setIfInBounds_toArray, List.set_cons_zero, List.set_cons_succ, i64_w, i32_w]
                rfl
              refine pure_ (i := 15) (N := some 81) (v := undef) (a' := ?_) #[true, true, true, true, true, true, true, true, true, true, true, true, true, true, true, true, false, false, false, false, false, false, false, false, false] rfl rfl (by kernel_rfl) (fun _ _ _ h => h) (Or.inr ⟨by rfl, rfl⟩) ?_ ?_
              rotate_left
              · simp only [Act.put, List.setIfInBounds_toArray, List.set_cons_zero, List.set_cons_succ, i64_w, i32_w]
                rfl
              refine pure_ (i := 16) (N := some 82) (v := undef) (a' := ?_) #[true, true, true, true, true, true, true, true, true, true, true, true, true, true, true, true, true, false, false, false, false, false, false, false, false] rfl rfl (by kernel_rfl) (fun _ _ _ h => h) (Or.inr ⟨by rfl, rfl⟩) ?_ ?_
              rotate_left
              · simp only [Act.put, List.setIfInBounds_toArray, List.set_cons_zero, List.set_cons_succ, i64_w, i32_w]
                rfl
              refine pure_ (i := 17) (N := some 83) (v := undef) (a' := ?_) #[true, true, true, true, true, true, true, true, true, true, true, true, true, true, true, true, true, true, false, false, false, false, false, false, false] rfl rfl (by kernel_rfl) (fun _ _ _ h => h) (Or.inr ⟨by rfl, rfl⟩) ?_ ?_
              rotate_left
              · simp only [Act.put, List.setIfInBounds_toArray, List.set_cons_zero, List.set_cons_succ, i64_w, i32_w]
                rfl
              refine pure_ (i := 18) (N := some 84) (v := undef) (a' := ?_) #[true, true, true, true, true, true, true, true, true, true, true, true, true, true, true, true, true, true, true, false, false, false, false, false, false] rfl rfl (by kernel_rfl) (fun _ _ _ h => h) (Or.inr ⟨by rfl, rfl⟩) ?_ ?_
              rotate_left
              · simp only [Act.put, List.setIfInBounds_toArray, List.set_cons_zero, List.set_cons_succ, i64_w, i32_w]
                rfl
              refine pure_ (i := 19) (N := some 85) (v := undef) (a' := ?_) #[true, true, true, true, true, true, true, true, true, true, true, true, true, true, true, true, true, true, true, true, false, false, false, false, false] rfl rfl (by kernel_rfl) (fun _ _ _ h => h) (Or.inr ⟨by rfl, rfl⟩) ?_ ?_
              rotate_left
              · simp only [Act.put, List.setIfInBounds_toArray, List.set_cons_zero, List.set_cons_succ, i64_w, i32_w]
                rfl
              refine pure_ (i := 20) (N := some 86) (v := undef) (a' := ?_) #[true, true, true, true, true, true, true, true, true, true, true, true, true, true, true, true, true, true, true, true, true, false, false, false, false] rfl rfl (by kernel_rfl) (fun _ _ _ h => h) (Or.inr ⟨by rfl, rfl⟩) ?_ ?_
              rotate_left
              · simp only [Act.put, List.setIfInBounds_toArray, List.set_cons_zero, List.set_cons_succ, i64_w, i32_w]
                rfl
              refine pure_ (i := 21) (N := some 87) (v := undef) (a' := ?_) #[true, true, true, true, true, true, true, true, true, true, true, true, true, true, true, true, true, true, true, true, true, true, false, false, false] rfl rfl (by kernel_rfl) (fun _ _ _ h => h) (Or.inr ⟨by rfl, rfl⟩) ?_ ?_
              rotate_left
              · simp only [Act.put, List.setIfInBounds_toArray, List.set_cons_zero, List.set_cons_succ, i64_w, i32_w]
                rfl
              refine pure_ (i := 22) (N := some 88) (v := undef) (a' := ?_) #[true, true, true, true, true, true, true, true, true, true, true, true, true, true, true, true, true, true, true, true, true, true, true, false, false] rfl rfl (by kernel_rfl) (fun _ _ _ h => h) (Or.inr ⟨by rfl, rfl⟩) ?_ ?_
              rotate_left
              · simp only [Act.put, List.setIfInBounds_toArray, List.set_cons_zero, List.set_cons_succ, i64_w, i32_w]
                rfl
              refine pure_ (i := 23) (N := some 89) (v := undef) (a' := ?_) #[true, true, true, true, true, true, true, true, true, true, true, true, true, true, true, true, true, true, true, true, true, true, true, true, false] rfl rfl (by kernel_rfl) (fun _ _ _ h => h) (Or.inr ⟨by rfl, rfl⟩) ?_ ?_
              rotate_left
              · simp only [Act.put, List.setIfInBounds_toArray, List.set_cons_zero, List.set_cons_succ, i64_w, i32_w]
                rfl
              refine pure_ (i := 24) (N := some 90) (v := ?_) (a' := ?_) #[true, true, true, true, true, true, true, true, true, true, true, true, true, true, true, true, true, true, true, true, true, true, true, true, true] rfl rfl (by kernel_rfl) (fun _ _ _ h => h) (Or.inl ⟨by rfl, ?_⟩) ?_ ?_
              rotate_left
              · intro w'
                go_simp
                with_reducible rfl
              rotate_left
              · simp only [Act.put, List.setIfInBounds_toArray, List.set_cons_zero, List.set_cons_succ, i64_w, i32_w]
                rfl
              refine done_ (by kernel_rfl) ?_
              have BX2 := (BXq.drew).below hb2
              clear hb2 BXq
              go_wp2_with fail
              go_ret
              exact ⟨by rw [HF.out]; rfl, BX2.low⟩
            | true =>
              have HNM := Aside0.mk hnm
              clear hnm
              by_cases hi0 : i = 0
              · have hgd : decide (0 < i) = false := decide_eq_false (by omega)
                have GN3 := Aside0.mk (show goodNames none f3 = goodNames (prevOf f3 (i + 1)) (f3.drop (i + 1)) by
                  rw [GN2.out, decide_eq_true ⟨HNM.out, fun q h => by simp [prevOf, hi0] at h⟩, Bool.true_and])
                clear GN2 hi0 hO3
                go_wp2_with fail
                refine start_ (n := 25) (S := fun w' => w'.cell? ⟨gb, 3, none⟩ = some (.slice (some ad3) f3.length c3) ∧ w'.cell? (ad3.add i) = some (.string x)) (ds := [5]) #[false, false, false, false, false, false, false, false, false, false, false, false, false, false, false, false, false, false, false, false, false, false, false, false, false] (by kernel_rfl) rfl rfl ⟨w3', hx3⟩ (fun hHeld => ?_)
                refine pure_ (i := 0) (N := some 66) (v := ?_) (a' := ?_) #[true, false, false, false, false, false, false, false, false, false, false, false, false, false, false, false, false, false, false, false, false, false, false, false, false] rfl rfl (by kernel_rfl) (fun _ _ _ h => h) (Or.inl ⟨by rfl, ?_⟩) ?_ ?_
                rotate_left
                · intro w'
                  go_simp
                  with_reducible rfl
                rotate_left
                · simp only [Act.put, List.setIfInBounds_toArray, List.set_cons_zero, List.set_cons_succ, i64_w, i32_w]
                  rfl
                refine pure_ (i := 2) (N := some 68) (v := ?_) (a' := ?_) #[true, false, true, false, false, false, false, false, false, false, false, false, false, false, false, false, false, false, false, false, false, false, false, false, false] rfl rfl (by kernel_rfl) (fun _ _ _ h => h) (Or.inl ⟨by rfl, ?_⟩) ?_ ?_
                rotate_left
                · intro w'
                  go_simp
                  with_reducible rfl
                rotate_left
                · simp only [Act.put, List.setIfInBounds_toArray, List.set_cons_zero, List.set_cons_succ, i64_w, i32_w]
                  rfl
                refine take_ (i := 1) (N := some 67) (v := ?_) (a' := ?_) #[true, true, true, false, false, false, false, false, false, false, false, false, false, false, false, false, false, false, false, false, false, false, false, false, false] rfl rfl (by kernel_rfl) (fun _ _ _ h => h) (Or.inl ⟨by rfl, ?_⟩) hHeld ?_ ?_
                rotate_left
                · rintro w' ⟨s0, s1⟩
                  go_simp
                  with_reducible rfl
                rotate_left
                · simp only [Act.put, List.setIfInBounds_toArray, List.set_cons_zero, List.set_cons_succ, i64_w, i32_w]
                  rfl
                refine pure_ (i := 3) (N := some 69) (v := ?_) (a' := ?_) #[true, true, true, true, false, false, false, false, false, false, false, false, false, false, false, false, false, false, false, false, false, false, false, false, false] rfl rfl (by kernel_rfl) (fun _ _ _ h => h) (Or.inl ⟨by rfl, ?_⟩) ?_ ?_
                rotate_left
                · intro w'
                  go_simp
                  with_reducible rfl
                rotate_left
                · simp only [Act.put, List.setIfInBounds_toArray, List.set_cons_zero, List.set_cons_succ, i64_w, i32_w]
                  rfl
                refine take_ (i := 4) (N := some 70) (v := ?_) (a' := ?_) #[true, true, true, true, true, false, false, false, false, false, false, false, false, false, false, false, false, false, false, false, false, false, false, false, false] rfl rfl (by kernel_rfl) (fun _ _ _ h => h) (Or.inl ⟨by rfl, ?_⟩) hHeld ?_ ?_
                rotate_left
                · rintro w' ⟨s0, s1⟩
                  go_simp
                  with_reducible rfl
                rotate_left
                · simp only [Act.put, List.setIfInBounds_toArray, List.set_cons_zero, List.set_cons_succ, i64_w, i32_w]
                  rfl
                refine last_ (i := 5) (N := some 71) #[true, true, true, true, true, true, false, false, false, false, false, false, false, false, false, false, false, false, false, false, false, false, false, false, false] rfl rfl (by kernel_rfl) (by decide) (fun K hK => ?_)
                refine goes_ Tryd.func16 (by kernel_rfl) rfl #[.string x] (by rfl) rfl rfl (by simp only [List.map_toArray, List.map_cons, List.map_nil]; rfl) ?_
                with_reducible refine (name_r x true HNM.out HSZ.out _).mono ?_
                rintro e w2 ⟨rfl, hb2⟩
                refine ⟨_, rfl, ?_⟩
                refine hK.out _ _ ?_
                clear hK K
                refine norm_ (a' := ?_) ?_ ?_
                rotate_left
                · show Act.put _ (some 71) _ = _
                  simp only [Act.put, List.setIfInBounds_toArray, List.set_cons_zero, List.set_cons_succ, i64_w, i32_w]
                  rfl
                refine pure_ (i := 6) (N := some 72) (v := ?_) (a' := ?_) #[true, true, true, true, true, true, true, false, false, false, false, false, false, false, false, false, false, false, false, false, false, false, false, false, false] rfl rfl (by kernel_rfl) (fun _ _ _ h => h) (Or.inl ⟨by rfl, ?_⟩) ?_ ?_
                rotate_left
                · intro w'
                  go_simp
                  with_reducible rfl
                rotate_left
                · simp only [Act.put, List.setIfInBounds_toArray, List.set_cons_zero, List.set_cons_succ, i64_w, i32_w]
                  rfl
                refine pure_ (i := 7) (N := some 73) (v := ?_) (a' := ?_) #[true, true, true, true, true, true, true, true, false, false, false, false, false, false, false, false, false, false, false, false, false, false, false, false, false] rfl rfl (by kernel_rfl) (fun _ _ _ h => h) (Or.inl ⟨by rfl, ?_⟩) ?_ ?_
                rotate_left
                · intro w'
                  go_simp
                  with_reducible rfl
                rotate_left
                · simp only [Act.put, List.setIfInBounds_toArray, List.set_cons_zero, List.set_cons_succ, i64_w, i32_w]
                  rfl
                refine pure_ (i := 8) (N := some 74) (v := ?_) (a' := ?_) #[true, true, true, true, true, true, true, true, true, false, false, false, false, false, false, false, false, false, false, false, false, false, false, false, false] rfl rfl (by kernel_rfl) (fun _ _ _ h => h) (Or.inl ⟨by rfl, ?_⟩) ?_ ?_
                rotate_left
                · intro w'
                  go_simp
                  with_reducible rfl
                rotate_left
                · simp only [Act.put, List.setIfInBounds_toArray, List.set_cons_zero, List.set_cons_succ, i64_w, i32_w]
                  rfl
                refine pure_ (i := 9) (N := some 75) (v := ?_) (a' := ?_) #[true, true, true, true, true, true, true, true, true, true, false, false, false, false, false, false, false, false, false, false, false, false, false, false, false] rfl rfl (by kernel_rfl) (fun _ _ _ h => h) (Or.inl ⟨by rfl, ?_⟩) ?_ ?_
                rotate_left
                · intro w'
                  go_simp
                  with_reducible rfl
                rotate_left
                · simp only [Act.put, List.setIfInBounds_toArray, List.set_cons_zero, List.set_cons_succ, i64_w, i32_w]
                  rfl
                refine pure_ (i := 10) (N := some 76) (v := ?_) (a' := ?_) #[true, true, true, true, true, true, true, true, true, true, true, false, false, false, false, false, false, false, false, false, false, false, false, false, false] rfl rfl (by kernel_rfl) (fun _ _ _ h => h) (Or.inl ⟨by rfl, ?_⟩) ?_ ?_
                rotate_left
                · intro w'
                  go_simp
                  with_reducible rfl
                rotate_left
                · simp only [Act.put, List.setIfInBounds_toArray, List.set_cons_zero, List.set_cons_succ, i64_w, i32_w]
                  rfl
                refine pure_ (i := 11) (N := some 77) (v := undef) (a' := ?_) #[true, true, true, true, true, true, true, true, true, true, true, true, false, false, false, false, false, false, false, false, false, false, false, false, false] rfl rfl (by kernel_rfl) (fun _ _ _ h => h) (Or.inr ⟨by rfl, rfl⟩) ?_ ?_
                rotate_left
                · simp only [Act.put, List.setIfInBounds_toArray, List.set_cons_zero, List.set_cons_succ, i64_w, i32_w]
                  rfl
                refine pure_ (i := 12) (N := some 78) (v := undef) (a' := ?_) #[true, true, true, true, true, true, true, true, true, true, true, true, true, false, false, false, false, false, false, false, false, false, false, false, false] rfl rfl (by kernel_rfl) (fun _ _ _ h => h) (Or.inr ⟨by rfl, rfl⟩) ?_ ?_
                rotate_left
                · simp only [Act.put, List.setIfInBounds_toArray, List.set_cons_zero, List.set_cons_succ, i64_w, i32_w]
                  rfl
                refine pure_ (i := 13) (N := some 79) (v := undef) (a' := ?_) #[true, true, true, true, true, true, true, true, true, true, true, true, true, true, false, false, false, false, false, false, false, false, false, false, false] rfl rfl (by kernel_rfl) (fun _ _ _ h => h) (Or.inr ⟨by rfl, rfl⟩) ?_ ?_
                rotate_left
                · simp only [Act.put, List.setIfInBounds_toArray, List.set_cons_zero, List.set_cons_succ, i64_w, i32_w]
                  rfl
                refine pure_ (i := 14) (N := some 80) (v := undef) (a' := ?_) #[true, true, true, true, true, true, true, true, true, true, true, true, true, true, true, false, false, false, false, false, false, false, false, false, false] rfl rfl (by kernel_rfl) (fun _ _ _ h => h) (Or.inr ⟨by rfl, rfl⟩) ?_ ?_
                rotate_left
                · simp only [Act.put, List.setIfInBounds_toArray, List.set_cons_zero, List.set_cons_succ, i64_w, i32_w]
                  rfl
                refine pure_ (i := 15) (N := some 81) (v := undef) (a' := ?_) #[true, true, true, true, true, true, true, true, true, true, true, true, true, true, true, true, false, false, false, false, false, false, false, false, false] rfl rfl (by kernel_rfl) (fun _ _ _ h => h) (Or.inr ⟨by rfl, rfl⟩) ?_ ?_
                rotate_left
                · simp only [Act.put, List.setIfInBounds_toArray, List.set_cons_zero, List.set_cons_succ, i64_w, i32_w]
                  rfl
                refine pure_ (i := 16) (N := some 82) (v := undef) (a' := ?_) #[true, true, true, true, true, true, true, true, true, true, true, true, true, true, true, true, true, false, false, false, false, false, false, false, false] rfl rfl (by kernel_rfl) (fun _ _ _ h => h) (Or.inr ⟨by rfl, rfl⟩) ?_ ?_
                rotate_left
                · simp only [Act.put, List.setIfInBounds_toArray, List.set_cons_zero, List.set_cons_succ, i64_w, i32_w]
                  rfl
                refine pure_ (i := 17) (N := some 83) (v := undef) (a' := ?_) #[true, true, true, true, true, true, true, true, true, true, true, true, true, true, true, true, true, true, false, false, false, false, false, false, false] rfl rfl (by kernel_rfl) (fun _ _ _ h => h) (Or.inr ⟨by rfl, rfl⟩) ?_ ?_
                rotate_left
                · simp only [Act.put, List.setIfInBounds_toArray, List.set_cons_zero, List.set_cons_succ, i64_w, i32_w]
                  rfl
                refine pure_ (i := 18) (N := some 84) (v := undef) (a' := ?_) #[true, true, true, true, true, true, true, true, true, true, true, true, true, true, true, true, true, true, true, false, false, false, false, false, false] rfl rfl (by kernel_rfl) (fun _ _ _ h => h) (Or.inr ⟨by rfl, rfl⟩) ?_ ?_
                rotate_left
                · simp only [Act.put, List.setIfInBounds_toArray, List.set_cons_zero, List.set_cons_succ, i64_w, i32_w]
                  rfl
                refine pure_ (i := 19) (N := some 85) (v := undef) (a' := ?_) #[true, true, true, true, true, true, true, true, true, true, true, true, true, true, true, true, true, true, true, true, false, false, false, false, false] rfl rfl (by kernel_rfl) (fun _ _ _ h => h) (Or.inr ⟨by rfl, rfl⟩) ?_ ?_
                rotate_left
                · simp only [Act.put, List.setIfInBounds_toArray, List.set_cons_zero, List.set_cons_succ, i64_w, i32_w]
                  rfl
                refine pure_ (i := 20) (N := some 86) (v := undef) (a' := ?_) #[true, true, true, true, true, true, true, true, true, true, true, true, true, true, true, true, true, true, true, true, true, false, false, false, false] rfl rfl (by kernel_rfl) (fun _ _ _ h => h) (Or.inr ⟨by rfl, rfl⟩) ?_ ?_
                rotate_left
                · simp only [Act.put, List.setIfInBounds_toArray, List.set_cons_zero, List.set_cons_succ, i64_w, i32_w]
                  rfl
                refine pure_ (i := 21) (N := some 87) (v := undef) (a' := ?_) #[true, true, true, true, true, true, true, true, true, true, true, true, true, true, true, true, true, true, true, true, true, true, false, false, false] rfl rfl (by kernel_rfl) (fun _ _ _ h => h) (Or.inr ⟨by rfl, rfl⟩) ?_ ?_
                rotate_left
                · simp only [Act.put, List.setIfInBounds_toArray, List.set_cons_zero, List.set_cons_succ, i64_w, i32_w]
                  rfl
                refine pure_ (i := 22) (N := some 88) (v := undef) (a' := ?_) #[true, true, true, true, true, true, true, true, true, true, true, true, true, true, true, true, true, true, true, true, true, true, true, false, false] rfl rfl (by kernel_rfl) (fun _ _ _ h => h) (Or.inr ⟨by rfl, rfl⟩) ?_ ?_
                rotate_left
                · simp only [Act.put, List.setIfInBounds_toArray, List.set_cons_zero, List.set_cons_succ, i64_w, i32_w]
                  rfl
                refine pure_ (i := 23) (N := some 89) (v := ?_) (a' := ?_) #[true, true, true, true, true, true, true, true, true, true, true, true, true, true, true, true, true, true, true, true, true, true, true, true, false] rfl rfl (by kernel_rfl) (fun _ _ _ h => h) (Or.inl ⟨by rfl, ?_⟩) ?_ ?_
                rotate_left
                · intro w'
                  go_simp
                  with_reducible rfl
                rotate_left
                · simp only [Act.put, List.setIfInBounds_toArray, List.set_cons_zero, List.set_cons_succ, i64_w, i32_w]
                  rfl
                refine pure_ (i := 24) (N := some 90) (v := ?_) (a' := ?_) #[true, true, true, true, true, true, true, true, true, true, true, true, true, true, true, true, true, true, true, true, true, true, true, true, true] rfl rfl (by kernel_rfl) (fun _ _ _ h => h) (Or.inl ⟨by rfl, ?_⟩) ?_ ?_
                rotate_left
                · intro w'
                  go_simp
                  with_reducible rfl
                rotate_left
                · simp only [Act.put, List.setIfInBounds_toArray, List.set_cons_zero, List.set_cons_succ, i64_w, i32_w]
                  rfl
                refine done_ (by kernel_rfl) ?_
                have BX2 := (BXq.drew).below hb2
                clear hb2 BXq
                go_wp2_with fail
                go_roundg gk
                case measure => omega
                case rel => exact ⟨i + 1, by omega, by go_num, BX2, GN3.out⟩
              · have hgd : decide (0 < i) = true := decide_eq_true (by omega)
                obtain ⟨adq, eq_, hxq⟩ := Kd.at_string HR3.out ((i - 1 : Nat) : Int) (by omega) (by omega)
                cases eq_
                replace hxq := (BXq.low.cell (World.block_lt_of_cell? w _ hxq)).trans hxq
                rw [Int.toNat_natCast] at hxq
                have hxe : rdOf ByteArray.empty f3 ((i - 1 : Nat) : Int) = f3.getD (i - 1) ByteArray.empty := by unfold rdOf; rw [Int.toNat_natCast]
                rw [hxe] at hxq
                clear hxe
                have hp : prevOf f3 i = some (f3.getD (i - 1) ByteArray.empty) := if_neg hi0
                generalize f3.getD (i - 1) ByteArray.empty = y at *
                have HP := Aside0.mk hp
                obtain ⟨i1, hi1⟩ : ∃ i1 : Nat, i - 1 = i1 := ⟨_, rfl⟩
                rw [hi1] at hxq
                have q0 : IntKind.i64.wrap ((i : Int) - 1) = (i1 : Int) := by rw [wrap_small _ (by omega) (by omega)]; omega
                have q0' : ((i : Int) - 1) = (i1 : Int) := by omega
                have q1 : (0 : Int) ≤ (i1 : Int) := by omega
                have q2 : (i1 : Int) < (f3.length : Int) := by omega
                have Q0' := Aside0.mk q0'
                clear hp hi1 hi0 q0'
                cases hless : Op.bytesLess y.toList x.toList with
                | false =>
                  have HF := Aside0.mk (show own = false by rw [hO3, GN2.out, decide_eq_false (p := H.nameOf x = true ∧ (∀ q, prevOf f3 i = some q → Op.bytesLess q.toList x.toList = true)) (fun h => by have := h.2 y HP.out; rw [hless] at this; cases this)]; simp)
                  clear hO3 GN2
                  go_wp2_with fail
                  refine start_ (n := 25) (S := fun w' => w'.cell? ⟨gb, 3, none⟩ = some (.slice (some ad3) f3.length c3) ∧ w'.cell? (ad3.add i) = some (.string x) ∧ w'.cell? (ad3.add i1) = some (.string y)) (ds := []) #[false, false, false, false, false, false, false, false, false, false, false, false, false, false, false, false, false, false, false, false, false, false, false, false, false] (by kernel_rfl) rfl rfl ⟨w3', hx3, hxq⟩ (fun hHeld => ?_)
                  refine pure_ (i := 0) (N := some 66) (v := ?_) (a' := ?_) #[true, false, false, false, false, false, false, false, false, false, false, false, false, false, false, false, false, false, false, false, false, false, false, false, false] rfl rfl (by kernel_rfl) (fun _ _ _ h => h) (Or.inl ⟨by rfl, ?_⟩) ?_ ?_
                  rotate_left
                  · intro w'
                    go_simp
                    with_reducible rfl
                  rotate_left
                  · simp only [Act.put, List.setIfInBounds_toArray, List.set_cons_zero, List.set_cons_succ, i64_w, i32_w]
                    rfl
                  refine pure_ (i := 2) (N := some 68) (v := ?_) (a' := ?_) #[true, false, true, false, false, false, false, false, false, false, false, false, false, false, false, false, false, false, false, false, false, false, false, false, false] rfl rfl (by kernel_rfl) (fun _ _ _ h => h) (Or.inl ⟨by rfl, ?_⟩) ?_ ?_
                  rotate_left
                  · intro w'
                    go_simp
                    with_reducible rfl
                  rotate_left
                  · simp only [Act.put, List.setIfInBounds_toArray, List.set_cons_zero, List.set_cons_succ, i64_w, i32_w]
                    rfl
                  refine take_ (i := 1) (N := some 67) (v := ?_) (a' := ?_) #[true, true, true, false, false, false, false, false, false, false, false, false, false, false, false, false, false, false, false, false, false, false, false, false, false] rfl rfl (by kernel_rfl) (fun _ _ _ h => h) (Or.inl ⟨by rfl, ?_⟩) hHeld ?_ ?_
                  rotate_left
                  · rintro w' ⟨s0, s1, s2⟩
                    go_simp
                    with_reducible rfl
                  rotate_left
                  · simp only [Act.put, List.setIfInBounds_toArray, List.set_cons_zero, List.set_cons_succ, i64_w, i32_w]
                    rfl
                  refine pure_ (i := 3) (N := some 69) (v := ?_) (a' := ?_) #[true, true, true, true, false, false, false, false, false, false, false, false, false, false, false, false, false, false, false, false, false, false, false, false, false] rfl rfl (by kernel_rfl) (fun _ _ _ h => h) (Or.inl ⟨by rfl, ?_⟩) ?_ ?_
                  rotate_left
                  · intro w'
                    go_simp
                    with_reducible rfl
                  rotate_left
                  · simp only [Act.put, List.setIfInBounds_toArray, List.set_cons_zero, List.set_cons_succ, i64_w, i32_w]
                    rfl
                  refine take_ (i := 4) (N := some 70) (v := ?_) (a' := ?_) #[true, true, true, true, true, false, false, false, false, false, false, false, false, false, false, false, false, false, false, false, false, false, false, false, false] rfl rfl (by kernel_rfl) (fun _ _ _ h => h) (Or.inl ⟨by rfl, ?_⟩) hHeld ?_ ?_
                  rotate_left
                  · rintro w' ⟨s0, s1, s2⟩
                    go_simp
                    with_reducible rfl
                  rotate_left
                  · simp only [Act.put, List.setIfInBounds_toArray, List.set_cons_zero, List.set_cons_succ, i64_w, i32_w]
                    rfl
                  refine one_ (i := 5) (N := some 71) #[true, true, true, true, true, true, false, false, false, false, false, false, false, false, false, false, false, false, false, false, false, false, false, false, false] rfl rfl (by kernel_rfl) (by decide) (fun K hK => ?_)
                  refine goes_ Tryd.func16 (by kernel_rfl) rfl #[.string x] (by rfl) rfl rfl (by simp only [List.map_toArray, List.map_cons, List.map_nil]; rfl) ?_
                  with_reducible refine (name_r x true HNM.out HSZ.out _).mono ?_
                  rintro e w2 ⟨rfl, hb2⟩
                  refine ⟨_, rfl, ?_⟩
                  refine hK.out _ _ ⟨cell_low hHeld.1 hb2, cell_low hHeld.2.1 hb2, cell_low hHeld.2.2 hb2⟩ (fun hHeld => ?_)
                  clear hK K
                  refine norm_ (a' := ?_) ?_ ?_
                  rotate_left
                  · show Act.put _ (some 71) _ = _
                    simp only [Act.put, List.setIfInBounds_toArray, List.set_cons_zero, List.set_cons_succ, i64_w, i32_w]
                    rfl
                  refine pure_ (i := 6) (N := some 72) (v := ?_) (a' := ?_) #[true, true, true, true, true, true, true, false, false, false, false, false, false, false, false, false, false, false, false, false, false, false, false, false, false] rfl rfl (by kernel_rfl) (fun _ _ _ h => h) (Or.inl ⟨by rfl, ?_⟩) ?_ ?_
                  rotate_left
                  · intro w'
                    go_simp
                    with_reducible rfl
                  rotate_left
                  · simp only [Act.put, List.setIfInBounds_toArray, List.set_cons_zero, List.set_cons_succ, i64_w, i32_w]
                    rfl
                  refine pure_ (i := 7) (N := some 73) (v := ?_) (a' := ?_) #[true, true, true, true, true, true, true, true, false, false, false, false, false, false, false, false, false, false, false, false, false, false, false, false, false] rfl rfl (by kernel_rfl) (fun _ _ _ h => h) (Or.inl ⟨by rfl, ?_⟩) ?_ ?_
                  rotate_left
                  · intro w'
                    go_simp
                    with_reducible rfl
                  rotate_left
                  · simp only [Act.put, List.setIfInBounds_toArray, List.set_cons_zero, List.set_cons_succ, i64_w, i32_w]
                    rfl
                  refine pure_ (i := 8) (N := some 74) (v := ?_) (a' := ?_) #[true, true, true, true, true, true, true, true, true, false, false, false, false, false, false, false, false, false, false, false, false, false, false, false, false] rfl rfl (by kernel_rfl) (fun _ _ _ h => h) (Or.inl ⟨by rfl, ?_⟩) ?_ ?_
                  rotate_left
                  · intro w'
                    go_simp
                    with_reducible rfl
                  rotate_left
                  · simp only [Act.put, List.setIfInBounds_toArray, List.set_cons_zero, List.set_cons_succ, i64_w, i32_w]
                    rfl
                  refine pure_ (i := 9) (N := some 75) (v := ?_) (a' := ?_) #[true, true, true, true, true, true, true, true, true, true, false, false, false, false, false, false, false, false, false, false, false, false, false, false, false] rfl rfl (by kernel_rfl) (fun _ _ _ h => h) (Or.inl ⟨by rfl, ?_⟩) ?_ ?_
                  rotate_left
                  · intro w'
                    go_simp
                    with_reducible rfl
                  rotate_left
                  · simp only [Act.put, List.setIfInBounds_toArray, List.set_cons_zero, List.set_cons_succ, i64_w, i32_w]
                    rfl
                  refine pure_ (i := 10) (N := some 76) (v := ?_) (a' := ?_) #[true, true, true, true, true, true, true, true, true, true, true, false, false, false, false, false, false, false, false, false, false, false, false, false, false] rfl rfl (by kernel_rfl) (fun _ _ _ h => h) (Or.inl ⟨by rfl, ?_⟩) ?_ ?_
                  rotate_left
                  · intro w'
                    go_simp
                    with_reducible rfl
                  rotate_left
                  · simp only [Act.put, List.setIfInBounds_toArray, List.set_cons_zero, List.set_cons_succ, i64_w, i32_w]
                    rfl
                  refine pure_ (i := 11) (N := some 77) (v := ?_) (a' := ?_) #[true, true, true, true, true, true, true, true, true, true, true, true, false, false, false, false, false, false, false, false, false, false, false, false, false] rfl rfl (by kernel_rfl) (fun _ _ _ h => h) (Or.inl ⟨by rfl, ?_⟩) ?_ ?_
                  rotate_left
                  · intro w'
                    go_simp
                    with_reducible rfl
                  rotate_left
                  · simp only [Act.put, List.setIfInBounds_toArray, List.set_cons_zero, List.set_cons_succ, i64_w, i32_w]
                    rfl
                  refine pure_ (i := 13) (N := some 79) (v := ?_) (a' := ?_) #[true, true, true, true, true, true, true, true, true, true, true, true, false, true, false, false, false, false, false, false, false, false, false, false, false] rfl rfl (by kernel_rfl) (fun _ _ _ h => h) (Or.inl ⟨by rfl, ?_⟩) ?_ ?_
                  rotate_left
                  · intro w'
                    go_simp
                    with_reducible rfl
                  rotate_left
                  · simp only [Act.put, List.setIfInBounds_toArray, List.set_cons_zero, List.set_cons_succ, i64_w, i32_w]
                    rfl
                  refine pure_ (i := 14) (N := some 80) (v := ?_) (a' := ?_) #[true, true, true, true, true, true, true, true, true, true, true, true, false, true, true, false, false, false, false, false, false, false, false, false, false] rfl rfl (by kernel_rfl) (fun _ _ _ h => h) (Or.inl ⟨by rfl, ?_⟩) ?_ ?_
                  rotate_left
                  · intro w'
                    go_simp
                    with_reducible rfl
                  rotate_left
                  · simp only [Act.put, List.setIfInBounds_toArray, List.set_cons_zero, List.set_cons_succ, i64_w, i32_w]
                    rfl
                  refine pure_ (i := 17) (N := some 83) (v := ?_) (a' := ?_) #[true, true, true, true, true, true, true, true, true, true, true, true, false, true, true, false, false, true, false, false, false, false, false, false, false] rfl rfl (by kernel_rfl) (fun _ _ _ h => h) (Or.inl ⟨by rfl, ?_⟩) ?_ ?_
                  rotate_left
                  · intro w'
                    go_simp
                    with_reducible rfl
                  rotate_left
                  · simp only [Act.put, List.setIfInBounds_toArray, List.set_cons_zero, List.set_cons_succ, i64_w, i32_w]
                    rfl
                  refine pure_ (i := 19) (N := some 85) (v := ?_) (a' := ?_) #[true, true, true, true, true, true, true, true, true, true, true, true, false, true, true, false, false, true, false, true, false, false, false, false, false] rfl rfl (by kernel_rfl) (fun _ _ _ h => h) (Or.inl ⟨by rfl, ?_⟩) ?_ ?_
                  rotate_left
                  · intro w'
                    go_simp
                    with_reducible rfl
                  rotate_left
                  · simp only [Act.put, List.setIfInBounds_toArray, List.set_cons_zero, List.set_cons_succ, i64_w, i32_w]
                    rfl
                  refine take_ (i := 12) (N := some 78) (v := ?_) (a' := ?_) #[true, true, true, true, true, true, true, true, true, true, true, true, true, true, true, false, false, true, false, true, false, false, false, false, false] rfl rfl (by kernel_rfl) (fun _ _ _ h => h) (Or.inl ⟨by rfl, ?_⟩) hHeld ?_ ?_
                  rotate_left
                  · rintro w' ⟨s0, s1, s2⟩
                    go_simp
                    with_reducible rfl
                  rotate_left
                  · simp only [Act.put, List.setIfInBounds_toArray, List.set_cons_zero, List.set_cons_succ, i64_w, i32_w]
                    rfl
                  refine pure_ (i := 15) (N := some 81) (v := ?_) (a' := ?_) #[true, true, true, true, true, true, true, true, true, true, true, true, true, true, true, true, false, true, false, true, false, false, false, false, false] rfl rfl (by kernel_rfl) (fun _ _ _ h => h) (Or.inl ⟨by rfl, ?_⟩) ?_ ?_
                  rotate_left
                  · intro w'
                    go_simp
                    with_reducible rfl
                  rotate_left
                  · simp only [Act.put, List.setIfInBounds_toArray, List.set_cons_zero, List.set_cons_succ, i64_w, i32_w]
                    rfl
                  refine take_ (i := 16) (N := some 82) (v := ?_) (a' := ?_) #[true, true, true, true, true, true, true, true, true, true, true, true, true, true, true, true, true, true, false, true, false, false, false, false, false] rfl rfl (by kernel_rfl) (fun _ _ _ h => h) (Or.inl ⟨by rfl, ?_⟩) hHeld ?_ ?_
                  rotate_left
                  · rintro w' ⟨s0, s1, s2⟩
                    go_simp
                    with_reducible rfl
                  rotate_left
                  · simp only [Act.put, List.setIfInBounds_toArray, List.set_cons_zero, List.set_cons_succ, i64_w, i32_w]
                    rfl
                  refine take_ (i := 18) (N := some 84) (v := ?_) (a' := ?_) #[true, true, true, true, true, true, true, true, true, true, true, true, true, true, true, true, true, true, true, true, false, false, false, false, false] rfl rfl (by kernel_rfl) (fun _ _ _ h => h) (Or.inl ⟨by rfl, ?_⟩) hHeld ?_ ?_
                  rotate_left
                  · rintro w' ⟨s0, s1, s2⟩
                    go_simp
                    with_reducible rfl
                  rotate_left
                  · simp only [Act.put, List.setIfInBounds_toArray, List.set_cons_zero, List.set_cons_succ, i64_w, i32_w]
                    rfl
                  refine pure_ (i := 20) (N := some 86) (v := ?_) (a' := ?_) #[true, true, true, true, true, true, true, true, true, true, true, true, true, true, true, true, true, true, true, true, true, false, false, false, false] rfl rfl (by kernel_rfl) (fun _ _ _ h => h) (Or.inl ⟨by rfl, ?_⟩) ?_ ?_
                  rotate_left
                  · intro w'
                    go_simp
                    with_reducible rfl
                  rotate_left
                  · simp only [Act.put, List.setIfInBounds_toArray, List.set_cons_zero, List.set_cons_succ, i64_w, i32_w]
                    rfl
                  refine take_ (i := 21) (N := some 87) (v := ?_) (a' := ?_) #[true, true, true, true, true, true, true, true, true, true, true, true, true, true, true, true, true, true, true, true, true, true, false, false, false] rfl rfl (by kernel_rfl) (fun _ _ _ h => h) (Or.inl ⟨by rfl, ?_⟩) hHeld ?_ ?_
                  rotate_left
                  · rintro w' ⟨s0, s1, s2⟩
                    go_simp
                    with_reducible rfl
                  rotate_left
                  · simp only [Act.put, List.setIfInBounds_toArray, List.set_cons_zero, List.set_cons_succ, i64_w, i32_w]
                    rfl
                  refine pure_ (i := 22) (N := some 88) (v := ?_) (a' := ?_) #[true, true, true, true, true, true, true, true, true, true, true, true, true, true, true, true, true, true, true, true, true, true, true, false, false] rfl rfl (by kernel_rfl) (fun _ _ _ h => h) (Or.inl ⟨by rfl, ?_⟩) ?_ ?_
                  rotate_left
                  · intro w'
                    go_simp
                    with_reducible rfl
                  rotate_left
                  · simp only [Act.put, List.setIfInBounds_toArray, List.set_cons_zero, List.set_cons_succ, i64_w, i32_w]
                    rfl
                  refine pure_ (i := 23) (N := some 89) (v := ?_) (a' := ?_) #[true, true, true, true, true, true, true, true, true, true, true, true, true, true, true, true, true, true, true, true, true, true, true, true, false] rfl rfl (by kernel_rfl) (fun _ _ _ h => h) (Or.inl ⟨by rfl, ?_⟩) ?_ ?_
                  rotate_left
                  · intro w'
                    go_simp
                    with_reducible rfl
                  rotate_left
                  · simp only [Act.put, List.setIfInBounds_toArray, List.set_cons_zero, List.set_cons_succ, i64_w, i32_w]
                    rfl
                  refine pure_ (i := 24) (N := some 90) (v := ?_) (a' := ?_) #[true, true, true, true, true, true, true, true, true, true, true, true, true, true, true, true, true, true, true, true, true, true, true, true, true] rfl rfl (by kernel_rfl) (fun _ _ _ h => h) (Or.inl ⟨by rfl, ?_⟩) ?_ ?_
                  rotate_left
                  · intro w'
                    go_simp
                    with_reducible rfl
                  rotate_left
                  · simp only [Act.put, List.setIfInBounds_toArray, List.set_cons_zero, List.set_cons_succ, i64_w, i32_w]
                    rfl
                  refine done_ (by kernel_rfl) ?_
                  have BX2 := (BXq.drew).below hb2
                  clear hb2 BXq
                  go_wp2_with fail
                  go_ret
                  exact ⟨by rw [HF.out]; rfl, BX2.low⟩
                | true =>
                  have GN3 := Aside0.mk (show goodNames none f3 = goodNames (prevOf f3 (i + 1)) (f3.drop (i + 1)) by
                    rw [GN2.out, decide_eq_true ⟨HNM.out, fun q h => by rw [HP.out] at h; cases h; exact hless⟩, Bool.true_and])
                  clear GN2 hO3
                  go_wp2_with fail
                  refine start_ (n := 25) (S := fun w' => w'.cell? ⟨gb, 3, none⟩ = some (.slice (some ad3) f3.length c3) ∧ w'.cell? (ad3.add i) = some (.string x) ∧ w'.cell? (ad3.add i1) = some (.string y)) (ds := []) #[false, false, false, false, false, false, false, false, false, false, false, false, false, false, false, false, false, false, false, false, false, false, false, false, false] (by kernel_rfl) rfl rfl ⟨w3', hx3, hxq⟩ (fun hHeld => ?_)
                  refine pure_ (i := 0) (N := some 66) (v := ?_) (a' := ?_) #[true, false, false, false, false, false, false, false, false, false, false, false, false, false, false, false, false, false, false, false, false, false, false, false, false] rfl rfl (by kernel_rfl) (fun _ _ _ h => h) (Or.inl ⟨by rfl, ?_⟩) ?_ ?_
                  rotate_left
                  · intro w'
                    go_simp
                    with_reducible rfl
                  rotate_left
                  · simp only [Act.put, List.setIfInBounds_toArray, List.set_cons_zero, List.set_cons_succ, i64_w, i32_w]
                    rfl
                  refine pure_ (i := 2) (N := some 68) (v := ?_) (a' := ?_) #[true, false, true, false, false, false, false, false, false, false, false, false, false, false, false, false, false, false, false, false, false, false, false, false, false] rfl rfl (by kernel_rfl) (fun _ _ _ h => h) (Or.inl ⟨by rfl, ?_⟩) ?_ ?_
                  rotate_left
                  · intro w'
                    go_simp
                    with_reducible rfl
                  rotate_left
                  · simp only [Act.put, List.setIfInBounds_toArray, List.set_cons_zero, List.set_cons_succ, i64_w, i32_w]
                    rfl
                  refine take_ (i := 1) (N := some 67) (v := ?_) (a' := ?_) #[true, true, true, false, false, false, false, false, false, false, false, false, false, false, false, false, false, false, false, false, false, false, false, false, false] rfl rfl (by kernel_rfl) (fun _ _ _ h => h) (Or.inl ⟨by rfl, ?_⟩) hHeld ?_ ?_
                  rotate_left
                  · rintro w' ⟨s0, s1, s2⟩
                    go_simp
                    with_reducible rfl
                  rotate_left
                  · simp only [Act.put, List.setIfInBounds_toArray, List.set_cons_zero, List.set_cons_succ, i64_w, i32_w]
                    rfl
                  refine pure_ (i := 3) (N := some 69) (v := ?_) (a' := ?_) #[true, true, true, true, false, false, false, false, false, false, false, false, false, false, false, false, false, false, false, false, false, false, false, false, false] rfl rfl (by kernel_rfl) (fun _ _ _ h => h) (Or.inl ⟨by rfl, ?_⟩) ?_ ?_
                  rotate_left
                  · intro w'
                    go_simp
                    with_reducible rfl
                  rotate_left
                  · simp only [Act.put, List.setIfInBounds_toArray, List.set_cons_zero, List.set_cons_succ, i64_w, i32_w]
                    rfl
                  refine take_ (i := 4) (N := some 70) (v := ?_) (a' := ?_) #[true, true, true, true, true, false, false, false, false, false, false, false, false, false, false, false, false, false, false, false, false, false, false, false, false] rfl rfl (by kernel_rfl) (fun _ _ _ h => h) (Or.inl ⟨by rfl, ?_⟩) hHeld ?_ ?_
                  rotate_left
                  · rintro w' ⟨s0, s1, s2⟩
                    go_simp
                    with_reducible rfl
                  rotate_left
                  · simp only [Act.put, List.setIfInBounds_toArray, List.set_cons_zero, List.set_cons_succ, i64_w, i32_w]
                    rfl
                  refine one_ (i := 5) (N := some 71) #[true, true, true, true, true, true, false, false, false, false, false, false, false, false, false, false, false, false, false, false, false, false, false, false, false] rfl rfl (by kernel_rfl) (by decide) (fun K hK => ?_)
                  refine goes_ Tryd.func16 (by kernel_rfl) rfl #[.string x] (by rfl) rfl rfl (by simp only [List.map_toArray, List.map_cons, List.map_nil]; rfl) ?_
                  with_reducible refine (name_r x true HNM.out HSZ.out _).mono ?_
                  rintro e w2 ⟨rfl, hb2⟩
                  refine ⟨_, rfl, ?_⟩
                  refine hK.out _ _ ⟨cell_low hHeld.1 hb2, cell_low hHeld.2.1 hb2, cell_low hHeld.2.2 hb2⟩ (fun hHeld => ?_)
                  clear hK K
                  refine norm_ (a' := ?_) ?_ ?_
                  rotate_left
                  · show Act.put _ (some 71) _ = _
                    simp only [Act.put, List.setIfInBounds_toArray, List.set_cons_zero, List.set_cons_succ, i64_w, i32_w]
                    rfl
                  refine pure_ (i := 6) (N := some 72) (v := ?_) (a' := ?_) #[true, true, true, true, true, true, true, false, false, false, false, false, false, false, false, false, false, false, false, false, false, false, false, false, false] rfl rfl (by kernel_rfl) (fun _ _ _ h => h) (Or.inl ⟨by rfl, ?_⟩) ?_ ?_
                  rotate_left
                  · intro w'
                    go_simp
                    with_reducible rfl
                  rotate_left
                  · simp only [Act.put, List.setIfInBounds_toArray, List.set_cons_zero, List.set_cons_succ, i64_w, i32_w]
                    rfl
                  refine pure_ (i := 7) (N := some 73) (v := ?_) (a' := ?_) #[true, true, true, true, true, true, true, true, false, false, false, false, false, false, false, false, false, false, false, false, false, false, false, false, false] rfl rfl (by kernel_rfl) (fun _ _ _ h => h) (Or.inl ⟨by rfl, ?_⟩) ?_ ?_
                  rotate_left
                  · intro w'
                    go_simp
                    with_reducible rfl
                  rotate_left
                  · simp only [Act.put, List.setIfInBounds_toArray, List.set_cons_zero, List.set_cons_succ, i64_w, i32_w]
                    rfl
                  refine pure_ (i := 8) (N := some 74) (v := ?_) (a' := ?_) #[true, true, true, true, true, true, true, true, true, false, false, false, false, false, false, false, false, false, false, false, false, false, false, false, false] rfl rfl (by kernel_rfl) (fun _ _ _ h => h) (Or.inl ⟨by rfl, ?_⟩) ?_ ?_
                  rotate_left
                  · intro w'
                    go_simp
                    with_reducible rfl
                  rotate_left
                  · simp only [Act.put, List.setIfInBounds_toArray, List.set_cons_zero, List.set_cons_succ, i64_w, i32_w]
                    rfl
                  refine pure_ (i := 9) (N := some 75) (v := ?_) (a' := ?_) #[true, true, true, true, true, true, true, true, true, true, false, false, false, false, false, false, false, false, false, false, false, false, false, false, false] rfl rfl (by kernel_rfl) (fun _ _ _ h => h) (Or.inl ⟨by rfl, ?_⟩) ?_ ?_
                  rotate_left
                  · intro w'
                    go_simp
                    with_reducible rfl
                  rotate_left
                  · simp only [Act.put, List.setIfInBounds_toArray, List.set_cons_zero, List.set_cons_succ, i64_w, i32_w]
                    rfl
                  refine pure_ (i := 10) (N := some 76) (v := ?_) (a' := ?_) #[true, true, true, true, true, true, true, true, true, true, true, false, false, false, false, false, false, false, false, false, false, false, false, false, false] rfl rfl (by kernel_rfl) (fun _ _ _ h => h) (Or.inl ⟨by rfl, ?_⟩) ?_ ?_
                  rotate_left
                  · intro w'
                    go_simp
                    with_reducible rfl
                  rotate_left
                  · simp only [Act.put, List.setIfInBounds_toArray, List.set_cons_zero, List.set_cons_succ, i64_w, i32_w]
                    rfl
                  refine pure_ (i := 11) (N := some 77) (v := ?_) (a' := ?_) #[true, true, true, true, true, true, true, true, true, true, true, true, false, false, false, false, false, false, false, false, false, false, false, false, false] rfl rfl (by kernel_rfl) (fun _ _ _ h => h) (Or.inl ⟨by rfl, ?_⟩) ?_ ?_
                  rotate_left
                  · intro w'
                    go_simp
                    with_reducible rfl
                  rotate_left
                  · simp only [Act.put, List.setIfInBounds_toArray, List.set_cons_zero, List.set_cons_succ, i64_w, i32_w]
                    rfl
                  refine pure_ (i := 13) (N := some 79) (v := ?_) (a' := ?_) #[true, true, true, true, true, true, true, true, true, true, true, true, false, true, false, false, false, false, false, false, false, false, false, false, false] rfl rfl (by kernel_rfl) (fun _ _ _ h => h) (Or.inl ⟨by rfl, ?_⟩) ?_ ?_
                  rotate_left
                  · intro w'
                    go_simp
                    with_reducible rfl
                  rotate_left
                  · simp only [Act.put, List.setIfInBounds_toArray, List.set_cons_zero, List.set_cons_succ, i64_w, i32_w]
                    rfl
                  refine pure_ (i := 14) (N := some 80) (v := ?_) (a' := ?_) #[true, true, true, true, true, true, true, true, true, true, true, true, false, true, true, false, false, false, false, false, false, false, false, false, false] rfl rfl (by kernel_rfl) (fun _ _ _ h => h) (Or.inl ⟨by rfl, ?_⟩) ?_ ?_
                  rotate_left
                  · intro w'
                    go_simp
                    with_reducible rfl
                  rotate_left
                  · simp only [Act.put, List.setIfInBounds_toArray, List.set_cons_zero, List.set_cons_succ, i64_w, i32_w]
                    rfl
                  refine pure_ (i := 17) (N := some 83) (v := ?_) (a' := ?_) #[true, true, true, true, true, true, true, true, true, true, true, true, false, true, true, false, false, true, false, false, false, false, false, false, false] rfl rfl (by kernel_rfl) (fun _ _ _ h => h) (Or.inl ⟨by rfl, ?_⟩) ?_ ?_
                  rotate_left
                  · intro w'
                    go_simp
                    with_reducible rfl
                  rotate_left
                  · simp only [Act.put, List.setIfInBounds_toArray, List.set_cons_zero, List.set_cons_succ, i64_w, i32_w]
                    rfl
                  refine pure_ (i := 19) (N := some 85) (v := ?_) (a' := ?_) #[true, true, true, true, true, true, true, true, true, true, true, true, false, true, true, false, false, true, false, true, false, false, false, false, false] rfl rfl (by kernel_rfl) (fun _ _ _ h => h) (Or.inl ⟨by rfl, ?_⟩) ?_ ?_
                  rotate_left
                  · intro w'
                    go_simp
                    with_reducible rfl
                  rotate_left
                  · simp only [Act.put, List.setIfInBounds_toArray, List.set_cons_zero, List.set_cons_succ, i64_w, i32_w]
                    rfl
                  refine take_ (i := 12) (N := some 78) (v := ?_) (a' := ?_) #[true, true, true, true, true, true, true, true, true, true, true, true, true, true, true, false, false, true, false, true, false, false, false, false, false] rfl rfl (by kernel_rfl) (fun _ _ _ h => h) (Or.inl ⟨by rfl, ?_⟩) hHeld ?_ ?_
                  rotate_left
                  · rintro w' ⟨s0, s1, s2⟩
                    go_simp
                    with_reducible rfl
                  rotate_left
                  · simp only [Act.put, List.setIfInBounds_toArray, List.set_cons_zero, List.set_cons_succ, i64_w, i32_w]
                    rfl
                  refine pure_ (i := 15) (N := some 81) (v := ?_) (a' := ?_) #[true, true, true, true, true, true, true, true, true, true, true, true, true, true, true, true, false, true, false, true, false, false, false, false, false] rfl rfl (by kernel_rfl) (fun _ _ _ h => h) (Or.inl ⟨by rfl, ?_⟩) ?_ ?_
                  rotate_left
                  · intro w'
                    go_simp
                    with_reducible rfl
                  rotate_left
                  · simp only [Act.put, List.setIfInBounds_toArray, List.set_cons_zero, List.set_cons_succ, i64_w, i32_w]
                    rfl
                  refine take_ (i := 16) (N := some 82) (v := ?_) (a' := ?_) #[true, true, true, true, true, true, true, true, true, true, true, true, true, true, true, true, true, true, false, true, false, false, false, false, false] rfl rfl (by kernel_rfl) (fun _ _ _ h => h) (Or.inl ⟨by rfl, ?_⟩) hHeld ?_ ?_
                  rotate_left
                  · rintro w' ⟨s0, s1, s2⟩
                    go_simp
                    with_reducible rfl
                  rotate_left
                  · simp only [Act.put, List.setIfInBounds_toArray, List.set_cons_zero, List.set_cons_succ, i64_w, i32_w]
                    rfl
                  refine take_ (i := 18) (N := some 84) (v := ?_) (a' := ?_) #[true, true, true, true, true, true, true, true, true, true, true, true, true, true, true, true, true, true, true, true, false, false, false, false, false] rfl rfl (by kernel_rfl) (fun _ _ _ h => h) (Or.inl ⟨by rfl, ?_⟩) hHeld ?_ ?_
                  rotate_left
                  · rintro w' ⟨s0, s1, s2⟩
                    go_simp
                    with_reducible rfl
                  rotate_left
                  · simp only [Act.put, List.setIfInBounds_toArray, List.set_cons_zero, List.set_cons_succ, i64_w, i32_w]
                    rfl
                  refine pure_ (i := 20) (N := some 86) (v := ?_) (a' := ?_) #[true, true, true, true, true, true, true, true, true, true, true, true, true, true, true, true, true, true, true, true, true, false, false, false, false] rfl rfl (by kernel_rfl) (fun _ _ _ h => h) (Or.inl ⟨by rfl, ?_⟩) ?_ ?_
                  rotate_left
                  · intro w'
                    go_simp
                    with_reducible rfl
                  rotate_left
                  · simp only [Act.put, List.setIfInBounds_toArray, List.set_cons_zero, List.set_cons_succ, i64_w, i32_w]
                    rfl
                  refine take_ (i := 21) (N := some 87) (v := ?_) (a' := ?_) #[true, true, true, true, true, true, true, true, true, true, true, true, true, true, true, true, true, true, true, true, true, true, false, false, false] rfl rfl (by kernel_rfl) (fun _ _ _ h => h) (Or.inl ⟨by rfl, ?_⟩) hHeld ?_ ?_
                  rotate_left
                  · rintro w' ⟨s0, s1, s2⟩
                    go_simp
                    with_reducible rfl
                  rotate_left
                  · simp only [Act.put, List.setIfInBounds_toArray, List.set_cons_zero, List.set_cons_succ, i64_w, i32_w]
                    rfl
                  refine pure_ (i := 22) (N := some 88) (v := ?_) (a' := ?_) #[true, true, true, true, true, true, true, true, true, true, true, true, true, true, true, true, true, true, true, true, true, true, true, false, false] rfl rfl (by kernel_rfl) (fun _ _ _ h => h) (Or.inl ⟨by rfl, ?_⟩) ?_ ?_
                  rotate_left
                  · intro w'
                    go_simp
                    with_reducible rfl
                  rotate_left
                  · simp only [Act.put, List.setIfInBounds_toArray, List.set_cons_zero, List.set_cons_succ, i64_w, i32_w]
                    rfl
                  refine pure_ (i := 23) (N := some 89) (v := ?_) (a' := ?_) #[true, true, true, true, true, true, true, true, true, true, true, true, true, true, true, true, true, true, true, true, true, true, true, true, false] rfl rfl (by kernel_rfl) (fun _ _ _ h => h) (Or.inl ⟨by rfl, ?_⟩) ?_ ?_
                  rotate_left
                  · intro w'
                    go_simp
                    with_reducible rfl
                  rotate_left
                  · simp only [Act.put, List.setIfInBounds_toArray, List.set_cons_zero, List.set_cons_succ, i64_w, i32_w]
                    rfl
                  refine pure_ (i := 24) (N := some 90) (v := ?_) (a' := ?_) #[true, true, true, true, true, true, true, true, true, true, true, true, true, true, true, true, true, true, true, true, true, true, true, true, true] rfl rfl (by kernel_rfl) (fun _ _ _ h => h) (Or.inl ⟨by rfl, ?_⟩) ?_ ?_
                  rotate_left
                  · intro w'
                    go_simp
                    with_reducible rfl
                  rotate_left
                  · simp only [Act.put, List.setIfInBounds_toArray, List.set_cons_zero, List.set_cons_succ, i64_w, i32_w]
                    rfl
                  refine done_ (by kernel_rfl) ?_
                  have BX2 := (BXq.drew).below hb2
                  clear hb2 BXq
                  go_wp2_with fail
                  go_roundg gk
                  case measure => omega
                  case rel => exact ⟨i + 1, by omega, by go_num, BX2, GN3.out⟩
      · have k2 : (f0 == 3) = false := beq_eq_false_iff_ne.2 e3
        have hfin : own = false := by
          rw [← HOWN.out, ownR, own4 f0 f1 f2 f3 f4 e1 e2 e3]; rfl
        have HF := Aside0.mk hfin
        clear hfin
        go_wp2_with fail
        go_ret
        exact ⟨by rw [HF.out]; rfl, BX.out.low⟩

theorem own_says (t : S26) (hf : fitT t = true) (A2 : Option Addr) (c2 : Nat) (A3 : Option Addr) (c3 : Nat) (A4 : Option Addr) (c4 : Nat) (w : World)
      (hr2 : Kd.C (Kd.int .u8) w A2 t.f2.length t.f2) (hc2 : t.f2.length ≤ c2) (hr3 : Kd.C Kd.string w A3 t.f3.length t.f3) (hc3 : t.f3.length ≤ c3) (hr4 : Kd.C k26 w A4 t.f4.length t.f4) (hc4 : t.f4.length ≤ c4) :
      Calls Tryd.prog 43 #[.agg #[.int .u8 t.f0, .bool t.f1, .slice A2 t.f2.length c2, .slice A3 t.f3.length c3, .slice A4 t.f4.length c4]] w fun e w' => e = .returned (.bool (ownR t)) ∧ Below w.heap.size w w' := by
  obtain ⟨f0, f1, f2, f3, f4⟩ := t
  rw [fitT, Bool.and_eq_true, Bool.and_eq_true, smallB, Bool.and_eq_true, Bool.and_eq_true] at hf
  exact own_walk f0 f1 f2 f3 f4 A2 c2 A3 c3 A4 c4 w hr2 hc2 hr3 hc3 hr4 hc4 (of_decide_eq_true hf.1.1) (of_decide_eq_true hf.1.2.1) (of_decide_eq_true hf.1.2.2)
    (fun b hb => of_decide_eq_true (List.all_eq_true.1 hf.2.1 b hb)) (fun s hs => of_decide_eq_true (List.all_eq_true.1 hf.2.2 s hs)) _ rfl
end Go.Proofs.YtmhlmbmenoihnaaDoor.G

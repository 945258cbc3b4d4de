-- PRINTED by print.py (a twelfth state) out of the translation. Not trusted: Lean checks it.
import Derived.Test.YtmhlmbmenoihnaaDoorProg
import Derived.Below
import Derived.Deep.Draws
import Derived.Deep.AppendLies
import Derived.Maps.AppendAt
import Derived.OwnWalk
import Derived.Laws.BytesArg
import Derived.Laws.MakeOwn
import Derived.Laws.OwnMore
import Derived.Deep.OwnRows
import Derived.Tactics
import Derived.Lib.ConvBytes
import Derived.Laws.Slices
import Derived.WalkKit
import Derived.KernelRfl
import Derived.RowKit3
import Derived.Deep.LoopGhost
import Derived.Deep.QuietTactic
import Derived.BigQuiet
import Derived.WideLaws
import Derived.Deep.DeepCutAuto
import Derived.Deep.CutBlock
import Derived.Deep.RegionHeld3
import Derived.Laws.Rows
import Derived.Lib.AppendStr
import Derived.ArgAppend
import Derived.Laws.IdiomCopy
import Derived.OrdersHeld
import Derived.Laws.BitsLemmas
import Derived.RowKit
import Derived.Test.YtmhlmbmenoihnaaDoorWWords
import Derived.Test.YtmhlmbmenoihnaaDoorWLast
import Derived.Test.YtmhlmbmenoihnaaDoorWTab
import Derived.Test.YtmhlmbmenoihnaaDoorWFour
import Derived.Test.YtmhlmbmenoihnaaDoorWQPut
import Derived.Test.YtmhlmbmenoihnaaDoorWApart
import Derived.Test.YtmhlmbmenoihnaaDoorWArr
import Derived.Test.YtmhlmbmenoihnaaDoorWZeros
import Derived.Test.YtmhlmbmenoihnaaDoorWFoot
import Derived.Test.YtmhlmbmenoihnaaDoorWKept
import Derived.Test.YtmhlmbmenoihnaaDoorWShare
import Derived.Test.YtmhlmbmenoihnaaDoorWN
import Derived.Test.YtmhlmbmenoihnaaDoorWFootNe
import Derived.Test.YtmhlmbmenoihnaaDoorWAt
import Derived.Test.YtmhlmbmenoihnaaDoorWEqStruct
import Derived.Test.YtmhlmbmenoihnaaDoorWRepsOne
import Derived.Test.YtmhlmbmenoihnaaDoorWInv
import Derived.Test.YtmhlmbmenoihnaaDoorWInvWords
import Derived.Test.YtmhlmbmenoihnaaDoorWGuard
import Derived.Test.YtmhlmbmenoihnaaDoorWNEv
import Derived.Test.YtmhlmbmenoihnaaDoorWMore
namespace Go.Proofs.YtmhlmbmenoihnaaDoor.G
open Go.RowKit Go.Proofs.YtmhlmbmenoihnaaDoorW.PrintWords Go.Proofs.YtmhlmbmenoihnaaDoorW.PrintLast Go.Proofs.YtmhlmbmenoihnaaDoorW.PrintMore
attribute [local go_sem] max2_int min2_int max_two min_two max_three min_three max_four min_four   -- for this text's walks alone
set_option linter.unusedVariables false
set_option linter.unusedSimpArgs false



def errW : Option Int → Value
  | none => .nilIface
  | some c => .iface 0 (.int .i64 c)
theorem errW_none : errW none = .nilIface := rfl
theorem errW_some (c : Int) : errW (some c) = .iface 0 (.int .i64 c) := rfl

theorem info9 : (Tryd.prog.info? 9).map (fun i => (i.zero, i.size, i.bytes)) = some (some (.string ⟨#[]⟩), 1, 16) := by kernel_rfl
theorem info26 : (Tryd.prog.info? 26).map (fun i => (i.zero, i.size, i.bytes)) = some (some (.agg #[(.int .u8 0), (.bool false), (.slice none 0 0), (.slice none 0 0), (.slice none 0 0)]), 5, 80) := by kernel_rfl
-- the values' own types
def rd_L3 (xs : List (List Int)) (i : Int) : (List Int) := xs.getD i.toNat ([] : List Int)
theorem at_L3 {w : World} {A : Option Addr} {n : Nat} {xs : List (List Int)} (h : Kd.C (Kd.slice 5 (Kd.int .u8)) w A n xs) (i : Int) (h0 : 0 ≤ i) (h1 : i < n) : ∃ ad A0 c0, A = some ad ∧ w.cell? (ad.add i.toNat) = some (.slice A0 (rd_L3 xs i).length c0) ∧ (rd_L3 xs i).length ≤ c0 ∧ (Kd.int .u8).C w A0 (rd_L3 xs i).length (rd_L3 xs i) := by
  obtain ⟨ad, c, e, _, hK, hc0⟩ := Kd.C_get h ([] : List Int) i h0 h1
  have hc : ∀ j u, c[j]? = some u → w.cell? (ad.add (i.toNat * 1 + j)) = some u := hc0
  obtain ⟨A0, c0, rfl, l0, g0⟩ := hK
  exact ⟨ad, A0, c0, e, by have hq := hc 0 _ rfl; rwa [Nat.mul_one, Nat.add_zero] at hq, l0, g0⟩

def rd_L4 (xs : List (List ByteArray)) (i : Int) : (List ByteArray) := xs.getD i.toNat ([] : List ByteArray)
theorem at_L4 {w : World} {A : Option Addr} {n : Nat} {xs : List (List ByteArray)} (h : Kd.C (Kd.slice 9 Kd.string) w A n xs) (i : Int) (h0 : 0 ≤ i) (h1 : i < n) : ∃ ad A0 c0, A = some ad ∧ w.cell? (ad.add i.toNat) = some (.slice A0 (rd_L4 xs i).length c0) ∧ (rd_L4 xs i).length ≤ c0 ∧ Kd.string.C w A0 (rd_L4 xs i).length (rd_L4 xs i) := by
  obtain ⟨ad, c, e, _, hK, hc0⟩ := Kd.C_get h ([] : List ByteArray) i h0 h1
  have hc : ∀ j u, c[j]? = some u → w.cell? (ad.add (i.toNat * 1 + j)) = some u := hc0
  obtain ⟨A0, c0, rfl, l0, g0⟩ := hK
  exact ⟨ad, A0, c0, e, by have hq := hc 0 _ rfl; rwa [Nat.mul_one, Nat.add_zero] at hq, l0, g0⟩

/-! #### struct type 26, nested in itself -/
structure S26 where
  f0 : Int
  f1 : Bool
  f2 : (List Int)
  f3 : (List ByteArray)
  f4 : (List S26)
def z26 : S26 := ⟨(0 : Int), false, ([] : List Int), ([] : List ByteArray), ([] : List S26)⟩
def F26 (d : Kd S26) : Kd S26 := Kd.iso (Kd.pair (Kd.int .u8) (Kd.pair Kd.bool (Kd.pair (Kd.slice 5 (Kd.int .u8)) (Kd.pair (Kd.slice 9 Kd.string) (Kd.slice 26 d))))) (fun x : S26 => (x.f0, x.f1, x.f2, x.f3, x.f4))
theorem mono26 : Kd.Mono F26 := Kd.mono_iso _ (Kd.mono_pair (Kd.mono_const _) (Kd.mono_pair (Kd.mono_const _) (Kd.mono_pair (Kd.mono_const _) (Kd.mono_pair (Kd.mono_const _) (Kd.mono_slice 26 Kd.mono_id)))))
theorem sub26 : Kd.Sub F26 [5, 9, 26] := Kd.sub_iso _ (Kd.sub_pair (Kd.sub_const _ (by decide)) (Kd.sub_pair (Kd.sub_const _ (by decide)) (Kd.sub_pair (Kd.sub_const _ (by decide)) (Kd.sub_pair (Kd.sub_const _ (by decide)) (Kd.sub_slice 26 (by decide) Kd.sub_id)))))
theorem sz26 : ∀ n, (Kd.upto F26 5 [5, 9, 26] n).sz = 5 := Kd.upto_sz (fun _ => rfl)
def k26 : Kd S26 := Kd.fix F26 5 [5, 9, 26] sz26 (Kd.upto_E sub26)
theorem k26_heap : Kd.Heap k26 := Kd.heap_fix (fun _ h_ => Kd.heap_iso _ (Kd.heap_pair (Kd.heap_int .u8) (Kd.heap_pair Kd.heap_bool (Kd.heap_pair (Kd.heap_slice 5 (Kd.heap_int .u8)) (Kd.heap_pair (Kd.heap_slice 9 Kd.heap_string) (Kd.heap_slice 26 h_))))))
theorem k26_open {w : World} {x : S26} {cs : List Value} (h : k26.K w x cs) : ∃ A2 c2 A3 c3 A4 c4, cs = [.int .u8 x.f0, .bool x.f1, .slice A2 x.f2.length c2, .slice A3 x.f3.length c3, .slice A4 x.f4.length c4] ∧ x.f2.length ≤ c2 ∧ (Kd.int .u8).C w A2 x.f2.length x.f2 ∧ x.f3.length ≤ c3 ∧ Kd.string.C w A3 x.f3.length x.f3 ∧ x.f4.length ≤ c4 ∧ k26.C w A4 x.f4.length x.f4 := by
  obtain ⟨n, h⟩ := h
  cases n with
  | zero => exact h.elim
  | succ n =>
    obtain ⟨_, _, rfl, rfl, ⟨_, _, rfl, rfl, ⟨_, _, rfl, ⟨A2, c2, rfl, l2, g2⟩, ⟨_, _, rfl, ⟨A3, c3, rfl, l3, g3⟩, ⟨A4, c4, rfl, l4, g4⟩⟩⟩⟩⟩ := h
    exact ⟨A2, c2, A3, c3, A4, c4, rfl, l2, g2, l3, g3, l4, Kd.fix_C g4⟩
theorem k26_openM {w : World} {base : Nat} {ok : Nat → Prop} {x : S26} {cs : List Value} (h : k26.M w base ok x cs) : ∃ v2 v3 v4, cs = [.int .u8 x.f0, .bool x.f1, v2, v3, v4] ∧ (Kd.int .u8).R 5 w base ok v2 x.f2 ∧ Kd.string.R 9 w base ok v3 x.f3 ∧ k26.R 26 w base ok v4 x.f4 := by
  obtain ⟨n, h⟩ := h
  cases n with
  | zero => exact h.elim
  | succ n =>
    obtain ⟨_, _, rfl, rfl, ⟨_, _, rfl, rfl, ⟨_, _, rfl, ⟨v2, rfl, g2⟩, ⟨_, _, rfl, ⟨v3, rfl, g3⟩, ⟨v4, rfl, g4⟩⟩⟩⟩⟩ := h
    exact ⟨v2, v3, v4, rfl, g2, g3, Kd.fix_R g4⟩
theorem k26_mk (w : World) (x : S26) {A2 : Option Addr} {c2 : Nat} (l2 : x.f2.length ≤ c2) (g2 : (Kd.int .u8).C w A2 x.f2.length x.f2) {A3 : Option Addr} {c3 : Nat} (l3 : x.f3.length ≤ c3) (g3 : Kd.string.C w A3 x.f3.length x.f3) {A4 : Option Addr} {c4 : Nat} (l4 : x.f4.length ≤ c4) (g4 : k26.C w A4 x.f4.length x.f4) : k26.K w x [.int .u8 x.f0, .bool x.f1, .slice A2 x.f2.length c2, .slice A3 x.f3.length c3, .slice A4 x.f4.length c4] := by
  obtain ⟨n4, q4⟩ := Kd.fix_C_back mono26 g4
  have r4 := Kd.upto_C_le mono26 sz26 (show n4 ≤ n4 by omega) q4
  exact ⟨n4 + 1, ⟨[.int .u8 x.f0], [.bool x.f1, .slice A2 x.f2.length c2, .slice A3 x.f3.length c3, .slice A4 x.f4.length c4], rfl, rfl, ⟨[.bool x.f1], [.slice A2 x.f2.length c2, .slice A3 x.f3.length c3, .slice A4 x.f4.length c4], rfl, rfl, ⟨[.slice A2 x.f2.length c2], [.slice A3 x.f3.length c3, .slice A4 x.f4.length c4], rfl, ⟨A2, c2, rfl, l2, g2⟩, ⟨[.slice A3 x.f3.length c3], [.slice A4 x.f4.length c4], rfl, ⟨A3, c3, rfl, l3, g3⟩, ⟨A4, c4, rfl, l4, r4⟩⟩⟩⟩⟩⟩
theorem k26_mkM (w : World) (base : Nat) (ok : Nat → Prop) (x : S26) {v2 : Value} (g2 : (Kd.int .u8).R 5 w base ok v2 x.f2) {v3 : Value} (g3 : Kd.string.R 9 w base ok v3 x.f3) {v4 : Value} (g4 : k26.R 26 w base ok v4 x.f4) : k26.M w base ok x [.int .u8 x.f0, .bool x.f1, v2, v3, v4] := by
  obtain ⟨n4, q4⟩ := Kd.fix_R_back mono26 g4
  have r4 := Kd.upto_R_le mono26 sz26 (show n4 ≤ n4 by omega) q4
  exact ⟨n4 + 1, ⟨[.int .u8 x.f0], [.bool x.f1, v2, v3, v4], rfl, rfl, ⟨[.bool x.f1], [v2, v3, v4], rfl, rfl, ⟨[v2], [v3, v4], rfl, ⟨v2, rfl, g2⟩, ⟨[v3], [v4], rfl, ⟨v3, rfl, g3⟩, ⟨v4, rfl, r4⟩⟩⟩⟩⟩⟩
theorem k26_openF {W : World} {ok : Nat → Prop} {x : S26} {cs : List Value} (h : Kd.FK k26 W ok x cs) : ∃ A2 c2 A3 c3 A4 c4, cs = [.int .u8 x.f0, .bool x.f1, .slice A2 x.f2.length c2, .slice A3 x.f3.length c3, .slice A4 x.f4.length c4] ∧ x.f2.length ≤ c2 ∧ Kd.F (Kd.int .u8) W ok A2 x.f2.length x.f2 ∧ x.f3.length ≤ c3 ∧ Kd.F Kd.string W ok A3 x.f3.length x.f3 ∧ x.f4.length ≤ c4 ∧ Kd.F k26 W ok A4 x.f4.length x.f4 := by
  obtain ⟨A2, c2, A3, c3, A4, c4, rfl, l2, _, l3, _, l4, _⟩ := k26_open (Kd.FK_now h)
  exact ⟨A2, c2, A3, c3, A4, c4, rfl, l2, (fun W' hW => by obtain ⟨A2_, c2_, A3_, c3_, A4_, c4_, he, l2_, g2_, l3_, g3_, l4_, g4_⟩ := k26_open (h W' hW); injection (Option.some.inj (show some (Value.slice A2 x.f2.length c2) = some (Value.slice A2_ x.f2.length c2_) from congrArg (fun l => l[2]?) he)) with ha_ _ _; rw [ha_]; exact g2_), l3, (fun W' hW => by obtain ⟨A2_, c2_, A3_, c3_, A4_, c4_, he, l2_, g2_, l3_, g3_, l4_, g4_⟩ := k26_open (h W' hW); injection (Option.some.inj (show some (Value.slice A3 x.f3.length c3) = some (Value.slice A3_ x.f3.length c3_) from congrArg (fun l => l[3]?) he)) with ha_ _ _; rw [ha_]; exact g3_), l4, (fun W' hW => by obtain ⟨A2_, c2_, A3_, c3_, A4_, c4_, he, l2_, g2_, l3_, g3_, l4_, g4_⟩ := k26_open (h W' hW); injection (Option.some.inj (show some (Value.slice A4 x.f4.length c4) = some (Value.slice A4_ x.f4.length c4_) from congrArg (fun l => l[4]?) he)) with ha_ _ _; rw [ha_]; exact g4_)⟩
theorem k26_mkF (W : World) (ok : Nat → Prop) (x : S26) {A2 : Option Addr} {c2 : Nat} (l2 : x.f2.length ≤ c2) (g2 : Kd.F (Kd.int .u8) W ok A2 x.f2.length x.f2) {A3 : Option Addr} {c3 : Nat} (l3 : x.f3.length ≤ c3) (g3 : Kd.F Kd.string W ok A3 x.f3.length x.f3) {A4 : Option Addr} {c4 : Nat} (l4 : x.f4.length ≤ c4) (g4 : Kd.F k26 W ok A4 x.f4.length x.f4) : Kd.FK k26 W ok x [.int .u8 x.f0, .bool x.f1, .slice A2 x.f2.length c2, .slice A3 x.f3.length c3, .slice A4 x.f4.length c4] := fun W2 hW => k26_mk W2 x l2 (g2 W2 hW) l3 (g3 W2 hW) l4 (g4 W2 hW)
def rd_T26 (xs : List S26) (i : Int) : S26 := xs.getD i.toNat z26
theorem at_T26 {w : World} {A : Option Addr} {n : Nat} {xs : List S26} (h : Kd.C k26 w A n xs) (i : Int) (h0 : 0 ≤ i) (h1 : i < n) : ∃ ad A2 c2 A3 c3 A4 c4, A = some ad ∧ w.cell? (ad.add (i.toNat * 5)) = some (.int .u8 (rd_T26 xs i).f0) ∧ w.cell? ⟨(ad.add (i.toNat * 5)).block, (ad.add (i.toNat * 5)).off + 1, none⟩ = some (.bool (rd_T26 xs i).f1) ∧ w.cell? ⟨(ad.add (i.toNat * 5)).block, (ad.add (i.toNat * 5)).off + 2, none⟩ = some (.slice A2 (rd_T26 xs i).f2.length c2) ∧ w.cell? ⟨(ad.add (i.toNat * 5)).block, (ad.add (i.toNat * 5)).off + 3, none⟩ = some (.slice A3 (rd_T26 xs i).f3.length c3) ∧ w.cell? ⟨(ad.add (i.toNat * 5)).block, (ad.add (i.toNat * 5)).off + 4, none⟩ = some (.slice A4 (rd_T26 xs i).f4.length c4) ∧ (rd_T26 xs i).f2.length ≤ c2 ∧ (Kd.int .u8).C w A2 (rd_T26 xs i).f2.length (rd_T26 xs i).f2 ∧ (rd_T26 xs i).f3.length ≤ c3 ∧ Kd.string.C w A3 (rd_T26 xs i).f3.length (rd_T26 xs i).f3 ∧ (rd_T26 xs i).f4.length ≤ c4 ∧ k26.C w A4 (rd_T26 xs i).f4.length (rd_T26 xs i).f4 := by
  obtain ⟨ad, c, e, _, hK, hc0⟩ := Kd.C_get h z26 i h0 h1
  have hc : ∀ j u, c[j]? = some u → w.cell? (ad.add (i.toNat * 5 + j)) = some u := hc0
  obtain ⟨A2, c2, A3, c3, A4, c4, rfl, l2, g2, l3, g3, l4, g4⟩ := k26_open hK
  exact ⟨ad, A2, c2, A3, c3, A4, c4, e, hc 0 _ rfl, by rw [← add_field _ _ 1 (by omega)]; exact hc 1 _ rfl, by rw [← add_field _ _ 2 (by omega)]; exact hc 2 _ rfl, by rw [← add_field _ _ 3 (by omega)]; exact hc 3 _ rfl, by rw [← add_field _ _ 4 (by omega)]; exact hc 4 _ rfl, l2, g2, l3, g3, l4, g4⟩

end Go.Proofs.YtmhlmbmenoihnaaDoor.G

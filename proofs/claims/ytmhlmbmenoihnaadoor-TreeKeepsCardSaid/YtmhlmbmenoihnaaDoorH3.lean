/- What bytes.Clone, slices.Clone at texts and bytes.IndexByte come to. -/
import Derived.Test.YtmhlmbmenoihnaaDoorH1
import Derived.Test.YtmhlmbmenoihnaaDoorWMore
namespace Go.Proofs.YtmhlmbmenoihnaaDoor.H
open Go.Shelf Go.RowKit Go.Lib
open Go.Proofs.YtmhlmbmenoihnaaDoorW.PrintWords Go.Proofs.YtmhlmbmenoihnaaDoorW.PrintLast Go.Proofs.YtmhlmbmenoihnaaDoorW.PrintMore

theorem cell_plain {w : World} {a : Addr} {v : Value} (h : w.cell? a = some v) : a = ⟨a.block, a.off, none⟩ := by
  obtain ⟨b, o, s⟩ := a
  cases s with
  | none => rfl
  | some x =>
    simp only [World.cell?] at h
    split at h
    · simp at h
    · cases h

theorem add_at (b o i : Nat) : (⟨b, o, none⟩ : Addr).add i = ⟨b, o + i, none⟩ := by
  unfold Addr.add
  split
  · subst_vars; rfl
  · rfl

/-- A row of numbers, as its cells stand. -/
theorem ints_cells {k : IntKind} {w : World} {A : Option Addr} {xs : List Int} (h : Kd.C (Kd.int k) w A xs.length xs) (hn : 0 < xs.length) : ∃ ad, A = some ad ∧ ∀ i, i < xs.length → w.cell? (ad.add i) = some (.int k (xs.getD i 0)) := by
  obtain ⟨ad, c, e, _⟩ := Kd.C_get h (0 : Int) 0 (by omega) (by omega)
  refine ⟨ad, e, fun i hi => ?_⟩
  obtain ⟨ad', c, e', _, hc, hcell⟩ := Kd.C_get h (0 : Int) (i : Int) (by omega) (by omega)
  cases e.symm.trans e'
  have hc' : c = [.int k (xs.getD (i : Int).toNat 0)] := hc
  subst hc'
  have := hcell 0 _ rfl
  simpa [Kd.int, Kd.scalar] using this

/-- A row of texts, as its cells stand. -/
theorem strs_cells {w : World} {A : Option Addr} {xs : List ByteArray} (h : Kd.C Kd.string w A xs.length xs) (hn : 0 < xs.length) : ∃ b o, A = some ⟨b, o, none⟩ ∧ ∀ i, i < xs.length → w.cell? ⟨b, o + i, none⟩ = some (.string (xs.getD i ByteArray.empty)) := by
  obtain ⟨ad, c0, e, _, hc0, hcell0⟩ := Kd.C_get h ByteArray.empty 0 (by omega) (by omega)
  have hc0' : c0 = [.string (xs.getD (0 : Int).toNat ByteArray.empty)] := hc0
  subst hc0'
  have h00 := hcell0 0 _ rfl
  have hp := cell_plain h00
  have hp0 : ad.add ((0 : Int).toNat * Kd.string.sz + 0) = ad := by simp [Addr.add]
  rw [hp0] at hp
  refine ⟨ad.block, ad.off, by rw [e, hp], fun i hi => ?_⟩
  obtain ⟨ad', c, e', _, hc, hcell⟩ := Kd.C_get h ByteArray.empty (i : Int) (by omega) (by omega)
  cases e.symm.trans e'
  have hc' : c = [.string (xs.getD (i : Int).toNat ByteArray.empty)] := hc
  subst hc'
  have := hcell 0 _ rfl
  rw [hp, add_at] at this
  simpa [Kd.string, Kd.scalar] using this

theorem bclone_calls (A : Option Addr) (c : Nat) (l : List Int) (w : World) (hr : Kd.C (Kd.int .u8) w A l.length l) (hm : l.length ≤ 140737488355328) :
    Calls Tryd.prog 37 #[.slice A l.length c] w fun e w' => ∃ v0_ : Value, e = .returned v0_ ∧ Kd.R (Kd.int .u8) 5 w' w.heap.size (fun _ => True) v0_ l ∧ Below w.heap.size w w' := by
  cases A with
  | none =>
    have hl : l = [] := by
      cases l with
      | nil => rfl
      | cons x t => obtain ⟨ad, e, _⟩ := ints_cells hr (by simp); cases e
    subst hl
    refine (Tryd.bytes_Clone_nil _ _ w).mono ?_
    rintro e w' ⟨rfl, rfl⟩
    exact ⟨_, rfl, Kd.R_nil _ _ _ _ _, Below.refl _ _⟩
  | some a =>
    have hc : ∀ i, i < l.length → w.cell? (a.add i) = some (.int .u8 (l.getD i 0)) := by
      intro i hi
      obtain ⟨ad, e, h⟩ := ints_cells hr (by omega)
      cases e
      exact h i hi
    refine (Tryd.bytes_Clone_at a l.length c l w rfl hm hc).mono ?_
    rintro e w' ⟨v, rfl, ho, _, hb⟩
    exact ⟨v, rfl, Kd.R_of_own (enc := Value.int .u8) (by simpa [encs] using ho) (fun _ _ => trivial), hb⟩

theorem sclone_calls (A : Option Addr) (c : Nat) (l : List ByteArray) (w : World) (hr : Kd.C Kd.string w A l.length l) (hm : l.length * 16 ≤ 140737488355328) :
    Calls Tryd.prog 38 #[.slice A l.length c] w fun e w' => ∃ v0_ : Value, e = .returned v0_ ∧ Kd.R Kd.string 9 w' w.heap.size (fun _ => True) v0_ l ∧ Below w.heap.size w w' := by
  cases A with
  | none =>
    have hl : l = [] := by
      cases l with
      | nil => rfl
      | cons x t => obtain ⟨b, o, e, _⟩ := strs_cells hr (by simp); cases e
    subst hl
    refine (Tryd.slices_Clone_string_nil _ _ w).mono ?_
    rintro e w' ⟨rfl, rfl⟩
    exact ⟨_, rfl, Kd.R_nil _ _ _ _ _, Below.refl _ _⟩
  | some a =>
    by_cases hl : l.length = 0
    · have hl' := List.length_eq_zero_iff.1 hl
      subst hl'
      refine (Tryd.slices_Clone_string_zero a c w).mono ?_
      rintro e w' ⟨v, rfl, ho, _, hb⟩
      exact ⟨v, rfl, Kd.R_of_own (enc := Value.string) (by simpa [encs] using ho) (fun _ _ => trivial), hb⟩
    · obtain ⟨b, o, e, h⟩ := strs_cells hr (by omega)
      cases e
      refine (Tryd.slices_Clone_string b o l.length c l w (Nat.le_refl _) hm h).mono ?_
      rintro e w' ⟨v, rfl, ho, _, hb⟩
      exact ⟨v, rfl, Kd.R_of_own (enc := Value.string) (by simpa [encs] using ho) (fun _ _ => trivial), hb⟩

/-- Where a byte first stands; -1: nowhere. -/
def byteAt (l : List Int) (c : Int) : Int := Lib.indexByte (Lib.bytesOf l) c.toNat.toUInt8

theorem bindex_calls (A : Option Addr) (c : Nat) (l : List Int) (b : Int) (w : World) (hr : Kd.C (Kd.int .u8) w A l.length l) (hc : l.length ≤ c) :
    Calls Tryd.prog 42 #[.slice A l.length c, .int .u8 b] w fun e w' => e = .returned (.int .i64 (byteAt l b)) ∧ Drawn0 w w' := by
  cases A with
  | none =>
    have hl : l = [] := by
      cases l with
      | nil => rfl
      | cons x t => obtain ⟨ad, e, _⟩ := ints_cells hr (by simp); cases e
    subst hl
    go_enter Tryd.func42, Tryd.ntmps42
    go_wp2
    rw [run_callFunc_extern Tryd.func49 (by kernel_rfl) (by kernel_rfl) (by kernel_rfl) (e := Extern.BytealgIndexByte.indexByte) (by kernel_rfl), Lib.run_indexByteNil w 0 c b]
    simp only [Result.andThen]
    rw [Oper.upon_value]
    go_wp2
    go_ret
    exact ⟨rfl, Drawn0.refl _⟩
  | some a =>
    have hc : ∀ i, i < l.length → w.cell? (a.add i) = some (.int .u8 (l.getD i 0)) := by
      intro i hi
      obtain ⟨ad, e, h⟩ := ints_cells hr (by omega)
      cases e
      exact h i hi
    refine (Tryd.bytes_IndexByte_at a l.length c l b w rfl hc).mono ?_
    rintro e w' ⟨rfl, rfl⟩
    exact ⟨rfl, Drawn0.refl _⟩
end Go.Proofs.YtmhlmbmenoihnaaDoor.H

/- What some functions of the strings and bytes packages come to: contracts that later texts lean on. -/
import Derived.Shelf.Lays
import Derived.Shelf.Small.Utf8
import Derived.Shelf.Strings.Search1
import Derived.Shelf.Strings.Runes
import Derived.Shelf.Strings.IndexAny
import Derived.Shelf.Strings.AsciiSet
import Derived.Shelf.Strings.IndexAnyAll
import Derived.Laws.RangeAny
import Derived.WalkKit
import Derived.Lib.Hide
import Derived.Deep.LoopGhost
import Derived.Lib.OthersKept
import Derived.Deep.QuietTactic
import Derived.BigQuiet
import Derived.Below
import Derived.Test.YtmhlmbmenoihnaaDoorWWords
import Derived.Test.YtmhlmbmenoihnaaDoorProg
import Derived.Test.YtmhlmbmenoihnaaDoorShelf
namespace Go.Proofs.YtmhlmbmenoihnaaDoor.H
open Go.Shelf Go.RowKit Go.Lib
open Go.Proofs.YtmhlmbmenoihnaaDoorW.PrintWords (pw_below_drewN)

theorem blk_lt' {w : World} {g : Nat} {o : Obj} (h : w.heap[g]? = some o) : g < w.heap.size := (Array.getElem?_eq_some_iff.1 h).1
theorem below_iter {w w' : World} (h : Below w.heap.size w w') (s : ByteArray) (n : Nat) : Below w.heap.size w (w'.iter s n) := h.alloc h.size _

set_option maxHeartbeats 1000000 in
set_option maxRecDepth 100000 in
theorem irune_high (s : ByteArray) (hs : ∀ b ∈ s.data.toList, b.toNat < 128) (r : Int) (h1 : 128 ≤ r) (h2 : r ≤ 2147483647) (w : World) :
    Calls Tryd.prog 50 #[.string s, .int .i32 r] w fun e w' => e = .returned (.int .i64 (-1)) ∧ Below w.heap.size w w' := by
  have HS := Lib.hid hs
  clear hs
  have c0 : decide (0 ≤ r) = true := decide_eq_true (by omega)
  have c1 : decide (r < 128) = false := decide_eq_false (by omega)
  by_cases he : r = 65533
  · subst he
    go_enter Tryd.func50, Tryd.ntmps50
    go_wp2_with fail
    go_loopg [5, 6] s.size (fun g _ _ wx => ∃ i : Nat, i + g = s.size ∧ wx = w.iter s i)
    case atStart => exact ⟨0, by omega, rfl⟩
    case round =>
      obtain ⟨i, hig, rfl⟩ := hrel
      cases gk with
      | zero =>
        obtain rfl : i = s.size := by omega
        have hnx := run_next_end (P := Tryd.prog) w s s.size
        go_wp2
        go_ret
        exact ⟨rfl, below_iter (Below.refl _ _) _ _⟩
      | succ g =>
        have hi : i < s.size := by omega
        obtain ⟨x, hx⟩ : ∃ x : UInt8, s[i]'hi = x := ⟨_, rfl⟩
        have hx128 : x.toNat < 128 := HS.out x (by rw [← hx]; exact Array.getElem_mem_toList (xs := s.data) hi)
        have hnx := fun ty => run_next_ascii (P := Tryd.prog) w s i ty hi (by rw [hx]; exact hx128)
        rw [hx] at hnx
        have hne : ((x.toNat : Int) == 65533) = false := beq_eq_false_iff_ne.2 (by omega)
        clear hx
        go_wp2
        go_roundg g
        case measure => omega
        case rel => exact ⟨i + 1, by omega, rfl⟩
  · have c2 : (r == 65533) = false := beq_eq_false_iff_ne.2 he
    go_enter Tryd.func50, Tryd.ntmps50
    go_wp2_with fail
    refine (Tryd.utf8_ValidRune r _).mono ?_
    rintro e w' ⟨rfl, rfl⟩
    cases hv : Lib.validRune r with
    | false =>
      go_wp2_with fail
      go_ret
      exact ⟨rfl, Below.refl _ _⟩
    | true =>
      have hvr : Utf8.valid r = true := by
        rw [validRune_eq]; exact hv
      have ef := encode_facts r hvr h1
      obtain ⟨ef1, ef2, ef3⟩ := ef
      go_wp2_with fail
      go_step3
      go_wp2_with fail
      generalize Utf8.encode r = t at *
      obtain ⟨n, hn⟩ : ∃ n : Nat, t.size = n + 1 := ⟨t.size - 1, by omega⟩
      have hlast : n < t.size := by omega
      have hb : 128 ≤ (t[n]'hlast).toNat := by
        have h3 := ef3 (by omega)
        simpa [hn] using h3
      have ei : ((t.size : Int) - 1) = (n : Int) := by omega
      rw [ei]
      clear ef3 ei
      have hn' := Nat.le_of_eq hn
      clear hn
      refine wp_loop_rounds 1 ?_
      rw [rounds_succ]
      by_cases hlt : n < s.size
      · have hx128 : (s[n]'hlt).toNat < 128 := HS.out _ (Array.getElem_mem_toList (xs := s.data) hlt)
        have hne : (((s[n]'hlt).toNat : Int) != ((t[n]'hlast).toNat : Int)) = true := by rw [bne_iff_ne]; omega
        have hix : decide (Lib.indexByte (List.take (s.size - (n + 1)) (List.drop (n + 1) s.data.toList)) (t[n]'hlast) < 0) = true := by
          have hc := Lib.contains_iff_indexByte (s.extract (n + 1) s.size).data.toList (t[n]'hlast)
          rw [ByteArray.data_extract, Array.toList_extract, List.extract] at hc
          have hf : (s.extract (n + 1) s.size).data.toList.contains (t[n]'hlast) = false := by
            rw [List.contains_eq_mem]
            apply decide_eq_false
            intro hm
            have := HS.out _ (mem_extract hm)
            omega
          rw [ByteArray.data_extract, Array.toList_extract, List.extract] at hf
          rw [hf] at hc
          have := of_decide_eq_false hc.symm
          apply decide_eq_true
          omega
        have i0 : (0 : Int) ≤ (n : Int) := by omega
        have i1 : (n : Int) < (s.size : Int) := by omega
        have i2 : (n : Int) < (t.size : Int) := by omega
        have i3 : IntKind.i64.wrap ((n : Int) + 1) = ((n + 1 : Nat) : Int) := by rw [wrap_small _ (by omega) (by omega)]; omega
        have i4 : (0 : Int) ≤ ((n + 1 : Nat) : Int) := by omega
        have i5 : ((n + 1 : Nat) : Int) ≤ (s.size : Int) := by omega
        go_wp2_with fail
        go_step3
        go_wp2_with fail
        go_quiet (fail)
        go_wp2_with fail
        have hB := pw_below_drewN (Below.refl w'.heap.size w') nq
        generalize w'.drewN nq = w2 at *
        go_quiet ((go_at_call 58; exact Calls.quiet_of_same (Tryd.strings_IndexByte _ _ _)))
        go_wp2_with fail
        rw [Exit.noGoto_ret]
        go_wp2_with fail
        rw [Exit.noGoto_ret]
        go_ret
        exact ⟨rfl, pw_below_drewN hB _⟩
      · go_wp2_with fail
        rw [Exit.noGoto_ret]
        go_ret
        exact ⟨rfl, Below.refl _ _⟩

theorem decode_cont (s : ByteArray) (i : Nat) (h : i < s.size) (hx : 128 ≤ (s[i]'h).toNat) : ∀ k, 1 ≤ k → k < (Utf8.decode s i).2 → ∃ h' : i + k < s.size, 128 ≤ (s[i + k]'h').toNat := by
  have hc : ∀ k, (decide (i + k < s.size) && (s.get! (i + k)).toNat / 64 == 2) = true → ∃ h' : i + k < s.size, 128 ≤ (s[i + k]'h').toNat := by
    intro k hk
    rw [Bool.and_eq_true] at hk
    have h1 := of_decide_eq_true hk.1
    have h2 := beq_iff_eq.1 hk.2
    have h3 : s.get! (i + k) = s[i + k]'h1 := by simp [ByteArray.get!, getElem!_pos, h1]; rfl
    rw [h3] at h2
    exact ⟨h1, by omega⟩
  have hn : ¬ (s[i]'h).toNat < 128 := by omega
  intro k h1 h2
  unfold Utf8.decode at h2
  simp only [get_at s i h, hn, if_false] at h2
  revert h2
  split
  · rename_i hh
    rw [Bool.and_eq_true] at hh
    split
    · intro h2
      have : k = 1 := by simp at h2; omega
      subst this; exact hc 1 hh.2
    · intro h2; simp at h2; omega
  · split
    · rename_i hh
      rw [Bool.and_eq_true, Bool.and_eq_true] at hh
      split
      · intro h2
        have : k = 1 ∨ k = 2 := by simp at h2; omega
        rcases this with rfl | rfl
        · exact hc 1 hh.1.2
        · exact hc 2 hh.2
      · intro h2; simp at h2; omega
    · split
      · rename_i hh
        rw [Bool.and_eq_true, Bool.and_eq_true, Bool.and_eq_true] at hh
        split
        · intro h2
          have : k = 1 ∨ k = 2 ∨ k = 3 := by simp at h2; omega
          rcases this with rfl | rfl | rfl
          · exact hc 1 hh.1.1.2
          · exact hc 2 hh.1.2
          · exact hc 3 hh.2
        · intro h2; simp at h2; omega
      · intro h2; simp at h2; omega

theorem noAny_jump {s : ByteArray} {chars : List UInt8} (hch : ∀ b ∈ chars, b.toNat < 128) {i : Nat} (h : Lib.NoAny s.data.toList chars i) (hi : i < s.size) (hx : 128 ≤ (s[i]'hi).toNat) : Lib.NoAny s.data.toList chars (i + (Utf8.decode s i).2) := by
  intro j b hj hb
  by_cases hji : j < i
  · exact h j b hji hb
  · have hb128 : 128 ≤ b.toNat := by
      obtain ⟨k, rfl⟩ : ∃ k, j = i + k := ⟨j - i, by omega⟩
      by_cases hk : k = 0
      · subst hk
        rw [Nat.add_zero, Lib.data_getElem? s i hi] at hb
        cases hb; exact hx
      · obtain ⟨h', hv⟩ := decode_cont s i hi hx k (by omega) (by omega)
        rw [Lib.data_getElem? s (i + k) h'] at hb
        cases hb; exact hv
    rw [List.contains_eq_mem]
    exact decide_eq_false fun hm => by have := hch b hm; omega

theorem noAny_past {s : ByteArray} {chars : List UInt8} {i : Nat} (h : Lib.NoAny s.data.toList chars i) (hi : ¬ i < s.size) : Lib.indexAny s.data.toList chars = -1 :=
  Lib.indexAny_none fun j b hj hb => h j b (by rw [← Lib.size_eq] at hj; omega) hb

set_option maxHeartbeats 2000000 in
set_option maxRecDepth 100000 in
theorem iany_short (s chars : ByteArray) (hch : ∀ b ∈ chars.data.toList, b.toNat < 128) (h2 : 2 ≤ chars.size) (h8 : s.size ≤ 8) (w : World) :
    Calls Tryd.prog 44 #[.string s, .string chars] w fun e w' => e = .returned (.int .i64 (Lib.indexAny s.data.toList chars.data.toList)) ∧ Below w.heap.size w w' := by
  have HA := Lib.hid hch
  clear hch
  have hemp : chars.toList.isEmpty = false := by
    rw [Lib.toList_data]
    cases h : chars.data.toList with
    | nil => have := Lib.size_eq chars; rw [h, List.length_nil] at this; omega
    | cons _ _ => rfl
  have hn1 : ((chars.size : Int) == 1) = false := beq_eq_false_iff_ne.2 (by omega)
  have h8z : decide ((8 : Int) < (s.size : Int)) = false := decide_eq_false (by omega)
  go_enter Tryd.func44, Tryd.ntmps44
  go_wp2_with (go_at_call 51; refine (Tryd.strings_shouldUseASCIISet _ _).mono ?_; rintro e w' ⟨rfl, hw⟩; rw [hw, h8z])
  go_loopg [9, 10] (s.size + 1) (fun g _ _ wx => ∃ i : Nat, s.size + 1 ≤ i + g ∧ wx.heap[w.heap.size]? = some (.stringIter s i) ∧ Below w.heap.size w wx ∧ Lib.NoAny s.data.toList chars.data.toList i)
  case atStart => exact ⟨0, by omega, by simp [World.iter_heap], below_iter (Below.refl _ _) _ _, Lib.NoAny.zero _ _⟩
  case round =>
    obtain ⟨i, hig, hit, hB, hno⟩ := hrel
    have HN := Lib.hid hno
    clear hno
    by_cases hi : i < s.size
    · have HX := Lib.hid (fun ty => run_next_any_at (P := Tryd.prog) wr w.heap.size s i ty hit hi)
      by_cases hx : 128 ≤ (s[i]'hi).toNat
      · have hd := decode_high s i hi hx
        have hdl := decode_le s i
        have HJ := Lib.hid (noAny_jump HA.out HN.out hi hx)
        have hnx := HX.out
        clear HX HN
        generalize Utf8.decode s i = d at *
        obtain ⟨c, n⟩ := d
        simp only at hd hdl hnx
        have hB' : Below w.heap.size w (wr.iterAt w.heap.size s (i + n)) := below_iterAt hB (Nat.le_refl _) _ _
        have hit' := iterAt_heap wr w.heap.size s i (i + n) hit
        have hsz' := hB'.size
        generalize wr.iterAt w.heap.size s (i + n) = w1 at *
        have HIT := Lib.hid hit'
        have HB' := Lib.hid hB'
        clear hit' hB' hit hB
        go_wp2_with fail
        refine (irune_high chars HA.out (c : Int) (by omega) (by omega) w1).mono ?_
        rintro e w2 ⟨rfl, hb2⟩
        have HB2 := Lib.hid hb2
        clear hb2
        go_wp2_with fail
        have hlt := blk_lt' HIT.out
        have hh2 : w2.heap[w.heap.size]? = some (.stringIter s (i + n)) := (HB2.out.block _ hlt).trans HIT.out
        have hB2 := HB'.out.trans (HB2.out.mono hsz')
        go_roundg (s.size - (i + n) + 1)
        case measure => omega
        case rel => exact ⟨i + n, by omega, hh2, hB2, HJ.out⟩
      · have hx' : (s[i]'hi).toNat < 128 := by omega
        have hda := decode_ascii s i hi hx'
        obtain ⟨x, hxx⟩ : ∃ x : UInt8, s[i]'hi = x := ⟨_, rfl⟩
        have hxl : s.data.toList[i]? = some x := by rw [← hxx]; exact Lib.data_getElem? s i hi
        have hnx := HX.out
        rw [hda] at hnx
        rw [hxx] at hnx hx'
        have Hxl := Lib.hid hxl
        clear HX hda hxl hxx hx
        have hB' : Below w.heap.size w (wr.iterAt w.heap.size s (i + 1)) := below_iterAt hB (Nat.le_refl _) _ _
        have hit' := iterAt_heap wr w.heap.size s i (i + 1) hit
        generalize wr.iterAt w.heap.size s (i + 1) = w1 at *
        have HIT := Lib.hid hit'
        have HB' := Lib.hid hB'
        clear hit' hB' hit hB
        have hcon := Lib.contains_iff_indexByte chars.data.toList x
        have hback : ((x.toNat : Int)).toNat.toUInt8 = x := by simp
        cases hin : chars.data.toList.contains x
        · rw [hin] at hcon
          have hlt : ¬ ((0 : Int) ≤ Lib.indexByte chars.data.toList x) := of_decide_eq_false hcon.symm
          have Hin := Lib.hid hin
          clear hcon hin
          go_wp2_with (go_at_call 50; refine (Tryd.strings_IndexRune_ascii _ _ _ (by omega) (by omega)).mono ?_; rintro e w' ⟨rfl, hw⟩; rw [hw, hback])
          go_roundg (s.size - (i + 1) + 1)
          case measure => omega
          case rel => exact ⟨i + 1, by omega, HIT.out, HB'.out, HN.out.succ Hxl.out Hin.out⟩
        · rw [hin] at hcon
          have hge : (0 : Int) ≤ Lib.indexByte chars.data.toList x := of_decide_eq_true hcon.symm
          have Hin := Lib.hid hin
          clear hcon hin
          go_wp2_with (go_at_call 50; refine (Tryd.strings_IndexRune_ascii _ _ _ (by omega) (by omega)).mono ?_; rintro e w' ⟨rfl, hw⟩; rw [hw, hback])
          go_ret
          exact ⟨by rw [Lib.indexAny_hit HN.out Hxl.out Hin.out]; rfl, HB'.out⟩
    · have hnx := fun ty => run_next_end_at (P := Tryd.prog) wr w.heap.size s i ty hit hi
      clear hit
      have HB' := Lib.hid hB
      clear hB
      go_wp2
      go_ret
      exact ⟨by rw [noAny_past HN.out hi]; rfl, HB'.out⟩

theorem slash_ascii : ∀ b ∈ (⟨#[47, 0]⟩ : ByteArray).data.toList, b.toNat < 128 := by decide

set_option maxHeartbeats 1000000 in
theorem contains_slash (s : ByteArray) (hs : s.size < 4294967281) (w : World) :
    Calls Tryd.prog 31 #[.string s, .string ⟨#[47, 0]⟩] w fun e w' => e = .returned (.bool (Lib.containsAny s.data.toList [47, 0])) ∧ Below w.heap.size w w' := by
  have hany : Calls Tryd.prog 44 #[.string s, .string ⟨#[47, 0]⟩] w fun e w' => e = .returned (.int .i64 (Lib.indexAny s.data.toList [47, 0])) ∧ Below w.heap.size w w' := by
    by_cases h8 : s.size ≤ 8
    · exact iany_short s ⟨#[47, 0]⟩ slash_ascii (by decide) h8 w
    · refine (Tryd.strings_IndexAny_long (fun _ => by kernel_rfl) s ⟨#[47, 0]⟩ w (by decide) (by omega) hs (by decide) (fun j b hb => slash_ascii b (List.mem_of_getElem? hb))).mono ?_
      rintro e w' ⟨rfl, rfl⟩
      exact ⟨rfl, ((Below.refl _ _).alloc (Nat.le_refl _) _).alloc (by simp) _⟩
  have HH := Lib.hid hany
  clear hany
  go_enter Tryd.func31, Tryd.ntmps31
  go_wp2_with fail
  refine HH.out.mono ?_
  rintro e w' ⟨rfl, hb⟩
  have HB := Lib.hid hb
  clear hb
  go_wp2_with fail
  go_ret
  exact ⟨rfl, HB.out⟩

def nameOf (s : ByteArray) : Bool := !s.data.toList.isEmpty && (decide (s.size ≤ 80) && (!(s.data.toList == [46]) && (!(s.data.toList == [46, 46]) && !(Lib.containsAny s.data.toList [47, 0]))))

set_option maxHeartbeats 1000000 in
theorem name_calls (s : ByteArray) (w : World) :
    Calls Tryd.prog 15 #[.string s] w fun e w' => e = .returned (.bool (nameOf s)) ∧ Below w.heap.size w w' := by
  unfold nameOf
  rw [← Lib.toList_data]
  cases h0 : s.toList.isEmpty with
  | true =>
    go_enter Tryd.func15, Tryd.ntmps15
    go_wp2_with fail
    go_ret
    exact ⟨rfl, Below.refl _ _⟩
  | false =>
    by_cases h1 : s.size ≤ 80
    · have h1' : decide ((s.size : Int) ≤ 80) = true := decide_eq_true (by omega)
      cases h2 : s.toList == [46] with
      | true =>
        go_enter Tryd.func15, Tryd.ntmps15
        go_wp2_with fail
        go_ret
        exact ⟨by simp, Below.refl _ _⟩
      | false =>
        cases h3 : s.toList == [46, 46] with
        | true =>
          go_enter Tryd.func15, Tryd.ntmps15
          go_wp2_with fail
          go_ret
          exact ⟨by simp, Below.refl _ _⟩
        | false =>
          have hf : (!false && (decide (s.size ≤ 80) && (!false && (!false && !containsAny s.toList [47, 0])))) = !containsAny s.toList [47, 0] := by simp [h1]
          rw [hf]
          have HC := Lib.hid (contains_slash s (by omega) w)
          rw [← Lib.toList_data] at HC
          generalize containsAny s.toList [47, 0] = b at *
          clear hf
          go_enter Tryd.func15, Tryd.ntmps15
          go_wp2_with fail
          refine HC.out.mono ?_
          rintro e w' ⟨rfl, hb⟩
          have HB := Lib.hid hb
          clear hb
          go_wp2_with fail
          go_ret
          exact ⟨rfl, HB.out⟩
    · have h1' : decide ((s.size : Int) ≤ 80) = false := decide_eq_false (by omega)
      go_enter Tryd.func15, Tryd.ntmps15
      go_wp2_with fail
      go_ret
      exact ⟨by simp [h1], Below.refl _ _⟩
end Go.Proofs.YtmhlmbmenoihnaaDoor.H

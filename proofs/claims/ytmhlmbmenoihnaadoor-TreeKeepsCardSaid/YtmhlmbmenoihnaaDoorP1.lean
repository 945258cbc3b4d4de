/- What the names of a path are: the program's answer and the document's are one. -/
import Derived.Test.YtmhlmbmenoihnaaDoorP0
import Derived.Test.YtmhlmbmenoihnaaDoorH2
import Derived.Test.YtmhlmbmenoihnaaDoorG4
import Derived.Test.YtmhlmbmenoihnaaDoorG5
namespace Go.Proofs.YtmhlmbmenoihnaaDoor.P
open Go.Lib Go.RowKit Go.Proofs.YtmhlmbmenoihnaaDoor.G Go.Proofs.YtmhlmbmenoihnaaDoorW.PrintWords
set_option linter.unusedVariables false
set_option linter.unusedSimpArgs false

variable {α : Type}
def spl : List UInt8 → List (List UInt8)
  | [] => [[]]
  | b :: l => if b = 47 then [] :: spl l else match spl l with
    | [] => [[b]]
    | p :: ps => (b :: p) :: ps
theorem spl_ne : ∀ l, spl l ≠ []
  | [] => by simp [spl]
  | b :: l => by
    unfold spl
    split
    · simp
    · split <;> simp

theorem splitK_one : ∀ l : List UInt8, splitK [47] 0 (count l [47]) l = spl l
  | [] => by
    rw [count_miss (by rfl)]
    rfl
  | b :: l => by
    have ih := splitK_one l
    have hix : index (b :: l) [47] = if b == 47 then 0 else if index l [47] == -1 then -1 else index l [47] + 1 := by
      rw [index_one, index_one]; rfl
    by_cases hb : b = 47
    · subst hb
      have h0 : index (47 :: l) [47] = ((0 : Nat) : Int) := by rw [hix]; rfl
      rw [count_hit (by simp) h0, Nat.add_comm 1]
      unfold splitK spl
      rw [h0, if_pos rfl, if_neg (by decide)]
      exact congrArg _ ih
    · have hbf : (b == 47) = false := beq_eq_false_iff_ne.2 hb
      rw [hbf, if_neg Bool.false_ne_true] at hix
      have hge := index_ge l [47]
      by_cases hm : index l [47] = -1
      · have h1 : index (b :: l) [47] = -1 := by rw [hix, hm]; rfl
        rw [count_miss h1]
        rw [count_miss hm] at ih
        unfold splitK at ih ⊢
        unfold spl
        rw [if_neg hb, ← ih]
      · obtain ⟨i, hi⟩ : ∃ i : Nat, index l [47] = i := ⟨(index l [47]).toNat, by omega⟩
        have h1 : index (b :: l) [47] = ((i + 1 : Nat) : Int) := by
          rw [hix, hi, if_neg (by intro h; have := beq_iff_eq.1 h; omega)]
          rfl
        rw [count_hit (by simp) h1]
        rw [count_hit (by simp) hi] at ih
        have hd : (b :: l).drop (i + 1 + ([47] : List UInt8).length) = l.drop (i + ([47] : List UInt8).length) := rfl
        rw [hd, Nat.add_comm 1]
        rw [Nat.add_comm 1] at ih
        unfold splitK at ih ⊢
        rw [h1, if_neg (by intro h; have := beq_iff_eq.1 h; omega)]
        rw [hi, if_neg (by intro h; have := beq_iff_eq.1 h; omega)] at ih
        unfold spl
        rw [if_neg hb, ← ih]
        rfl

def wordsOf (w : List UInt8) : List UInt8 → List (List UInt8)
  | [] => [w]
  | b :: l => if b = 47 then w :: wordsOf [] l else wordsOf (w ++ [b]) l
theorem wordsOf_spl : ∀ (l w : List UInt8) (p : List UInt8) (ps : List (List UInt8)), spl l = p :: ps → wordsOf w l = (w ++ p) :: ps
  | [], w, p, ps, h => by
    unfold spl at h
    injection h with h1 h2
    subst h1; subst h2
    simp [wordsOf]
  | b :: l, w, p, ps, h => by
    cases hs : spl l with
    | nil => exact absurd hs (spl_ne l)
    | cons q qs =>
      unfold spl at h
      unfold wordsOf
      by_cases hb : b = 47
      · rw [if_pos hb] at h ⊢
        injection h with h1 h2
        subst h1
        rw [wordsOf_spl l [] q qs hs, ← h2, hs]
        simp
      · rw [if_neg hb] at h ⊢
        rw [hs] at h
        injection h with h1 h2
        subst h1; subst h2
        rw [wordsOf_spl l (w ++ [b]) q qs hs]
        simp

def mkB (l : List UInt8) : ByteArray := ⟨⟨l⟩⟩
theorem mkB_list (s : ByteArray) : mkB s.data.toList = s := rfl
theorem pieces_words (s : ByteArray) : H.pieces 47 s = (wordsOf [] s.data.toList).map mkB := by
  have h : (H.pieces 47 s).map (·.data.toList) = wordsOf [] s.data.toList := by
    unfold H.pieces
    rw [splitB_data]
    have h2 : splitK [47] 0 (count s.data.toList [47]) s.data.toList = spl s.data.toList := splitK_one _
    cases hs : spl s.data.toList with
    | nil => exact absurd hs (spl_ne _)
    | cons p ps =>
      rw [wordsOf_spl _ [] p ps hs, List.nil_append, ← hs]
      exact h2
  rw [← h, List.map_map]
  exact (List.map_id' _).symm

def resOf (acc ws : List ByteArray) : List ByteArray × Int := if ws.any (fun x => !H.nameOf x) then ([], 4) else (acc ++ ws, 0)
theorem resOf_bad {acc ws : List ByteArray} {w : ByteArray} (h : H.nameOf w = false) : resOf acc (w :: ws) = ([], 4) := by simp [resOf, h]
theorem resOf_good {acc ws : List ByteArray} {w : ByteArray} (h : H.nameOf w = true) : resOf acc (w :: ws) = resOf (acc ++ [w]) ws := by simp [resOf, h]

theorem Ev.get {f : Nat → Option α} {r : α} (h : Ev f r) : ∃ k, f k = some r := ⟨h.choose, h.choose_spec _ (Nat.le_refl _)⟩

theorem split_ev (s : ByteArray) (hs : s.size ≤ 400) : ∀ (m i : Nat) (acc : List ByteArray) (w : ByteArray), i + m = s.size → acc.length ≤ i → w.size ≤ i →
    ∃ k, r03_Split.l0 k s acc w (i : Int) = some (resOf acc ((wordsOf w.data.toList (s.data.toList.drop i)).map mkB))
  | 0, i, acc, w, hm, ha, hw => by
    obtain ⟨K, hK⟩ := r03_name w (by omega)
    replace hK : ∀ k, K ≤ k → r03_Name.f k w = some (H.nameOf w) := hK
    refine ⟨K + 3, ?_⟩
    have hd : s.data.toList.drop i = [] := List.drop_of_length_le (by rw [← Lib.size_eq]; omega)
    rw [hd]
    unfold r03_Split.l0
    rw [if_pos (by omega : (i : Int) ≤ (s.size : Int)), if_neg (by omega : ¬ (i : Int) < (s.size : Int))]
    unfold r03_Split.j1
    rw [if_neg (by simp), hK (K + 1) (by omega), w64 i (by omega)]
    have hg : (wordsOf w.data.toList []).map mkB = [w] := rfl
    rw [hg]
    simp only [Option.bind_some]
    cases hn : H.nameOf w with
    | false => rw [resOf_bad hn, if_neg Bool.false_ne_true]
    | true =>
      rw [resOf_good hn, if_pos rfl, if_pos (by omega)]
      unfold r03_Split.l0
      rw [if_neg (by omega)]
      simp [resOf]
  | m + 1, i, acc, w, hm, ha, hw => by
    have hi : (i : Int) < (s.size : Int) := by omega
    have hl : i < s.data.toList.length := by rw [← Lib.size_eq]; omega
    have hc := List.drop_eq_getElem_cons hl
    obtain ⟨e1, e2, e3, e4⟩ := bt_cons s i _ _ hc
    rw [hc]
    generalize hbq : s.data.toList[i] = b at *
    by_cases hb : b = 47
    · subst hb
      obtain ⟨K, hK⟩ := r03_name w (by omega)
      replace hK : ∀ k, K ≤ k → r03_Name.f k w = some (H.nameOf w) := hK
      have hwd : (wordsOf w.data.toList (47 :: s.data.toList.drop (i + 1))).map mkB = w :: (wordsOf [] (s.data.toList.drop (i + 1))).map mkB := by
        simp [wordsOf, mkB_list]
      rw [hwd]
      cases hn : H.nameOf w with
      | false =>
        refine ⟨K + 2, ?_⟩
        unfold r03_Split.l0
        rw [if_pos (by omega : (i : Int) ≤ (s.size : Int)), if_pos hi, if_pos (by omega : (0 : Int) ≤ i), e1]
        unfold r03_Split.j1
        rw [if_neg (by simp), hK K (by omega)]
        simp only [Option.bind_some]
        rw [resOf_bad hn, hn, if_neg Bool.false_ne_true]
      | true =>
        obtain ⟨k2, h2⟩ := split_ev s hs m (i + 1) (acc ++ [w]) ⟨#[]⟩ (by omega) (by simp; omega) (by exact Nat.zero_le _)
        obtain ⟨K2, hK2⟩ := Ev.of (fun k => (r03_Split.mono_l k).1 s (acc ++ [w]) ⟨#[]⟩ ((i + 1 : Nat) : Int)) h2
        replace hK2 : ∀ k, K2 ≤ k → r03_Split.l0 k s (acc ++ [w]) ⟨#[]⟩ ((i + 1 : Nat) : Int) = _ := hK2
        refine ⟨K + K2 + 2, ?_⟩
        unfold r03_Split.l0
        rw [if_pos (by omega : (i : Int) ≤ (s.size : Int)), if_pos hi, if_pos (by omega : (0 : Int) ≤ i), e1]
        unfold r03_Split.j1
        rw [if_neg (by simp), hK (K + K2) (by omega)]
        simp only [Option.bind_some]
        rw [resOf_good hn, hn, if_pos rfl, if_pos (by omega), w64 i (by omega)]
        exact hK2 _ (by omega)
    · have hwd : wordsOf w.data.toList (b :: s.data.toList.drop (i + 1)) = wordsOf (w ++ (⟨#[b]⟩ : ByteArray)).data.toList (s.data.toList.drop (i + 1)) := by
        conv => lhs; unfold wordsOf
        rw [if_neg hb]
        simp
      have hz : (w ++ (⟨#[b]⟩ : ByteArray)).size = w.size + 1 := by rw [ByteArray.size_append]; rfl
      rw [hwd]
      obtain ⟨k2, h2⟩ := split_ev s hs m (i + 1) acc (w ++ ⟨#[b]⟩) (by omega) (by omega) (by omega)
      refine ⟨k2 + 2, ?_⟩
      have hb47 : (((b.toNat : Int)) != 47) = true := by
        simp only [bne_iff_ne, ne_eq]
        exact fun h => hb (UInt8.toNat_inj.1 (by simpa using Int.ofNat.inj h))
      unfold r03_Split.l0
      rw [if_pos (by omega : (i : Int) ≤ (s.size : Int)), if_pos hi, if_pos (by omega : (0 : Int) ≤ i), e1, hb47]
      unfold r03_Split.j1
      rw [if_pos rfl, w64 i (by omega), if_pos (by omega : (0 : Int) ≤ i), if_pos (by omega), if_pos (by omega)]
      simp only [Int.toNat_natCast]
      rw [e4, if_pos (by rw [show (⟨#[b]⟩ : ByteArray).size = 1 from rfl]; omega)]
      exact h2

theorem r03_split (s : ByteArray) : Ev (fun k => r03_Split.f k s) (H.splitOf s) := by
  have he : s.toList = s.data.toList := Lib.toList_data s
  suffices h : ∃ k, r03_Split.f k s = some (H.splitOf s) by
    obtain ⟨k, hk⟩ := h
    exact Ev.of (fun k => r03_Split.mono s k) hk
  unfold r03_Split.f H.splitOf
  by_cases h1 : 400 < s.size
  · exact ⟨0, by rw [if_pos (by omega), if_pos h1]⟩
  · by_cases h2 : s.toList = []
    · exact ⟨0, by rw [if_neg (by omega), if_pos h2, if_neg h1, h2]; rfl⟩
    · obtain ⟨k, hk⟩ := split_ev s (by omega) s.size 0 [] ⟨#[]⟩ (by omega) (by simp) (by exact Nat.zero_le _)
      refine ⟨k, ?_⟩
      have h3 : s.toList.isEmpty = false := by
        cases hx : s.toList with
        | nil => exact absurd hx h2
        | cons => rfl
      rw [if_neg (by omega), if_neg h2, if_neg h1, h3, if_neg Bool.false_ne_true, pieces_words]
      refine hk.trans ?_
      simp only [resOf, List.drop_zero, List.nil_append]

theorem awake_ev : Ev (fun k => w03_awake.f k) true := Ev.of (fun k => w03_awake.mono k) (K := 30) (by decide +kernel)

theorem splitOf_len (s : ByteArray) : (H.splitOf s).1.length ≤ 401 := by
  unfold H.splitOf
  split
  · exact Nat.zero_le _
  · split
    · exact Nat.zero_le _
    · split
      · exact Nat.zero_le _
      · have h := Lib.splitB_length_le ⟨#[47]⟩ 0 (Lib.countB s ⟨#[47]⟩) s
        have h2 := Lib.countB_le ⟨#[47]⟩ (Nat.le_refl 1) s.size s (Nat.le_refl _)
        show (Lib.splitB ⟨#[47]⟩ 0 (Lib.countB s ⟨#[47]⟩) s).length ≤ 401
        omega

end Go.Proofs.YtmhlmbmenoihnaaDoor.P

/- What tree.Size comes to. -/
import Derived.Test.YtmhlmbmenoihnaaDoorG0
import Derived.Test.YtmhlmbmenoihnaaDoorH1
import Derived.Test.YtmhlmbmenoihnaaDoorH3
import Derived.Deep.DeepCutAuto
import Derived.Deep.CutBlock
namespace Go.Proofs.YtmhlmbmenoihnaaDoor.G
open Go.RowKit Go.Proofs.YtmhlmbmenoihnaaDoorW.PrintWords Go.Proofs.YtmhlmbmenoihnaaDoorW.PrintLast Go.Proofs.YtmhlmbmenoihnaaDoorW.PrintMore
set_option linter.unusedVariables false
set_option linter.unusedSimpArgs false

theorem geq_str (t : TypeId) (a b : ByteArray) : binOp .geq t (.string a) (.string b) = pure (.bool !(Op.bytesLess a.toList b.toList)) := by simp [binOp, Op.stringOp]
attribute [local go_sem] geq_str
/-- Is a tree right, what is in it aside? -/
def ownB (t : S26) : Bool :=
  if t.f0 = 1 then decide (t.f3.length + t.f4.length = 0)
  else if t.f0 = 2 then decide (t.f3.length + t.f4.length = 0) && (!t.f1 && (decide (t.f2.length ≠ 0) && (decide (t.f2.length ≤ 400) && decide (H.byteAt t.f2 0 < 0))))
  else if t.f0 = 3 then decide (t.f3.length = t.f4.length) && (!t.f1 && decide (t.f2.length = 0))
  else false
theorem own1 (f1 : Bool) (f2 : List Int) (f3 : List ByteArray) (f4 : List S26) : ownB ⟨1, f1, f2, f3, f4⟩ = decide (f3.length + f4.length = 0) := rfl
theorem own2 (f1 : Bool) (f2 : List Int) (f3 : List ByteArray) (f4 : List S26) : ownB ⟨2, f1, f2, f3, f4⟩ = (decide (f3.length + f4.length = 0) && (!f1 && (decide (f2.length ≠ 0) && (decide (f2.length ≤ 400) && decide (H.byteAt f2 0 < 0))))) := rfl
theorem own3 (f1 : Bool) (f2 : List Int) (f3 : List ByteArray) (f4 : List S26) : ownB ⟨3, f1, f2, f3, f4⟩ = (decide (f3.length = f4.length) && (!f1 && decide (f2.length = 0))) := rfl
theorem own4 (f0 : Int) (f1 : Bool) (f2 : List Int) (f3 : List ByteArray) (f4 : List S26) (h1 : ¬ f0 = 1) (h2 : ¬ f0 = 2) (h3 : ¬ f0 = 3) : ownB ⟨f0, f1, f2, f3, f4⟩ = false := by
  unfold ownB
  rw [if_neg h1, if_neg h2, if_neg h3]
mutual
def addT : S26 → Int → Int → Int → Option (Int × Int)
  | ⟨f0, f1, f2, f3, f4⟩, deep, n, b => if n + 1 ≤ 4096 ∧ b + (f2.length : Int) ≤ 65536 ∧ deep ≤ 16 ∧ ownB ⟨f0, f1, f2, f3, f4⟩ = true then addL none f3 f4 deep (n + 1) (b + f2.length) else none
def addL : Option ByteArray → List ByteArray → List S26 → Int → Int → Int → Option (Int × Int)
  | _, _, [], _, n, b => some (n, b)
  | _, [], _ :: _, _, _, _ => none
  | p, s :: ns, t :: ts, deep, n, b => if H.nameOf s = true ∧ (∀ q, p = some q → Op.bytesLess q.toList s.toList = true) then (addT t (deep + 1) n b).bind fun r => addL (some s) ns ts deep r.1 r.2 else none
end
/-- No row of it is longer than memory may be. -/
def smallB (t : S26) : Bool := decide (t.f2.length ≤ 140737488351232) && (decide (t.f3.length ≤ 140737488351232) && decide (t.f4.length ≤ 140737488351232))
mutual
def smallT : S26 → Bool
  | ⟨f0, f1, f2, f3, f4⟩ => smallB ⟨f0, f1, f2, f3, f4⟩ && smallL f4
def smallL : List S26 → Bool
  | [] => true
  | t :: ts => smallT t && smallL ts
end
theorem smallT_eq (t : S26) : smallT t = (smallB t && smallL t.f4) := by
  obtain ⟨f0, f1, f2, f3, f4⟩ := t
  rw [smallT]
theorem smallL_mem : ∀ {l : List S26}, smallL l = true → ∀ t ∈ l, smallT t = true
  | [], _, _, h => by cases h
  | a :: l, h, t, ht => by
    rw [smallL, Bool.and_eq_true] at h
    rcases List.mem_cons.1 ht with rfl | ht
    · exact h.1
    · exact smallL_mem h.2 t ht
theorem addT_eq (t : S26) (deep n b : Int) : addT t deep n b = if n + 1 ≤ 4096 ∧ b + (t.f2.length : Int) ≤ 65536 ∧ deep ≤ 16 ∧ ownB t = true then addL none t.f3 t.f4 deep (n + 1) (b + t.f2.length) else none := by
  obtain ⟨f0, f1, f2, f3, f4⟩ := t
  rw [addT]


def OkRes (r : Option (Int × Int)) (n b : Int) (wr : Bool) : Prop :=
  match r with
  | some q => n = q.1 ∧ b = q.2 ∧ wr = false ∧ 0 ≤ n ∧ n ≤ 4096 ∧ 0 ≤ b ∧ b ≤ 65536
  | none => wr = true

def Counted (w0 w : World) (g : Nat) (r : Option (Int × Int)) (e : Ending) (w' : World) : Prop :=
  e = .returned (.tuple #[]) ∧ ∃ (n b : Int) (wr : Bool), w'.heap[g]? = some (.cells #[.int .i64 n, .int .i64 b, .bool wr] 54 (0, 0)) ∧ OkRes r n b wr ∧ Below w0.heap.size w0 w' ∧ KeepBut w w' g none

/-- What stands ahead of place i. -/
def prevOf (l : List ByteArray) (i : Nat) : Option ByteArray := if i = 0 then none else some (l.getD (i - 1) ByteArray.empty)
def LoopInv (R : Option (Int × Int)) (f3 : List ByteArray) (f4 : List S26) (deep : Int) (i : Nat) (n b : Int) (wr : Bool) : Prop :=
  (wr = true ∧ R = none) ∨ (wr = false ∧ R = addL (prevOf f3 i) (f3.drop i) (f4.drop i) deep n b ∧ 0 ≤ n ∧ n ≤ 4096 ∧ 0 ≤ b ∧ b ≤ 65536 ∧ deep ≤ 16 ∧ f3.length = f4.length)
theorem ownB_len (t : S26) (h : ownB t = true) : t.f3.length = t.f4.length := by
  obtain ⟨f0, f1, f2, f3, f4⟩ := t
  by_cases h1 : f0 = 1
  · subst h1
    rw [own1] at h
    have := of_decide_eq_true h
    show f3.length = f4.length
    omega
  · by_cases h2 : f0 = 2
    · subst h2
      rw [own2, Bool.and_eq_true] at h
      have := of_decide_eq_true h.1
      show f3.length = f4.length
      omega
    · by_cases h3 : f0 = 3
      · subst h3
        rw [own3, Bool.and_eq_true] at h
        exact of_decide_eq_true h.1
      · rw [own4 f0 f1 f2 f3 f4 h1 h2 h3] at h
        cases h
theorem loop_start (f0 : Int) (f1 : Bool) (f2 : List Int) (f3 : List ByteArray) (f4 : List S26) (deep n b : Int) (hn : 0 ≤ n) (hb : 0 ≤ b) (bad own : Bool) (hbad : (decide (4096 < n + 1) || (decide (65536 < b + (f2.length : Int)) || decide (16 < deep))) = bad) (hown : ownB ⟨f0, f1, f2, f3, f4⟩ = own) :
    LoopInv (addT ⟨f0, f1, f2, f3, f4⟩ deep n b) f3 f4 deep 0 (n + 1) (b + f2.length) (bad || !own) := by
  rw [addT_eq]
  cases bad with
  | true =>
    refine .inl ⟨rfl, if_neg ?_⟩
    rw [Bool.or_eq_true, Bool.or_eq_true] at hbad
    rintro ⟨h1, h2, h3, _⟩
    rcases hbad with h | h | h
    · have := of_decide_eq_true h; omega
    · have := of_decide_eq_true h; simp only at h2; omega
    · have := of_decide_eq_true h; omega
  | false =>
    rw [Bool.or_eq_false_iff, Bool.or_eq_false_iff] at hbad
    have g1 := of_decide_eq_false hbad.1
    have g2 := of_decide_eq_false hbad.2.1
    have g3 := of_decide_eq_false hbad.2.2
    cases own with
    | false => exact .inl ⟨rfl, if_neg fun h => by rw [hown] at h; exact Bool.false_ne_true h.2.2.2⟩
    | true => exact .inr ⟨rfl, if_pos ⟨by omega, by simp only; omega, by omega, hown⟩, by omega, by omega, by omega, by omega, by omega, ownB_len _ hown⟩
theorem loop_end {R : Option (Int × Int)} {f3 : List ByteArray} {f4 : List S26} {deep : Int} {n b : Int} {wr : Bool} (h : LoopInv R f3 f4 deep f4.length n b wr) : OkRes R n b wr := by
  rcases h with ⟨rfl, rfl⟩ | ⟨rfl, h, h1, h2, h3, h4, _, h6⟩
  · rfl
  · rw [List.drop_eq_nil_of_le (Nat.le_refl _), addL] at h
    subst h
    exact ⟨rfl, rfl, rfl, h1, h2, h3, h4⟩
theorem loop_next {R : Option (Int × Int)} {f3 : List ByteArray} {f4 : List S26} {deep : Int} {i : Nat} {n b : Int} (hi : i < f4.length) (h : LoopInv R f3 f4 deep i n b false) (z : S26) :
    R = (if H.nameOf (f3.getD i ByteArray.empty) = true ∧ (∀ q, prevOf f3 i = some q → Op.bytesLess q.toList (f3.getD i ByteArray.empty).toList = true) then (addT (f4.getD i z) (deep + 1) n b).bind fun r => addL (prevOf f3 (i + 1)) (f3.drop (i + 1)) (f4.drop (i + 1)) deep r.1 r.2 else none)
      ∧ 0 ≤ n ∧ n ≤ 4096 ∧ 0 ≤ b ∧ b ≤ 65536 ∧ deep ≤ 16 ∧ f3.length = f4.length := by
  rcases h with ⟨h, _⟩ | ⟨_, h, hr⟩
  · cases h
  · refine ⟨?_, hr⟩
    have hl := hr.2.2.2.2.2
    have hi3 : i < f3.length := by omega
    rw [List.drop_eq_getElem_cons hi, List.drop_eq_getElem_cons hi3, addL] at h
    rw [h]
    have e3 : f3.getD i ByteArray.empty = f3[i] := by simp [List.getD_eq_getElem?_getD, hi3]
    have e4 : f4.getD i z = f4[i] := by simp [List.getD_eq_getElem?_getD, hi]
    have ep : prevOf f3 (i + 1) = some f3[i] := by unfold prevOf; rw [if_neg (by omega), Nat.add_sub_cancel, e3]
    rw [e3, e4, ep]

theorem name_is (s : ByteArray) (b : Bool) (h : H.nameOf s = b) (w : World) : Calls Tryd.prog 15 #[.string s] w fun e w' => e = .returned (.bool b) ∧ Below w.heap.size w w' := by
  subst h
  exact H.name_calls s w
theorem loop_back {R : Option (Int × Int)} {f3 : List ByteArray} {f4 : List S26} {deep : Int} {i : Nat} {r : Option (Int × Int)} (hR : R = r.bind fun r => addL (prevOf f3 (i + 1)) (f3.drop (i + 1)) (f4.drop (i + 1)) deep r.1 r.2) {n b : Int} {wr : Bool} (h : OkRes r n b wr) (hd : deep ≤ 16) (hl : f3.length = f4.length) : LoopInv R f3 f4 deep (i + 1) n b wr := by
  cases r with
  | none => exact .inl ⟨h, hR⟩
  | some q =>
    obtain ⟨rfl, rfl, rfl, h1, h2, h3, h4⟩ := h
    exact .inr ⟨rfl, hR, h1, h2, h3, h4, hd, hl⟩
theorem cell_low {w w2 : World} {a : Addr} {v : Value} (h : w.cell? a = some v) (hb : Below w.heap.size w w2) : w2.cell? a = some v := (hb.cell (World.block_lt_of_cell? _ _ h)).trans h
structure St (w0 w wx : World) (g gb : Nat) (cs : Array Value) (n b : Int) (wr : Bool) : Prop where
  blk : wx.heap[g]? = some (.cells #[.int .i64 n, .int .i64 b, .bool wr] 54 (0, 0))
  box : wx.heap[gb]? = some (.cells cs 26 (0, 0))
  low : Below w0.heap.size w0 wx
  keep : KeepBut w wx g none
  ge : w0.heap.size ≤ g
theorem St.ne {w0 w wx : World} {g gb : Nat} {cs : Array Value} {n b : Int} {wr : Bool} (h : St w0 w wx g gb cs n b wr) : gb ≠ g := blk_ne h.box h.blk (by decide)
theorem St.first {w0 w : World} {g : Nat} {n b : Int} (hg : w.heap[g]? = some (.cells #[.int .i64 n, .int .i64 b, .bool false] 54 (0, 0))) (hB : Below w0.heap.size w0 w) (hgw : w0.heap.size ≤ g) (cs : Array Value) (x : Int) :
    St w0 w ((w.setCell ⟨g, 0, none⟩ (.int .i64 x)).alloc (.cells cs 26)) g w.heap.size cs x b false := by
  have hs : (w.setCell ⟨g, 0, none⟩ (.int .i64 x)).heap.size = w.heap.size := by simp
  refine ⟨?_, ?_, ?_, ?_, hgw⟩
  · have h1 := blk_set hg 0 (.int .i64 x)
    exact (below_alloc (Below.refl _ _) _).block g (by rw [hs]; exact blk_lt hg) |>.trans h1
  · have := heap_alloc_new (w.setCell ⟨g, 0, none⟩ (.int .i64 x)) (.cells cs 26)
    rw [hs] at this
    exact this
  · exact below_alloc (below_set hB hgw) _
  · exact KeepBut.trans ((KeepBut.refl w g none).set_ 0 _) (KeepBut.of_below (below_alloc (Below.refl _ _) _) g none) (.inl rfl)
theorem St.set0 {w0 w wx : World} {g gb : Nat} {cs : Array Value} {n b : Int} {wr : Bool} (h : St w0 w wx g gb cs n b wr) (x : Int) : St w0 w (wx.setCell ⟨g, 0, none⟩ (.int .i64 x)) g gb cs x b wr :=
  ⟨by simpa using blk_set h.blk 0 (.int .i64 x), blk_far h.box h.ne _, below_set h.low h.ge, h.keep.set_ _ _, h.ge⟩
theorem St.set1 {w0 w wx : World} {g gb : Nat} {cs : Array Value} {n b : Int} {wr : Bool} (h : St w0 w wx g gb cs n b wr) (x : Int) : St w0 w (wx.setCell ⟨g, 1, none⟩ (.int .i64 x)) g gb cs n x wr :=
  ⟨by simpa using blk_set h.blk 1 (.int .i64 x), blk_far h.box h.ne _, below_set h.low h.ge, h.keep.set_ _ _, h.ge⟩
theorem St.set2 {w0 w wx : World} {g gb : Nat} {cs : Array Value} {n b : Int} {wr : Bool} (h : St w0 w wx g gb cs n b wr) (x : Bool) : St w0 w (wx.setCell ⟨g, 2, none⟩ (.bool x)) g gb cs n b x :=
  ⟨by simpa using blk_set h.blk 2 (.bool x), blk_far h.box h.ne _, below_set h.low h.ge, h.keep.set_ _ _, h.ge⟩
theorem St.below {w0 w wx w2 : World} {g gb : Nat} {cs : Array Value} {n b : Int} {wr : Bool} (h : St w0 w wx g gb cs n b wr) (hb : Below wx.heap.size wx w2) : St w0 w w2 g gb cs n b wr :=
  ⟨(hb.block _ (blk_lt h.blk)).trans h.blk, (hb.block _ (blk_lt h.box)).trans h.box, below_then h.low h.low.size hb, h.keep.trans (KeepBut.of_below hb g none) (.inl rfl), h.ge⟩
theorem St.drew {w0 w wx : World} {g gb : Nat} {cs : Array Value} {n b : Int} {wr : Bool} (h : St w0 w wx g gb cs n b wr) : St w0 w wx.drew g gb cs n b wr := h.below (below_drew (Below.refl _ _))
theorem St.drewN {w0 w wx : World} {g gb : Nat} {cs : Array Value} {n b : Int} {wr : Bool} (h : St w0 w wx g gb cs n b wr) (k : Nat) : St w0 w (wx.drewN k) g gb cs n b wr := h.below (pw_below_drewN (Below.refl _ _) k)
theorem St.call {w0 w wx w2 : World} {g gb : Nat} {cs : Array Value} {n b : Int} {wr : Bool} (h : St w0 w wx g gb cs n b wr) {n' b' : Int} {wr' : Bool} (hb : w2.heap[g]? = some (.cells #[.int .i64 n', .int .i64 b', .bool wr'] 54 (0, 0))) (hl : Below w0.heap.size w0 w2) (hk : KeepBut wx w2 g none) : St w0 w w2 g gb cs n' b' wr' :=
  ⟨hb, hk.blk h.box h.ne (by simp), hl, h.keep.trans hk (.inl rfl), h.ge⟩

theorem St.low2 {w0 w wx w2 : World} {g gb : Nat} {cs : Array Value} {n b : Int} {wr : Bool} {a1 a2 : Addr} {v1 v2 : Value} (h : St w0 w wx g gb cs n b wr ∧ wx.cell? a1 = some v1 ∧ wx.cell? a2 = some v2) (hb : Below wx.heap.size wx w2) : St w0 w w2 g gb cs n b wr ∧ w2.cell? a1 = some v1 ∧ w2.cell? a2 = some v2 :=
  ⟨h.1.below hb, cell_low h.2.1 hb, cell_low h.2.2 hb⟩
set_option maxHeartbeats 4000000 in
set_option maxRecDepth 100000 in
theorem add_walk (m : Nat) (ih : ∀ (t : S26) (_ : SizeOf.sizeOf t < m) (A2 : Option Addr) (c2 : Nat) (A3 : Option Addr) (c3 : Nat) (A4 : Option Addr) (c4 : Nat) (deep n b : Int) (g : Nat) (w0 w : World)
      (_ : Kd.C (Kd.int .u8) w0 A2 t.f2.length t.f2) (_ : t.f2.length ≤ c2) (_ : Kd.C Kd.string w0 A3 t.f3.length t.f3) (_ : t.f3.length ≤ c3) (_ : Kd.C k26 w0 A4 t.f4.length t.f4) (_ : t.f4.length ≤ c4)
      (_ : smallT t = true) (_ : 0 ≤ deep) (_ : deep ≤ 17) (_ : 0 ≤ n) (_ : n ≤ 4096) (_ : 0 ≤ b) (_ : b ≤ 65536) (_ : Below w0.heap.size w0 w) (_ : w0.heap.size ≤ g) (_ : w.heap[g]? = some (.cells #[.int .i64 n, .int .i64 b, .bool false] 54 (0, 0))),
      Calls Tryd.prog 29 #[.pointer (some ⟨g, 0, none⟩), .agg #[.int .u8 t.f0, .bool t.f1, .slice A2 t.f2.length c2, .slice A3 t.f3.length c3, .slice A4 t.f4.length c4], .int .i64 deep] w (Counted w0 w g (addT t deep n b)))
    (f0 : Int) (f1 : Bool) (f2 : List Int) (f3 : List ByteArray) (f4 : List S26) (hm : SizeOf.sizeOf (⟨f0, f1, f2, f3, f4⟩ : S26) ≤ m) (A2 : Option Addr) (c2 : Nat) (A3 : Option Addr) (c3 : Nat) (A4 : Option Addr) (c4 : Nat) (deep n b : Int) (g : Nat) (w0 w : World)
      (hr2 : Kd.C (Kd.int .u8) w0 A2 f2.length f2) (hc2 : f2.length ≤ c2) (hr3 : Kd.C Kd.string w0 A3 f3.length f3) (hc3 : f3.length ≤ c3) (hr4 : Kd.C k26 w0 A4 f4.length f4) (hc4 : f4.length ≤ c4)
      (hsm : smallT ⟨f0, f1, f2, f3, f4⟩ = true) (hd0 : 0 ≤ deep) (hd1 : deep ≤ 17) (hn0 : 0 ≤ n) (hn1 : n ≤ 4096) (hb0 : 0 ≤ b) (hb1 : b ≤ 65536) (hB : Below w0.heap.size w0 w) (hgw : w0.heap.size ≤ g) (hg : w.heap[g]? = some (.cells #[.int .i64 n, .int .i64 b, .bool false] 54 (0, 0))) (R : Option (Int × Int)) (hR : addT ⟨f0, f1, f2, f3, f4⟩ deep n b = R) :
      Calls Tryd.prog 29 #[.pointer (some ⟨g, 0, none⟩), .agg #[.int .u8 f0, .bool f1, .slice A2 f2.length c2, .slice A3 f3.length c3, .slice A4 f4.length c4], .int .i64 deep] w (Counted w0 w g R) := by
  have HRE := Lib.hid hR
  clear hR
  have hmx2 : f2.length ≤ 9223372036854775807 := Kd.C_max hr2
  have hmx3 : f3.length ≤ 9223372036854775807 := Kd.C_max hr3
  have hmx4 : f4.length ≤ 9223372036854775807 := Kd.C_max hr4
  rw [smallT_eq, Bool.and_eq_true, smallB, Bool.and_eq_true, Bool.and_eq_true] at hsm
  have hl2 : f2.length ≤ 140737488351232 := of_decide_eq_true hsm.1.1
  have hl3 : f3.length ≤ 140737488351232 := of_decide_eq_true hsm.1.2.1
  have hl4 : f4.length ≤ 140737488351232 := of_decide_eq_true hsm.1.2.2
  have HSM := Lib.hid hsm.2
  clear hsm
  have IH := Lib.hid ih
  have HR2 := Lib.hid hr2
  have HR3 := Lib.hid hr3
  have HR4 := Lib.hid hr4
  have HB := Lib.hid hB
  have hglt := blk_lt hg
  have hgs : g < w.heap.size := hglt
  have HG := Lib.hid hg
  have HM := Lib.hid hm
  have z0 : w.cell? ⟨g, 0, none⟩ = some (.int .i64 n) := (blk_cell hg 0).trans rfl
  have z1 : w.cell? ⟨g, 1, none⟩ = some (.int .i64 b) := (blk_cell hg 1).trans rfl
  have z2 : w.cell? ⟨g, 2, none⟩ = some (.bool false) := (blk_cell hg 2).trans rfl
  have y0 := blk_frozen hg 0
  have y1 := blk_frozen hg 1
  have y2 := blk_frozen hg 2
  clear ih hr2 hr3 hr4 hB hg hm
  have hu26 := Tryd.underlying26
  have hu54 := Tryd.underlying54
  go_enter Tryd.func29, Tryd.ntmps29
  go_wp2_with fail
  have ST := Lib.hid (St.first HG.out HB.out hgw #[.int .u8 f0, .bool f1, .slice A2 f2.length c2, .slice A3 f3.length c3, .slice A4 f4.length c4] (n + 1))
  clear z0 z1 z2 y0 y1 y2 hgs hglt HG
  generalize (w.setCell ⟨g, 0, none⟩ (.int .i64 (n + 1))).alloc (.cells #[.int .u8 f0, .bool f1, .slice A2 f2.length c2, .slice A3 f3.length c3, .slice A4 f4.length c4] 26) = W1 at *
  generalize w.heap.size = gb at *
  have z0 : W1.cell? ⟨g, 0, none⟩ = some (.int .i64 (n + 1)) := (blk_cell ST.out.blk 0).trans rfl
  have z1 : W1.cell? ⟨g, 1, none⟩ = some (.int .i64 b) := (blk_cell ST.out.blk 1).trans rfl
  have z2 : W1.cell? ⟨g, 2, none⟩ = some (.bool false) := (blk_cell ST.out.blk 2).trans rfl
  have x2 : W1.cell? ⟨gb, 2, none⟩ = some (.slice A2 f2.length c2) := (blk_cell ST.out.box 2).trans rfl
  have y1 := blk_frozen ST.out.blk 1
  have hs1 : b + (f2.length : Int) ≤ 9223372036854775807 := by omega
  have hs2 : (0 : Int) ≤ (f2.length : Int) := by omega
  refine start_ (n := 11) (S := fun w' => w'.cell? ⟨g, 1, none⟩ = some (.int .i64 b) ∧ w'.cell? ⟨gb, 2, none⟩ = some (.slice A2 f2.length c2)) (ds := [10]) #[false, false, false, false, false, false, false, false, false, false, false] (by kernel_rfl) rfl rfl ⟨z1, x2⟩ (fun hHeld => ?_)
  refine pure_ (i := 0) (N := some 14) (v := ?_) (a' := ?_) #[true, false, false, false, false, false, false, false, false, false, false] rfl rfl (by kernel_rfl) (fun _ _ _ h => h) (Or.inl ⟨by rfl, ?_⟩) ?_ ?_
  rotate_left
  · intro w'
    go_simp
    with_reducible rfl
  rotate_left
  · simp only [Act.put, List.setIfInBounds_toArray, List.set_cons_zero, List.set_cons_succ, i64_w, i32_w]
    rfl
  refine pure_ (i := 1) (N := some 15) (v := ?_) (a' := ?_) #[true, true, false, false, false, false, false, false, false, false, false] rfl rfl (by kernel_rfl) (fun _ _ _ h => h) (Or.inl ⟨by rfl, ?_⟩) ?_ ?_
  rotate_left
  · intro w'
    go_simp
    with_reducible rfl
  rotate_left
  · simp only [Act.put, List.setIfInBounds_toArray, List.set_cons_zero, List.set_cons_succ, i64_w, i32_w]
    rfl
  refine pure_ (i := 2) (N := some 16) (v := ?_) (a' := ?_) #[true, true, true, false, false, false, false, false, false, false, false] rfl rfl (by kernel_rfl) (fun _ _ _ h => h) (Or.inl ⟨by rfl, ?_⟩) ?_ ?_
  rotate_left
  · intro w'
    go_simp
    with_reducible rfl
  rotate_left
  · simp only [Act.put, List.setIfInBounds_toArray, List.set_cons_zero, List.set_cons_succ, i64_w, i32_w]
    rfl
  refine pure_ (i := 4) (N := some 18) (v := ?_) (a' := ?_) #[true, true, true, false, true, false, false, false, false, false, false] rfl rfl (by kernel_rfl) (fun _ _ _ h => h) (Or.inl ⟨by rfl, ?_⟩) ?_ ?_
  rotate_left
  · intro w'
    go_simp
    with_reducible rfl
  rotate_left
  · simp only [Act.put, List.setIfInBounds_toArray, List.set_cons_zero, List.set_cons_succ, i64_w, i32_w]
    rfl
  refine take_ (i := 3) (N := some 17) (v := ?_) (a' := ?_) #[true, true, true, true, true, false, false, false, false, false, false] rfl rfl (by kernel_rfl) (fun _ _ _ h => h) (Or.inl ⟨by rfl, ?_⟩) hHeld ?_ ?_
  rotate_left
  · rintro w' ⟨s0, s1⟩
    go_simp
    with_reducible rfl
  rotate_left
  · simp only [Act.put, List.setIfInBounds_toArray, List.set_cons_zero, List.set_cons_succ, i64_w, i32_w]
    rfl
  refine take_ (i := 5) (N := some 19) (v := ?_) (a' := ?_) #[true, true, true, true, true, true, false, false, false, false, false] rfl rfl (by kernel_rfl) (fun _ _ _ h => h) (Or.inl ⟨by rfl, ?_⟩) hHeld ?_ ?_
  rotate_left
  · rintro w' ⟨s0, s1⟩
    go_simp
    with_reducible rfl
  rotate_left
  · simp only [Act.put, List.setIfInBounds_toArray, List.set_cons_zero, List.set_cons_succ, i64_w, i32_w]
    rfl
  refine pure_ (i := 6) (N := some 20) (v := ?_) (a' := ?_) #[true, true, true, true, true, true, true, false, false, false, false] rfl rfl (by kernel_rfl) (fun _ _ _ h => h) (Or.inl ⟨by rfl, ?_⟩) ?_ ?_
  rotate_left
  · intro w'
    go_simp
    with_reducible rfl
  rotate_left
  · simp only [Act.put, List.setIfInBounds_toArray, List.set_cons_zero, List.set_cons_succ, i64_w, i32_w]
    rfl
  refine pure_ (i := 7) (N := some 21) (v := ?_) (a' := ?_) #[true, true, true, true, true, true, true, true, false, false, false] rfl rfl (by kernel_rfl) (fun _ _ _ h => h) (Or.inl ⟨by rfl, ?_⟩) ?_ ?_
  rotate_left
  · intro w'
    go_simp
    with_reducible rfl
  rotate_left
  · simp only [Act.put, List.setIfInBounds_toArray, List.set_cons_zero, List.set_cons_succ, i64_w, i32_w]
    rfl
  refine pure_ (i := 8) (N := some 22) (v := ?_) (a' := ?_) #[true, true, true, true, true, true, true, true, true, false, false] rfl rfl (by kernel_rfl) (fun _ _ _ h => h) (Or.inl ⟨by rfl, ?_⟩) ?_ ?_
  rotate_left
  · intro w'
    go_simp
    with_reducible rfl
  rotate_left
  · simp only [Act.put, List.setIfInBounds_toArray, List.set_cons_zero, List.set_cons_succ, i64_w, i32_w]
    rfl
  refine pure_ (i := 9) (N := some 23) (v := ?_) (a' := ?_) #[true, true, true, true, true, true, true, true, true, true, false] rfl rfl (by kernel_rfl) (fun _ _ _ h => h) (Or.inl ⟨by rfl, ?_⟩) ?_ ?_
  rotate_left
  · intro w'
    go_simp
    with_reducible rfl
  rotate_left
  · simp only [Act.put, List.setIfInBounds_toArray, List.set_cons_zero, List.set_cons_succ, i64_w, i32_w]
    rfl
  refine last_ (i := 10) (N := none) #[true, true, true, true, true, true, true, true, true, true, true] rfl rfl (by kernel_rfl) (by decide) (fun K hK => ?_)
  refine skip_ (w1 := ?_) (by rfl) rfl ?_ ?_
  rotate_left
  · go_simp
    rfl
  refine hK.out _ _ ?_
  clear hK K
  refine done_ (by kernel_rfl) ?_
  rw [show wrap64 (b + (f2.length : Int)) = b + (f2.length : Int) from by unfold wrap64; omega]
  go_upto_region 3 with fail
  have ST2 := Lib.hid (St.drew (St.set1 ST.out (b + f2.length)))
  generalize (W1.setCell ⟨g, 1, none⟩ (.int .i64 (b + (f2.length : Int)))).drew = W2 at *
  clear z0 z1 z2 x2 y1 ST
  obtain ⟨bad, hbad⟩ : ∃ bad : Bool, (decide (4096 < n + 1) || (decide (65536 < b + (f2.length : Int)) || decide (16 < deep))) = bad := ⟨_, rfl⟩
  go_cut [39] (fun v39 wx => v39 = .bool bad ∧ wx = W2)
  case first => as_aux_lemma =>
    have z0 : W2.cell? ⟨g, 0, none⟩ = some (.int .i64 (n + 1)) := (blk_cell ST2.out.blk 0).trans rfl
    have z1 : W2.cell? ⟨g, 1, none⟩ = some (.int .i64 (b + (f2.length : Int))) := (blk_cell ST2.out.blk 1).trans rfl
    cases k1 : decide (4096 < n + 1) with
    | true =>
      obtain rfl : bad = true := by rw [← hbad, k1]; rfl
      clear hbad
      go_wp2_with fail
      go_meet
      case rel => exact ⟨rfl, rfl⟩
    | false =>
      cases k2 : decide (65536 < b + (f2.length : Int)) with
      | true =>
        obtain rfl : bad = true := by rw [← hbad, k1, k2]; rfl
        clear hbad
        go_wp2_with fail
        go_meet
        case rel => exact ⟨rfl, rfl⟩
      | false =>
        obtain rfl : bad = decide (16 < deep) := by rw [← hbad, k1, k2]; rfl
        clear hbad
        go_wp2_with fail
        go_meet
        case rel => exact ⟨rfl, rfl⟩
  case rest =>
    obtain ⟨rfl, rfl⟩ := hcut
    have HBAD := Lib.hid hbad
    clear hbad
    go_upto_if 39 with fail
    go_cut [] (fun wx => St w0 w wx g gb #[.int .u8 f0, .bool f1, .slice A2 f2.length c2, .slice A3 f3.length c3, .slice A4 f4.length c4] (n + 1) (b + f2.length) bad)
    case first => as_aux_lemma =>
      have z2 : wc.cell? ⟨g, 2, none⟩ = some (.bool false) := (blk_cell ST2.out.blk 2).trans rfl
      have y2 := blk_frozen ST2.out.blk 2
      cases bad
      · go_wp2_with fail
        go_meet
        case rel => exact ST2.out
      · go_wp2_with fail
        go_meet
        case rel => exact St.set2 ST2.out true
    case rest =>
      have ST3 := Lib.hid hcut
      clear hcut ST2
      have w0' : wc.cell? ⟨gb, 0, none⟩ = some (.int .u8 f0) := (blk_cell ST3.out.box 0).trans rfl
      go_upto_block 0 with fail
      obtain ⟨own, hown⟩ : ∃ own : Bool, ownB ⟨f0, f1, f2, f3, f4⟩ = own := ⟨_, rfl⟩
      have HOWN := Lib.hid hown
      clear hown
      go_cut [] (fun wx => St w0 w wx g gb #[.int .u8 f0, .bool f1, .slice A2 f2.length c2, .slice A3 f3.length c3, .slice A4 f4.length c4] (n + 1) (b + f2.length) (bad || !own))
      case first => as_aux_lemma =>
        have z2 : wc.cell? ⟨g, 2, none⟩ = some (.bool bad) := (blk_cell ST3.out.blk 2).trans rfl
        have y2 := blk_frozen ST3.out.blk 2
        have w1' : wc.cell? ⟨gb, 1, none⟩ = some (.bool f1) := (blk_cell ST3.out.box 1).trans rfl
        have w2' : wc.cell? ⟨gb, 2, none⟩ = some (.slice A2 f2.length c2) := (blk_cell ST3.out.box 2).trans rfl
        have w3' : wc.cell? ⟨gb, 3, none⟩ = some (.slice A3 f3.length c3) := (blk_cell ST3.out.box 3).trans rfl
        have w4' : wc.cell? ⟨gb, 4, none⟩ = some (.slice A4 f4.length c4) := (blk_cell ST3.out.box 4).trans rfl
        by_cases e1 : f0 = 1
        · subst e1
          cases bad
          · cases k1 : decide ((0 : Int) < (f3.length : Int) + (f4.length : Int))
            · obtain rfl : own = true := by rw [← HOWN.out, own1]; have := of_decide_eq_false k1; exact decide_eq_true (by omega)
              go_wp2_with fail
              go_meet
              case rel => exact St.set2 ST3.out _
            · obtain rfl : own = false := by rw [← HOWN.out, own1]; have := of_decide_eq_true k1; exact decide_eq_false (by omega)
              go_wp2_with fail
              go_meet
              case rel => exact St.set2 ST3.out _
          · go_wp2_with fail
            go_meet
            case rel => exact St.set2 ST3.out _
        · have k0 : (f0 == 1) = false := beq_eq_false_iff_ne.2 e1
          by_cases e2 : f0 = 2
          · subst e2
            clear e1 k0
            cases bad
            · cases k1 : decide ((0 : Int) < (f3.length : Int) + (f4.length : Int))
              · cases f1 with
                | true =>
                  obtain rfl : own = false := by rw [← HOWN.out, own2]; simp
                  go_wp2_with fail
                  go_meet
                  case rel => exact St.set2 ST3.out _
                | false =>
                  cases k3 : ((f2.length : Int) == 0)
                  · cases k4 : decide ((400 : Int) < (f2.length : Int))
                    · have k3' := beq_eq_false_iff_ne.1 k3
                      have k4' := of_decide_eq_false k4
                      have k1' := of_decide_eq_false k1
                      obtain ⟨r, hr⟩ : ∃ r : Int, H.byteAt f2 0 = r := ⟨_, rfl⟩
                      have hnew : own = !decide (0 ≤ r) := by
                        rw [← HOWN.out, own2, hr, decide_eq_true (show f3.length + f4.length = 0 by omega), decide_eq_true (show f2.length ≠ 0 by omega), decide_eq_true (show f2.length ≤ 400 by omega)]
                        by_cases hh : r < 0
                        · rw [decide_eq_true hh, decide_eq_false (show ¬ 0 ≤ r by omega)]; rfl
                        · rw [decide_eq_false hh, decide_eq_true (show 0 ≤ r by omega)]; rfl
                      have HNEW := Lib.hid hnew
                      have HRR := Lib.hid hr
                      clear hnew hr k3' k4' k1'
                      go_wp2_with fail
                      refine (H.bindex_calls A2 c2 f2 0 wc (Kd.C_below HR2.out ST3.out.low) hc2).mono ?_
                      rintro e w' ⟨rfl, ⟨nq, rfl⟩⟩
                      rw [HRR.out]
                      have y2' := blk_frozen (St.drewN ST3.out nq).blk 2
                      cases k5 : decide (0 ≤ r)
                      · rw [k5] at HNEW
                        go_wp2_with fail
                        go_meet
                        case rel => rw [HNEW.out]; exact St.set2 (St.drewN ST3.out nq) _
                      · rw [k5] at HNEW
                        go_wp2_with fail
                        go_meet
                        case rel => rw [HNEW.out]; exact St.set2 (St.drewN ST3.out nq) _
                    · obtain rfl : own = false := by
                        rw [← HOWN.out, own2]
                        have := of_decide_eq_true k4
                        rw [decide_eq_false (show ¬ f2.length ≤ 400 by omega)]
                        simp
                      go_wp2_with fail
                      go_meet
                      case rel => exact St.set2 ST3.out _
                  · obtain rfl : own = false := by
                      rw [← HOWN.out, own2]
                      have := beq_iff_eq.1 k3
                      rw [decide_eq_false (show ¬ f2.length ≠ 0 by omega)]
                      simp
                    go_wp2_with fail
                    go_meet
                    case rel => exact St.set2 ST3.out _
              · obtain rfl : own = false := by
                  rw [← HOWN.out, own2]
                  have := of_decide_eq_true k1
                  rw [decide_eq_false (show ¬ f3.length + f4.length = 0 by omega)]
                  simp
                go_wp2_with fail
                go_meet
                case rel => exact St.set2 ST3.out _
            · go_wp2_with fail
              go_meet
              case rel => exact St.set2 ST3.out _
          · have k0' : (f0 == 2) = false := beq_eq_false_iff_ne.2 e2
            by_cases e3 : f0 = 3
            · subst e3
              clear e1 k0 e2 k0'
              cases bad
              · cases k1 : ((f3.length : Int) != (f4.length : Int))
                · have k1' : f3.length = f4.length := by have := bne_eq_false_iff_eq.1 k1; omega
                  have k1'' : (f3.length != f4.length) = false := by rw [bne_eq_false_iff_eq]; exact k1'
                  cases f1 with
                  | true =>
                    obtain rfl : own = false := by rw [← HOWN.out, own3]; simp
                    clear k1'
                    go_wp2_with fail
                    go_meet
                    case rel => exact St.set2 ST3.out _
                  | false =>
                    cases k3 : decide (0 < f2.length)
                    · obtain rfl : own = true := by
                        rw [← HOWN.out, own3]
                        have := of_decide_eq_false k3
                        rw [decide_eq_true k1', decide_eq_true (show f2.length = 0 by omega)]
                        rfl
                      clear k1'
                      go_wp2_with fail
                      go_meet
                      case rel => exact St.set2 ST3.out _
                    · obtain rfl : own = false := by
                        rw [← HOWN.out, own3]
                        have := of_decide_eq_true k3
                        rw [decide_eq_false (show ¬ f2.length = 0 by omega)]
                        simp
                      clear k1'
                      go_wp2_with fail
                      go_meet
                      case rel => exact St.set2 ST3.out _
                · have k1' : ¬ f3.length = f4.length := by have := bne_iff_ne.1 k1; omega
                  have k1'' : (f3.length != f4.length) = true := by rw [bne_iff_ne]; exact k1'
                  obtain rfl : own = false := by
                    rw [← HOWN.out, own3, decide_eq_false k1']
                    simp
                  go_wp2_with fail
                  go_meet
                  case rel => exact St.set2 ST3.out _
              · go_wp2_with fail
                go_meet
                case rel => exact St.set2 ST3.out _
            · have k0'' : (f0 == 3) = false := beq_eq_false_iff_ne.2 e3
              obtain rfl : own = false := by rw [← HOWN.out]; exact own4 f0 f1 f2 f3 f4 e1 e2 e3
              go_wp2_with fail
              go_meet
              case rel => rw [show (bad || !false) = true from by cases bad <;> rfl]; exact St.set2 ST3.out _
      case rest =>
        have ST4 := Lib.hid hcut
        clear hcut ST3 w0'
        have LI := Lib.hid (loop_start f0 f1 f2 f3 f4 deep n b hn0 hb0 bad own HBAD.out HOWN.out)
        clear HBAD HOWN
        generalize (bad || !own) = wr4 at *
        rw [HRE.out] at LI
        clear HRE
        obtain ⟨nq, hnq⟩ : ∃ nq, n + 1 = nq := ⟨_, rfl⟩
        obtain ⟨bq, hbq⟩ : ∃ bq, b + (f2.length : Int) = bq := ⟨_, rfl⟩
        rw [hnq, hbq] at LI ST4
        clear hnq hbq hn0 hn1 hb0 hb1 hs1
        have w4' : wc.cell? ⟨gb, 4, none⟩ = some (.slice A4 f4.length c4) := (blk_cell ST4.out.box 4).trans rfl
        go_wp2_with fail
        go_loopg [6, 139] f4.length (fun gk _ v139 wx => ∃ (i : Nat) (n' b' : Int) (wr' : Bool), v139 = .int .i64 i ∧ i + gk = f4.length ∧ St w0 w wx g gb #[.int .u8 f0, .bool f1, .slice A2 f2.length c2, .slice A3 f3.length c3, .slice A4 f4.length c4] n' b' wr' ∧ LoopInv R f3 f4 deep i n' b' wr')
        case atStart => exact ⟨0, nq, bq, wr4, rfl, by omega, ST4.out, LI.out⟩
        case round =>
          clear ST4 LI w4'
          obtain ⟨i, n', b', wr', rfl, hik, hst, hli⟩ := hrel
          have ST := Lib.hid hst
          have LI := Lib.hid hli
          clear hst hli
          cases gk with
          | zero =>
            obtain rfl : i = f4.length := by omega
            have LE := Lib.hid (loop_end LI.out)
            clear LI
            go_wp2_with fail
            go_end0
            exact ⟨rfl, n', b', wr', ST.out.blk, LE.out, ST.out.low, ST.out.keep⟩
          | succ gk =>
            have hi : i < f4.length := by omega
            have z2 : wr.cell? ⟨g, 2, none⟩ = some (.bool wr') := (blk_cell ST.out.blk 2).trans rfl
            cases wr' with
            | true =>
              have hok : OkRes R n' b' true := by
                rcases LI.out with ⟨_, h⟩ | ⟨h, _⟩
                · rw [h]; rfl
                · cases h
              have OK := Lib.hid hok
              clear hok
              go_wp2_with fail
              go_end0
              exact ⟨rfl, n', b', true, ST.out.blk, OK.out, ST.out.low, ST.out.keep⟩
            | false =>
              obtain ⟨hnext, p1, p2, p3, p4, p5, hlen⟩ := loop_next hi LI.out z26
              have NX := Lib.hid hnext
              have HLEN := Lib.hid hlen
              have hi3 : i < f3.length := by omega
              clear hnext LI hlen
              obtain ⟨ad3, e3, hx3⟩ := Kd.at_string HR3.out (i : Int) (by omega) (by omega)
              cases e3
              replace hx3 := (ST.out.low.cell (World.block_lt_of_cell? w0 _ hx3)).trans hx3
              rw [Int.toNat_natCast] at hx3
              have hxe : rdOf ByteArray.empty f3 (i : Int) = f3.getD i ByteArray.empty := by unfold rdOf; rw [Int.toNat_natCast]
              rw [hxe] at hx3
              clear hxe
              have w3' : wr.cell? ⟨gb, 3, none⟩ = some (.slice (some ad3) f3.length c3) := (blk_cell ST.out.box 3).trans rfl
              have j0 : (0 : Int) ≤ (i : Int) := by omega
              have j1 : (i : Int) < (f3.length : Int) := by omega
              have ST0 := ST.out
              generalize hxx : f3.getD i ByteArray.empty = x at *
              have HXX := Lib.hid hxx
              clear hxx
              cases hnm : H.nameOf x with
              | false =>
                have hRn : R = none := by rw [NX.out, if_neg (fun h => by rw [hnm] at h; exact Bool.false_ne_true h.1)]
                have HRN := Lib.hid hRn
                clear NX hRn
                have HNM := Lib.hid hnm
                clear hnm
                go_wp2_with fail
                refine start_ (n := 25) (S := fun w' => w'.cell? ⟨gb, 3, none⟩ = some (.slice (some ad3) f3.length c3) ∧ w'.cell? (ad3.add i) = some (.string x)) (ds := [5]) #[false, false, false, false, false, false, false, false, false, false, false, false, false, false, false, false, false, false, false, false, false, false, false, false, false] (by kernel_rfl) rfl rfl ⟨w3', hx3⟩ (fun hHeld => ?_)
                refine pure_ (i := 0) (N := some 146) (v := ?_) (a' := ?_) #[true, false, false, false, false, false, false, false, false, false, false, false, false, false, false, false, false, false, false, false, false, false, false, false, false] rfl rfl (by kernel_rfl) (fun _ _ _ h => h) (Or.inl ⟨by rfl, ?_⟩) ?_ ?_
                rotate_left
                · intro w'
                  go_simp
                  with_reducible rfl
                rotate_left
                · simp only [Act.put, List.setIfInBounds_toArray, List.set_cons_zero, List.set_cons_succ, i64_w, i32_w]
                  rfl
                refine pure_ (i := 2) (N := some 148) (v := ?_) (a' := ?_) #[true, false, true, false, false, false, false, false, false, false, false, false, false, false, false, false, false, false, false, false, false, false, false, false, false] rfl rfl (by kernel_rfl) (fun _ _ _ h => h) (Or.inl ⟨by rfl, ?_⟩) ?_ ?_
                rotate_left
                · intro w'
                  go_simp
                  with_reducible rfl
                rotate_left
                · simp only [Act.put, List.setIfInBounds_toArray, List.set_cons_zero, List.set_cons_succ, i64_w, i32_w]
                  rfl
                refine take_ (i := 1) (N := some 147) (v := ?_) (a' := ?_) #[true, true, true, false, false, false, false, false, false, false, false, false, false, false, false, false, false, false, false, false, false, false, false, false, false] rfl rfl (by kernel_rfl) (fun _ _ _ h => h) (Or.inl ⟨by rfl, ?_⟩) hHeld ?_ ?_
                rotate_left
                · rintro w' ⟨s0, s1⟩
                  go_simp
                  with_reducible rfl
                rotate_left
                · simp only [Act.put, List.setIfInBounds_toArray, List.set_cons_zero, List.set_cons_succ, i64_w, i32_w]
                  rfl
                refine pure_ (i := 3) (N := some 149) (v := ?_) (a' := ?_) #[true, true, true, true, false, false, false, false, false, false, false, false, false, false, false, false, false, false, false, false, false, false, false, false, false] rfl rfl (by kernel_rfl) (fun _ _ _ h => h) (Or.inl ⟨by rfl, ?_⟩) ?_ ?_
                rotate_left
                · intro w'
                  go_simp
                  with_reducible rfl
                rotate_left
                · simp only [Act.put, List.setIfInBounds_toArray, List.set_cons_zero, List.set_cons_succ, i64_w, i32_w]
                  rfl
                refine take_ (i := 4) (N := some 150) (v := ?_) (a' := ?_) #[true, true, true, true, true, false, false, false, false, false, false, false, false, false, false, false, false, false, false, false, false, false, false, false, false] rfl rfl (by kernel_rfl) (fun _ _ _ h => h) (Or.inl ⟨by rfl, ?_⟩) hHeld ?_ ?_
                rotate_left
                · rintro w' ⟨s0, s1⟩
                  go_simp
                  with_reducible rfl
                rotate_left
                · simp only [Act.put, List.setIfInBounds_toArray, List.set_cons_zero, List.set_cons_succ, i64_w, i32_w]
                  rfl
                refine last_ (i := 5) (N := some 151) #[true, true, true, true, true, true, false, false, false, false, false, false, false, false, false, false, false, false, false, false, false, false, false, false, false] rfl rfl (by kernel_rfl) (by decide) (fun K hK => ?_)
                refine goes_ Tryd.func15 (by kernel_rfl) rfl #[.string x] (by rfl) rfl rfl (by simp only [List.map_toArray, List.map_cons, List.map_nil]; rfl) ?_
                with_reducible refine (name_is x false HNM.out _).mono ?_
                rintro e w2 ⟨rfl, hb2⟩
                refine ⟨_, rfl, ?_⟩
                refine hK.out _ _ ?_
                clear hK K
                refine norm_ (a' := ?_) ?_ ?_
                rotate_left
                · show Act.put _ (some 151) _ = _
                  simp only [Act.put, List.setIfInBounds_toArray, List.set_cons_zero, List.set_cons_succ, i64_w, i32_w]
                  rfl
                refine pure_ (i := 6) (N := some 152) (v := ?_) (a' := ?_) #[true, true, true, true, true, true, true, false, false, false, false, false, false, false, false, false, false, false, false, false, false, false, false, false, false] rfl rfl (by kernel_rfl) (fun _ _ _ h => h) (Or.inl ⟨by rfl, ?_⟩) ?_ ?_
                rotate_left
                · intro w'
                  go_simp
                  with_reducible rfl
                rotate_left
                · simp only [Act.put, List.setIfInBounds_toArray, List.set_cons_zero, List.set_cons_succ, i64_w, i32_w]
                  rfl
                refine pure_ (i := 7) (N := some 153) (v := ?_) (a' := ?_) #[true, true, true, true, true, true, true, true, false, false, false, false, false, false, false, false, false, false, false, false, false, false, false, false, false] rfl rfl (by kernel_rfl) (fun _ _ _ h => h) (Or.inl ⟨by rfl, ?_⟩) ?_ ?_
                rotate_left
                · intro w'
                  go_simp
                  with_reducible rfl
                rotate_left
                · simp only [Act.put, List.setIfInBounds_toArray, List.set_cons_zero, List.set_cons_succ, i64_w, i32_w]
                  rfl
                refine pure_ (i := 8) (N := some 154) (v := undef) (a' := ?_) #[true, true, true, true, true, true, true, true, true, false, false, false, false, false, false, false, false, false, false, false, false, false, false, false, false] rfl rfl (by kernel_rfl) (fun _ _ _ h => h) (Or.inr ⟨by rfl, rfl⟩) ?_ ?_
                rotate_left
                · simp only [Act.put, List.setIfInBounds_toArray, List.set_cons_zero, List.set_cons_succ, i64_w, i32_w]
                  rfl
                refine pure_ (i := 9) (N := some 155) (v := undef) (a' := ?_) #[true, true, true, true, true, true, true, true, true, true, false, false, false, false, false, false, false, false, false, false, false, false, false, false, false] rfl rfl (by kernel_rfl) (fun _ _ _ h => h) (Or.inr ⟨by rfl, rfl⟩) ?_ ?_
                rotate_left
                · simp only [Act.put, List.setIfInBounds_toArray, List.set_cons_zero, List.set_cons_succ, i64_w, i32_w]
                  rfl
                refine pure_ (i := 10) (N := some 156) (v := undef) (a' := ?_) #[true, true, true, true, true, true, true, true, true, true, true, false, false, false, false, false, false, false, false, false, false, false, false, false, false] rfl rfl (by kernel_rfl) (fun _ _ _ h => h) (Or.inr ⟨by rfl, rfl⟩) ?_ ?_
                rotate_left
                · simp only [Act.put, List.setIfInBounds_toArray, List.set_cons_zero, List.set_cons_succ, i64_w, i32_w]
                  rfl
                refine pure_ (i := 11) (N := some 157) (v := undef) (a' := ?_) #[true, true, true, true, true, true, true, true, true, true, true, true, false, false, false, false, false, false, false, false, false, false, false, false, false] rfl rfl (by kernel_rfl) (fun _ _ _ h => h) (Or.inr ⟨by rfl, rfl⟩) ?_ ?_
                rotate_left
                · simp only [Act.put, List.setIfInBounds_toArray, List.set_cons_zero, List.set_cons_succ, i64_w, i32_w]
                  rfl
                refine pure_ (i := 12) (N := some 158) (v := undef) (a' := ?_) #[true, true, true, true, true, true, true, true, true, true, true, true, true, false, false, false, false, false, false, false, false, false, false, false, false] rfl rfl (by kernel_rfl) (fun _ _ _ h => h) (Or.inr ⟨by rfl, rfl⟩) ?_ ?_
                rotate_left
                · simp only [Act.put, List.setIfInBounds_toArray, List.set_cons_zero, List.set_cons_succ, i64_w, i32_w]
                  rfl
                refine pure_ (i := 13) (N := some 159) (v := undef) (a' := ?_) #[true, true, true, true, true, true, true, true, true, true, true, true, true, true, false, false, false, false, false, false, false, false, false, false, false] rfl rfl (by kernel_rfl) (fun _ _ _ h => h) (Or.inr ⟨by rfl, rfl⟩) ?_ ?_
                rotate_left
                · simp only [Act.put, List.setIfInBounds_toArray, List.set_cons_zero, List.set_cons_succ, i64_w, i32_w]
                  rfl
                refine pure_ (i := 14) (N := some 160) (v := undef) (a' := ?_) #[true, true, true, true, true, true, true, true, true, true, true, true, true, true, true, false, false, false, false, false, false, false, false, false, false] rfl rfl (by kernel_rfl) (fun _ _ _ h => h) (Or.inr ⟨by rfl, rfl⟩) ?_ ?_
                rotate_left
                · simp only [Act.put, List.setIfInBounds_toArray, List.set_cons_zero, List.set_cons_succ, i64_w, i32_w]
                  rfl
                refine pure_ (i := 15) (N := some 161) (v := undef) (a' := ?_) #[true, true, true, true, true, true, true, true, true, true, true, true, true, true, true, true, false, false, false, false, false, false, false, false, false] rfl rfl (by kernel_rfl) (fun _ _ _ h => h) (Or.inr ⟨by rfl, rfl⟩) ?_ ?_
                rotate_left
                · simp only [Act.put, List.setIfInBounds_toArray, List.set_cons_zero, List.set_cons_succ, i64_w, i32_w]
                  rfl
                refine pure_ (i := 16) (N := some 162) (v := undef) (a' := ?_) #[true, true, true, true, true, true, true, true, true, true, true, true, true, true, true, true, true, false, false, false, false, false, false, false, false] rfl rfl (by kernel_rfl) (fun _ _ _ h => h) (Or.inr ⟨by rfl, rfl⟩) ?_ ?_
                rotate_left
                · simp only [Act.put, List.setIfInBounds_toArray, List.set_cons_zero, List.set_cons_succ, i64_w, i32_w]
                  rfl
                refine pure_ (i := 17) (N := some 163) (v := undef) (a' := ?_) #[true, true, true, true, true, true, true, true, true, true, true, true, true, true, true, true, true, true, false, false, false, false, false, false, false] rfl rfl (by kernel_rfl) (fun _ _ _ h => h) (Or.inr ⟨by rfl, rfl⟩) ?_ ?_
                rotate_left
                · simp only [Act.put, List.setIfInBounds_toArray, List.set_cons_zero, List.set_cons_succ, i64_w, i32_w]
                  rfl
                refine pure_ (i := 18) (N := some 164) (v := undef) (a' := ?_) #[true, true, true, true, true, true, true, true, true, true, true, true, true, true, true, true, true, true, true, false, false, false, false, false, false] rfl rfl (by kernel_rfl) (fun _ _ _ h => h) (Or.inr ⟨by rfl, rfl⟩) ?_ ?_
                rotate_left
                · simp only [Act.put, List.setIfInBounds_toArray, List.set_cons_zero, List.set_cons_succ, i64_w, i32_w]
                  rfl
                refine pure_ (i := 19) (N := some 165) (v := undef) (a' := ?_) #[true, true, true, true, true, true, true, true, true, true, true, true, true, true, true, true, true, true, true, true, false, false, false, false, false] rfl rfl (by kernel_rfl) (fun _ _ _ h => h) (Or.inr ⟨by rfl, rfl⟩) ?_ ?_
                rotate_left
                · simp only [Act.put, List.setIfInBounds_toArray, List.set_cons_zero, List.set_cons_succ, i64_w, i32_w]
                  rfl
                refine pure_ (i := 20) (N := some 166) (v := undef) (a' := ?_) #[true, true, true, true, true, true, true, true, true, true, true, true, true, true, true, true, true, true, true, true, true, false, false, false, false] rfl rfl (by kernel_rfl) (fun _ _ _ h => h) (Or.inr ⟨by rfl, rfl⟩) ?_ ?_
                rotate_left
                · simp only [Act.put, List.setIfInBounds_toArray, List.set_cons_zero, List.set_cons_succ, i64_w, i32_w]
                  rfl
                refine pure_ (i := 21) (N := some 167) (v := undef) (a' := ?_) #[true, true, true, true, true, true, true, true, true, true, true, true, true, true, true, true, true, true, true, true, true, true, false, false, false] rfl rfl (by kernel_rfl) (fun _ _ _ h => h) (Or.inr ⟨by rfl, rfl⟩) ?_ ?_
                rotate_left
                · simp only [Act.put, List.setIfInBounds_toArray, List.set_cons_zero, List.set_cons_succ, i64_w, i32_w]
                  rfl
                refine pure_ (i := 22) (N := some 168) (v := undef) (a' := ?_) #[true, true, true, true, true, true, true, true, true, true, true, true, true, true, true, true, true, true, true, true, true, true, true, false, false] rfl rfl (by kernel_rfl) (fun _ _ _ h => h) (Or.inr ⟨by rfl, rfl⟩) ?_ ?_
                rotate_left
                · simp only [Act.put, List.setIfInBounds_toArray, List.set_cons_zero, List.set_cons_succ, i64_w, i32_w]
                  rfl
                refine pure_ (i := 23) (N := some 169) (v := undef) (a' := ?_) #[true, true, true, true, true, true, true, true, true, true, true, true, true, true, true, true, true, true, true, true, true, true, true, true, false] rfl rfl (by kernel_rfl) (fun _ _ _ h => h) (Or.inr ⟨by rfl, rfl⟩) ?_ ?_
                rotate_left
                · simp only [Act.put, List.setIfInBounds_toArray, List.set_cons_zero, List.set_cons_succ, i64_w, i32_w]
                  rfl
                refine pure_ (i := 24) (N := some 170) (v := ?_) (a' := ?_) #[true, true, true, true, true, true, true, true, true, true, true, true, true, true, true, true, true, true, true, true, true, true, true, true, true] rfl rfl (by kernel_rfl) (fun _ _ _ h => h) (Or.inl ⟨by rfl, ?_⟩) ?_ ?_
                rotate_left
                · intro w'
                  go_simp
                  with_reducible rfl
                rotate_left
                · simp only [Act.put, List.setIfInBounds_toArray, List.set_cons_zero, List.set_cons_succ, i64_w, i32_w]
                  rfl
                refine done_ (by kernel_rfl) ?_
                have ST2 := Lib.hid (St.below (St.drew ST0) hb2)
                have y2 := blk_frozen ST2.out.blk 2
                have z2' : w2.cell? ⟨g, 2, none⟩ = some (.bool false) := (blk_cell ST2.out.blk 2).trans rfl
                clear hb2 ST0 z2
                go_wp2_with fail
                go_end0
                have ST3 := St.set2 ST2.out true
                exact ⟨rfl, n', b', true, ST3.blk, by rw [HRN.out]; rfl, ST3.low, ST3.keep⟩
              | true =>
                have HNM := Lib.hid hnm
                clear hnm
                by_cases hi0 : i = 0
                · have hgd : decide (0 < i) = false := decide_eq_false (by omega)
                  have hNX : R = (addT (f4.getD i z26) (deep + 1) n' b').bind fun r => addL (prevOf f3 (i + 1)) (f3.drop (i + 1)) (f4.drop (i + 1)) deep r.1 r.2 := by
                    rw [NX.out, if_pos ⟨HNM.out, fun q h => by simp [prevOf, hi0] at h⟩]
                  have NX2 := Lib.hid hNX
                  clear NX hNX hi0
                  go_wp2_with fail
                  refine start_ (n := 25) (S := fun w' => w'.cell? ⟨gb, 3, none⟩ = some (.slice (some ad3) f3.length c3) ∧ w'.cell? (ad3.add i) = some (.string x)) (ds := [5]) #[false, false, false, false, false, false, false, false, false, false, false, false, false, false, false, false, false, false, false, false, false, false, false, false, false] (by kernel_rfl) rfl rfl ⟨w3', hx3⟩ (fun hHeld => ?_)
                  refine pure_ (i := 0) (N := some 146) (v := ?_) (a' := ?_) #[true, false, false, false, false, false, false, false, false, false, false, false, false, false, false, false, false, false, false, false, false, false, false, false, false] rfl rfl (by kernel_rfl) (fun _ _ _ h => h) (Or.inl ⟨by rfl, ?_⟩) ?_ ?_
                  rotate_left
                  · intro w'
                    go_simp
                    with_reducible rfl
                  rotate_left
                  · simp only [Act.put, List.setIfInBounds_toArray, List.set_cons_zero, List.set_cons_succ, i64_w, i32_w]
                    rfl
                  refine pure_ (i := 2) (N := some 148) (v := ?_) (a' := ?_) #[true, false, true, false, false, false, false, false, false, false, false, false, false, false, false, false, false, false, false, false, false, false, false, false, false] rfl rfl (by kernel_rfl) (fun _ _ _ h => h) (Or.inl ⟨by rfl, ?_⟩) ?_ ?_
                  rotate_left
                  · intro w'
                    go_simp
                    with_reducible rfl
                  rotate_left
                  · simp only [Act.put, List.setIfInBounds_toArray, List.set_cons_zero, List.set_cons_succ, i64_w, i32_w]
                    rfl
                  refine take_ (i := 1) (N := some 147) (v := ?_) (a' := ?_) #[true, true, true, false, false, false, false, false, false, false, false, false, false, false, false, false, false, false, false, false, false, false, false, false, false] rfl rfl (by kernel_rfl) (fun _ _ _ h => h) (Or.inl ⟨by rfl, ?_⟩) hHeld ?_ ?_
                  rotate_left
                  · rintro w' ⟨s0, s1⟩
                    go_simp
                    with_reducible rfl
                  rotate_left
                  · simp only [Act.put, List.setIfInBounds_toArray, List.set_cons_zero, List.set_cons_succ, i64_w, i32_w]
                    rfl
                  refine pure_ (i := 3) (N := some 149) (v := ?_) (a' := ?_) #[true, true, true, true, false, false, false, false, false, false, false, false, false, false, false, false, false, false, false, false, false, false, false, false, false] rfl rfl (by kernel_rfl) (fun _ _ _ h => h) (Or.inl ⟨by rfl, ?_⟩) ?_ ?_
                  rotate_left
                  · intro w'
                    go_simp
                    with_reducible rfl
                  rotate_left
                  · simp only [Act.put, List.setIfInBounds_toArray, List.set_cons_zero, List.set_cons_succ, i64_w, i32_w]
                    rfl
                  refine take_ (i := 4) (N := some 150) (v := ?_) (a' := ?_) #[true, true, true, true, true, false, false, false, false, false, false, false, false, false, false, false, false, false, false, false, false, false, false, false, false] rfl rfl (by kernel_rfl) (fun _ _ _ h => h) (Or.inl ⟨by rfl, ?_⟩) hHeld ?_ ?_
                  rotate_left
                  · rintro w' ⟨s0, s1⟩
                    go_simp
                    with_reducible rfl
                  rotate_left
                  · simp only [Act.put, List.setIfInBounds_toArray, List.set_cons_zero, List.set_cons_succ, i64_w, i32_w]
                    rfl
                  refine last_ (i := 5) (N := some 151) #[true, true, true, true, true, true, false, false, false, false, false, false, false, false, false, false, false, false, false, false, false, false, false, false, false] rfl rfl (by kernel_rfl) (by decide) (fun K hK => ?_)
                  refine goes_ Tryd.func15 (by kernel_rfl) rfl #[.string x] (by rfl) rfl rfl (by simp only [List.map_toArray, List.map_cons, List.map_nil]; rfl) ?_
                  with_reducible refine (name_is x true HNM.out _).mono ?_
                  rintro e w2 ⟨rfl, hb2⟩
                  refine ⟨_, rfl, ?_⟩
                  refine hK.out _ _ ?_
                  clear hK K
                  refine norm_ (a' := ?_) ?_ ?_
                  rotate_left
                  · show Act.put _ (some 151) _ = _
                    simp only [Act.put, List.setIfInBounds_toArray, List.set_cons_zero, List.set_cons_succ, i64_w, i32_w]
                    rfl
                  refine pure_ (i := 6) (N := some 152) (v := ?_) (a' := ?_) #[true, true, true, true, true, true, true, false, false, false, false, false, false, false, false, false, false, false, false, false, false, false, false, false, false] rfl rfl (by kernel_rfl) (fun _ _ _ h => h) (Or.inl ⟨by rfl, ?_⟩) ?_ ?_
                  rotate_left
                  · intro w'
                    go_simp
                    with_reducible rfl
                  rotate_left
                  · simp only [Act.put, List.setIfInBounds_toArray, List.set_cons_zero, List.set_cons_succ, i64_w, i32_w]
                    rfl
                  refine pure_ (i := 7) (N := some 153) (v := ?_) (a' := ?_) #[true, true, true, true, true, true, true, true, false, false, false, false, false, false, false, false, false, false, false, false, false, false, false, false, false] rfl rfl (by kernel_rfl) (fun _ _ _ h => h) (Or.inl ⟨by rfl, ?_⟩) ?_ ?_
                  rotate_left
                  · intro w'
                    go_simp
                    with_reducible rfl
                  rotate_left
                  · simp only [Act.put, List.setIfInBounds_toArray, List.set_cons_zero, List.set_cons_succ, i64_w, i32_w]
                    rfl
                  refine pure_ (i := 8) (N := some 154) (v := ?_) (a' := ?_) #[true, true, true, true, true, true, true, true, true, false, false, false, false, false, false, false, false, false, false, false, false, false, false, false, false] rfl rfl (by kernel_rfl) (fun _ _ _ h => h) (Or.inl ⟨by rfl, ?_⟩) ?_ ?_
                  rotate_left
                  · intro w'
                    go_simp
                    with_reducible rfl
                  rotate_left
                  · simp only [Act.put, List.setIfInBounds_toArray, List.set_cons_zero, List.set_cons_succ, i64_w, i32_w]
                    rfl
                  refine pure_ (i := 9) (N := some 155) (v := ?_) (a' := ?_) #[true, true, true, true, true, true, true, true, true, true, false, false, false, false, false, false, false, false, false, false, false, false, false, false, false] rfl rfl (by kernel_rfl) (fun _ _ _ h => h) (Or.inl ⟨by rfl, ?_⟩) ?_ ?_
                  rotate_left
                  · intro w'
                    go_simp
                    with_reducible rfl
                  rotate_left
                  · simp only [Act.put, List.setIfInBounds_toArray, List.set_cons_zero, List.set_cons_succ, i64_w, i32_w]
                    rfl
                  refine pure_ (i := 10) (N := some 156) (v := ?_) (a' := ?_) #[true, true, true, true, true, true, true, true, true, true, true, false, false, false, false, false, false, false, false, false, false, false, false, false, false] rfl rfl (by kernel_rfl) (fun _ _ _ h => h) (Or.inl ⟨by rfl, ?_⟩) ?_ ?_
                  rotate_left
                  · intro w'
                    go_simp
                    with_reducible rfl
                  rotate_left
                  · simp only [Act.put, List.setIfInBounds_toArray, List.set_cons_zero, List.set_cons_succ, i64_w, i32_w]
                    rfl
                  refine pure_ (i := 11) (N := some 157) (v := undef) (a' := ?_) #[true, true, true, true, true, true, true, true, true, true, true, true, false, false, false, false, false, false, false, false, false, false, false, false, false] rfl rfl (by kernel_rfl) (fun _ _ _ h => h) (Or.inr ⟨by rfl, rfl⟩) ?_ ?_
                  rotate_left
                  · simp only [Act.put, List.setIfInBounds_toArray, List.set_cons_zero, List.set_cons_succ, i64_w, i32_w]
                    rfl
                  refine pure_ (i := 12) (N := some 158) (v := undef) (a' := ?_) #[true, true, true, true, true, true, true, true, true, true, true, true, true, false, false, false, false, false, false, false, false, false, false, false, false] rfl rfl (by kernel_rfl) (fun _ _ _ h => h) (Or.inr ⟨by rfl, rfl⟩) ?_ ?_
                  rotate_left
                  · simp only [Act.put, List.setIfInBounds_toArray, List.set_cons_zero, List.set_cons_succ, i64_w, i32_w]
                    rfl
                  refine pure_ (i := 13) (N := some 159) (v := undef) (a' := ?_) #[true, true, true, true, true, true, true, true, true, true, true, true, true, true, false, false, false, false, false, false, false, false, false, false, false] rfl rfl (by kernel_rfl) (fun _ _ _ h => h) (Or.inr ⟨by rfl, rfl⟩) ?_ ?_
                  rotate_left
                  · simp only [Act.put, List.setIfInBounds_toArray, List.set_cons_zero, List.set_cons_succ, i64_w, i32_w]
                    rfl
                  refine pure_ (i := 14) (N := some 160) (v := undef) (a' := ?_) #[true, true, true, true, true, true, true, true, true, true, true, true, true, true, true, false, false, false, false, false, false, false, false, false, false] rfl rfl (by kernel_rfl) (fun _ _ _ h => h) (Or.inr ⟨by rfl, rfl⟩) ?_ ?_
                  rotate_left
                  · simp only [Act.put, List.setIfInBounds_toArray, List.set_cons_zero, List.set_cons_succ, i64_w, i32_w]
                    rfl
                  refine pure_ (i := 15) (N := some 161) (v := undef) (a' := ?_) #[true, true, true, true, true, true, true, true, true, true, true, true, true, true, true, true, false, false, false, false, false, false, false, false, false] rfl rfl (by kernel_rfl) (fun _ _ _ h => h) (Or.inr ⟨by rfl, rfl⟩) ?_ ?_
                  rotate_left
                  · simp only [Act.put, List.setIfInBounds_toArray, List.set_cons_zero, List.set_cons_succ, i64_w, i32_w]
                    rfl
                  refine pure_ (i := 16) (N := some 162) (v := undef) (a' := ?_) #[true, true, true, true, true, true, true, true, true, true, true, true, true, true, true, true, true, false, false, false, false, false, false, false, false] rfl rfl (by kernel_rfl) (fun _ _ _ h => h) (Or.inr ⟨by rfl, rfl⟩) ?_ ?_
                  rotate_left
                  · simp only [Act.put, List.setIfInBounds_toArray, List.set_cons_zero, List.set_cons_succ, i64_w, i32_w]
                    rfl
                  refine pure_ (i := 17) (N := some 163) (v := undef) (a' := ?_) #[true, true, true, true, true, true, true, true, true, true, true, true, true, true, true, true, true, true, false, false, false, false, false, false, false] rfl rfl (by kernel_rfl) (fun _ _ _ h => h) (Or.inr ⟨by rfl, rfl⟩) ?_ ?_
                  rotate_left
                  · simp only [Act.put, List.setIfInBounds_toArray, List.set_cons_zero, List.set_cons_succ, i64_w, i32_w]
                    rfl
                  refine pure_ (i := 18) (N := some 164) (v := undef) (a' := ?_) #[true, true, true, true, true, true, true, true, true, true, true, true, true, true, true, true, true, true, true, false, false, false, false, false, false] rfl rfl (by kernel_rfl) (fun _ _ _ h => h) (Or.inr ⟨by rfl, rfl⟩) ?_ ?_
                  rotate_left
                  · simp only [Act.put, List.setIfInBounds_toArray, List.set_cons_zero, List.set_cons_succ, i64_w, i32_w]
                    rfl
                  refine pure_ (i := 19) (N := some 165) (v := undef) (a' := ?_) #[true, true, true, true, true, true, true, true, true, true, true, true, true, true, true, true, true, true, true, true, false, false, false, false, false] rfl rfl (by kernel_rfl) (fun _ _ _ h => h) (Or.inr ⟨by rfl, rfl⟩) ?_ ?_
                  rotate_left
                  · simp only [Act.put, List.setIfInBounds_toArray, List.set_cons_zero, List.set_cons_succ, i64_w, i32_w]
                    rfl
                  refine pure_ (i := 20) (N := some 166) (v := undef) (a' := ?_) #[true, true, true, true, true, true, true, true, true, true, true, true, true, true, true, true, true, true, true, true, true, false, false, false, false] rfl rfl (by kernel_rfl) (fun _ _ _ h => h) (Or.inr ⟨by rfl, rfl⟩) ?_ ?_
                  rotate_left
                  · simp only [Act.put, List.setIfInBounds_toArray, List.set_cons_zero, List.set_cons_succ, i64_w, i32_w]
                    rfl
                  refine pure_ (i := 21) (N := some 167) (v := undef) (a' := ?_) #[true, true, true, true, true, true, true, true, true, true, true, true, true, true, true, true, true, true, true, true, true, true, false, false, false] rfl rfl (by kernel_rfl) (fun _ _ _ h => h) (Or.inr ⟨by rfl, rfl⟩) ?_ ?_
                  rotate_left
                  · simp only [Act.put, List.setIfInBounds_toArray, List.set_cons_zero, List.set_cons_succ, i64_w, i32_w]
                    rfl
                  refine pure_ (i := 22) (N := some 168) (v := undef) (a' := ?_) #[true, true, true, true, true, true, true, true, true, true, true, true, true, true, true, true, true, true, true, true, true, true, true, false, false] rfl rfl (by kernel_rfl) (fun _ _ _ h => h) (Or.inr ⟨by rfl, rfl⟩) ?_ ?_
                  rotate_left
                  · simp only [Act.put, List.setIfInBounds_toArray, List.set_cons_zero, List.set_cons_succ, i64_w, i32_w]
                    rfl
                  refine pure_ (i := 23) (N := some 169) (v := ?_) (a' := ?_) #[true, true, true, true, true, true, true, true, true, true, true, true, true, true, true, true, true, true, true, true, true, true, true, true, false] rfl rfl (by kernel_rfl) (fun _ _ _ h => h) (Or.inl ⟨by rfl, ?_⟩) ?_ ?_
                  rotate_left
                  · intro w'
                    go_simp
                    with_reducible rfl
                  rotate_left
                  · simp only [Act.put, List.setIfInBounds_toArray, List.set_cons_zero, List.set_cons_succ, i64_w, i32_w]
                    rfl
                  refine pure_ (i := 24) (N := some 170) (v := ?_) (a' := ?_) #[true, true, true, true, true, true, true, true, true, true, true, true, true, true, true, true, true, true, true, true, true, true, true, true, true] rfl rfl (by kernel_rfl) (fun _ _ _ h => h) (Or.inl ⟨by rfl, ?_⟩) ?_ ?_
                  rotate_left
                  · intro w'
                    go_simp
                    with_reducible rfl
                  rotate_left
                  · simp only [Act.put, List.setIfInBounds_toArray, List.set_cons_zero, List.set_cons_succ, i64_w, i32_w]
                    rfl
                  refine done_ (by kernel_rfl) ?_
                  have ST2 := Lib.hid (St.below (St.drew ST0) hb2)
                  have w4' : w2.cell? ⟨gb, 4, none⟩ = some (.slice A4 f4.length c4) := (blk_cell ST2.out.box 4).trans rfl
                  have hlow2 := ST2.out.low
                  obtain ⟨adk, A2k, c2k, A3k, c3k, A4k, c4k, ek, v0, v1, v2, v3, v4, lk2, gk2, lk3, gk3, lk4, gk4⟩ := at_T26 HR4.out (i : Int) (by omega) (by omega)
                  cases ek
                  rw [Int.toNat_natCast] at v0 v1 v2 v3 v4
                  have hke : rd_T26 f4 (i : Int) = f4.getD i z26 := by unfold rd_T26; rw [Int.toNat_natCast]
                  rw [hke] at v0 v1 v2 v3 v4 lk2 gk2 lk3 gk3 lk4 gk4
                  have hmem : f4.getD i z26 ∈ f4 := by rw [List.getD_eq_getElem?_getD, List.getElem?_eq_getElem hi]; exact List.getElem_mem hi
                  have hsz : SizeOf.sizeOf (f4.getD i z26) < m := by
                    have h1 := List.sizeOf_lt_of_mem hmem
                    have h2 := HM.out
                    simp only [S26.mk.sizeOf_spec] at h2
                    omega
                  have hsmk := smallL_mem HSM.out _ hmem
                  generalize f4.getD i z26 = kt at *
                  have hcall := IH.out kt hsz A2k c2k A3k c3k A4k c4k (deep + 1) n' b' g w0 w2 gk2 lk2 gk3 lk3 gk4 lk4 hsmk (by omega) (by omega) p1 p2 p3 p4 hlow2 hgw ST2.out.blk
                  have HCALL := Lib.hid hcall
                  replace v0 := cell_low v0 hlow2
                  replace v1 := cell_low v1 hlow2
                  replace v2 := cell_low v2 hlow2
                  replace v3 := cell_low v3 hlow2
                  replace v4 := cell_low v4 hlow2
                  clear hcall hb2 ST0 z2 hx3 w3' hke hmem hsz gk2 gk3 gk4 hlow2
                  go_wp2_with fail
                  refine HCALL.out.mono ?_
                  rintro e w3 ⟨rfl, n2, b2, wr2, hblk, hres, hl3, hk3⟩
                  have ST3 := Lib.hid (St.call ST2.out hblk hl3 hk3)
                  have HRES := Lib.hid (loop_back NX2.out hres p5 HLEN.out)
                  clear hblk hres hl3 hk3
                  go_wp2_with fail
                  go_roundg gk
                  case measure => omega
                  case rel => exact ⟨i + 1, n2, b2, wr2, by go_num, by omega, ST3.out, HRES.out⟩
                · have hgd : decide (0 < i) = true := decide_eq_true (by omega)
                  obtain ⟨adq, eq_, hxq⟩ := Kd.at_string HR3.out ((i - 1 : Nat) : Int) (by omega) (by omega)
                  cases eq_
                  replace hxq := (ST0.low.cell (World.block_lt_of_cell? w0 _ hxq)).trans hxq
                  rw [Int.toNat_natCast] at hxq
                  have hxe : rdOf ByteArray.empty f3 ((i - 1 : Nat) : Int) = f3.getD (i - 1) ByteArray.empty := by unfold rdOf; rw [Int.toNat_natCast]
                  rw [hxe] at hxq
                  clear hxe
                  have hp : prevOf f3 i = some (f3.getD (i - 1) ByteArray.empty) := if_neg hi0
                  generalize f3.getD (i - 1) ByteArray.empty = y at *
                  have HP := Lib.hid hp
                  obtain ⟨i1, hi1⟩ : ∃ i1 : Nat, i - 1 = i1 := ⟨_, rfl⟩
                  rw [hi1] at hxq
                  have q0 : IntKind.i64.wrap ((i : Int) - 1) = (i1 : Int) := by rw [wrap_small _ (by omega) (by omega)]; omega
                  have q0' : ((i : Int) - 1) = (i1 : Int) := by omega
                  have q1 : (0 : Int) ≤ (i1 : Int) := by omega
                  have q2 : (i1 : Int) < (f3.length : Int) := by omega
                  have Q0' := Lib.hid q0'
                  clear hp hi1 hi0 q0'
                  cases hless : Op.bytesLess y.toList x.toList with
                  | false =>
                    have hRn : R = none := by rw [NX.out, if_neg (fun h => by have := h.2 y HP.out; rw [hless] at this; cases this)]
                    have HRN := Lib.hid hRn
                    clear NX hRn
                    go_wp2_with fail
                    refine start_ (n := 25) (S := fun w' => w'.cell? ⟨gb, 3, none⟩ = some (.slice (some ad3) f3.length c3) ∧ w'.cell? (ad3.add i) = some (.string x) ∧ w'.cell? (ad3.add i1) = some (.string y)) (ds := []) #[false, false, false, false, false, false, false, false, false, false, false, false, false, false, false, false, false, false, false, false, false, false, false, false, false] (by kernel_rfl) rfl rfl ⟨w3', hx3, hxq⟩ (fun hHeld => ?_)
                    refine pure_ (i := 0) (N := some 146) (v := ?_) (a' := ?_) #[true, false, false, false, false, false, false, false, false, false, false, false, false, false, false, false, false, false, false, false, false, false, false, false, false] rfl rfl (by kernel_rfl) (fun _ _ _ h => h) (Or.inl ⟨by rfl, ?_⟩) ?_ ?_
                    rotate_left
                    · intro w'
                      go_simp
                      with_reducible rfl
                    rotate_left
                    · simp only [Act.put, List.setIfInBounds_toArray, List.set_cons_zero, List.set_cons_succ, i64_w, i32_w]
                      rfl
                    refine pure_ (i := 2) (N := some 148) (v := ?_) (a' := ?_) #[true, false, true, false, false, false, false, false, false, false, false, false, false, false, false, false, false, false, false, false, false, false, false, false, false] rfl rfl (by kernel_rfl) (fun _ _ _ h => h) (Or.inl ⟨by rfl, ?_⟩) ?_ ?_
                    rotate_left
                    · intro w'
                      go_simp
                      with_reducible rfl
                    rotate_left
                    · simp only [Act.put, List.setIfInBounds_toArray, List.set_cons_zero, List.set_cons_succ, i64_w, i32_w]
                      rfl
                    refine take_ (i := 1) (N := some 147) (v := ?_) (a' := ?_) #[true, true, true, false, false, false, false, false, false, false, false, false, false, false, false, false, false, false, false, false, false, false, false, false, false] rfl rfl (by kernel_rfl) (fun _ _ _ h => h) (Or.inl ⟨by rfl, ?_⟩) hHeld ?_ ?_
                    rotate_left
                    · rintro w' ⟨s0, s1, s2⟩
                      go_simp
                      with_reducible rfl
                    rotate_left
                    · simp only [Act.put, List.setIfInBounds_toArray, List.set_cons_zero, List.set_cons_succ, i64_w, i32_w]
                      rfl
                    refine pure_ (i := 3) (N := some 149) (v := ?_) (a' := ?_) #[true, true, true, true, false, false, false, false, false, false, false, false, false, false, false, false, false, false, false, false, false, false, false, false, false] rfl rfl (by kernel_rfl) (fun _ _ _ h => h) (Or.inl ⟨by rfl, ?_⟩) ?_ ?_
                    rotate_left
                    · intro w'
                      go_simp
                      with_reducible rfl
                    rotate_left
                    · simp only [Act.put, List.setIfInBounds_toArray, List.set_cons_zero, List.set_cons_succ, i64_w, i32_w]
                      rfl
                    refine take_ (i := 4) (N := some 150) (v := ?_) (a' := ?_) #[true, true, true, true, true, false, false, false, false, false, false, false, false, false, false, false, false, false, false, false, false, false, false, false, false] rfl rfl (by kernel_rfl) (fun _ _ _ h => h) (Or.inl ⟨by rfl, ?_⟩) hHeld ?_ ?_
                    rotate_left
                    · rintro w' ⟨s0, s1, s2⟩
                      go_simp
                      with_reducible rfl
                    rotate_left
                    · simp only [Act.put, List.setIfInBounds_toArray, List.set_cons_zero, List.set_cons_succ, i64_w, i32_w]
                      rfl
                    refine one_ (i := 5) (N := some 151) #[true, true, true, true, true, true, false, false, false, false, false, false, false, false, false, false, false, false, false, false, false, false, false, false, false] rfl rfl (by kernel_rfl) (by decide) (fun K hK => ?_)
                    refine goes_ Tryd.func15 (by kernel_rfl) rfl #[.string x] (by rfl) rfl rfl (by simp only [List.map_toArray, List.map_cons, List.map_nil]; rfl) ?_
                    with_reducible refine (name_is x true HNM.out _).mono ?_
                    rintro e w2 ⟨rfl, hb2⟩
                    refine ⟨_, rfl, ?_⟩
                    refine hK.out _ _ ⟨cell_low hHeld.1 hb2, cell_low hHeld.2.1 hb2, cell_low hHeld.2.2 hb2⟩ (fun hHeld => ?_)
                    clear hK K
                    refine norm_ (a' := ?_) ?_ ?_
                    rotate_left
                    · show Act.put _ (some 151) _ = _
                      simp only [Act.put, List.setIfInBounds_toArray, List.set_cons_zero, List.set_cons_succ, i64_w, i32_w]
                      rfl
                    refine pure_ (i := 6) (N := some 152) (v := ?_) (a' := ?_) #[true, true, true, true, true, true, true, false, false, false, false, false, false, false, false, false, false, false, false, false, false, false, false, false, false] rfl rfl (by kernel_rfl) (fun _ _ _ h => h) (Or.inl ⟨by rfl, ?_⟩) ?_ ?_
                    rotate_left
                    · intro w'
                      go_simp
                      with_reducible rfl
                    rotate_left
                    · simp only [Act.put, List.setIfInBounds_toArray, List.set_cons_zero, List.set_cons_succ, i64_w, i32_w]
                      rfl
                    refine pure_ (i := 7) (N := some 153) (v := ?_) (a' := ?_) #[true, true, true, true, true, true, true, true, false, false, false, false, false, false, false, false, false, false, false, false, false, false, false, false, false] rfl rfl (by kernel_rfl) (fun _ _ _ h => h) (Or.inl ⟨by rfl, ?_⟩) ?_ ?_
                    rotate_left
                    · intro w'
                      go_simp
                      with_reducible rfl
                    rotate_left
                    · simp only [Act.put, List.setIfInBounds_toArray, List.set_cons_zero, List.set_cons_succ, i64_w, i32_w]
                      rfl
                    refine pure_ (i := 8) (N := some 154) (v := ?_) (a' := ?_) #[true, true, true, true, true, true, true, true, true, false, false, false, false, false, false, false, false, false, false, false, false, false, false, false, false] rfl rfl (by kernel_rfl) (fun _ _ _ h => h) (Or.inl ⟨by rfl, ?_⟩) ?_ ?_
                    rotate_left
                    · intro w'
                      go_simp
                      with_reducible rfl
                    rotate_left
                    · simp only [Act.put, List.setIfInBounds_toArray, List.set_cons_zero, List.set_cons_succ, i64_w, i32_w]
                      rfl
                    refine pure_ (i := 9) (N := some 155) (v := ?_) (a' := ?_) #[true, true, true, true, true, true, true, true, true, true, false, false, false, false, false, false, false, false, false, false, false, false, false, false, false] rfl rfl (by kernel_rfl) (fun _ _ _ h => h) (Or.inl ⟨by rfl, ?_⟩) ?_ ?_
                    rotate_left
                    · intro w'
                      go_simp
                      with_reducible rfl
                    rotate_left
                    · simp only [Act.put, List.setIfInBounds_toArray, List.set_cons_zero, List.set_cons_succ, i64_w, i32_w]
                      rfl
                    refine pure_ (i := 10) (N := some 156) (v := ?_) (a' := ?_) #[true, true, true, true, true, true, true, true, true, true, true, false, false, false, false, false, false, false, false, false, false, false, false, false, false] rfl rfl (by kernel_rfl) (fun _ _ _ h => h) (Or.inl ⟨by rfl, ?_⟩) ?_ ?_
                    rotate_left
                    · intro w'
                      go_simp
                      with_reducible rfl
                    rotate_left
                    · simp only [Act.put, List.setIfInBounds_toArray, List.set_cons_zero, List.set_cons_succ, i64_w, i32_w]
                      rfl
                    refine pure_ (i := 11) (N := some 157) (v := ?_) (a' := ?_) #[true, true, true, true, true, true, true, true, true, true, true, true, false, false, false, false, false, false, false, false, false, false, false, false, false] rfl rfl (by kernel_rfl) (fun _ _ _ h => h) (Or.inl ⟨by rfl, ?_⟩) ?_ ?_
                    rotate_left
                    · intro w'
                      go_simp
                      with_reducible rfl
                    rotate_left
                    · simp only [Act.put, List.setIfInBounds_toArray, List.set_cons_zero, List.set_cons_succ, i64_w, i32_w]
                      rfl
                    refine pure_ (i := 13) (N := some 159) (v := ?_) (a' := ?_) #[true, true, true, true, true, true, true, true, true, true, true, true, false, true, false, false, false, false, false, false, false, false, false, false, false] rfl rfl (by kernel_rfl) (fun _ _ _ h => h) (Or.inl ⟨by rfl, ?_⟩) ?_ ?_
                    rotate_left
                    · intro w'
                      go_simp
                      with_reducible rfl
                    rotate_left
                    · simp only [Act.put, List.setIfInBounds_toArray, List.set_cons_zero, List.set_cons_succ, i64_w, i32_w]
                      rfl
                    refine pure_ (i := 14) (N := some 160) (v := ?_) (a' := ?_) #[true, true, true, true, true, true, true, true, true, true, true, true, false, true, true, false, false, false, false, false, false, false, false, false, false] rfl rfl (by kernel_rfl) (fun _ _ _ h => h) (Or.inl ⟨by rfl, ?_⟩) ?_ ?_
                    rotate_left
                    · intro w'
                      go_simp
                      with_reducible rfl
                    rotate_left
                    · simp only [Act.put, List.setIfInBounds_toArray, List.set_cons_zero, List.set_cons_succ, i64_w, i32_w]
                      rfl
                    refine pure_ (i := 17) (N := some 163) (v := ?_) (a' := ?_) #[true, true, true, true, true, true, true, true, true, true, true, true, false, true, true, false, false, true, false, false, false, false, false, false, false] rfl rfl (by kernel_rfl) (fun _ _ _ h => h) (Or.inl ⟨by rfl, ?_⟩) ?_ ?_
                    rotate_left
                    · intro w'
                      go_simp
                      with_reducible rfl
                    rotate_left
                    · simp only [Act.put, List.setIfInBounds_toArray, List.set_cons_zero, List.set_cons_succ, i64_w, i32_w]
                      rfl
                    refine pure_ (i := 19) (N := some 165) (v := ?_) (a' := ?_) #[true, true, true, true, true, true, true, true, true, true, true, true, false, true, true, false, false, true, false, true, false, false, false, false, false] rfl rfl (by kernel_rfl) (fun _ _ _ h => h) (Or.inl ⟨by rfl, ?_⟩) ?_ ?_
                    rotate_left
                    · intro w'
                      go_simp
                      with_reducible rfl
                    rotate_left
                    · simp only [Act.put, List.setIfInBounds_toArray, List.set_cons_zero, List.set_cons_succ, i64_w, i32_w]
                      rfl
                    refine take_ (i := 12) (N := some 158) (v := ?_) (a' := ?_) #[true, true, true, true, true, true, true, true, true, true, true, true, true, true, true, false, false, true, false, true, false, false, false, false, false] rfl rfl (by kernel_rfl) (fun _ _ _ h => h) (Or.inl ⟨by rfl, ?_⟩) hHeld ?_ ?_
                    rotate_left
                    · rintro w' ⟨s0, s1, s2⟩
                      go_simp
                      with_reducible rfl
                    rotate_left
                    · simp only [Act.put, List.setIfInBounds_toArray, List.set_cons_zero, List.set_cons_succ, i64_w, i32_w]
                      rfl
                    refine pure_ (i := 15) (N := some 161) (v := ?_) (a' := ?_) #[true, true, true, true, true, true, true, true, true, true, true, true, true, true, true, true, false, true, false, true, false, false, false, false, false] rfl rfl (by kernel_rfl) (fun _ _ _ h => h) (Or.inl ⟨by rfl, ?_⟩) ?_ ?_
                    rotate_left
                    · intro w'
                      go_simp
                      with_reducible rfl
                    rotate_left
                    · simp only [Act.put, List.setIfInBounds_toArray, List.set_cons_zero, List.set_cons_succ, i64_w, i32_w]
                      rfl
                    refine take_ (i := 16) (N := some 162) (v := ?_) (a' := ?_) #[true, true, true, true, true, true, true, true, true, true, true, true, true, true, true, true, true, true, false, true, false, false, false, false, false] rfl rfl (by kernel_rfl) (fun _ _ _ h => h) (Or.inl ⟨by rfl, ?_⟩) hHeld ?_ ?_
                    rotate_left
                    · rintro w' ⟨s0, s1, s2⟩
                      go_simp
                      with_reducible rfl
                    rotate_left
                    · simp only [Act.put, List.setIfInBounds_toArray, List.set_cons_zero, List.set_cons_succ, i64_w, i32_w]
                      rfl
                    refine take_ (i := 18) (N := some 164) (v := ?_) (a' := ?_) #[true, true, true, true, true, true, true, true, true, true, true, true, true, true, true, true, true, true, true, true, false, false, false, false, false] rfl rfl (by kernel_rfl) (fun _ _ _ h => h) (Or.inl ⟨by rfl, ?_⟩) hHeld ?_ ?_
                    rotate_left
                    · rintro w' ⟨s0, s1, s2⟩
                      go_simp
                      with_reducible rfl
                    rotate_left
                    · simp only [Act.put, List.setIfInBounds_toArray, List.set_cons_zero, List.set_cons_succ, i64_w, i32_w]
                      rfl
                    refine pure_ (i := 20) (N := some 166) (v := ?_) (a' := ?_) #[true, true, true, true, true, true, true, true, true, true, true, true, true, true, true, true, true, true, true, true, true, false, false, false, false] rfl rfl (by kernel_rfl) (fun _ _ _ h => h) (Or.inl ⟨by rfl, ?_⟩) ?_ ?_
                    rotate_left
                    · intro w'
                      go_simp
                      with_reducible rfl
                    rotate_left
                    · simp only [Act.put, List.setIfInBounds_toArray, List.set_cons_zero, List.set_cons_succ, i64_w, i32_w]
                      rfl
                    refine take_ (i := 21) (N := some 167) (v := ?_) (a' := ?_) #[true, true, true, true, true, true, true, true, true, true, true, true, true, true, true, true, true, true, true, true, true, true, false, false, false] rfl rfl (by kernel_rfl) (fun _ _ _ h => h) (Or.inl ⟨by rfl, ?_⟩) hHeld ?_ ?_
                    rotate_left
                    · rintro w' ⟨s0, s1, s2⟩
                      go_simp
                      with_reducible rfl
                    rotate_left
                    · simp only [Act.put, List.setIfInBounds_toArray, List.set_cons_zero, List.set_cons_succ, i64_w, i32_w]
                      rfl
                    refine pure_ (i := 22) (N := some 168) (v := ?_) (a' := ?_) #[true, true, true, true, true, true, true, true, true, true, true, true, true, true, true, true, true, true, true, true, true, true, true, false, false] rfl rfl (by kernel_rfl) (fun _ _ _ h => h) (Or.inl ⟨by rfl, ?_⟩) ?_ ?_
                    rotate_left
                    · intro w'
                      go_simp
                      with_reducible rfl
                    rotate_left
                    · simp only [Act.put, List.setIfInBounds_toArray, List.set_cons_zero, List.set_cons_succ, i64_w, i32_w]
                      rfl
                    refine pure_ (i := 23) (N := some 169) (v := ?_) (a' := ?_) #[true, true, true, true, true, true, true, true, true, true, true, true, true, true, true, true, true, true, true, true, true, true, true, true, false] rfl rfl (by kernel_rfl) (fun _ _ _ h => h) (Or.inl ⟨by rfl, ?_⟩) ?_ ?_
                    rotate_left
                    · intro w'
                      go_simp
                      with_reducible rfl
                    rotate_left
                    · simp only [Act.put, List.setIfInBounds_toArray, List.set_cons_zero, List.set_cons_succ, i64_w, i32_w]
                      rfl
                    refine pure_ (i := 24) (N := some 170) (v := ?_) (a' := ?_) #[true, true, true, true, true, true, true, true, true, true, true, true, true, true, true, true, true, true, true, true, true, true, true, true, true] rfl rfl (by kernel_rfl) (fun _ _ _ h => h) (Or.inl ⟨by rfl, ?_⟩) ?_ ?_
                    rotate_left
                    · intro w'
                      go_simp
                      with_reducible rfl
                    rotate_left
                    · simp only [Act.put, List.setIfInBounds_toArray, List.set_cons_zero, List.set_cons_succ, i64_w, i32_w]
                      rfl
                    refine done_ (by kernel_rfl) ?_
                    have ST2 := Lib.hid (St.below (St.drew ST0) hb2)
                    have y2 := blk_frozen ST2.out.blk 2
                    have z2' : w2.cell? ⟨g, 2, none⟩ = some (.bool false) := (blk_cell ST2.out.blk 2).trans rfl
                    clear hb2 ST0 z2
                    go_wp2_with fail
                    go_end0
                    have ST3 := St.set2 ST2.out true
                    exact ⟨rfl, n', b', true, ST3.blk, by rw [HRN.out]; rfl, ST3.low, ST3.keep⟩
                  | true =>
                    have hNX : R = (addT (f4.getD i z26) (deep + 1) n' b').bind fun r => addL (prevOf f3 (i + 1)) (f3.drop (i + 1)) (f4.drop (i + 1)) deep r.1 r.2 := by
                      rw [NX.out, if_pos ⟨HNM.out, fun q h => by rw [HP.out] at h; cases h; exact hless⟩]
                    have NX2 := Lib.hid hNX
                    clear NX hNX
                    go_wp2_with fail
                    refine start_ (n := 25) (S := fun w' => w'.cell? ⟨gb, 3, none⟩ = some (.slice (some ad3) f3.length c3) ∧ w'.cell? (ad3.add i) = some (.string x) ∧ w'.cell? (ad3.add i1) = some (.string y)) (ds := []) #[false, false, false, false, false, false, false, false, false, false, false, false, false, false, false, false, false, false, false, false, false, false, false, false, false] (by kernel_rfl) rfl rfl ⟨w3', hx3, hxq⟩ (fun hHeld => ?_)
                    refine pure_ (i := 0) (N := some 146) (v := ?_) (a' := ?_) #[true, false, false, false, false, false, false, false, false, false, false, false, false, false, false, false, false, false, false, false, false, false, false, false, false] rfl rfl (by kernel_rfl) (fun _ _ _ h => h) (Or.inl ⟨by rfl, ?_⟩) ?_ ?_
                    rotate_left
                    · intro w'
                      go_simp
                      with_reducible rfl
                    rotate_left
                    · simp only [Act.put, List.setIfInBounds_toArray, List.set_cons_zero, List.set_cons_succ, i64_w, i32_w]
                      rfl
                    refine pure_ (i := 2) (N := some 148) (v := ?_) (a' := ?_) #[true, false, true, false, false, false, false, false, false, false, false, false, false, false, false, false, false, false, false, false, false, false, false, false, false] rfl rfl (by kernel_rfl) (fun _ _ _ h => h) (Or.inl ⟨by rfl, ?_⟩) ?_ ?_
                    rotate_left
                    · intro w'
                      go_simp
                      with_reducible rfl
                    rotate_left
                    · simp only [Act.put, List.setIfInBounds_toArray, List.set_cons_zero, List.set_cons_succ, i64_w, i32_w]
                      rfl
                    refine take_ (i := 1) (N := some 147) (v := ?_) (a' := ?_) #[true, true, true, false, false, false, false, false, false, false, false, false, false, false, false, false, false, false, false, false, false, false, false, false, false] rfl rfl (by kernel_rfl) (fun _ _ _ h => h) (Or.inl ⟨by rfl, ?_⟩) hHeld ?_ ?_
                    rotate_left
                    · rintro w' ⟨s0, s1, s2⟩
                      go_simp
                      with_reducible rfl
                    rotate_left
                    · simp only [Act.put, List.setIfInBounds_toArray, List.set_cons_zero, List.set_cons_succ, i64_w, i32_w]
                      rfl
                    refine pure_ (i := 3) (N := some 149) (v := ?_) (a' := ?_) #[true, true, true, true, false, false, false, false, false, false, false, false, false, false, false, false, false, false, false, false, false, false, false, false, false] rfl rfl (by kernel_rfl) (fun _ _ _ h => h) (Or.inl ⟨by rfl, ?_⟩) ?_ ?_
                    rotate_left
                    · intro w'
                      go_simp
                      with_reducible rfl
                    rotate_left
                    · simp only [Act.put, List.setIfInBounds_toArray, List.set_cons_zero, List.set_cons_succ, i64_w, i32_w]
                      rfl
                    refine take_ (i := 4) (N := some 150) (v := ?_) (a' := ?_) #[true, true, true, true, true, false, false, false, false, false, false, false, false, false, false, false, false, false, false, false, false, false, false, false, false] rfl rfl (by kernel_rfl) (fun _ _ _ h => h) (Or.inl ⟨by rfl, ?_⟩) hHeld ?_ ?_
                    rotate_left
                    · rintro w' ⟨s0, s1, s2⟩
                      go_simp
                      with_reducible rfl
                    rotate_left
                    · simp only [Act.put, List.setIfInBounds_toArray, List.set_cons_zero, List.set_cons_succ, i64_w, i32_w]
                      rfl
                    refine one_ (i := 5) (N := some 151) #[true, true, true, true, true, true, false, false, false, false, false, false, false, false, false, false, false, false, false, false, false, false, false, false, false] rfl rfl (by kernel_rfl) (by decide) (fun K hK => ?_)
                    refine goes_ Tryd.func15 (by kernel_rfl) rfl #[.string x] (by rfl) rfl rfl (by simp only [List.map_toArray, List.map_cons, List.map_nil]; rfl) ?_
                    with_reducible refine (name_is x true HNM.out _).mono ?_
                    rintro e w2 ⟨rfl, hb2⟩
                    refine ⟨_, rfl, ?_⟩
                    refine hK.out _ _ ⟨cell_low hHeld.1 hb2, cell_low hHeld.2.1 hb2, cell_low hHeld.2.2 hb2⟩ (fun hHeld => ?_)
                    clear hK K
                    refine norm_ (a' := ?_) ?_ ?_
                    rotate_left
                    · show Act.put _ (some 151) _ = _
                      simp only [Act.put, List.setIfInBounds_toArray, List.set_cons_zero, List.set_cons_succ, i64_w, i32_w]
                      rfl
                    refine pure_ (i := 6) (N := some 152) (v := ?_) (a' := ?_) #[true, true, true, true, true, true, true, false, false, false, false, false, false, false, false, false, false, false, false, false, false, false, false, false, false] rfl rfl (by kernel_rfl) (fun _ _ _ h => h) (Or.inl ⟨by rfl, ?_⟩) ?_ ?_
                    rotate_left
                    · intro w'
                      go_simp
                      with_reducible rfl
                    rotate_left
                    · simp only [Act.put, List.setIfInBounds_toArray, List.set_cons_zero, List.set_cons_succ, i64_w, i32_w]
                      rfl
                    refine pure_ (i := 7) (N := some 153) (v := ?_) (a' := ?_) #[true, true, true, true, true, true, true, true, false, false, false, false, false, false, false, false, false, false, false, false, false, false, false, false, false] rfl rfl (by kernel_rfl) (fun _ _ _ h => h) (Or.inl ⟨by rfl, ?_⟩) ?_ ?_
                    rotate_left
                    · intro w'
                      go_simp
                      with_reducible rfl
                    rotate_left
                    · simp only [Act.put, List.setIfInBounds_toArray, List.set_cons_zero, List.set_cons_succ, i64_w, i32_w]
                      rfl
                    refine pure_ (i := 8) (N := some 154) (v := ?_) (a' := ?_) #[true, true, true, true, true, true, true, true, true, false, false, false, false, false, false, false, false, false, false, false, false, false, false, false, false] rfl rfl (by kernel_rfl) (fun _ _ _ h => h) (Or.inl ⟨by rfl, ?_⟩) ?_ ?_
                    rotate_left
                    · intro w'
                      go_simp
                      with_reducible rfl
                    rotate_left
                    · simp only [Act.put, List.setIfInBounds_toArray, List.set_cons_zero, List.set_cons_succ, i64_w, i32_w]
                      rfl
                    refine pure_ (i := 9) (N := some 155) (v := ?_) (a' := ?_) #[true, true, true, true, true, true, true, true, true, true, false, false, false, false, false, false, false, false, false, false, false, false, false, false, false] rfl rfl (by kernel_rfl) (fun _ _ _ h => h) (Or.inl ⟨by rfl, ?_⟩) ?_ ?_
                    rotate_left
                    · intro w'
                      go_simp
                      with_reducible rfl
                    rotate_left
                    · simp only [Act.put, List.setIfInBounds_toArray, List.set_cons_zero, List.set_cons_succ, i64_w, i32_w]
                      rfl
                    refine pure_ (i := 10) (N := some 156) (v := ?_) (a' := ?_) #[true, true, true, true, true, true, true, true, true, true, true, false, false, false, false, false, false, false, false, false, false, false, false, false, false] rfl rfl (by kernel_rfl) (fun _ _ _ h => h) (Or.inl ⟨by rfl, ?_⟩) ?_ ?_
                    rotate_left
                    · intro w'
                      go_simp
                      with_reducible rfl
                    rotate_left
                    · simp only [Act.put, List.setIfInBounds_toArray, List.set_cons_zero, List.set_cons_succ, i64_w, i32_w]
                      rfl
                    refine pure_ (i := 11) (N := some 157) (v := ?_) (a' := ?_) #[true, true, true, true, true, true, true, true, true, true, true, true, false, false, false, false, false, false, false, false, false, false, false, false, false] rfl rfl (by kernel_rfl) (fun _ _ _ h => h) (Or.inl ⟨by rfl, ?_⟩) ?_ ?_
                    rotate_left
                    · intro w'
                      go_simp
                      with_reducible rfl
                    rotate_left
                    · simp only [Act.put, List.setIfInBounds_toArray, List.set_cons_zero, List.set_cons_succ, i64_w, i32_w]
                      rfl
                    refine pure_ (i := 13) (N := some 159) (v := ?_) (a' := ?_) #[true, true, true, true, true, true, true, true, true, true, true, true, false, true, false, false, false, false, false, false, false, false, false, false, false] rfl rfl (by kernel_rfl) (fun _ _ _ h => h) (Or.inl ⟨by rfl, ?_⟩) ?_ ?_
                    rotate_left
                    · intro w'
                      go_simp
                      with_reducible rfl
                    rotate_left
                    · simp only [Act.put, List.setIfInBounds_toArray, List.set_cons_zero, List.set_cons_succ, i64_w, i32_w]
                      rfl
                    refine pure_ (i := 14) (N := some 160) (v := ?_) (a' := ?_) #[true, true, true, true, true, true, true, true, true, true, true, true, false, true, true, false, false, false, false, false, false, false, false, false, false] rfl rfl (by kernel_rfl) (fun _ _ _ h => h) (Or.inl ⟨by rfl, ?_⟩) ?_ ?_
                    rotate_left
                    · intro w'
                      go_simp
                      with_reducible rfl
                    rotate_left
                    · simp only [Act.put, List.setIfInBounds_toArray, List.set_cons_zero, List.set_cons_succ, i64_w, i32_w]
                      rfl
                    refine pure_ (i := 17) (N := some 163) (v := ?_) (a' := ?_) #[true, true, true, true, true, true, true, true, true, true, true, true, false, true, true, false, false, true, false, false, false, false, false, false, false] rfl rfl (by kernel_rfl) (fun _ _ _ h => h) (Or.inl ⟨by rfl, ?_⟩) ?_ ?_
                    rotate_left
                    · intro w'
                      go_simp
                      with_reducible rfl
                    rotate_left
                    · simp only [Act.put, List.setIfInBounds_toArray, List.set_cons_zero, List.set_cons_succ, i64_w, i32_w]
                      rfl
                    refine pure_ (i := 19) (N := some 165) (v := ?_) (a' := ?_) #[true, true, true, true, true, true, true, true, true, true, true, true, false, true, true, false, false, true, false, true, false, false, false, false, false] rfl rfl (by kernel_rfl) (fun _ _ _ h => h) (Or.inl ⟨by rfl, ?_⟩) ?_ ?_
                    rotate_left
                    · intro w'
                      go_simp
                      with_reducible rfl
                    rotate_left
                    · simp only [Act.put, List.setIfInBounds_toArray, List.set_cons_zero, List.set_cons_succ, i64_w, i32_w]
                      rfl
                    refine take_ (i := 12) (N := some 158) (v := ?_) (a' := ?_) #[true, true, true, true, true, true, true, true, true, true, true, true, true, true, true, false, false, true, false, true, false, false, false, false, false] rfl rfl (by kernel_rfl) (fun _ _ _ h => h) (Or.inl ⟨by rfl, ?_⟩) hHeld ?_ ?_
                    rotate_left
                    · rintro w' ⟨s0, s1, s2⟩
                      go_simp
                      with_reducible rfl
                    rotate_left
                    · simp only [Act.put, List.setIfInBounds_toArray, List.set_cons_zero, List.set_cons_succ, i64_w, i32_w]
                      rfl
                    refine pure_ (i := 15) (N := some 161) (v := ?_) (a' := ?_) #[true, true, true, true, true, true, true, true, true, true, true, true, true, true, true, true, false, true, false, true, false, false, false, false, false] rfl rfl (by kernel_rfl) (fun _ _ _ h => h) (Or.inl ⟨by rfl, ?_⟩) ?_ ?_
                    rotate_left
                    · intro w'
                      go_simp
                      with_reducible rfl
                    rotate_left
                    · simp only [Act.put, List.setIfInBounds_toArray, List.set_cons_zero, List.set_cons_succ, i64_w, i32_w]
                      rfl
                    refine take_ (i := 16) (N := some 162) (v := ?_) (a' := ?_) #[true, true, true, true, true, true, true, true, true, true, true, true, true, true, true, true, true, true, false, true, false, false, false, false, false] rfl rfl (by kernel_rfl) (fun _ _ _ h => h) (Or.inl ⟨by rfl, ?_⟩) hHeld ?_ ?_
                    rotate_left
                    · rintro w' ⟨s0, s1, s2⟩
                      go_simp
                      with_reducible rfl
                    rotate_left
                    · simp only [Act.put, List.setIfInBounds_toArray, List.set_cons_zero, List.set_cons_succ, i64_w, i32_w]
                      rfl
                    refine take_ (i := 18) (N := some 164) (v := ?_) (a' := ?_) #[true, true, true, true, true, true, true, true, true, true, true, true, true, true, true, true, true, true, true, true, false, false, false, false, false] rfl rfl (by kernel_rfl) (fun _ _ _ h => h) (Or.inl ⟨by rfl, ?_⟩) hHeld ?_ ?_
                    rotate_left
                    · rintro w' ⟨s0, s1, s2⟩
                      go_simp
                      with_reducible rfl
                    rotate_left
                    · simp only [Act.put, List.setIfInBounds_toArray, List.set_cons_zero, List.set_cons_succ, i64_w, i32_w]
                      rfl
                    refine pure_ (i := 20) (N := some 166) (v := ?_) (a' := ?_) #[true, true, true, true, true, true, true, true, true, true, true, true, true, true, true, true, true, true, true, true, true, false, false, false, false] rfl rfl (by kernel_rfl) (fun _ _ _ h => h) (Or.inl ⟨by rfl, ?_⟩) ?_ ?_
                    rotate_left
                    · intro w'
                      go_simp
                      with_reducible rfl
                    rotate_left
                    · simp only [Act.put, List.setIfInBounds_toArray, List.set_cons_zero, List.set_cons_succ, i64_w, i32_w]
                      rfl
                    refine take_ (i := 21) (N := some 167) (v := ?_) (a' := ?_) #[true, true, true, true, true, true, true, true, true, true, true, true, true, true, true, true, true, true, true, true, true, true, false, false, false] rfl rfl (by kernel_rfl) (fun _ _ _ h => h) (Or.inl ⟨by rfl, ?_⟩) hHeld ?_ ?_
                    rotate_left
                    · rintro w' ⟨s0, s1, s2⟩
                      go_simp
                      with_reducible rfl
                    rotate_left
                    · simp only [Act.put, List.setIfInBounds_toArray, List.set_cons_zero, List.set_cons_succ, i64_w, i32_w]
                      rfl
                    refine pure_ (i := 22) (N := some 168) (v := ?_) (a' := ?_) #[true, true, true, true, true, true, true, true, true, true, true, true, true, true, true, true, true, true, true, true, true, true, true, false, false] rfl rfl (by kernel_rfl) (fun _ _ _ h => h) (Or.inl ⟨by rfl, ?_⟩) ?_ ?_
                    rotate_left
                    · intro w'
                      go_simp
                      with_reducible rfl
                    rotate_left
                    · simp only [Act.put, List.setIfInBounds_toArray, List.set_cons_zero, List.set_cons_succ, i64_w, i32_w]
                      rfl
                    refine pure_ (i := 23) (N := some 169) (v := ?_) (a' := ?_) #[true, true, true, true, true, true, true, true, true, true, true, true, true, true, true, true, true, true, true, true, true, true, true, true, false] rfl rfl (by kernel_rfl) (fun _ _ _ h => h) (Or.inl ⟨by rfl, ?_⟩) ?_ ?_
                    rotate_left
                    · intro w'
                      go_simp
                      with_reducible rfl
                    rotate_left
                    · simp only [Act.put, List.setIfInBounds_toArray, List.set_cons_zero, List.set_cons_succ, i64_w, i32_w]
                      rfl
                    refine pure_ (i := 24) (N := some 170) (v := ?_) (a' := ?_) #[true, true, true, true, true, true, true, true, true, true, true, true, true, true, true, true, true, true, true, true, true, true, true, true, true] rfl rfl (by kernel_rfl) (fun _ _ _ h => h) (Or.inl ⟨by rfl, ?_⟩) ?_ ?_
                    rotate_left
                    · intro w'
                      go_simp
                      with_reducible rfl
                    rotate_left
                    · simp only [Act.put, List.setIfInBounds_toArray, List.set_cons_zero, List.set_cons_succ, i64_w, i32_w]
                      rfl
                    refine done_ (by kernel_rfl) ?_
                    have ST2 := Lib.hid (St.below (St.drew ST0) hb2)
                    have w4' : w2.cell? ⟨gb, 4, none⟩ = some (.slice A4 f4.length c4) := (blk_cell ST2.out.box 4).trans rfl
                    have hlow2 := ST2.out.low
                    obtain ⟨adk, A2k, c2k, A3k, c3k, A4k, c4k, ek, v0, v1, v2, v3, v4, lk2, gk2, lk3, gk3, lk4, gk4⟩ := at_T26 HR4.out (i : Int) (by omega) (by omega)
                    cases ek
                    rw [Int.toNat_natCast] at v0 v1 v2 v3 v4
                    have hke : rd_T26 f4 (i : Int) = f4.getD i z26 := by unfold rd_T26; rw [Int.toNat_natCast]
                    rw [hke] at v0 v1 v2 v3 v4 lk2 gk2 lk3 gk3 lk4 gk4
                    have hmem : f4.getD i z26 ∈ f4 := by rw [List.getD_eq_getElem?_getD, List.getElem?_eq_getElem hi]; exact List.getElem_mem hi
                    have hsz : SizeOf.sizeOf (f4.getD i z26) < m := by
                      have h1 := List.sizeOf_lt_of_mem hmem
                      have h2 := HM.out
                      simp only [S26.mk.sizeOf_spec] at h2
                      omega
                    have hsmk := smallL_mem HSM.out _ hmem
                    generalize f4.getD i z26 = kt at *
                    have hcall := IH.out kt hsz A2k c2k A3k c3k A4k c4k (deep + 1) n' b' g w0 w2 gk2 lk2 gk3 lk3 gk4 lk4 hsmk (by omega) (by omega) p1 p2 p3 p4 hlow2 hgw ST2.out.blk
                    have HCALL := Lib.hid hcall
                    replace v0 := cell_low v0 hlow2
                    replace v1 := cell_low v1 hlow2
                    replace v2 := cell_low v2 hlow2
                    replace v3 := cell_low v3 hlow2
                    replace v4 := cell_low v4 hlow2
                    clear hcall hb2 ST0 z2 hx3 w3' hke hmem hsz gk2 gk3 gk4 hlow2
                    go_wp2_with fail
                    refine HCALL.out.mono ?_
                    rintro e w3 ⟨rfl, n2, b2, wr2, hblk, hres, hl3, hk3⟩
                    have ST3 := Lib.hid (St.call ST2.out hblk hl3 hk3)
                    have HRES := Lib.hid (loop_back NX2.out hres p5 HLEN.out)
                    clear hblk hres hl3 hk3
                    go_wp2_with fail
                    go_roundg gk
                    case measure => omega
                    case rel => exact ⟨i + 1, n2, b2, wr2, by go_num, by omega, ST3.out, HRES.out⟩

theorem add_calls (m : Nat) : ∀ (t : S26) (_ : SizeOf.sizeOf t < m) (A2 : Option Addr) (c2 : Nat) (A3 : Option Addr) (c3 : Nat) (A4 : Option Addr) (c4 : Nat) (deep n b : Int) (g : Nat) (w0 w : World)
      (_ : Kd.C (Kd.int .u8) w0 A2 t.f2.length t.f2) (_ : t.f2.length ≤ c2) (_ : Kd.C Kd.string w0 A3 t.f3.length t.f3) (_ : t.f3.length ≤ c3) (_ : Kd.C k26 w0 A4 t.f4.length t.f4) (_ : t.f4.length ≤ c4)
      (_ : smallT t = true) (_ : 0 ≤ deep) (_ : deep ≤ 17) (_ : 0 ≤ n) (_ : n ≤ 4096) (_ : 0 ≤ b) (_ : b ≤ 65536) (_ : Below w0.heap.size w0 w) (_ : w0.heap.size ≤ g) (_ : w.heap[g]? = some (.cells #[.int .i64 n, .int .i64 b, .bool false] 54 (0, 0))),
      Calls Tryd.prog 29 #[.pointer (some ⟨g, 0, none⟩), .agg #[.int .u8 t.f0, .bool t.f1, .slice A2 t.f2.length c2, .slice A3 t.f3.length c3, .slice A4 t.f4.length c4], .int .i64 deep] w (Counted w0 w g (addT t deep n b)) := by
  induction m with
  | zero => intro t h; exact absurd h (Nat.not_lt_zero _)
  | succ m ih =>
    intro t hm A2 c2 A3 c3 A4 c4 deep n b g w0 w h1 h2 h3 h4 h5 h6 h7 h8 h9 h10 h11 h12 h13 h14 h15 h16
    obtain ⟨f0, f1, f2, f3, f4⟩ := t
    exact add_walk m ih f0 f1 f2 f3 f4 (Nat.le_of_lt_succ hm) A2 c2 A3 c3 A4 c4 deep n b g w0 w h1 h2 h3 h4 h5 h6 h7 h8 h9 h10 h11 h12 h13 h14 h15 h16 _ rfl

/-- How many nodes and bytes; the error's number. -/
def sizeRes : Option (Int × Int) → Int × Int × Int
  | some q => (q.1, q.2, 0)
  | none => (0, 0, 3)
def sizeOfTree (t : S26) : Int × Int × Int := sizeRes (addT t 0 0 0)

set_option maxHeartbeats 4000000 in
set_option maxRecDepth 100000 in
theorem size_calls (t : S26) (hsm : smallT t = true) (A2 : Option Addr) (c2 : Nat) (A3 : Option Addr) (c3 : Nat) (A4 : Option Addr) (c4 : Nat) (w : World)
      (hr2 : Kd.C (Kd.int .u8) w A2 t.f2.length t.f2) (hc2 : t.f2.length ≤ c2) (hr3 : Kd.C Kd.string w A3 t.f3.length t.f3) (hc3 : t.f3.length ≤ c3) (hr4 : Kd.C k26 w A4 t.f4.length t.f4) (hc4 : t.f4.length ≤ c4) :
      Calls Tryd.prog 12 #[.agg #[.int .u8 t.f0, .bool t.f1, .slice A2 t.f2.length c2, .slice A3 t.f3.length c3, .slice A4 t.f4.length c4]] w fun e w' => e = .returned (.tuple #[.int .i64 (sizeOfTree t).1, .int .i64 (sizeOfTree t).2.1, .int .i64 (sizeOfTree t).2.2]) ∧ Below w.heap.size w w' := by
  have h0 : Below w.heap.size w ((w.alloc (.cells #[.int .u8 t.f0, .bool t.f1, .slice A2 t.f2.length c2, .slice A3 t.f3.length c3, .slice A4 t.f4.length c4] 26)).alloc (.cells #[.int .i64 0, .int .i64 0, .bool false] 54)) := ((Below.refl _ _).alloc (Nat.le_refl _) _).alloc (by simp) _
  have hgb : ((w.alloc (.cells #[.int .u8 t.f0, .bool t.f1, .slice A2 t.f2.length c2, .slice A3 t.f3.length c3, .slice A4 t.f4.length c4] 26)).alloc (.cells #[.int .i64 0, .int .i64 0, .bool false] 54)).heap[w.heap.size + 1]? = some (.cells #[.int .i64 0, .int .i64 0, .bool false] 54 (0, 0)) := by
    have := heap_alloc_new (w.alloc (.cells #[.int .u8 t.f0, .bool t.f1, .slice A2 t.f2.length c2, .slice A3 t.f3.length c3, .slice A4 t.f4.length c4] 26)) (.cells #[.int .i64 0, .int .i64 0, .bool false] 54)
    simpa using this
  have HC := Lib.hid (add_calls (SizeOf.sizeOf t + 1) t (Nat.lt_succ_self _) A2 c2 A3 c3 A4 c4 0 0 0 (w.heap.size + 1) w _ hr2 hc2 hr3 hc3 hr4 hc4 hsm (by decide) (by decide) (by decide) (by decide) (by decide) (by decide) h0 (by omega) hgb)
  clear hr2 hr3 hr4 hsm hgb h0
  obtain ⟨r, hr⟩ : ∃ r, addT t 0 0 0 = r := ⟨_, rfl⟩
  rw [hr] at HC
  have hres : sizeOfTree t = sizeRes r := by rw [← hr]; rfl
  have HRES := Lib.hid hres
  clear hr hres
  rw [HRES.out]
  have hu26 := Tryd.underlying26
  have hu54 := Tryd.underlying54
  cases r with
  | some q =>
    go_enter Tryd.func12, Tryd.ntmps12
    go_wp2_with fail
    refine HC.out.mono ?_
    rintro e w2 ⟨rfl, n, b, wr, hblk, ⟨rfl, rfl, rfl, _⟩, hl, hk⟩
    have HL := Lib.hid hl
    have z0 : w2.cell? ⟨w.heap.size + 1, 0, none⟩ = some (.int .i64 q.1) := (blk_cell hblk 0).trans rfl
    have z1 : w2.cell? ⟨w.heap.size + 1, 1, none⟩ = some (.int .i64 q.2) := (blk_cell hblk 1).trans rfl
    have z2 : w2.cell? ⟨w.heap.size + 1, 2, none⟩ = some (.bool false) := (blk_cell hblk 2).trans rfl
    clear hblk hk hl
    go_wp2_with fail
    go_quiet (fail)
    go_wp2_with fail
    go_ret3
    exact ⟨rfl, pw_below_drewN HL.out _⟩
  | none =>
    go_enter Tryd.func12, Tryd.ntmps12
    go_wp2_with fail
    refine HC.out.mono ?_
    rintro e w2 ⟨rfl, n, b, wr, hblk, hres, hl, hk⟩
    obtain rfl : wr = true := hres
    have HL := Lib.hid hl
    have z2 : w2.cell? ⟨w.heap.size + 1, 2, none⟩ = some (.bool true) := (blk_cell hblk 2).trans rfl
    clear hblk hk hl
    go_wp2_with fail
    go_ret3
    exact ⟨rfl, HL.out⟩
end Go.Proofs.YtmhlmbmenoihnaaDoor.G

/- An argument that is a tree, opened: what it reads as, and how great its parts are at most. -/
import Derived.Test.YtmhlmbmenoihnaaDoorG0
import Derived.SizedLaws
import Derived.WideShapes
import Derived.ChangeArms
import Derived.DataElems
namespace Go.Proofs.YtmhlmbmenoihnaaDoor.OT
open Go.RowKit Go.Proofs.YtmhlmbmenoihnaaDoor.G Go.Proofs.YtmhlmbmenoihnaaDoorW.PrintWords Go.WideShapes
set_option linter.unusedVariables false

def reach : Nat := 140737488351232
mutual
def okT : S26 → Prop
  | ⟨f0, _, f2, f3, f4⟩ => (0 ≤ f0 ∧ f0 ≤ 255) ∧ (f2.length ≤ reach ∧ ∀ b ∈ f2, 0 ≤ b ∧ b ≤ 255) ∧ (f3.length * 16 ≤ reach ∧ ∀ s ∈ f3, s.size ≤ reach) ∧ f4.length * 80 ≤ reach ∧ okL f4
def okL : List S26 → Prop
  | [] => True
  | t :: l => okT t ∧ okL l
end
theorem okL_of : ∀ {l : List S26}, (∀ t ∈ l, okT t) → okL l
  | [], _ => trivial
  | t :: l, h => ⟨h t (.head _), okL_of fun u hu => h u (.tail _ hu)⟩
theorem okL_mem : ∀ {l : List S26}, okL l → ∀ t ∈ l, okT t
  | t :: l, h, u, hu => by
    obtain ⟨h1, h2⟩ := h
    rcases List.mem_cons.1 hu with rfl | hu
    · exact h1
    · exact okL_mem h2 u hu

theorem build {α : Type} {P : Nat → α → Prop} : ∀ n, (∀ j, j < n → ∃ p, P j p) → ∃ ps : List α, ps.length = n ∧ ∀ j p, ps[j]? = some p → P j p
  | 0, _ => ⟨[], rfl, by simp⟩
  | n + 1, h => by
    obtain ⟨ps, hl, hp⟩ := build n (fun j hj => h j (Nat.lt_succ_of_lt hj))
    obtain ⟨p, h1⟩ := h n (Nat.lt_succ_self n)
    refine ⟨ps ++ [p], by simp [hl], fun j q hq => ?_⟩
    by_cases hj : j < ps.length
    · rw [List.getElem?_append_left hj] at hq
      exact hp j q hq
    · have hjl := (List.getElem?_eq_some_iff.1 hq).1
      simp only [List.length_append, List.length_singleton] at hjl
      have e : j = n := by omega
      subst e
      rw [List.getElem?_append_right (by omega), hl] at hq
      simp at hq
      subst hq
      exact h1

theorem weightsAll_mem {H : Type} {P : Program} {e : TypeId} {d : DataW H} : ∀ {l : List (DataW H)}, d ∈ l → ∀ n ∈ d.weights P e, n ∈ DataW.weightsAll P e l
  | x :: l, hd, n, hn => by
    simp only [DataW.weightsAll, List.mem_append]
    rcases List.mem_cons.1 hd with rfl | hd
    · exact .inl hn
    · exact .inr (weightsAll_mem hd n hn)

section
variable {H : Type} {enc : TypeId × Value → H} {P : Program} {w : World} {base : Nat} {spare : Nat → Bool} {held : Bool}

/-- A row of elements, each of which opens. -/
theorem open_row {α : Type} {R : α → List Value → Prop} {Q : α → Prop} {t e : TypeId} {sz bytes fuel : Nat} {v : Value} {x : DataW H × List MemPlace} (ht : P.underlying t = some (.slice e)) (hc : P.cellsOf e = sz) (hb : P.bytesOf e = bytes)
    (each : ∀ (m : Nat) (cs : List Value) (y : DataW H × List MemPlace), m < fuel → DataW.trod enc P w base spare held m e cs = some y → (∀ n ∈ y.1.weights P e, n ≤ reach) → cs.length = sz → ∃ p, R p cs ∧ Q p)
    (h : DataW.trod enc P w base spare held fuel t [v] = some x) (hw : ∀ n ∈ x.1.weights P t, n ≤ reach) :
    ∃ A c, ∃ ps : List α, v = .slice A ps.length c ∧ ps.length ≤ c ∧ ReadsRow R sz w A ps.length ps ∧ ps.length * bytes ≤ reach ∧ ∀ p ∈ ps, Q p := by
  rcases DataW.trod_slice ht h with ⟨h0, _⟩ | ⟨a, len, cap, elems, rest, n, rfl, h0, rfl, hba, hl, hm, hlen, hel, _, _⟩
  · refine ⟨none, 0, [], ?_, Nat.le_refl _, ⟨rfl, Nat.zero_le _, fun h => absurd h (Nat.lt_irrefl _)⟩, by simp, fun p hp => by cases hp⟩
    injection h0
  · have hv : v = .slice (some a) len cap := by injection h0
    simp only [DataW.weights, ht] at hw
    have hB := hw ((elems.map (·.1)).length * P.bytesOf e + (rest.map (·.1)).length * P.bytesOf e) (by rw [← Nat.add_mul]; exact List.mem_cons_self)
    rw [hb, List.length_map, hlen] at hB
    obtain ⟨ps, hpl, hps⟩ := build (P := fun j p => ∃ c : List Value, c.length = sz ∧ R p c ∧ (∀ i u, c[i]? = some u → w.cell? (a.add (j * sz + i)) = some u) ∧ Q p) len (fun j hj => by
      have hx := hel j hj
      have hjl : j < elems.length := by omega
      rw [List.getElem?_eq_getElem hjl] at hx
      obtain ⟨cs, hcs, hy⟩ := Option.bind_eq_some_iff.1 hx
      obtain ⟨_, hcl, hcell⟩ := World.cells?_some hcs
      rw [hc] at hcl hcell
      obtain ⟨p, hR, hQ⟩ := each n cs elems[j] (Nat.lt_succ_self n) hy (fun m hm => hw m (List.mem_cons_of_mem _ (List.mem_append.2 (.inl (weightsAll_mem (List.mem_map.2 ⟨_, List.getElem_mem hjl, rfl⟩) m hm))))) hcl
      refine ⟨p, cs, hcl, hR, fun i u hu => ?_, hQ⟩
      have hil := (List.getElem?_eq_some_iff.1 hu).1
      rw [← Addr.add_add, hcell i (by omega), hu])
    have hmx : maxLen ≤ 9223372036854775807 := by decide
    refine ⟨some a, cap, ps, by rw [hpl, hv], by omega, ⟨rfl, by omega, fun _ => ⟨a, rfl, fun j p hp => ?_⟩⟩, by rw [hpl]; omega, fun p hp => ?_⟩
    · obtain ⟨c, h1, h2, h3, _⟩ := hps j p hp
      exact ⟨c, h1, h2, h3⟩
    · obtain ⟨j, hj⟩ := List.getElem?_of_mem hp
      obtain ⟨_, _, _, _, h4⟩ := hps j p hj
      exact h4
end

section
variable {H : Type} {enc : TypeId × Value → H} {w : World} {base : Nat} {spare : Nat → Bool} {held : Bool}

theorem wf_u8 {n : Int} (h : (Lit.int .u8 n).wf = true) : 0 ≤ n ∧ n ≤ 255 := by
  simpa [Lit.wf, IntKind.min, IntKind.max, IntKind.signed, IntKind.bits] using h

theorem open_ (fuel : Nat) : ∀ (m : Nat), m < fuel → ∀ (cs : List Value) (x : DataW H × List MemPlace), DataW.trod enc Tryd.prog w base spare held m 26 cs = some x →
    (∀ n ∈ x.1.weights Tryd.prog 26, n ≤ reach) → ∃ t : S26, k26.K w t cs ∧ okT t := by
  induction fuel with
  | zero => intro m hm; exact absurd hm (Nat.not_lt_zero _)
  | succ fuel ih =>
    intro m hm cs x h hw
    obtain ⟨xs, n, rfl, hx, hcl, hxl, hf⟩ := DataW.trod_struct Tryd.underlying26 h
    have c26 : Tryd.prog.cellsOf 26 = 5 := by kernel_rfl
    have c5 : Tryd.prog.cellsOf 5 = 1 := by kernel_rfl
    have c4 : Tryd.prog.cellsOf 4 = 1 := by kernel_rfl
    have c9 : Tryd.prog.cellsOf 9 = 1 := by kernel_rfl
    have c22 : Tryd.prog.cellsOf 22 = 1 := by kernel_rfl
    have c23 : Tryd.prog.cellsOf 23 = 1 := by kernel_rfl
    have c24 : Tryd.prog.cellsOf 24 = 1 := by kernel_rfl
    have b5 : Tryd.prog.bytesOf 5 = 1 := by kernel_rfl
    have b9 : Tryd.prog.bytesOf 9 = 16 := by kernel_rfl
    have b26 : Tryd.prog.bytesOf 26 = 80 := by kernel_rfl
    rw [c26] at hcl
    match cs, hcl with
    | [v0, v1, v2, v3, v4], _ =>
    match xs, hxl with
    | [x0, x1, x2, x3, x4], _ =>
    have h0 : DataW.trod enc Tryd.prog w base spare held n 5 (([v0, v1, v2, v3, v4].drop 0).take (Tryd.prog.cellsOf 5)) = some x0 := hf 0 _ rfl
    have h1 : DataW.trod enc Tryd.prog w base spare held n 4 (([v0, v1, v2, v3, v4].drop 1).take (Tryd.prog.cellsOf 4)) = some x1 := hf 1 _ rfl
    have h2 : DataW.trod enc Tryd.prog w base spare held n 22 (([v0, v1, v2, v3, v4].drop 2).take (Tryd.prog.cellsOf 22)) = some x2 := hf 2 _ rfl
    have h3 : DataW.trod enc Tryd.prog w base spare held n 23 (([v0, v1, v2, v3, v4].drop 3).take (Tryd.prog.cellsOf 23)) = some x3 := hf 3 _ rfl
    have h4 : DataW.trod enc Tryd.prog w base spare held n 24 (([v0, v1, v2, v3, v4].drop 4).take (Tryd.prog.cellsOf 24)) = some x4 := hf 4 _ rfl
    simp only [c5, c4, c22, c23, c24, List.drop_zero, List.drop_succ_cons, List.take_succ_cons, List.take_zero] at h0 h1 h2 h3 h4
    rw [hx] at hw
    simp only [DataW.weights, Tryd.underlying26, List.map_cons, List.map_nil, DataW.weightsEach, List.append_nil] at hw
    obtain ⟨f0, e0, _, w0⟩ := DataW.trod_int Tryd.underlying5 h0
    obtain ⟨f1, e1, _⟩ := DataW.trod_bool Tryd.underlying4 h1
    obtain ⟨A2, k2, f2, e2, g2, r2, s2, q2⟩ := open_row (R := (Kd.int .u8).K w) (Q := fun b : Int => 0 ≤ b ∧ b ≤ 255) Tryd.underlying22 c5 b5 (fun m' cs' y _ hy _ _ => by
      obtain ⟨b, rfl, _, hb⟩ := DataW.trod_int Tryd.underlying5 hy
      exact ⟨b, rfl, wf_u8 hb⟩) h2 (fun k hk => hw k (by simp [hk]))
    obtain ⟨A3, k3, f3, e3, g3, r3, s3, q3⟩ := open_row (R := Kd.string.K w) (Q := fun s : ByteArray => s.size ≤ reach) Tryd.underlying23 c9 b9 (fun m' cs' y _ hy hyw _ => by
      obtain ⟨s, rfl, rfl, hs⟩ := DataW.trod_string Tryd.underlying9 hy
      exact ⟨s, rfl, by have := hyw s.data.toList.length (by simp [DataW.weights]); rwa [Array.length_toList] at this⟩) h3 (fun k hk => hw k (by simp [hk]))
    obtain ⟨A4, k4, f4, e4, g4, r4, s4, q4⟩ := open_row (R := k26.K w) (Q := okT) Tryd.underlying24 c26 b26 (fun m' cs' y hm' hy hyw _ => ih m' (by omega) cs' y hy hyw) h4 (fun k hk => hw k (by simp [hk]))
    injection e0 with e0
    injection e1 with e1
    subst e0; subst e1; subst e2; subst e3; subst e4
    exact ⟨⟨f0, f1, f2, f3, f4⟩, k26_mk w ⟨f0, f1, f2, f3, f4⟩ g2 r2 g3 r3 g4 r4, ⟨wf_u8 w0, ⟨by omega, q2⟩, ⟨s3, q3⟩, s4, okL_of q4⟩⟩

theorem sized_tree {ts : List TypeId} {ds : List (DataW H)} (hsz : (DataW.weightsEach Tryd.prog ts ds).all (· ≤ reachBytes) = true) {j : Nat} {t : TypeId} {d : DataW H} (ht : ts[j]? = some t) (hd : ds[j]? = some d) : ∀ n ∈ d.weights Tryd.prog t, n ≤ reach := by
  intro n hn
  have := List.all_eq_true.1 hsz _ (DataW.weights_mem_each ht hd n hn)
  exact of_decide_eq_true this

theorem open_tree {base' : Nat} {v : Value} {d : DataW H} {ps : List MemPlace} (hv : Value.okWide Tryd.prog w .any base' 26 v) (h : DataW.Trod enc Tryd.prog w base spare held 26 v d ps)
    (hw : ∀ n ∈ d.weights Tryd.prog 26, n ≤ reach) :
    ∃ (f0 : Int) (f1 : Bool) (A2 : Option Addr) (c2 : Nat) (l2 : List Int) (A3 : Option Addr) (c3 : Nat) (l3 : List ByteArray) (A4 : Option Addr) (c4 : Nat) (l4 : List S26),
      v = .agg #[.int .u8 f0, .bool f1, .slice A2 l2.length c2, .slice A3 l3.length c3, .slice A4 l4.length c4] ∧ Kd.C (Kd.int .u8) w A2 l2.length l2 ∧ l2.length ≤ c2 ∧ Kd.C Kd.string w A3 l3.length l3 ∧ l3.length ≤ c3 ∧
      Kd.C k26 w A4 l4.length l4 ∧ l4.length ≤ c4 ∧ okT ⟨f0, f1, l2, l3, l4⟩ := by
  obtain ⟨cs, rfl, _⟩ := okWide_struct Tryd.underlying26 hv
  obtain ⟨fuel, hf⟩ := h
  obtain ⟨t, hK, hT⟩ := open_ (fuel + 1) fuel (Nat.lt_succ_self _) _ _ hf hw
  obtain ⟨A2, c2, A3, c3, A4, c4, e, l2, g2, l3, g3, l4, g4⟩ := k26_open hK
  refine ⟨t.f0, t.f1, A2, c2, t.f2, A3, c3, t.f3, A4, c4, t.f4, ?_, g2, l2, g3, l3, g4, l4, (by cases t; exact hT)⟩
  have : cs.toList = [.int .u8 t.f0, .bool t.f1, .slice A2 t.f2.length c2, .slice A3 t.f3.length c3, .slice A4 t.f4.length c4] := e
  rw [show cs = cs.toList.toArray from rfl, this]
end
end Go.Proofs.YtmhlmbmenoihnaaDoor.OT

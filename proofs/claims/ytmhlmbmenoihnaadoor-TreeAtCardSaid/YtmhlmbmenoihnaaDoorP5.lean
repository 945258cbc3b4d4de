/- Plain laws on trees: all paths. -/
import Derived.Test.YtmhlmbmenoihnaaDoorP4
import Derived.Test.YtmhlmbmenoihnaaDoorG4
namespace Go.Proofs.YtmhlmbmenoihnaaDoor.P
open Go.Lib Go.RowKit Go.Proofs.YtmhlmbmenoihnaaDoor.G Go.Proofs.YtmhlmbmenoihnaaDoorW.PrintWords Go.Proofs.YtmhlmbmenoihnaaDoor.OT
set_option linter.unusedVariables false
set_option linter.unusedSimpArgs false

def slash (n p : ByteArray) : ByteArray := (n ++ (⟨#[47]⟩ : ByteArray)) ++ p
theorem slash_size (n p : ByteArray) : (slash n p).size = n.size + 1 + p.size := by
  unfold slash
  rw [ByteArray.size_append, ByteArray.size_append]; rfl
mutual
def pathsT : T → List ByteArray
  | ⟨_, _, _, f3, f4⟩ => pathsL f3 f4
def pathsL : List ByteArray → List T → List ByteArray
  | n :: ns, t :: ts => n :: ((pathsT t).map (slash n) ++ pathsL ns ts)
  | _, _ => []
end
theorem pathsT_eq (t : T) : pathsT t = pathsL t.f3 t.f4 := by
  obtain ⟨f0, f1, f2, f3, f4⟩ := t
  rw [pathsT]
theorem pathsL_drop {ns : List ByteArray} {ts : List T} {i : Nat} (h1 : i < ns.length) (h2 : i < ts.length) : pathsL (ns.drop i) (ts.drop i) = ns[i] :: ((pathsT ts[i]).map (slash ns[i]) ++ pathsL (ns.drop (i + 1)) (ts.drop (i + 1))) := by
  rw [List.drop_eq_getElem_cons h1, List.drop_eq_getElem_cons h2, pathsL]
theorem pathsL_end {ns : List ByteArray} {ts : List T} {i : Nat} (h : ts.length ≤ i) : pathsL (ns.drop i) (ts.drop i) = [] := by
  rw [List.drop_of_length_le h]
  cases ns.drop i <;> rw [pathsL]
  all_goals simp

mutual
theorem paths_bound : ∀ (t : T) (d n b : Int) (q : Int × Int), addT t d n b = some q → ((pathsT t).length : Int) + 1 = q.1 - n ∧ ∀ p ∈ pathsT t, (p.size : Int) ≤ 81 * (17 - d)
  | ⟨f0, f1, f2, f3, f4⟩, d, n, b, q, h => by
    rw [addT] at h
    split at h
    · rename_i hc
      have hl := ownB_len _ hc.2.2.2
      obtain ⟨h1, h2⟩ := paths_boundL f3 f4 none d (n + 1) (b + f2.length) q hc.2.2.1 hl h
      rw [pathsT]
      exact ⟨by omega, h2⟩
    · cases h
theorem paths_boundL : ∀ (ns : List ByteArray) (ts : List T) (p : Option ByteArray) (d n b : Int) (q : Int × Int), d ≤ 16 → ns.length = ts.length → addL p ns ts d n b = some q → ((pathsL ns ts).length : Int) = q.1 - n ∧ ∀ p ∈ pathsL ns ts, (p.size : Int) ≤ 81 * (17 - d)
  | [], [], _, _, _, _, _, _, _, h => by
    rw [addL] at h
    cases h
    rw [pathsL]
    · exact ⟨by simp, fun _ hp => by cases hp⟩
    · simp
  | [], _ :: _, _, _, _, _, _, _, h, _ => by simp at h
  | _ :: _, [], _, _, _, _, _, _, h, _ => by simp at h
  | s :: ns, t :: ts, p, d, n, b, q, hd, hl, h => by
    rw [addL] at h
    split at h
    · rename_i hc
      cases ha : addT t (d + 1) n b with
      | none => rw [ha] at h; cases h
      | some r =>
        rw [ha] at h
        obtain ⟨h1, h2⟩ := paths_bound t (d + 1) n b r ha
        obtain ⟨h3, h4⟩ := paths_boundL ns ts (some s) d r.1 r.2 q hd (by simpa using hl) h
        have hs : s.size ≤ 80 := by
          have := hc.1
          unfold H.nameOf at this
          simp only [Bool.and_eq_true, decide_eq_true_eq] at this
          exact this.2.1
        rw [pathsL]
        refine ⟨?_, fun x hx => ?_⟩
        · rw [List.length_cons, List.length_append, List.length_map]
          omega
        · rcases List.mem_cons.1 hx with rfl | hx
          · omega
          · rcases List.mem_append.1 hx with hx | hx
            · obtain ⟨y, hy, rfl⟩ := List.mem_map.1 hx
              have := h2 y hy
              rw [slash_size]
              omega
            · exact h4 x hx
    · cases h
end

theorem paths_ev (m : Nat) : ∀ (t : T), SizeOf.sizeOf t < m → okT t → t.f3.length = t.f4.length → (∀ u ∈ t.f4, wfT u) → (pathsT t).length ≤ 5000 → (∀ p ∈ pathsT t, p.size ≤ 100000) →
    Ev (fun k => tree_Paths.f k t.f0 t.f1 t.f2 t.f3 t.f4) (pathsT t) := by
  induction m with
  | zero => intro t h; exact absurd h (Nat.not_lt_zero _)
  | succ m ih =>
    intro t hs hok hll hwf hlen hsz
    obtain ⟨hkl, hkk⟩ := okT_kids hok
    unfold reach at hkl
    rw [pathsT_eq] at hlen hsz
    have loop : ∀ d i (acc : List ByteArray), i + d = t.f3.length → acc.length + (pathsL (t.f3.drop i) (t.f4.drop i)).length ≤ 5000 → (∀ p ∈ pathsL (t.f3.drop i) (t.f4.drop i), p.size ≤ 100000) →
        Ev (fun k => tree_Paths.l0 k acc t.f3 (t.f3.length : Int) (i : Int) t.f0 t.f1 t.f2 t.f3 t.f4) (acc ++ pathsL (t.f3.drop i) (t.f4.drop i)) := by
      intro d
      induction d with
      | zero =>
        intro i acc hi _ _
        rw [pathsL_end (by omega), List.append_nil]
        exact Ev.succ (fun k => by rw [tree_Paths.l0, if_neg (by omega)]) (Ev.const _)
      | succ d ihd =>
        intro i acc hi hl hz
        have h1 : i < t.f3.length := by omega
        have h2 : i < t.f4.length := by omega
        rw [pathsL_drop h1 h2] at hl hz ⊢
        rw [List.length_cons, List.length_append, List.length_map] at hl
        have hm : t.f4[i] ∈ t.f4 := List.getElem_mem h2
        obtain ⟨ho, _, hw⟩ := wfT_parts (hwf _ hm)
        have e1 := ih t.f4[i] (by have := size_kid hm; omega) (okL_mem hkk _ hm) (ownB_len _ ho) (wfL_mem hw) (by omega) (fun p hp => by
          have := hz (slash t.f3[i] p) (List.mem_cons_of_mem _ (List.mem_append.2 (.inl (List.mem_map.2 ⟨p, hp, rfl⟩))))
          rw [slash_size] at this
          omega)
        have hnz : t.f3[i].size ≤ 100000 := hz _ List.mem_cons_self
        have inner : ∀ e j (ac : List ByteArray), j + e = (pathsT t.f4[i]).length → ac.length + ((pathsT t.f4[i]).drop j).length + (pathsL (t.f3.drop (i + 1)) (t.f4.drop (i + 1))).length ≤ 5000 →
            Ev (fun k => tree_Paths.l1 k ac t.f3[i] t.f3 (t.f3.length : Int) (i : Int) (pathsT t.f4[i]) ((pathsT t.f4[i]).length : Int) (j : Int) t.f0 t.f1 t.f2 t.f3 t.f4) (ac ++ (((pathsT t.f4[i]).drop j).map (slash t.f3[i]) ++ pathsL (t.f3.drop (i + 1)) (t.f4.drop (i + 1)))) := by
          intro e
          induction e with
          | zero =>
            intro j ac hj hac
            rw [List.drop_of_length_le (by omega)] at hac ⊢
            simp only [List.map_nil, List.nil_append]
            have := ihd (i + 1) ac (by omega) (by simp at hac; omega) (fun p hp => hz p (List.mem_cons_of_mem _ (List.mem_append.2 (.inr hp))))
            exact Ev.succ (fun k => by rw [tree_Paths.l1, if_neg (by omega), w64 i (by omega)]) this
          | succ e ihe =>
            intro j ac hj hac
            have hjl : j < (pathsT t.f4[i]).length := by omega
            have hpz : ((pathsT t.f4[i])[j]).size ≤ 100000 := by
              have := hz (slash t.f3[i] (pathsT t.f4[i])[j]) (List.mem_cons_of_mem _ (List.mem_append.2 (.inl (List.mem_map.2 ⟨_, List.getElem_mem hjl, rfl⟩))))
              rw [slash_size] at this
              omega
            rw [List.length_drop] at hac
            rw [List.drop_eq_getElem_cons hjl, List.map_cons, List.cons_append, ← List.singleton_append, ← List.append_assoc]
            have k2 : (t.f3[i] ++ (⟨#[47]⟩ : ByteArray)).size + ((pathsT t.f4[i])[j]).size ≤ 9223372036854775807 := by
              rw [ByteArray.size_append, show (⟨#[47]⟩ : ByteArray).size = 1 from rfl]; omega
            have := ihe (j + 1) (ac ++ [slash t.f3[i] (pathsT t.f4[i])[j]]) (by omega) (by rw [List.length_append, List.length_drop, List.length_singleton]; omega)
            refine Ev.succ (fun k => by rw [tree_Paths.l1, if_pos (by omega), if_pos (by omega), if_pos (by omega), rdB _ _ hjl, if_pos (by omega), if_pos k2, if_pos (by omega), w64 j (by omega)]) ?_
            exact this
        have k3 : ¬ ((i : Int) ≥ (t.f4.length : Int)) := by omega
        refine Ev.succ (fun k => by rw [tree_Paths.l0, if_pos (by omega), if_pos (by omega), if_pos (by omega), if_neg k3, if_pos (by omega), if_pos (by omega), rdT _ _ h2, rdB _ _ h1]) (Ev.bind e1 ?_)
        have := inner (pathsT t.f4[i]).length 0 (acc ++ [t.f3[i]]) (by omega) (by rw [List.length_append, List.length_singleton, List.drop_zero]; omega)
        rw [List.drop_zero, List.append_assoc, List.singleton_append] at this
        exact this
    have := loop t.f3.length 0 [] (by omega) (by simpa using hlen) (by simpa using hsz)
    rw [List.drop_zero, List.drop_zero, List.nil_append, ← pathsT_eq] at this
    exact Ev.succ (fun k => by rw [tree_Paths.f]; rfl) this

-- the names that lead to something
mutual
def namesT : T → List (List ByteArray)
  | ⟨_, _, _, f3, f4⟩ => namesL f3 f4
def namesL : List ByteArray → List T → List (List ByteArray)
  | n :: ns, t :: ts => [n] :: ((namesT t).map (n :: ·) ++ namesL ns ts)
  | _, _ => []
end
theorem namesT_eq (t : T) : namesT t = namesL t.f3 t.f4 := by
  obtain ⟨f0, f1, f2, f3, f4⟩ := t
  rw [namesT]
def joinP : List ByteArray → ByteArray
  | [] => ⟨#[]⟩
  | [n] => n
  | n :: m :: r => slash n (joinP (m :: r))
mutual
theorem namesT_ne : ∀ (t : T), ∀ x ∈ namesT t, x ≠ []
  | ⟨_, _, _, f3, f4⟩, x, hx => by rw [namesT] at hx; exact namesL_ne f3 f4 x hx
theorem namesL_ne : ∀ (ns : List ByteArray) (ts : List T), ∀ x ∈ namesL ns ts, x ≠ []
  | n :: ns, t :: ts, x, hx => by
    rw [namesL] at hx
    rcases List.mem_cons.1 hx with rfl | hx
    · simp
    · rcases List.mem_append.1 hx with hx | hx
      · obtain ⟨y, _, rfl⟩ := List.mem_map.1 hx
        simp
      · exact namesL_ne ns ts x hx
  | [], _, x, hx => by rw [namesL] at hx; cases hx; simp
  | _ :: _, [], x, hx => by rw [namesL] at hx; cases hx; simp
end
mutual
theorem paths_names : ∀ (t : T), pathsT t = (namesT t).map joinP
  | ⟨_, _, _, f3, f4⟩ => by rw [pathsT, namesT]; exact pathsL_names f3 f4
theorem pathsL_names : ∀ (ns : List ByteArray) (ts : List T), pathsL ns ts = (namesL ns ts).map joinP
  | n :: ns, t :: ts => by
    rw [pathsL, namesL, List.map_cons, List.map_append, pathsL_names ns ts, paths_names t, List.map_map, List.map_map]
    congr 2
    apply List.map_congr_left
    intro x hx
    have := namesT_ne t x hx
    cases x with
    | nil => exact absurd rfl this
    | cons y r => rfl
  | [], _ => by rw [pathsL, namesL]; rfl; all_goals simp
  | _ :: _, [] => by rw [pathsL, namesL]; rfl; all_goals simp
end
end Go.Proofs.YtmhlmbmenoihnaaDoor.P

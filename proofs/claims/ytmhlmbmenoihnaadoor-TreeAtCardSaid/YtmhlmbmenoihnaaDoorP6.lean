/- Plain laws on trees: the paths that are told are those that lead to something, each once. -/
import Derived.Test.YtmhlmbmenoihnaaDoorP5
namespace Go.Proofs.YtmhlmbmenoihnaaDoor.P
open Go.Lib Go.RowKit Go.Proofs.YtmhlmbmenoihnaaDoor.G Go.Proofs.YtmhlmbmenoihnaaDoorW.PrintWords Go.Proofs.YtmhlmbmenoihnaaDoor.OT
set_option linter.unusedVariables false

theorem namesL_mem : ∀ (ns : List ByteArray) (ts : List T) (x : List ByteArray), x ∈ namesL ns ts ↔ ∃ (i : Nat) (h1 : i < ns.length) (h2 : i < ts.length) (r : List ByteArray), x = ns[i] :: r ∧ (r = [] ∨ r ∈ namesT ts[i])
  | n :: ns, t :: ts, x => by
    rw [namesL, List.mem_cons, List.mem_append, namesL_mem ns ts x]
    constructor
    · rintro (rfl | h | ⟨i, h1, h2, r, hr⟩)
      · exact ⟨0, Nat.succ_pos _, Nat.succ_pos _, [], rfl, .inl rfl⟩
      · obtain ⟨y, hy, rfl⟩ := List.mem_map.1 h
        exact ⟨0, Nat.succ_pos _, Nat.succ_pos _, y, rfl, .inr hy⟩
      · exact ⟨i + 1, Nat.succ_lt_succ h1, Nat.succ_lt_succ h2, r, hr⟩
    · rintro ⟨i, h1, h2, r, rfl, hr⟩
      cases i with
      | zero =>
        rcases hr with rfl | hr
        · exact .inl rfl
        · exact .inr (.inl (List.mem_map.2 ⟨r, hr, rfl⟩))
      | succ i => exact .inr (.inr ⟨i, Nat.lt_of_succ_lt_succ h1, Nat.lt_of_succ_lt_succ h2, r, rfl, hr⟩)
  | [], ts, x => by
    rw [namesL]
    · constructor
      · intro h; cases h
      · rintro ⟨i, h1, _⟩; exact absurd h1 (Nat.not_lt_zero _)
    · simp
  | n :: ns, [], x => by
    rw [namesL]
    · constructor
      · intro h; cases h
      · rintro ⟨i, _, h2, _⟩; exact absurd h2 (Nat.not_lt_zero _)
    · simp

theorem notdir {t : T} (h : wfT t) (h3 : ¬ t.f0 = 3) : t.f3 = [] ∧ t.f4 = [] := by
  have ho := (wfT_parts h).1
  unfold ownB at ho
  by_cases h1 : t.f0 = 1
  · rw [if_pos h1] at ho
    have := of_decide_eq_true ho
    exact ⟨List.length_eq_zero_iff.1 (by omega), List.length_eq_zero_iff.1 (by omega)⟩
  · rw [if_neg h1] at ho
    by_cases h2 : t.f0 = 2
    · rw [if_pos h2, Bool.and_eq_true] at ho
      have := of_decide_eq_true ho.1
      exact ⟨List.length_eq_zero_iff.1 (by omega), List.length_eq_zero_iff.1 (by omega)⟩
    · rw [if_neg h2, if_neg h3] at ho
      cases ho

theorem names_walk : ∀ (x : List ByteArray) (t : T), wfT t → (x ∈ namesT t ↔ x ≠ [] ∧ (walkT t x).2 = 0)
  | [], t, h => by
    constructor
    · intro hx; exact absurd rfl (namesT_ne t [] hx)
    · intro hx; exact absurd rfl hx.1
  | n :: r, t, h => by
    obtain ⟨ho, hg, hw⟩ := wfT_parts h
    have hll := ownB_len t ho
    have hpw := (good_pw _ _ hg).1
    rw [namesT_eq, namesL_mem, walkT]
    by_cases h3 : t.f0 = 3
    · rw [if_pos h3]
      constructor
      · rintro ⟨i, h1, h2, r', he, hr⟩
        injection he with he1 he2
        subst he2
        refine ⟨by simp, ?_⟩
        rw [findI_at hpw h1 he1.symm]
        simp only
        rw [List.getElem?_eq_getElem h2]
        simp only
        rcases hr with rfl | hr
        · rw [walkT]
        · exact ((names_walk r t.f4[i] (wfL_mem hw _ (List.getElem_mem h2))).1 hr).2
      · rintro ⟨_, hx⟩
        cases hf : findI t.f3 n with
        | none => rw [hf] at hx; simp at hx
        | some i =>
          rw [hf] at hx
          simp only at hx
          obtain ⟨h1, he⟩ := findI_some hf
          have h2 : i < t.f4.length := by omega
          rw [List.getElem?_eq_getElem h2] at hx
          simp only at hx
          refine ⟨i, h1, h2, r, by rw [he], ?_⟩
          by_cases hr : r = []
          · exact .inl hr
          · exact .inr ((names_walk r t.f4[i] (wfL_mem hw _ (List.getElem_mem h2))).2 ⟨hr, hx⟩)
    · obtain ⟨n3, n4⟩ := notdir h h3
      rw [if_neg h3]
      constructor
      · rintro ⟨i, h1, _⟩
        rw [n3] at h1
        exact absurd h1 (Nat.not_lt_zero _)
      · rintro ⟨_, hx⟩
        simp at hx

theorem good_all : ∀ (l : List ByteArray) (p : Option ByteArray), goodNames p l = true → ∀ s ∈ l, H.nameOf s = true
  | s :: l, p, h, x, hx => by
    rw [goodNames_cons, Bool.and_eq_true] at h
    rcases List.mem_cons.1 hx with rfl | hx
    · exact (of_decide_eq_true h.1).1
    · exact good_all l (some s) h.2 x hx
theorem names_good : ∀ (x : List ByteArray) (t : T), wfT t → x ∈ namesT t → ∀ s ∈ x, H.nameOf s = true
  | [], t, _, _ => fun _ hs => by cases hs
  | n :: r, t, h, hx => by
    obtain ⟨ho, hg, hw⟩ := wfT_parts h
    rw [namesT_eq, namesL_mem] at hx
    obtain ⟨i, h1, h2, r', he, hr⟩ := hx
    injection he with he1 he2
    subst he2
    intro s hs
    rcases List.mem_cons.1 hs with rfl | hs
    · rw [he1]; exact good_all _ _ hg _ (List.getElem_mem h1)
    · rcases hr with rfl | hr
      · cases hs
      · exact names_good r t.f4[i] (wfL_mem hw _ (List.getElem_mem h2)) hr s hs

mutual
theorem names_nodup : ∀ (t : T), wfT t → (namesT t).Nodup
  | ⟨f0, f1, f2, f3, f4⟩, h => by
    obtain ⟨_, hg, hw⟩ := h
    rw [namesT]
    exact namesL_nodup f3 f4 (good_pw _ _ hg).1 hw
theorem namesL_nodup : ∀ (ns : List ByteArray) (ts : List T), List.Pairwise R ns → wfL ts → (namesL ns ts).Nodup
  | n :: ns, t :: ts, hp, hw => by
    obtain ⟨h1, h2⟩ := hw
    obtain ⟨p1, p2⟩ := List.pairwise_cons.1 hp
    have head : ∀ x ∈ namesL ns ts, ∀ r, x ≠ n :: r := by
      intro x hx r he
      rw [namesL_mem] at hx
      obtain ⟨i, g1, _, r', he', _⟩ := hx
      rw [he] at he'
      injection he' with e1 _
      have := p1 _ (List.getElem_mem g1)
      rw [← e1] at this
      exact R_irrefl _ this
    rw [namesL, List.nodup_cons, List.nodup_append]
    refine ⟨?_, ?_, namesL_nodup ns ts p2 h2, ?_⟩
    · intro hm
      rcases List.mem_append.1 hm with hm | hm
      · obtain ⟨y, hy, he⟩ := List.mem_map.1 hm
        injection he with _ he
        exact namesT_ne t y hy he
      · exact head _ hm [] rfl
    · have := names_nodup t h1
      exact List.Pairwise.map _ (fun a b hab he => hab (by injection he)) this
    · intro a ha b hb he
      obtain ⟨y, _, rfl⟩ := List.mem_map.1 ha
      exact head b hb y he.symm
  | [], ts, _, _ => by rw [namesL]; exact List.nodup_nil; all_goals simp
  | n :: ns, [], _, _ => by rw [namesL]; exact List.nodup_nil; all_goals simp
end

theorem wordsOf_one : ∀ (l w : List UInt8), (47 : UInt8) ∉ l → wordsOf w l = [w ++ l]
  | [], w, _ => by simp [wordsOf]
  | b :: l, w, h => by
    have hb : ¬ b = 47 := fun e => h (by rw [e]; exact List.mem_cons_self)
    rw [wordsOf, if_neg hb, wordsOf_one l (w ++ [b]) (fun hm => h (List.mem_cons_of_mem _ hm))]
    simp
theorem name_noslash (s : ByteArray) (h : H.nameOf s = true) : (47 : UInt8) ∉ s.data.toList ∧ s.toList ≠ [] := by
  unfold H.nameOf at h
  simp only [Bool.and_eq_true, Bool.not_eq_true'] at h
  obtain ⟨h1, _, _, _, h5⟩ := h
  constructor
  · intro hm
    rw [indexAny_has] at h5
    have : s.data.toList.any (fun b => [47, 0].contains b) = true := List.any_eq_true.2 ⟨47, hm, rfl⟩
    rw [h5] at this
    cases this
  · intro he
    rw [Lib.toList_data] at he
    rw [he] at h1
    cases h1
theorem wordsB_name (s : ByteArray) (h : H.nameOf s = true) : wordsB s = [s] := by
  unfold wordsB
  rw [wordsOf_one _ _ (name_noslash s h).1]
  rfl
theorem words_join : ∀ (x : List ByteArray), x ≠ [] → (∀ s ∈ x, H.nameOf s = true) → wordsB (joinP x) = x
  | [n], _, h => wordsB_name n (h n List.mem_cons_self)
  | n :: m :: r, _, h => by
    rw [joinP]
    unfold slash
    rw [wordsB_join, wordsB_name n (h n List.mem_cons_self), words_join (m :: r) (by simp) (fun s hs => h s (List.mem_cons_of_mem _ hs))]
    rfl
theorem wordsOf_ne : ∀ (l w : List UInt8), wordsOf w l ≠ []
  | [], w => by simp [wordsOf]
  | b :: l, w => by
    rw [wordsOf]
    split
    · simp
    · exact wordsOf_ne l (w ++ [b])
theorem join_wordsOf : ∀ (l w : List UInt8), joinP ((wordsOf w l).map mkB) = mkB (w ++ l)
  | [], w => by simp [wordsOf, joinP]
  | b :: l, w => by
    rw [wordsOf]
    by_cases hb : b = 47
    · rw [if_pos hb, List.map_cons]
      have ih := join_wordsOf l []
      cases hq : (wordsOf [] l).map mkB with
      | nil => exact absurd (List.map_eq_nil_iff.1 hq) (wordsOf_ne l [])
      | cons m r =>
        rw [hq] at ih
        rw [joinP, ih, hb]
        apply ByteArray.ext
        apply Array.ext'
        unfold slash
        rw [join_list]
        rfl
    · rw [if_neg hb, join_wordsOf l (w ++ [b])]
      simp
theorem join_words (s : ByteArray) : joinP (wordsB s) = s := by
  unfold wordsB
  rw [join_wordsOf]
  rfl

theorem words_bad (s : ByteArray) (h : s.toList = []) : wordsB s = [s] := by
  unfold wordsB
  rw [Lib.toList_data] at h
  rw [h]
  have : s = mkB [] := by rw [← mkB_list s, h]
  rw [this]
  rfl

theorem split_join (x : List ByteArray) (hx : x ≠ []) (hg : ∀ s ∈ x, H.nameOf s = true) (hs : (joinP x).size ≤ 400) : H.splitOf (joinP x) = (x, 0) := by
  have hw := words_join x hx hg
  have hne : (joinP x).toList ≠ [] := by
    intro he
    have h1 := words_bad _ he
    rw [hw] at h1
    have h2 := hg (joinP x) (by rw [h1]; exact List.mem_cons_self)
    exact (name_noslash _ h2).2 he
  rw [splitOf_some _ hs hne]
  have hb : badB (joinP x) = false := by
    unfold badB
    rw [hw]
    apply Bool.eq_false_iff.2
    intro h
    obtain ⟨s, hs1, hs2⟩ := List.any_eq_true.1 h
    rw [hg s hs1] at hs2
    cases hs2
  rw [hb, if_neg Bool.false_ne_true, hw]

/-- A path that is told: it leads to something; no other is it; and one name more leads to something just if that is told, too. -/
theorem path_facts (t : T) (h : wfT t) (i : Nat) (hi : i < (pathsT t).length) (name : ByteArray) (hn : name.size ≤ 60) (hs : (pathsT t)[i].size ≤ 300) :
    (atOf t (pathsT t)[i]).2 = 0 ∧ (∀ j (hj : j < (pathsT t).length), (pathsT t)[j] = (pathsT t)[i] → j = i) ∧
    ((pathsT t).any fun s => s.toList == (slash (pathsT t)[i] name).toList) = ((atOf t (slash (pathsT t)[i] name)).2 == 0) := by
  have hpn := paths_names t
  have hlen : (pathsT t).length = (namesT t).length := by rw [hpn, List.length_map]
  have hat : ∀ j (hj : j < (pathsT t).length), (pathsT t)[j] = joinP ((namesT t)[j]'(by omega)) := by
    intro j hj
    simp only [hpn, List.getElem_map]
  have hmem : ∀ j (hj : j < (namesT t).length), (namesT t)[j] ∈ namesT t := fun j hj => List.getElem_mem hj
  obtain ⟨x, hxe⟩ : ∃ x, (namesT t)[i]'(by omega) = x := ⟨_, rfl⟩
  have hx : x ∈ namesT t := by rw [← hxe]; exact hmem i (by omega)
  have hxn := namesT_ne t x hx
  have hxg := names_good x t h hx
  have hp : (pathsT t)[i] = joinP x := by rw [hat i hi, hxe]
  have hw := words_join x hxn hxg
  rw [hp] at hs
  have hsp := split_join x hxn hxg (by omega)
  refine ⟨?_, ?_, ?_⟩
  · rw [hp]
    unfold atOf
    rw [hsp, if_pos rfl]
    exact ((names_walk x t h).1 hx).2
  · intro j hj he
    rw [hat j hj, hp] at he
    have hy := hmem j (by omega)
    have := congrArg wordsB he
    rw [words_join _ (namesT_ne t _ hy) (names_good _ t h hy), hw, ← hxe] at this
    apply Classical.byContradiction
    intro hne
    have hnd := names_nodup t h
    rcases Nat.lt_or_gt_of_ne hne with hlt | hlt
    · exact (List.pairwise_iff_getElem.1 hnd) j i (by omega) (by omega) hlt this
    · exact (List.pairwise_iff_getElem.1 hnd) i j (by omega) (by omega) hlt this.symm
  · rw [hp]
    have hqs : (slash (joinP x) name).size ≤ 400 := by rw [slash_size]; omega
    have hqw : wordsB (slash (joinP x) name) = x ++ wordsB name := by unfold slash; rw [wordsB_join, hw]
    have hqn : (slash (joinP x) name).toList ≠ [] := by
      rw [Lib.toList_data]
      unfold slash
      rw [join_list]
      simp
    have hsq := splitOf_some _ hqs hqn
    have hbq : badB (slash (joinP x) name) = badB name := by
      unfold badB
      rw [hqw, List.any_append]
      have : (x.any fun s => !H.nameOf s) = false := by
        apply Bool.eq_false_iff.2
        intro h
        obtain ⟨s, hs1, hs2⟩ := List.any_eq_true.1 h
        rw [hxg s hs1] at hs2
        cases hs2
      rw [this, Bool.false_or]
    rw [hbq, hqw] at hsq
    have key : (∃ s ∈ pathsT t, s = slash (joinP x) name) ↔ (atOf t (slash (joinP x) name)).2 = 0 := by
      unfold atOf
      rw [hsq]
      constructor
      · rintro ⟨s, hs1, rfl⟩
        rw [hpn] at hs1
        obtain ⟨y, hy, hye⟩ := List.mem_map.1 hs1
        have hyw := words_join y (namesT_ne t y hy) (names_good y t h hy)
        rw [hye, hqw] at hyw
        have hb : badB name = false := by
          unfold badB
          apply Bool.eq_false_iff.2
          intro hh
          obtain ⟨s, hs1, hs2⟩ := List.any_eq_true.1 hh
          rw [names_good y t h hy s (by rw [← hyw]; exact List.mem_append.2 (.inr hs1))] at hs2
          cases hs2
        rw [hb, if_neg Bool.false_ne_true, if_pos rfl, hyw]
        exact ((names_walk y t h).1 hy).2
      · intro hz
        cases hb : badB name with
        | true => rw [hb, if_pos rfl] at hz; simp at hz
        | false =>
          rw [hb, if_neg Bool.false_ne_true, if_pos rfl] at hz
          have hy := (names_walk (x ++ wordsB name) t h).2 ⟨by simp [hxn], hz⟩
          refine ⟨_, ?_, rfl⟩
          rw [hpn]
          exact List.mem_map.2 ⟨_, hy, by rw [← hqw, join_words]⟩
    cases hz : ((atOf t (slash (joinP x) name)).2 == 0) with
    | true =>
      obtain ⟨s, hs1, hs2⟩ := key.2 (beq_iff_eq.1 hz)
      exact List.any_eq_true.2 ⟨s, hs1, by rw [hs2]; exact beq_self_eq_true _⟩
    | false =>
      apply Bool.eq_false_iff.2
      intro hh
      obtain ⟨s, hs1, hs2⟩ := List.any_eq_true.1 hh
      have := key.1 ⟨s, hs1, list_inj (beq_iff_eq.1 hs2)⟩
      rw [beq_eq_false_iff_ne] at hz
      exact hz this

theorem form_paths (t : T) (hok : okT t) (h : (sizeR t).2.2 = true) : wfT t ∧ (pathsT t).length ≤ 5000 ∧ ∀ p ∈ pathsT t, p.size ≤ 100000 := by
  obtain ⟨e, hb⟩ := count_ev _ t (Nat.lt_succ_self _) hok 0 0 0 (by decide) (by decide) (by decide) (by decide) (by decide) (by decide)
  unfold sizeR at h
  cases ha : addT t 0 0 0 with
  | none => rw [ha] at h; cases h
  | some q =>
    obtain ⟨⟨_, q1⟩, _⟩ := hb q ha
    obtain ⟨b1, b2⟩ := paths_bound t 0 0 0 q ha
    refine ⟨wf_of t 0 0 0 q ha, by omega, fun p hp => ?_⟩
    have := b2 p hp
    omega
end Go.Proofs.YtmhlmbmenoihnaaDoor.P

/- Plain laws of runs that are merged by a heap of their heads. No condition. -/
import Derived.Test.YtgfdmhjjlajmgaaGreatDoorKUHe
namespace Go.Cg.Sn
set_option linter.unusedVariables false
set_option linter.unusedSimpArgs false
open Go.Cg.Dk Go.Cg.Oc Go.Cg.Rn

/-- where a merge stands; a run of which the head may lack: k -/
structure MInv (all out : List R) (hs : List Hd) (rs : List (List R)) (k : Nat) : Prop where
  perm : (out ++ (hs.map Prod.fst ++ rs.flatten)).Perm all
  up : Up out
  le : ∀ a ∈ out, ∀ h ∈ hs, ltb h.1 a = false
  heads : ∀ h ∈ hs, h.2 < rs.length ∧ Up (h.1 :: rg rs h.2)
  cover : ∀ i, i < rs.length → i ≠ k → rg rs i ≠ [] → ∃ h ∈ hs, h.2 = i
  self : k < rs.length → Up (rg rs k) ∧ ∀ a ∈ out, ∀ r ∈ rg rs k, ltb r a = false
  ok : HeapOk hs
/-- what the next of a run does -/
def NextP (hs : List Hd) (rs : List (List R)) (i : Nat) (hs' : List Hd) (rs' : List (List R)) : Prop :=
  (rg rs i = [] ∧ hs' = hs ∧ rs' = rs) ∨ ∃ r q, rg rs i = r :: q ∧ HeapOk hs' ∧ hs'.Perm ((r, i) :: hs) ∧ rs' = rs.set i q
theorem NextP.len {hs hs' : List Hd} {rs rs' : List (List R)} {i : Nat} (h : NextP hs rs i hs' rs') : rs'.length = rs.length := by
  rcases h with ⟨_, _, rfl⟩ | ⟨_, _, _, _, _, rfl⟩ <;> simp
theorem NextP.sum {hs hs' : List Hd} {rs rs' : List (List R)} {i : Nat} (hi : i < rs.length) (h : NextP hs rs i hs' rs') : hs'.length + rs'.flatten.length = hs.length + rs.flatten.length := by
  rcases h with ⟨_, rfl, rfl⟩ | ⟨r, q, e, _, hp, rfl⟩
  · rfl
  · have h1 := (flat_set hi e).length_eq
    have h2 := hp.length_eq
    simp only [List.length_cons] at h1 h2
    omega
theorem MInv.next {all out : List R} {hs hs' : List Hd} {rs rs' : List (List R)} {i : Nat} (m : MInv all out hs rs i) (hi : i < rs.length) (h : NextP hs rs i hs' rs') (k : Nat) (hk : rs.length ≤ k) : MInv all out hs' rs' k := by
  rcases h with ⟨e, rfl, rfl⟩ | ⟨r, q, e, hok, hp, rfl⟩
  · exact ⟨m.perm, m.up, m.le, m.heads, fun j hj _ hn => m.cover j hj (fun h => hn (by rw [h]; exact e)) hn, fun h => absurd h (by omega), m.ok⟩
  · obtain ⟨hu, hle⟩ := m.self hi
    rw [e] at hu hle
    refine ⟨?_, m.up, fun a ha h hh => ?_, fun h hh => ?_, fun j hj _ hn => ?_, fun h => absurd h (by simp; omega), hok⟩
    · refine List.Perm.trans ?_ m.perm
      refine List.Perm.append_left _ ?_
      have h1 : (hs'.map Prod.fst).Perm (r :: hs.map Prod.fst) := by simpa using hp.map Prod.fst
      refine (h1.append_right _).trans ?_
      show (r :: hs.map Prod.fst ++ _).Perm _
      rw [List.cons_append]
      refine List.perm_middle.symm.trans (List.Perm.append_left _ ?_)
      exact flat_set hi e
    · rcases List.mem_cons.1 (hp.mem_iff.1 hh) with rfl | hh
      · exact hle a ha r List.mem_cons_self
      · exact m.le a ha h hh
    · rw [rg_set hi]
      rcases List.mem_cons.1 (hp.mem_iff.1 hh) with rfl | hh
      · refine ⟨by simpa using hi, ?_⟩
        rw [if_pos rfl]; exact hu
      · obtain ⟨h1, h2⟩ := m.heads h hh
        refine ⟨by simpa using h1, ?_⟩
        split
        · rename_i e2
          rw [e2, e] at h2
          exact List.Pairwise.sublist (List.Sublist.cons_cons _ (List.sublist_cons_self _ _)) h2
        · exact h2
    · rw [List.length_set] at hj
      rw [rg_set hi] at hn
      by_cases e2 : j = i
      · exact ⟨(r, i), hp.mem_iff.2 List.mem_cons_self, e2.symm⟩
      · rw [if_neg e2] at hn
        obtain ⟨h, hh, e3⟩ := m.cover j hj e2 hn
        exact ⟨h, hp.mem_iff.2 (List.mem_cons_of_mem _ hh), e3⟩
/-- at the start: no head, no run -/
theorem MInv.none (n : Nat) : MInv [] [] [] (List.replicate n []) n := by
  have e : ∀ i, rg (List.replicate n []) i = [] := fun i => by
    unfold rg; rw [List.getD_eq_getElem?_getD, List.getElem?_replicate]; split <;> rfl
  refine ⟨?_, List.Pairwise.nil, (fun a h => by cases h), (fun h hh => by cases hh), (fun i _ _ h => absurd (e i) h), fun h => absurd h (by simp), HeapOk.nil⟩
  simp
/-- a run more -/
theorem MInv.run {all : List R} {hs : List Hd} {rs : List (List R)} {i : Nat} {l : List R} {k : Nat} (m : MInv all [] hs rs k) (hk : rs.length ≤ k) (hi : i < rs.length) (e : rg rs i = []) (hne : ∀ h ∈ hs, h.2 ≠ i) : MInv (all ++ l) [] hs (rs.set i (sort l)) i := by
  refine ⟨?_, List.Pairwise.nil, (fun a h => by cases h), fun h hh => ?_, fun j hj hji hn => ?_, fun _ => ⟨?_, fun a h => by cases h⟩, m.ok⟩
  · have h1 := (flat_put (q := sort l) hi e).trans (List.Perm.append_left _ (sort_perm l))
    refine (List.Perm.append_left _ (List.Perm.append_left _ h1)).trans ?_
    rw [← List.append_assoc, ← List.append_assoc]
    refine List.Perm.append_right _ ?_
    have := m.perm
    simpa using this
  · obtain ⟨h1, h2⟩ := m.heads h hh
    refine ⟨by simpa using h1, ?_⟩
    rw [rg_set hi, if_neg (hne h hh)]; exact h2
  · rw [List.length_set] at hj
    rw [rg_set hi, if_neg hji] at hn
    exact m.cover j hj (by omega) hn
  · rw [rg_set hi, if_pos rfl]; exact sort_up l
/-- the least head is taken -/
theorem MInv.pop {all out : List R} {hs hs' : List Hd} {rs : List (List R)} {x : Hd} {k : Nat} (m : MInv all out hs rs k) (hk : rs.length ≤ k) (hp : hs.Perm (x :: hs')) (hok : HeapOk hs') (hx : ∀ y ∈ hs, slt y x = false) : x.2 < rs.length ∧ MInv all (out ++ [x.1]) hs' rs x.2 := by
  have hxm : x ∈ hs := hp.mem_iff.2 List.mem_cons_self
  have hm : ∀ y, y ∈ hs' → y ∈ hs := fun y hy => hp.mem_iff.2 (List.mem_cons_of_mem _ hy)
  obtain ⟨h1, h2⟩ := m.heads x hxm
  refine ⟨h1, ⟨?_, ?_, fun a ha h hh => ?_, fun h hh => m.heads h (hm h hh), fun i hi hne hn => ?_, fun _ => ⟨(List.pairwise_cons.1 h2).2, fun a ha r hr => ?_⟩, hok⟩⟩
  · refine List.Perm.trans ?_ m.perm
    rw [List.append_assoc]
    refine List.Perm.append_left _ ?_
    have h3 : (hs.map Prod.fst).Perm (x.1 :: hs'.map Prod.fst) := by simpa using hp.map Prod.fst
    exact (h3.symm.append_right _)
  · refine List.pairwise_append.2 ⟨m.up, by simp, fun a ha b hb => ?_⟩
    rw [List.mem_singleton.1 hb]; exact m.le a ha x hxm
  · rcases List.mem_append.1 ha with ha | ha
    · exact m.le a ha h (hm h hh)
    · rw [List.mem_singleton.1 ha]; exact slt_rec (hx h (hm h hh))
  · obtain ⟨h, hh, e⟩ := m.cover i hi (by omega) hn
    rcases List.mem_cons.1 (hp.mem_iff.1 hh) with rfl | hh
    · exact absurd e.symm hne
    · exact ⟨h, hh, e⟩
  · have h3 : ltb r x.1 = false := (List.pairwise_cons.1 h2).1 r hr
    rcases List.mem_append.1 ha with ha | ha
    · exact ltb_ntr h3 (m.le a ha x hxm)
    · rw [List.mem_singleton.1 ha]; exact h3
theorem MInv.done {all out : List R} {rs : List (List R)} {k : Nat} (m : MInv all out [] rs k) (hk : rs.length ≤ k) : out = sort all := by
  have hf : rs.flatten = [] := flat_nil fun i hi => by
    by_cases h : rg rs i = []
    · exact h
    · obtain ⟨h, hh, _⟩ := m.cover i hi (by omega) h; cases hh
  have hp := m.perm
  rw [hf] at hp
  simp only [List.map_nil, List.nil_append, List.append_nil] at hp
  exact (sort_eq hp m.up).symm
end Go.Cg.Sn

/- Plain laws: what is swept, of the names of the statement. No condition. -/
import Derived.Test.YtfndfpgmgnacgaaGreatDoorCr
namespace Go.Cg.Cl
set_option linter.unusedVariables false
set_option linter.unusedSimpArgs false
open Go.Cg.Dk Go.Cg.Oc Go.Cg.Cm

def swN : List Nm := [[115, 104, 97, 114, 100, 46, 48], [115, 104, 97, 114, 100, 46, 53], [115, 104, 97, 114, 100, 46, 56], [115, 104, 97, 114, 100, 46, 57], [115, 104, 97, 114, 100, 46, 48, 53], [115, 116, 97, 116, 101, 46, 48], [115, 116, 97, 116, 101, 46, 51], [115, 116, 97, 116, 101, 46, 57], [115, 116, 97, 116, 101, 46, 49, 48], [115, 116, 97, 116, 101, 46, 48, 51], [115, 116, 97, 116, 101, 46, 45, 49], [115, 116, 97, 116, 101, 46, 110, 101, 119], [115, 108, 111, 116, 46, 110, 101, 119], [115, 108, 111, 116, 46, 50], [98, 111, 120, 46, 49], [114, 117, 110, 46, 51], [112, 97, 114, 116, 46, 48], [120], [115, 116, 97, 116, 101, 46], [115, 104, 97, 114, 100, 46]]
def nm (i : Nat) : Nm := swN.getD i []
def shd : List Int := [0, 5, 8, 9]
def std : List Int := [0, 3, 9, 10]
def kp (x : Mf) (is : Bool) (i : Nat) : Bool := (is && (decide (i < 4) && decide (shd.getD (i % 4) 0 < x.shards))) || (is && (decide (5 ≤ i) && (decide (i < 9) && decide (std.getD ((i - 5) % 4) 0 ≤ x.step))))
/-- right, of few shards and steps -/
structure Few (x : Mf) : Prop where
  ok : mright x = true
  seq : x.seq = 7
  start : x.start < 4294967296
  sh : 1 ≤ x.shards ∧ x.shards ≤ 9
  st : -1 ≤ x.step ∧ x.step ≤ 9
theorem itoa_d {k : Nat} (h : k < 10) : itoa k = [UInt8.ofNat (48 + k)] := by
  unfold itoa; rw [itoa_nn]; unfold Go.Lib.decDigits; rw [dif_pos h]
theorem dig_eq {i j : Nat} (hi : i < 10) (hj : j < 10) (h : ([UInt8.ofNat (48 + i)] : Nm) = [UInt8.ofNat (48 + j)]) : i = j := by
  have h1 := congrArg (fun l : Nm => (l.getD 0 0).toNat) h
  simp at h1
  omega
theorem st_d {x : Mf} (hx : Few x) {j : Nat} (hj : j < 10) (t : Nm) (ht : t = nState ++ [UInt8.ofNat (48 + j)]) : stays t x true = decide ((j : Int) ≤ x.step) := by
  have hst := hx.st
  subst ht
  unfold stays
  rw [if_neg (by rintro (h | h) <;> exact state_slotN _ _ h), if_pos ⟨by simp, rfl⟩]
  by_cases h : (j : Int) ≤ x.step
  · rw [decide_eq_true h, List.any_eq_true]
    exact ⟨j, List.mem_range.2 (by omega), by rw [itoa_d hj]; simp [nState]⟩
  · rw [decide_eq_false h, List.any_eq_false]
    intro k hk hh
    have hk' := List.mem_range.1 hk
    rw [decide_eq_true_eq, itoa_d (by omega)] at hh
    have := dig_eq (by omega) hj (hh.trans (by simp [nState]))
    omega
theorem st_no {x : Mf} (hx : Few x) (u t : Nm) (ht : t = nState ++ u) (hu : u.length ≠ 1) : stays t x true = false := by
  have hst := hx.st
  subst ht
  unfold stays
  rw [if_neg (by rintro (h | h) <;> exact state_slotN _ _ h), if_pos ⟨by simp, rfl⟩, List.any_eq_false]
  intro k hk hh
  have hk' := List.mem_range.1 hk
  rw [decide_eq_true_eq, itoa_d (by omega)] at hh
  have := congrArg List.length hh
  simp [nState] at this
  omega
theorem sh_slot (u : Nm) (i : Nat) : nShard ++ u ≠ slotN i := by
  intro e
  have := congrArg (fun l : Nm => l.getD 1 0) e
  simp [nShard, nSlot, slotN] at this
theorem sh_st (u : Nm) : nState.isPrefixOf (nShard ++ u) = false := rfl
theorem sh_d {x : Mf} (hx : Few x) {j : Nat} (hj : j < 10) (t : Nm) (ht : t = nShard ++ [UInt8.ofNat (48 + j)]) : stays t x true = decide ((j : Int) < x.shards) := by
  have hsh := hx.sh
  subst ht
  unfold stays
  rw [if_neg (by rintro (h | h) <;> exact sh_slot _ _ h), if_neg (by rintro ⟨h, _⟩; rw [sh_st] at h; cases h), Bool.true_and]
  by_cases h : (j : Int) < x.shards
  · rw [decide_eq_true h, List.any_eq_true]
    exact ⟨j, List.mem_range.2 (by omega), by rw [itoa_d hj]; simp⟩
  · rw [decide_eq_false h, List.any_eq_false]
    intro k hk hh
    have hk' := List.mem_range.1 hk
    rw [decide_eq_true_eq, itoa_d (by omega)] at hh
    have := dig_eq hj (by omega) (List.append_cancel_left hh)
    omega
theorem sh_no {x : Mf} (hx : Few x) (u t : Nm) (ht : t = nShard ++ u) (hu : u.length ≠ 1) : stays t x true = false := by
  have hsh := hx.sh
  subst ht
  unfold stays
  rw [if_neg (by rintro (h | h) <;> exact sh_slot _ _ h), if_neg (by rintro ⟨h, _⟩; rw [sh_st] at h; cases h), Bool.true_and, List.any_eq_false]
  intro k hk hh
  have hk' := List.mem_range.1 hk
  rw [decide_eq_true_eq, itoa_d (by omega)] at hh
  have := congrArg List.length (List.append_cancel_left hh)
  simp at this
  omega
theorem ot_no (x : Mf) (t : Nm) (h0 : t ≠ slotN 0) (h1 : t ≠ slotN 1) (h2 : nState.isPrefixOf t = false) (h3 : nShard.isPrefixOf t = false) (is : Bool) : stays t x is = false := by
  unfold stays
  rw [if_neg (by rintro (h | h); (exact h0 h); (exact h1 h)), if_neg (by rintro ⟨h, _⟩; rw [h2] at h; cases h), Bool.and_eq_false_iff]
  right
  rw [List.any_eq_false]
  intro k _ hh
  rw [decide_eq_true_eq] at hh
  have h4 : nShard.isPrefixOf (nShard ++ itoa k) = true := by simp
  rw [hh, h4] at h3
  cases h3
theorem no_is (x : Mf) (t : Nm) (h0 : t ≠ slotN 0) (h1 : t ≠ slotN 1) : stays t x false = false := by
  unfold stays
  rw [if_neg (by rintro (h | h); (exact h0 h); (exact h1 h)), if_neg (by rintro ⟨_, h⟩; cases h), Bool.false_and]
theorem nm_slot : ∀ i, i < 20 → nm i ≠ slotN 0 ∧ nm i ≠ slotN 1 ∧ may (nm i) = true := by rw [slot_0, slot_1]; decide
theorem nm_inj : ∀ i, i < 20 → ∀ j, j < 20 → nm i = nm j → i = j := by decide
theorem stays_nm {x : Mf} (hx : Few x) : ∀ i, i < 20 → stays (nm i) x true = kp x true i := by
  intro i hi
  have hsh := hx.sh
  have hst := hx.st
  have ns := nm_slot i hi
  match i, hi with
  | 0, _ => rw [sh_d hx (j := 0) (by omega) (nm 0) rfl]; simp [kp, shd]
  | 1, _ => rw [sh_d hx (j := 5) (by omega) (nm 1) rfl]; simp [kp, shd]
  | 2, _ => rw [sh_d hx (j := 8) (by omega) (nm 2) rfl]; simp [kp, shd]
  | 3, _ => rw [sh_d hx (j := 9) (by omega) (nm 3) rfl]; simp [kp, shd]
  | 4, _ => rw [sh_no hx [48, 53] (nm 4) rfl (by decide)]; simp [kp]
  | 5, _ => rw [st_d hx (j := 0) (by omega) (nm 5) rfl]; simp [kp, std]
  | 6, _ => rw [st_d hx (j := 3) (by omega) (nm 6) rfl]; simp [kp, std]
  | 7, _ => rw [st_d hx (j := 9) (by omega) (nm 7) rfl]; simp [kp, std]
  | 8, _ => rw [st_no hx [49, 48] (nm 8) rfl (by decide)]; simp [kp, std]; omega
  | 9, _ => rw [st_no hx [48, 51] (nm 9) rfl (by decide)]; simp [kp]
  | 10, _ => rw [st_no hx [45, 49] (nm 10) rfl (by decide)]; simp [kp]
  | 11, _ => rw [st_no hx [110, 101, 119] (nm 11) rfl (by decide)]; simp [kp]
  | 12, _ => rw [ot_no x _ ns.1 ns.2.1 (by decide) (by decide)]; simp [kp]
  | 13, _ => rw [ot_no x _ ns.1 ns.2.1 (by decide) (by decide)]; simp [kp]
  | 14, _ => rw [ot_no x _ ns.1 ns.2.1 (by decide) (by decide)]; simp [kp]
  | 15, _ => rw [ot_no x _ ns.1 ns.2.1 (by decide) (by decide)]; simp [kp]
  | 16, _ => rw [ot_no x _ ns.1 ns.2.1 (by decide) (by decide)]; simp [kp]
  | 17, _ => rw [ot_no x _ ns.1 ns.2.1 (by decide) (by decide)]; simp [kp]
  | 18, _ => rw [st_no hx [] (nm 18) rfl (by decide)]; simp [kp]
  | 19, _ => rw [sh_no hx [] (nm 19) rfl (by decide)]; simp [kp]
theorem kp_no (x : Mf) (i : Nat) : kp x false i = false := by simp [kp]
/-! ### names that there are -/
def cr (th : Nat → Bool) (i : Nat) : List Nat := (List.range i).filter th
def want (x : Mf) (is : Bool) (th : Nat → Bool) (i : Nat) : List Nm := (if is then [slotN 1] else []) ++ ((cr th i).filter (kp x is)).map nm
theorem cr_yes {th : Nat → Bool} {i : Nat} (h : th i = true) : cr th (i + 1) = cr th i ++ [i] := by unfold cr; rw [List.range_succ, List.filter_append]; simp [h]
theorem cr_no {th : Nat → Bool} {i : Nat} (h : th i = false) : cr th (i + 1) = cr th i := by unfold cr; rw [List.range_succ, List.filter_append]; simp [h]
theorem cr_lt {th : Nat → Bool} {i j : Nat} (h : j ∈ cr th i) : j < i := List.mem_range.1 (List.mem_filter.1 h).1
theorem want_no {x : Mf} {is : Bool} {th : Nat → Bool} {i : Nat} (h : th i = false ∨ kp x is i = false) : want x is th (i + 1) = want x is th i := by
  unfold want
  rcases h with h | h
  · rw [cr_no h]
  · cases ht : th i
    · rw [cr_no ht]
    · rw [cr_yes ht, List.filter_append]; simp [h]
theorem want_yes {x : Mf} {is : Bool} {th : Nat → Bool} {i : Nat} (h : th i = true) (hk : kp x is i = true) : want x is th (i + 1) = want x is th i ++ [nm i] := by
  unfold want; rw [cr_yes h, List.filter_append]; simp [hk]
structure Sw (x : Mf) (is : Bool) (th : Nat → Bool) (i : Nat) (D : Disk) : Prop where
  q : Q D
  get : ∀ n, fget D.files n = if is = true ∧ n = slotN 1 then some ⟨(menc x).1, (menc x).1⟩ else if n ∈ (cr th i).map nm then some ⟨[], []⟩ else none
  cnt : D.files.length ≤ i + 1
theorem sw_0 {x : Mf} (hx : Few x) (is : Bool) (th : Nat → Bool) : ∃ d, (is = true → Cm.save x (fresh 1000) = (d, 0)) ∧ (is = false → d = fresh 1000) ∧ Sw x is th 0 d := by
  have q0 : Q (fresh 1000) := fresh_q (by decide)
  cases is with
  | false => exact ⟨_, fun h => (by cases h), fun _ => rfl, q0, fun n => by rw [if_neg (by rintro ⟨h, _⟩; cases h)]; rfl, by decide⟩
  | true =>
    obtain ⟨d, h, A⟩ := save_q q0 hx.ok (by show 4 + 0 ≤ 1000; omega)
    rw [hx.seq] at A
    refine ⟨d, fun _ => h, fun h => (by cases h), A.q, fun n => ?_, A.cnt⟩
    rw [A.get]
    by_cases hn : n = slotN (7 % 2)
    · rw [if_pos hn, if_pos ⟨rfl, hn⟩]
    · have h2 : ¬ (true = true ∧ n = slotN 1) := fun h => hn h.2
      rw [if_neg hn, if_neg h2]; split <;> rfl
theorem sw_no {x : Mf} {is : Bool} {th : Nat → Bool} {i : Nat} {D : Disk} (h : Sw x is th i D) (ht : th i = false) : Sw x is th (i + 1) D := ⟨h.q, fun n => by rw [h.get, cr_no ht], Nat.le_succ_of_le h.cnt⟩
theorem sw_yes {x : Mf} {is : Bool} {th : Nat → Bool} {i : Nat} {D : Disk} (h : Sw x is th i D) (hi : i < 20) (ht : th i = true) : ∃ d, D.create (nm i) = (d, 0) ∧ Sw x is th (i + 1) d := by
  have ns := nm_slot i hi
  have hnew : nm i ∉ (cr th i).map nm := by
    intro hm
    obtain ⟨j, hj, e⟩ := List.mem_map.1 hm
    have hlt := cr_lt hj
    have := nm_inj j (by omega) i hi e
    omega
  obtain ⟨d, e, A⟩ := create_q h.q ns.2.2 (by rw [h.get, if_neg (fun hh => ns.2.1 hh.2), if_neg hnew])
  have hc := A.cnt
  have hc2 := h.cnt
  refine ⟨d, e, A.q, fun n => ?_, by omega⟩
  rw [A.get, h.get, cr_yes ht, List.map_append]
  by_cases hn : n = nm i
  · subst hn
    rw [if_pos rfl, if_neg (fun hh => ns.2.1 hh.2), if_pos (by simp)]
  · rw [if_neg hn]
    by_cases h1 : is = true ∧ n = slotN 1
    · rw [if_pos h1, if_pos h1]
    · rw [if_neg h1, if_neg h1]
      simp [hn]
theorem nodup_map_nm : ∀ {l : List Nat}, l.Nodup → (∀ j ∈ l, j < 20) → (l.map nm).Nodup
  | [], _, _ => List.nodup_nil
  | j :: l, h, hl => by
    obtain ⟨h1, h2⟩ := List.nodup_cons.1 h
    rw [List.map_cons, List.nodup_cons]
    refine ⟨fun hm => ?_, nodup_map_nm h2 fun k hk => hl k (List.mem_cons_of_mem _ hk)⟩
    obtain ⟨k, hk, e⟩ := List.mem_map.1 hm
    have := nm_inj k (hl k (List.mem_cons_of_mem _ hk)) j (hl j List.mem_cons_self) e
    exact h1 (by rw [← this]; exact hk)
theorem sw_end {x : Mf} (hx : Few x) {is : Bool} {th : Nat → Bool} {D : Disk} (h : Sw x is th 20 D) : ∃ d1 d2 l, Cm.sweep D = (d1, 0) ∧ d1.list = (d2, l, 0) ∧ l.length = (want x is th 20).length ∧ (∀ n ∈ want x is th 20, n ∈ l) ∧ D.files.length ≤ 30 ∧ d1.files.length ≤ 30 := by
  have c0 : cont D (slotN 0) = [] := cont_none (by
    rw [h.get, if_neg (fun hh => slot_ne hh.2), if_neg]
    intro hm
    obtain ⟨j, hj, e⟩ := List.mem_map.1 hm
    exact (nm_slot j (cr_lt hj)).1 e)
  have n1 : slotN 1 ∉ (cr th 20).map nm := by
    intro hm
    obtain ⟨j, hj, e⟩ := List.mem_map.1 hm
    exact (nm_slot j (cr_lt hj)).2.1 e
  obtain ⟨z, hz, hst, hs1⟩ : ∃ z, Oc.choose (cont D (slotN 0)) (cont D (slotN 1)) = (z, (Oc.choose (cont D (slotN 0)) (cont D (slotN 1))).2.1, is) ∧ (∀ i, i < 20 → stays (nm i) z is = kp x is i) ∧ True := by
    cases is with
    | true =>
      have c1 : cont D (slotN 1) = (menc x).1 := cont_some (f := ⟨(menc x).1, (menc x).1⟩) (by rw [h.get, if_pos ⟨rfl, rfl⟩])
      refine ⟨x, ?_, stays_nm hx, trivial⟩
      rw [c0, c1, choose_r hx.ok (by rw [hx.seq]; decide) hx.start]
    | false =>
      have c1 : cont D (slotN 1) = [] := cont_none (by rw [h.get, if_neg (by rintro ⟨hh, _⟩; cases hh), if_neg n1])
      refine ⟨mf0, ?_, fun i hi => ?_, trivial⟩
      · rw [c0, c1, choose_0]
      · have ns := nm_slot i hi
        rw [no_is _ _ ns.1 ns.2.1, kp_no]
  obtain ⟨d1, e1, A⟩ := sweep_q h.q (m := z) (is := is) (by rw [hz]) (by rw [hz])
  obtain ⟨o2, e2⟩ := list_q A.q
  have key : ∀ n, (fget d1.files n).isSome = true ↔ n ∈ want x is th 20 := fun n => by
    rw [A.get, h.get]
    unfold want
    rw [List.mem_append]
    constructor
    · intro hh
      split at hh
      · rename_i hs
        split at hh
        · rename_i hc; left; rw [if_pos hc.1, hc.2]; simp
        · split at hh
          · rename_i hc hm
            obtain ⟨j, hj, e⟩ := List.mem_map.1 hm
            right
            rw [← e, hst j (cr_lt hj)] at hs
            exact List.mem_map.2 ⟨j, List.mem_filter.2 ⟨hj, hs⟩, e⟩
          · cases hh
      · cases hh
    · rintro (hh | hh)
      · cases his : is with
        | false => rw [his] at hh; simp at hh
        | true =>
          rw [his] at hh
          simp at hh
          rw [hh, if_pos (stays_slot (by omega) _ _), if_pos ⟨rfl, rfl⟩]; rfl
      · obtain ⟨j, hj, e⟩ := List.mem_map.1 hh
        obtain ⟨hj1, hj2⟩ := List.mem_filter.1 hj
        have hj20 := cr_lt hj1
        rw [← e, if_pos (by rw [hst j hj20]; exact hj2), if_neg (fun hc => (nm_slot j hj20).2.1 hc.2), if_pos (List.mem_map.2 ⟨j, hj1, rfl⟩)]; rfl
  have hnd : (want x is th 20).Nodup := by
    unfold want
    have hm : (((cr th 20).filter (kp x is)).map nm).Nodup := nodup_map_nm (((List.nodup_range).filter _).filter _) fun j hj => cr_lt (List.mem_filter.1 hj).1
    cases is with
    | false => simpa using hm
    | true =>
      rw [if_pos rfl, List.singleton_append, List.nodup_cons]
      refine ⟨fun hh => ?_, hm⟩
      obtain ⟨j, hj, e⟩ := List.mem_map.1 hh
      exact (nm_slot j (cr_lt (List.mem_filter.1 hj).1)).2.1 e
  have l1 := len_names (nodup_names A.q.ok.ris) (ns := want x is th 20) fun n hn => (key n).1 (mem_names.1 hn)
  have l2 := len_names hnd (ns := d1.files.map (·.1)) fun n hn => mem_names.2 ((key n).2 hn)
  have hc := A.cnt
  have hc2 := h.cnt
  exact ⟨d1, _, _, e1, e2, by omega, fun n hn => mem_names.2 ((key n).2 hn), by omega, by omega⟩
/-- the manifest of the statement -/
def swm (m : Mf) : Mf := ⟨(right m 7).seq, (right m 7).n, (right m 7).shards, min (right m 7).step 9, (right m 7).kind, (right m 7).start⟩
theorem swm_few (m : Mf) : Few (swm m) := by
  have h := right_ok m (q := 7) (by decide)
  have hf := mright_facts h
  have hs := right_seq m 7
  have ht := right_start m 7
  have h9 : 1 ≤ (right m 7).shards ∧ (right m 7).shards ≤ 9 := by unfold right; split <;> (simp only; omega)
  refine ⟨?_, hs, ht, h9, by show -1 ≤ min (right m 7).step 9 ∧ min (right m 7).step 9 ≤ 9; omega⟩
  unfold swm
  simp only [mright, Bool.and_eq_true, decide_eq_true_eq] at h ⊢
  refine ⟨⟨h.1.1, h.1.2.1, by omega⟩, ?_⟩
  have h2 := h.2
  by_cases hm : (right m 7).step = -1
  · rw [if_pos hm] at h2
    rw [if_pos (by omega)]; exact h2
  · rw [if_neg hm] at h2
    rw [if_neg (by omega)]
    simp only [Bool.and_eq_true, decide_eq_true_eq] at h2 ⊢
    exact ⟨by omega, h2.2⟩
end Go.Cg.Cl
namespace Go.Cg.Cl
set_option linter.unusedVariables false
set_option linter.unusedSimpArgs false
open Go.Cg.Dk Go.Cg.Oc Go.Cg.Cm
/-- which names there are, by the numbers that come in -/
def thn (l : List Int) (i k : Nat) : Bool := (List.range k).any fun j => decide (l.getD j 0 % 65536 % 20 = (i : Int))
def th (l : List Int) (i : Nat) : Bool := thn l i (min l.length 40)
theorem thn_0 (l : List Int) (i : Nat) : thn l i 0 = false := rfl
theorem thn_more (l : List Int) (i k : Nat) : thn l i (k + 1) = (thn l i k || decide (l.getD k 0 % 65536 % 20 = (i : Int))) := by unfold thn; rw [List.range_succ, List.any_append]; simp
/-- is a name among these? -/
def inn (ls : List Nm) (n : Nm) (k : Nat) : Bool := (List.range k).any fun j => decide (ls.getD j [] = n)
theorem inn_0 (ls : List Nm) (n : Nm) : inn ls n 0 = false := rfl
theorem inn_more (ls : List Nm) (n : Nm) (k : Nat) : inn ls n (k + 1) = (inn ls n k || decide (ls.getD k [] = n)) := by unfold inn; rw [List.range_succ, List.any_append]; simp
theorem inn_all {ls : List Nm} {n : Nm} (h : n ∈ ls) : inn ls n ls.length = true := by
  unfold inn
  obtain ⟨j, hj⟩ := List.getElem?_of_mem h
  rw [List.any_eq_true]
  exact ⟨j, List.mem_range.2 (List.getElem?_eq_some_iff.1 hj).1, by rw [List.getD_eq_getElem?_getD, hj]; simp⟩
theorem want_at {x : Mf} {is : Bool} {t : Nat → Bool} {i j : Nat} (h : j < (want x is t i).length) : (want x is t i).getD j [] ∈ want x is t i := by
  rw [List.getD_eq_getElem?_getD, List.getElem?_eq_getElem h]; exact List.getElem_mem h
theorem want_len (x : Mf) (is : Bool) (t : Nat → Bool) (i : Nat) : (want x is t i).length ≤ i + 1 := by
  unfold want
  rw [List.length_append, List.length_map]
  have h1 := List.length_filter_le (kp x is) (cr t i)
  have h2 : (cr t i).length ≤ i := by unfold cr; have := List.length_filter_le t (List.range i); rwa [List.length_range] at this
  have h3 : (if is = true then [slotN 1] else []).length ≤ 1 := by split <;> simp
  omega
theorem kp_a {x : Mf} {i : Nat} (h : i < 4) : kp x true i = decide (shd.getD (i % 4) 0 < x.shards) := by
  unfold kp; rw [decide_eq_true h, decide_eq_false (show ¬ 5 ≤ i by omega)]; simp
theorem kp_b {x : Mf} {i : Nat} (h : 5 ≤ i) (h9 : i < 9) : kp x true i = decide (std.getD ((i - 5) % 4) 0 ≤ x.step) := by
  unfold kp; rw [decide_eq_false (show ¬ i < 4 by omega), decide_eq_true h, decide_eq_true h9]; simp
theorem kp_c {x : Mf} {i : Nat} (h4 : ¬ i < 4) (h : ¬ (5 ≤ i ∧ i < 9)) : kp x true i = false := by
  unfold kp
  by_cases h5 : 5 ≤ i
  · rw [decide_eq_false h4, decide_eq_false (show ¬ i < 9 by omega)]; simp
  · rw [decide_eq_false h4, decide_eq_false h5]; simp
end Go.Cg.Cl

/- Walks of functions of the program, over slots and resources, and what they rest on. No condition. -/
import Derived.Test.YtembfpadojnpmaaGreatDoorKMailboxDownb
import Derived.Test.YtembfpadojnpmaaGreatDoorRs
import Derived.Test.YtembfpadojnpmaaGreatDoorRf
import Derived.Test.YtembfpadojnpmaaGreatDoorQu
import Derived.Test.YtembfpadojnpmaaGreatDoorBx
import Derived.Shelf.Strconv.Itoa3
import Derived.Shelf.Small.Wraps
namespace Go.Proofs.YtembfpadojnpmaaGreatDoor
open Go.RowKit Go.Cg
set_option linter.unusedVariables false
set_option linter.unusedSimpArgs false
set_option maxRecDepth 8000
set_option synthInstance.maxHeartbeats 1000000
set_option synthInstance.maxSize 1000000
theorem el91 : Elem Tryz.prog 91 96 3 24 (.agg #[.int .u64 0, .int .u64 0, .int .i64 0]) := ⟨Tryz.underlying91, by kernel_rfl, rfl, by decide⟩
open Go.Cg.Rn (R Bd Hd hd0 hlt hg HeapOk)
def hcell (h : Hd) : List Value := [.int .u64 ((h.1.1 : Nat) : Int), .int .u64 ((h.1.2 : Nat) : Int), .int .i64 ((h.2 : Nat) : Int)]
def hds (l : List Hd) : List Value := l.flatMap hcell
theorem hds_cons (e : Hd) (l : List Hd) : hds (e :: l) = hcell e ++ hds l := by simp [hds]
@[simp] theorem len_hds : ∀ l : List Hd, (hds l).length = l.length * 3
  | [] => rfl
  | e :: l => by rw [hds_cons, List.length_append, len_hds l]; simp [hcell]; omega
theorem hds_app (l l' : List Hd) : hds l ++ hds l' = hds (l ++ l') := by simp [hds]
theorem hds_take : ∀ (l : List Hd) (k : Nat), (hds l).take (k * 3) = hds (l.take k)
  | [], k => by simp [hds]
  | e :: l, 0 => by simp [hds]
  | e :: l, k + 1 => by
    rw [hds_cons, List.take_succ_cons, hds_cons, ← hds_take l k, show (k + 1) * 3 = 3 + k * 3 from by omega]
    exact List.take_length_add_append (l₁ := hcell e) (l₂ := hds l) (k * 3)
theorem hds_from : ∀ {l : List Hd} {i : Nat}, i < l.length → ∀ k v, (hcell (l.getD i hd0))[k]? = some v → (hds l)[i * 3 + k]? = some v
  | e :: l, 0, _, k, v, h => by
    have hk : k < (hcell e).length := (List.getElem?_eq_some_iff.1 h).1
    rw [hds_cons, Nat.zero_mul, Nat.zero_add, List.getElem?_append_left hk]; exact h
  | e :: l, i + 1, hi, k, v, h => by
    have := hds_from (l := l) (i := i) (by simpa using hi) k v (by simpa using h)
    rw [hds_cons, List.getElem?_append_right (by simp [hcell]; omega)]
    rw [show (i + 1) * 3 + k - (hcell e).length = i * 3 + k from by simp [hcell]; omega]
    exact this
theorem one_hds (l : List Hd) : ∀ u ∈ hds l, u.oneCell' = true := by
  intro u hu
  simp only [hds, List.mem_flatMap] at hu
  obtain ⟨e, _, he⟩ := hu
  simp [hcell] at he
  rcases he with rfl | rfl | rfl <;> rfl
theorem putL_app : ∀ (vs xs ys : List Value) (j : Nat), putL (xs ++ ys) (xs.length + j) vs = xs ++ putL ys j vs
  | [], _, _, _ => rfl
  | v :: vs, xs, ys, j => by
    rw [putL, putL, List.set_append, if_neg (by omega), show xs.length + j - xs.length = j from by omega, Nat.add_assoc, putL_app vs xs _ (j + 1)]
theorem hds_put' : ∀ {l : List Hd} {i : Nat} {x : Hd}, i < l.length → putL (hds l) (i * 3) (hcell x) = hds (l.set i x)
  | e :: l, 0, x, _ => by rw [hds_cons]; simp [putL, hcell, hds_cons]
  | e :: l, i + 1, x, h => by
    rw [hds_cons, show (i + 1) * 3 = (hcell e).length + i * 3 from by simp [hcell]; omega, putL_app, hds_put' (l := l) (i := i) (by simpa using h), List.set_cons_succ, hds_cons]
theorem hds_put {l : List Hd} {i j : Nat} {x : Hd} (h : i < l.length) (hj : j = i * 3 := by omega) : putL (hds l) j (hcell x) = hds (l.set i x) := by subst hj; exact hds_put' h
theorem recs_put' : ∀ {l : List R} {i : Nat} {x : R}, i < l.length → putL (recs l) (i * 2) (rcell x) = recs (l.set i x)
  | e :: l, 0, x, _ => by simp [putL, rcell, recs]
  | e :: l, i + 1, x, h => by
    have e3 : ∀ (q : R) (l : List R), recs (q :: l) = rcell q ++ recs l := fun q l => by simp [recs]
    rw [e3, show (i + 1) * 2 = (rcell e).length + i * 2 from by simp [rcell]; omega, putL_app, recs_put' (l := l) (i := i) (by simpa using h), List.set_cons_succ, e3]
theorem recs_put {l : List R} {i j : Nat} {x : R} (h : i < l.length) (hj : j = i * 2 := by omega) : putL (recs l) j (rcell x) = recs (l.set i x) := by subst hj; exact recs_put' h
theorem meth96_Before (v : Value) : Meth Tryz.prog 96 v "Before" 162 := fun w => by kernel_rfl
theorem before_cases (x y : Hd) : Rn.ltb x.1 y.1 = true ∨ (Rn.ltb x.1 y.1 = false ∧ x.1 = y.1) ∨ (Rn.ltb x.1 y.1 = false ∧ ¬ x.1 = y.1) := by
  cases Rn.ltb x.1 y.1
  · by_cases h : x.1 = y.1 <;> simp [h]
  · simp
theorem hbefore_ct (w : World) (fr : List Res) (x y : Hd) (H : Sat w (fr)) :
    Rt Tryz.prog 162 #[.agg #[.int .u64 ((x.1.1 : Nat) : Int), .int .u64 ((x.1.2 : Nat) : Int), .int .i64 ((x.2 : Nat) : Int)], .agg #[.int .u64 ((y.1.1 : Nat) : Int), .int .u64 ((y.1.2 : Nat) : Int), .int .i64 ((y.2 : Nat) : Int)]] w fun v w' => v = .bool (hlt x y) ∧ Sat w' fr := by
  refine en2 Tryz.func162 rfl Tryz.ntmps162 rfl fun a S => ?_
  refine sb ?_
  refine r_box (c := #[.int .u64 ((x.1.1 : Nat) : Int), .int .u64 ((x.1.2 : Nat) : Int), .int .i64 ((x.2 : Nat) : Int)]) S H rfl rfl rfl rfl rfl rfl fun a w b1 S H => ?_
  refine r_box (c := #[.int .u64 ((y.1.1 : Nat) : Int), .int .u64 ((y.1.2 : Nat) : Int), .int .i64 ((y.2 : Nat) : Int)]) S H rfl rfl rfl rfl rfl rfl fun a w b2 S H => ?_
  refine rs 1 S H t0 fun a w S H => ?_
  rcases before_cases x y with h0 | ⟨h0, h1⟩ | ⟨h0, h1⟩
  · skip
    refine sb ?_
    refine rn 4 S H t0 fun a w S H => ?_
    refine r_call (args := #[.agg #[.int .u64 ((x.1.1 : Nat) : Int), .int .u64 ((x.1.2 : Nat) : Int)], .agg #[.int .u64 ((y.1.1 : Nat) : Int), .int .u64 ((y.1.2 : Nat) : Int)]]) S rfl rfl Tryz.call73 (before_ct (H := H) _ _ x.1 y.1) rfl rfl rfl fun v a w hR S => ?_
    obtain ⟨rfl, H⟩ := hR
    have S := S.retell (v' := .bool true) 9 rfl (by rw [h0])
    refine rs 15 S H t0 fun a w S H => ?_
    refine wp_ret ?_
    refine r_ret1 S H Tryz.results162 (ro_tmp S rfl) ?_
    have e : hlt x y = true := by rw [Rn.hlt_eq, h0]; rfl
    rw [e]
    exact ⟨rfl, H.drop.drop⟩
  · skip
    refine sb ?_
    refine rn 4 S H t0 fun a w S H => ?_
    refine r_call (args := #[.agg #[.int .u64 ((x.1.1 : Nat) : Int), .int .u64 ((x.1.2 : Nat) : Int)], .agg #[.int .u64 ((y.1.1 : Nat) : Int), .int .u64 ((y.1.2 : Nat) : Int)]]) S rfl rfl Tryz.call73 (before_ct (H := H) _ _ x.1 y.1) rfl rfl rfl fun v a w hR S => ?_
    obtain ⟨rfl, H⟩ := hR
    have S := S.retell (v' := .bool false) 9 rfl (by rw [h0])
    refine rn 5 S H t0 fun a w S H => ?_
    refine r_y S H (yl_bin S rfl rfl rfl (fun w => run_eqGuard_agg w _ _ _ _ _ _ (by kernel_rfl)) fun w _ => eqR x.1 y.1 w) rfl rfl rfl fun a S => ?_
    have S := S.retell (v' := .bool true) 15 rfl (by rw [decide_eq_true h1])
    refine rs 9 S H t0 fun a w S H => ?_
    refine wp_ret ?_
    refine r_ret1 S H Tryz.results162 (ro_tmp S rfl) ?_
    have e : hlt x y = decide ((x.2 : Int) < (y.2 : Int)) := by rw [Rn.hlt_eq, h0]; simp [h1]
    rw [e]
    exact ⟨rfl, H.drop.drop⟩
  refine sb ?_
  refine rn 4 S H t0 fun a w S H => ?_
  refine r_call (args := #[.agg #[.int .u64 ((x.1.1 : Nat) : Int), .int .u64 ((x.1.2 : Nat) : Int)], .agg #[.int .u64 ((y.1.1 : Nat) : Int), .int .u64 ((y.1.2 : Nat) : Int)]]) S rfl rfl Tryz.call73 (before_ct (H := H) _ _ x.1 y.1) rfl rfl rfl fun v a w hR S => ?_
  obtain ⟨rfl, H⟩ := hR
  have S := S.retell (v' := .bool false) 9 rfl (by rw [h0])
  refine rn 5 S H t0 fun a w S H => ?_
  refine r_y S H (yl_bin S rfl rfl rfl (fun w => run_eqGuard_agg w _ _ _ _ _ _ (by kernel_rfl)) fun w _ => eqR x.1 y.1 w) rfl rfl rfl fun a S => ?_
  have S := S.retell (v' := .bool false) 15 rfl (by rw [decide_eq_false h1])
  refine rs 9 S H t0 fun a w S H => ?_
  refine wp_ret ?_
  refine r_ret1 S H Tryz.results162 (ro_tmp S rfl) ?_
  have e : hlt x y = false := by rw [Rn.hlt_eq, h0]; simp [h1]
  rw [e]
  exact ⟨rfl, H.drop.drop⟩

theorem push_ct (w : World) (fr : List Res) (hb : Nat) (A : Option Addr) (c : Nat) (hs : List Hd) (x : Hd) (hok : HeapOk hs) (hn : hs.length ≤ 1099511627776) (H : Sat w (blk hb (.cells #[.slice A hs.length c] 93) :: row 96 3 (.slice A hs.length c) hs.length (hds hs) :: fr)) :
    Rt Tryz.prog 46 #[.pointer (some ⟨hb, 0, none⟩), .agg #[.int .u64 ((x.1.1 : Nat) : Int), .int .u64 ((x.1.2 : Nat) : Int), .int .i64 ((x.2 : Nat) : Int)]] w fun v w' => ∃ A' c' hs', v = .tuple #[] ∧ HeapOk hs' ∧ hs'.Perm (x :: hs) ∧ Sat w' (blk hb (.cells #[.slice A' hs'.length c'] 93) :: row 96 3 (.slice A' hs'.length c') hs'.length (hds hs') :: fr) := by
  refine en2 Tryz.func46 rfl Tryz.ntmps46 rfl fun a S => ?_
  refine sb ?_
  refine r_box (c := #[.int .u64 ((x.1.1 : Nat) : Int), .int .u64 ((x.1.2 : Nat) : Int), .int .i64 ((x.2 : Nat) : Int)]) S H rfl rfl rfl rfl rfl rfl fun a w b1 S H => ?_
  refine sn ?_
  refine sr 6 S H t0 fun a w S H => ?_
  refine r_seq ?_
  refine ha [0] 3 H fun w H HS => ?_
  refine tk 0 S HS fun a S => ?_
  refine tk 1 S HS fun a S => ?_
  refine tk 2 S HS fun a S => ?_
  refine tk 3 S HS fun a S => ?_
  refine tk 5 S HS fun a S => ?_
  refine hmemo [true, true, true, true, true, true, true, false, false, false, false] 4 (fun a w => ∃ b2 : Nat, Slots a 61 [(0, .pointer (some ⟨hb, 0, none⟩)), (3, .pointer (some ⟨b1, 0, none⟩)), (4, .int .i64 ((hs.length : Nat) : Int)), (10, .pointer (some ⟨hb, 0, none⟩)), (14, .slice A hs.length c), (16, .slice (some ⟨b2, 0, none⟩) 1 1), (61, undef)] ∧ Sat w (row 96 3 (.slice (some ⟨b2, 0, none⟩) 1 1) 1 (hds [x]) :: blk b1 (.cells #[.int .u64 ((x.1.1 : Nat) : Int), .int .u64 ((x.1.2 : Nat) : Int), .int .i64 ((x.2 : Nat) : Int)] 96) :: blk hb (.cells #[.slice A hs.length c] 93) :: row 96 3 (.slice A hs.length c) hs.length (hds hs) :: fr)) ?_ fun K0 => ?_
  · rintro a w ⟨b2, S, H⟩
    have HS : Sat w _ := pk [1] 4 H
    refine h1 7 ?_
    refine r_appendS (L' := fun A6 c7 => row 96 3 (.slice (some ⟨b2, 0, none⟩) 1 1) 1 (hds [x]) :: blk b1 (.cells #[.int .u64 ((x.1.1 : Nat) : Int), .int .u64 ((x.1.2 : Nat) : Int), .int .i64 ((x.2 : Nat) : Int)] 96) :: blk hb (.cells #[.slice A hs.length c] 93) :: row 96 3 (.slice A6 (hs.length + 1) c7) (hs.length + 1) (hds (hs ++ ([x]))) :: fr) (xs' := hds (hs ++ ([x]))) 3 S H rfl rfl rfl rfl el91 (SlOk.ofRow (i := 0) H rfl) (one_hds _) (by simp only [maxLen]; first | omega | (simp <;> omega)) (by first | omega | (simp <;> omega)) (hds_app hs ([x])) (by first | omega | (simp <;> omega)) (fun _ _ => rfl) rfl rfl rfl fun a w A6 c7 hA6 S H => ?_
    refine sn ?_
    refine hk (pk [1] 4 H) fun HS => ?_
    refine tk 8 S HS fun a S => ?_
    refine tk 9 S HS fun a S => ?_
    refine h1 10 ?_
    refine rs 1 S H t0 fun a w S H => ?_
    refine hk (pk [1] 4 H) fun HS => ?_
    refine hz ?_
    refine x_then ?_
    refine r_seq ?_
    refine r_block ?_
    obtain ⟨b8, rfl⟩ := H.rowAt (i := 3) rfl (by omega)
    refine r_loop (ι := List Hd × Nat) (fun ⟨l, i⟩ a w => Slots a 61 [(0, .pointer (some ⟨hb, 0, none⟩)), (3, .pointer (some ⟨b1, 0, none⟩)), (4, .int .i64 ((i : Nat) : Int)), (61, undef)] ∧ Sat w (row 96 3 (.slice (some ⟨b2, 0, none⟩) 1 1) 1 (hds [x]) :: blk b1 (.cells #[.int .u64 ((x.1.1 : Nat) : Int), .int .u64 ((x.1.2 : Nat) : Int), .int .i64 ((x.2 : Nat) : Int)] 96) :: blk hb (.cells #[.slice (some ⟨b8, 0, none⟩) (hs.length + 1) c7] 93) :: row 96 3 (.slice (some ⟨b8, 0, none⟩) (hs.length + 1) c7) (hs.length + 1) (hds l) :: fr) ∧ (Rn.UpEx x i l ∧ (l.set i x).Perm (x :: hs) ∧ l.length = hs.length + 1)) (fun ⟨l, i⟩ => i) (hs ++ [x], hs.length) ⟨S.sub ⟨rfl, rfl, rfl, rfl, trivial⟩, H, ⟨Rn.UpEx.start hok, by simp [List.set_append], by simp⟩⟩ (fun ⟨l, i⟩ a w hI => ?_)
    obtain ⟨S, H, hI⟩ := hI
    obtain ⟨hU, hP, hL⟩ := hI
    have hil := hU.lt
    refine r_seq ?_
    rcases Nat.eq_zero_or_pos i with h0 | h0
    · skip
      apply qb H rfl (by kernel_rfl)
      · skip
        refine qn 1 S t0 fun a S => ?_
        refine q_y S (y_gt S rfl rfl rfl) rfl rfl rfl fun a S => ?_
        have S := S.retell (v' := .bool false) 21 rfl (by rw [decide_eq_false (by omega)])
        refine qn 14 S t0 fun a S => ?_
        exact q_nil S
      · intro a w S H
        refine r_condF S rfl ?_
        refine wp_exit ?_
        refine x_thenExit ?_
        refine x_thenExit ?_
        refine x_blockHere ?_
        refine x_then ?_
        refine ha [0, 1, 2] 4 H fun w H HS => ?_
        refine tk 0 S HS fun a S => ?_
        refine tk 1 S HS fun a S => ?_
        refine tk 2 S HS fun a S => ?_
        refine tk 3 S HS fun a S => ?_
        refine tk 4 S HS fun a S => ?_
        refine tk 5 S HS fun a S => ?_
        refine tkY 6 S HS rfl (y_index S rfl rfl rfl Tryz.underlying91 Tryz.sizeOf96 (by omega) (by omega)) rfl rfl rfl fun a S => ?_
        refine h1 7 ?_
        refine r_setRows (vs := [.int .u64 ((x.1.1 : Nat) : Int), .int .u64 ((x.1.2 : Nat) : Int), .int .i64 ((x.2 : Nat) : Int)]) (xs' := hds (l.set i x)) (L' := row 96 3 (.slice (some ⟨b2, 0, none⟩) 1 1) 1 (hds [x]) :: blk b1 (.cells #[.int .u64 ((x.1.1 : Nat) : Int), .int .u64 ((x.1.2 : Nat) : Int), .int .i64 ((x.2 : Nat) : Int)] 96) :: blk hb (.cells #[.slice (some ⟨b8, 0, none⟩) (hs.length + 1) c7] 93) :: row 96 3 (.slice (some ⟨b8, 0, none⟩) (hs.length + 1) c7) (hs.length + 1) (hds (l.set i x)) :: fr) 3 S H rfl rfl rfl rfl Tryz.sizeOf96 rfl rfl (by simp [Value.oneCell']) (by first | omega | (simp <;> omega)) (hds_put (by first | omega | (simp <;> omega))) rfl rfl rfl fun w H => ?_
        refine sn ?_
        refine hk (pk [0, 1, 2] 4 H) fun HS => ?_
        refine hz ?_
        refine r_end0 S Tryz.results46 ?_
        have hdn : HeapOk (l.set i x) := hU.done (fun h => absurd h (by omega))
        have en : hs.length + 1 = (l.set i x).length := by simp; omega
        have H := pk [2, 3] 4 H
        rw [en] at H
        exact ⟨_, _, l.set i x, rfl, hdn, hP, H⟩
    apply qb H rfl (by kernel_rfl)
    · skip
      refine qn 1 S t0 fun a S => ?_
      refine q_y S (y_gt S rfl rfl rfl) rfl rfl rfl fun a S => ?_
      have S := S.retell (v' := .bool true) 21 rfl (by rw [decide_eq_true (by omega)])
      refine qn 2 S t0 fun a S => ?_
      refine q_y S (y_iface S rfl rfl Tryz.underlying96 (fun _ h => by cases h)) rfl rfl rfl fun a S => ?_
      refine qn 5 S t0 fun a S => ?_
      refine q_y S (y_sub S rfl rfl rfl (wi64 (by omega) (by omega))) rfl rfl rfl fun a S => ?_
      have S := S.retell (v' := .int .i64 (((i - 1) : Nat) : Int)) 30 rfl (int_eq (by omega))
      refine q_y S (y_quoN S rfl rfl rfl (by omega) (by omega) (wdivi64 (by omega) (by omega) (by omega))) rfl rfl rfl fun a S => ?_
      have S := S.retell (v' := .int .i64 ((((i - 1) / 2) : Nat) : Int)) 31 rfl (int_eq (by omega))
      refine q_y S (y_index S rfl rfl rfl Tryz.underlying91 Tryz.sizeOf96 (by omega) (by omega)) rfl rfl rfl fun a S => ?_
      refine q_y S (y_loadAggAt [.int .u64 (((l.getD ((i - 1) / 2) hd0).1.1 : Nat) : Int), .int .u64 (((l.getD ((i - 1) / 2) hd0).1.2 : Nat) : Int), .int .i64 (((l.getD ((i - 1) / 2) hd0).2 : Nat) : Int)] S rfl rfl (fun w => ⟨Tryz.isAgg96 w, Tryz.sizeOf96 w⟩) rfl (fun w H => (SlOk.ofRow (i := 3) H rfl).cells w H (hds_from (i := ((i - 1) / 2)) (by first | omega | (simp <;> omega))))) rfl rfl rfl fun a S => ?_
      refine q_callM (args := #[.agg #[.int .u64 (((l.getD ((i - 1) / 2) hd0).1.1 : Nat) : Int), .int .u64 (((l.getD ((i - 1) / 2) hd0).1.2 : Nat) : Int), .int .i64 (((l.getD ((i - 1) / 2) hd0).2 : Nat) : Int)]]) (args' := #[.agg #[.int .u64 ((x.1.1 : Nat) : Int), .int .u64 ((x.1.2 : Nat) : Int), .int .i64 ((x.2 : Nat) : Int)], .agg #[.int .u64 (((l.getD ((i - 1) / 2) hd0).1.1 : Nat) : Int), .int .u64 (((l.getD ((i - 1) / 2) hd0).1.2 : Nat) : Int), .int .i64 (((l.getD ((i - 1) / 2) hd0).2 : Nat) : Int)]]) S rfl rfl rfl (meth96_Before _) Tryz.call162 rfl (fun w H => hbefore_ct (H := H) _ _ x (l.getD ((i - 1) / 2) hd0)) rfl rfl rfl fun a S => ?_
      refine qn 1 S t0 fun a S => ?_
      exact q_nil S
    · intro a w S H
      refine r_cond S rfl (fun h35 => ?_) (fun h35 => ?_)
      · skip
        refine wp_skip ?_
        refine x_then ?_
        refine r_block ?_
        refine r_seq ?_
        refine ha [0, 1, 2] 4 H fun w H HS => ?_
        refine tk 0 S HS fun a S => ?_
        refine tk 1 S HS fun a S => ?_
        refine tk 2 S HS fun a S => ?_
        refine tk 3 S HS fun a S => ?_
        refine tk 4 S HS fun a S => ?_
        refine tk 5 S HS fun a S => ?_
        refine tk 6 S HS fun a S => ?_
        refine tk 7 S HS fun a S => ?_
        refine tk 8 S HS fun a S => ?_
        refine tk 9 S HS fun a S => ?_
        refine tkY 10 S HS rfl (y_sub S rfl rfl rfl (wi64 (by omega) (by omega))) rfl rfl rfl fun a S => ?_
        have S := S.retell (v' := .int .i64 (((i - 1) : Nat) : Int)) 46 rfl (int_eq (by omega))
        refine tkY 11 S HS rfl (y_quoN S rfl rfl rfl (by omega) (by omega) (wdivi64 (by omega) (by omega) (by omega))) rfl rfl rfl fun a S => ?_
        have S := S.retell (v' := .int .i64 ((((i - 1) / 2) : Nat) : Int)) 47 rfl (int_eq (by omega))
        refine tkY 12 S HS rfl (y_index S rfl rfl rfl Tryz.underlying91 Tryz.sizeOf96 (by omega) (by omega)) rfl rfl rfl fun a S => ?_
        refine h1 13 ?_
        refine r_y S H (y_loadAggAt [.int .u64 (((l.getD ((i - 1) / 2) hd0).1.1 : Nat) : Int), .int .u64 (((l.getD ((i - 1) / 2) hd0).1.2 : Nat) : Int), .int .i64 (((l.getD ((i - 1) / 2) hd0).2 : Nat) : Int)] S rfl rfl (fun w => ⟨Tryz.isAgg96 w, Tryz.sizeOf96 w⟩) rfl (fun w H => (SlOk.ofRow (i := 3) H rfl).cells w H (hds_from (i := ((i - 1) / 2)) (by first | omega | (simp <;> omega))))) rfl rfl rfl fun a S => ?_
        refine sn ?_
        refine hk (pk [0, 1, 2] 4 H) fun HS => ?_
        refine tkY 14 S HS rfl (y_index S rfl rfl rfl Tryz.underlying91 Tryz.sizeOf96 (by omega) (by omega)) rfl rfl rfl fun a S => ?_
        refine h1 15 ?_
        refine r_setRows (vs := [.int .u64 (((l.getD ((i - 1) / 2) hd0).1.1 : Nat) : Int), .int .u64 (((l.getD ((i - 1) / 2) hd0).1.2 : Nat) : Int), .int .i64 (((l.getD ((i - 1) / 2) hd0).2 : Nat) : Int)]) (xs' := hds (l.set i (l.getD ((i - 1) / 2) hd0))) (L' := row 96 3 (.slice (some ⟨b2, 0, none⟩) 1 1) 1 (hds [x]) :: blk b1 (.cells #[.int .u64 ((x.1.1 : Nat) : Int), .int .u64 ((x.1.2 : Nat) : Int), .int .i64 ((x.2 : Nat) : Int)] 96) :: blk hb (.cells #[.slice (some ⟨b8, 0, none⟩) (hs.length + 1) c7] 93) :: row 96 3 (.slice (some ⟨b8, 0, none⟩) (hs.length + 1) c7) (hs.length + 1) (hds (l.set i (l.getD ((i - 1) / 2) hd0))) :: fr) 3 S H rfl rfl rfl rfl Tryz.sizeOf96 rfl rfl (by simp [Value.oneCell']) (by first | omega | (simp <;> omega)) (hds_put (by first | omega | (simp <;> omega))) rfl rfl rfl fun w H => ?_
        refine sn ?_
        refine hk (pk [0, 1, 2] 4 H) fun HS => ?_
        refine hz ?_
        refine x_then ?_
        refine r_region ?_
        refine rn 1 S H t0 fun a w S H => ?_
        refine r_y S H (y_sub S rfl rfl rfl (wi64 (by omega) (by omega))) rfl rfl rfl fun a S => ?_
        have S := S.retell (v' := .int .i64 (((i - 1) : Nat) : Int)) 52 rfl (int_eq (by omega))
        refine r_y S H (y_quoN S rfl rfl rfl (by omega) (by omega) (wdivi64 (by omega) (by omega) (by omega))) rfl rfl rfl fun a S => ?_
        have S := S.retell (v' := .int .i64 ((((i - 1) / 2) : Nat) : Int)) 53 rfl (int_eq (by omega))
        refine rn 1 S H t0 fun a w S H => ?_
        refine r_nil ?_
        refine x_blockEnd ?_
        refine x_then ?_
        exact ⟨(l.set i (l.getD ((i - 1) / 2) hd0), (i - 1) / 2), ⟨S.sub ⟨rfl, rfl, rfl, rfl, trivial⟩, H, ⟨hU.step h0 h35, (Rn.swap_perm hU.lt (by omega) (by omega)).trans hP, by simp; omega⟩⟩, by show (i - 1) / 2 < i; omega⟩
      refine wp_exit ?_
      refine x_thenExit ?_
      refine x_thenExit ?_
      refine x_blockHere ?_
      refine x_then ?_
      refine ha [0, 1, 2] 4 H fun w H HS => ?_
      refine tk 0 S HS fun a S => ?_
      refine tk 1 S HS fun a S => ?_
      refine tk 2 S HS fun a S => ?_
      refine tk 3 S HS fun a S => ?_
      refine tk 4 S HS fun a S => ?_
      refine tk 5 S HS fun a S => ?_
      refine tkY 6 S HS rfl (y_index S rfl rfl rfl Tryz.underlying91 Tryz.sizeOf96 (by omega) (by omega)) rfl rfl rfl fun a S => ?_
      refine h1 7 ?_
      refine r_setRows (vs := [.int .u64 ((x.1.1 : Nat) : Int), .int .u64 ((x.1.2 : Nat) : Int), .int .i64 ((x.2 : Nat) : Int)]) (xs' := hds (l.set i x)) (L' := row 96 3 (.slice (some ⟨b2, 0, none⟩) 1 1) 1 (hds [x]) :: blk b1 (.cells #[.int .u64 ((x.1.1 : Nat) : Int), .int .u64 ((x.1.2 : Nat) : Int), .int .i64 ((x.2 : Nat) : Int)] 96) :: blk hb (.cells #[.slice (some ⟨b8, 0, none⟩) (hs.length + 1) c7] 93) :: row 96 3 (.slice (some ⟨b8, 0, none⟩) (hs.length + 1) c7) (hs.length + 1) (hds (l.set i x)) :: fr) 3 S H rfl rfl rfl rfl Tryz.sizeOf96 rfl rfl (by simp [Value.oneCell']) (by first | omega | (simp <;> omega)) (hds_put (by first | omega | (simp <;> omega))) rfl rfl rfl fun w H => ?_
      refine sn ?_
      refine hk (pk [0, 1, 2] 4 H) fun HS => ?_
      refine hz ?_
      refine r_end0 S Tryz.results46 ?_
      have hdn : HeapOk (l.set i x) := hU.done (fun _ => by simpa using h35)
      have en : hs.length + 1 = (l.set i x).length := by simp; omega
      have H := pk [2, 3] 4 H
      rw [en] at H
      exact ⟨_, _, l.set i x, rfl, hdn, hP, H⟩
  refine h2 4 6 ?_ ?_
  · skip
    refine rs 1 S H t0 fun a w S H => ?_
    refine hk (pk [0] 3 H) fun HS => ?_
    refine h1 6 ?_
    refine r_lit (vs := #[(0, .agg #[.int .u64 ((x.1.1 : Nat) : Int), .int .u64 ((x.1.2 : Nat) : Int), .int .i64 ((x.2 : Nat) : Int)])]) (cs := hds [x]) S H rfl rfl el91 (by kernel_rfl) (by decide) (by rfl) rfl rfl rfl fun a w b9 S H => ?_
    refine sn ?_
    refine hk (pk [1] 4 H) fun HS => ?_
    exact K0 _ _ ⟨_, S.sub ⟨rfl, rfl, rfl, rfl, rfl, rfl, rfl, trivial⟩, H⟩
  · skip
    refine r_lit (vs := #[(0, .agg #[.int .u64 ((x.1.1 : Nat) : Int), .int .u64 ((x.1.2 : Nat) : Int), .int .i64 ((x.2 : Nat) : Int)])]) (cs := hds [x]) S H rfl rfl el91 (by kernel_rfl) (by decide) (by rfl) rfl rfl rfl fun a w b10 S H => ?_
    refine sn ?_
    refine hk (pk [1] 4 H) fun HS => ?_
    refine h1 4 ?_
    refine rs 1 S H t0 fun a w S H => ?_
    refine hk (pk [1] 4 H) fun HS => ?_
    exact K0 _ _ ⟨_, S.sub ⟨rfl, rfl, rfl, rfl, rfl, rfl, rfl, trivial⟩, H⟩

theorem least_ct (w : World) (fr : List Res) (hb : Nat) (A : Option Addr) (c : Nat) (hs : List Hd) (i n : Nat) (hL : hs.length = n) (hn : hs.length ≤ 1099511627776) (hi : i ≤ 1099511627776) (H : Sat w (blk hb (.cells #[.slice A n c] 93) :: row 96 3 (.slice A n c) n (hds hs) :: fr)) :
    Rt Tryz.prog 75 #[.pointer (some ⟨hb, 0, none⟩), .int .i64 ((i : Nat) : Int)] w fun v w' => v = .int .i64 (Rn.lst hs i) ∧ Sat w' (blk hb (.cells #[.slice A n c] 93) :: row 96 3 (.slice A n c) n (hds hs) :: fr) := by
  refine en2 Tryz.func75 rfl Tryz.ntmps75 rfl fun a S => ?_
  refine sr 1 S H t0 fun a w S H => ?_
  refine sb ?_
  refine rn 2 S H (by omega) fun a w S H => ?_
  refine r_y S H (y_add S rfl rfl rfl (wi64 (by omega) (by omega))) rfl rfl rfl fun a S => ?_
  have S := S.retell (v' := .int .i64 (((2 * i + 1) : Nat) : Int)) 8 rfl (int_eq (by omega))
  refine rs 1 S H t0 fun a w S H => ?_
  refine r_seq ?_
  refine sr 7 S H t0 fun a w S H => ?_
  refine r_test S rfl (fun h15 => ?_) (fun h15 => ?_)
  · skip
    refine sr 1 S H t0 fun a w S H => ?_
    refine wp_ret ?_
    refine x_thenRet ?_
    refine r_ret1 S H Tryz.results75 (ro_tmp S rfl) ?_
    have e : Rn.lst hs i = -1 := by unfold Rn.lst; rw [if_pos (by omega)]
    rw [e]
    exact ⟨rfl, H⟩
  refine wp_skip ?_
  refine x_then ?_
  refine r_seq ?_
  obtain ⟨b1, rfl⟩ := H.rowAt (i := 1) rfl (by omega)
  rcases Nat.lt_or_ge (2 * i + 2) hs.length with h0 | h0
  · skip
    apply qb H rfl (by kernel_rfl)
    · skip
      refine qn 1 S t0 fun a S => ?_
      refine q_y S (y_add S rfl rfl rfl (wi64 (by omega) (by omega))) rfl rfl rfl fun a S => ?_
      have S := S.retell (v' := .int .i64 (((2 * i + 2) : Nat) : Int)) 17 rfl (int_eq (by omega))
      refine qn 5 S t0 fun a S => ?_
      refine q_y S (y_lt S rfl rfl rfl) rfl rfl rfl fun a S => ?_
      have S := S.retell (v' := .bool true) 23 rfl (by rw [decide_eq_true (by omega)])
      refine qn 6 S t0 fun a S => ?_
      refine q_y S (y_add S rfl rfl rfl (wi64 (by omega) (by omega))) rfl rfl rfl fun a S => ?_
      have S := S.retell (v' := .int .i64 (((2 * i + 2) : Nat) : Int)) 30 rfl (int_eq (by omega))
      refine q_y S (y_index S rfl rfl rfl Tryz.underlying91 Tryz.sizeOf96 (by omega) (by omega)) rfl rfl rfl fun a S => ?_
      refine q_y S (y_loadAggAt [.int .u64 (((hs.getD (2 * i + 2) hd0).1.1 : Nat) : Int), .int .u64 (((hs.getD (2 * i + 2) hd0).1.2 : Nat) : Int), .int .i64 (((hs.getD (2 * i + 2) hd0).2 : Nat) : Int)] S rfl rfl (fun w => ⟨Tryz.isAgg96 w, Tryz.sizeOf96 w⟩) rfl (fun w H => (SlOk.ofRow (i := 1) H rfl).cells w H (hds_from (i := (2 * i + 2)) (by first | omega | (simp <;> omega))))) rfl rfl rfl fun a S => ?_
      refine q_y S (y_iface S rfl rfl Tryz.underlying96 (fun _ h => by cases h)) rfl rfl rfl fun a S => ?_
      refine qn 5 S t0 fun a S => ?_
      refine q_y S (y_index S rfl rfl rfl Tryz.underlying91 Tryz.sizeOf96 (by omega) (by omega)) rfl rfl rfl fun a S => ?_
      refine q_y S (y_loadAggAt [.int .u64 (((hs.getD (2 * i + 1) hd0).1.1 : Nat) : Int), .int .u64 (((hs.getD (2 * i + 1) hd0).1.2 : Nat) : Int), .int .i64 (((hs.getD (2 * i + 1) hd0).2 : Nat) : Int)] S rfl rfl (fun w => ⟨Tryz.isAgg96 w, Tryz.sizeOf96 w⟩) rfl (fun w H => (SlOk.ofRow (i := 1) H rfl).cells w H (hds_from (i := (2 * i + 1)) (by first | omega | (simp <;> omega))))) rfl rfl rfl fun a S => ?_
      refine q_callM (args := #[.agg #[.int .u64 (((hs.getD (2 * i + 1) hd0).1.1 : Nat) : Int), .int .u64 (((hs.getD (2 * i + 1) hd0).1.2 : Nat) : Int), .int .i64 (((hs.getD (2 * i + 1) hd0).2 : Nat) : Int)]]) (args' := #[.agg #[.int .u64 (((hs.getD (2 * i + 2) hd0).1.1 : Nat) : Int), .int .u64 (((hs.getD (2 * i + 2) hd0).1.2 : Nat) : Int), .int .i64 (((hs.getD (2 * i + 2) hd0).2 : Nat) : Int)], .agg #[.int .u64 (((hs.getD (2 * i + 1) hd0).1.1 : Nat) : Int), .int .u64 (((hs.getD (2 * i + 1) hd0).1.2 : Nat) : Int), .int .i64 (((hs.getD (2 * i + 1) hd0).2 : Nat) : Int)]]) S rfl rfl rfl (meth96_Before _) Tryz.call162 rfl (fun w H => hbefore_ct (H := H) _ _ (hs.getD (2 * i + 2) hd0) (hs.getD (2 * i + 1) hd0)) rfl rfl rfl fun a S => ?_
      refine qn 1 S t0 fun a S => ?_
      exact q_nil S
    · intro a w S H
      refine r_cond S rfl (fun h42 => ?_) (fun h42 => ?_)
      · skip
        refine r_region ?_
        refine rn 1 S H t0 fun a w S H => ?_
        refine r_y S H (y_add S rfl rfl rfl (wi64 (by omega) (by omega))) rfl rfl rfl fun a S => ?_
        have S := S.retell (v' := .int .i64 (((2 * i + 2) : Nat) : Int)) 44 rfl (int_eq (by omega))
        refine rn 1 S H t0 fun a w S H => ?_
        refine r_nil ?_
        refine x_then ?_
        refine sr 2 S H t0 fun a w S H => ?_
        refine wp_ret ?_
        refine r_ret1 S H Tryz.results75 (ro_tmp S rfl) ?_
        have e : Rn.lst hs i = (((2 * i + 2) : Nat) : Int) := by unfold Rn.lst; rw [if_neg (by omega), if_pos ⟨by omega, h42⟩]
        rw [e]
        exact ⟨rfl, H⟩
      refine wp_skip ?_
      refine x_then ?_
      refine sr 2 S H t0 fun a w S H => ?_
      refine wp_ret ?_
      refine r_ret1 S H Tryz.results75 (ro_tmp S rfl) ?_
      have e : Rn.lst hs i = (((2 * i + 1) : Nat) : Int) := by unfold Rn.lst; rw [if_neg (by omega), if_neg (fun h => by rw [h.2] at h42; cases h42)]
      rw [e]
      exact ⟨rfl, H⟩
  apply qb H rfl (by kernel_rfl)
  · skip
    refine qn 1 S t0 fun a S => ?_
    refine q_y S (y_add S rfl rfl rfl (wi64 (by omega) (by omega))) rfl rfl rfl fun a S => ?_
    have S := S.retell (v' := .int .i64 (((2 * i + 2) : Nat) : Int)) 17 rfl (int_eq (by omega))
    refine qn 5 S t0 fun a S => ?_
    refine q_y S (y_lt S rfl rfl rfl) rfl rfl rfl fun a S => ?_
    have S := S.retell (v' := .bool false) 23 rfl (by rw [decide_eq_false (by omega)])
    refine qn 19 S t0 fun a S => ?_
    exact q_nil S
  · intro a w S H
    refine r_condF S rfl ?_
    refine wp_skip ?_
    refine x_then ?_
    refine sr 2 S H t0 fun a w S H => ?_
    refine wp_ret ?_
    refine r_ret1 S H Tryz.results75 (ro_tmp S rfl) ?_
    have e : Rn.lst hs i = (((2 * i + 1) : Nat) : Int) := by unfold Rn.lst; rw [if_neg (by omega), if_neg (fun h => by omega)]
    rw [e]
    exact ⟨rfl, H⟩

theorem peek_ct (w : World) (fr : List Res) (hb : Nat) (A : Option Addr) (c : Nat) (hs : List Hd) (H : Sat w (blk hb (.cells #[.slice A hs.length c] 93) :: row 96 3 (.slice A hs.length c) hs.length (hds hs) :: fr)) :
    Rt Tryz.prog 74 #[.pointer (some ⟨hb, 0, none⟩)] w fun v w' => v = .tuple #[.agg #[.int .u64 (((hs.getD 0 hd0).1.1 : Nat) : Int), .int .u64 (((hs.getD 0 hd0).1.2 : Nat) : Int), .int .i64 (((hs.getD 0 hd0).2 : Nat) : Int)], .bool (decide (0 < hs.length))] ∧ Sat w' (blk hb (.cells #[.slice A hs.length c] 93) :: row 96 3 (.slice A hs.length c) hs.length (hds hs) :: fr) := by
  refine en1 Tryz.func74 rfl Tryz.ntmps74 rfl fun a S => ?_
  refine sb ?_
  refine r_alloc S H rfl Tryz.zeroValue96 rfl rfl rfl rfl fun a w b1 S H => ?_
  replace H : Sat _ (blk b1 (.cells #[.int .u64 0, .int .u64 0, .int .i64 0] 96) :: blk hb (.cells #[.slice A hs.length c] 93) :: row 96 3 (.slice A hs.length c) hs.length (hds hs) :: fr) := H
  refine rs 1 S H t0 fun a w S H => ?_
  refine r_seq ?_
  refine sr 6 S H t0 fun a w S H => ?_
  refine r_test S rfl (fun h9 => ?_) (fun h9 => ?_)
  · skip
    refine sr 3 S H t0 fun a w S H => ?_
    refine wp_ret ?_
    refine x_thenRet ?_
    refine r_ret2 S H Tryz.results74 (ro_agg [_, _, _] (i := 0) S rfl (fun w => ⟨Tryz.isAgg96 w, Tryz.sizeOf96 w⟩) rfl rfl ⟨rfl, rfl, rfl, trivial⟩) (ro_tmp S rfl) ?_
    have e : hs = [] := List.eq_nil_of_length_eq_zero (by omega)
    subst e
    exact ⟨rfl, pk [1, 2] 3 H⟩
  refine wp_skip ?_
  refine x_then ?_
  obtain ⟨b2, rfl⟩ := H.rowAt (i := 2) rfl (by omega)
  refine sb ?_
  refine rn 4 S H t0 fun a w S H => ?_
  refine r_y S H (y_index S rfl rfl rfl Tryz.underlying91 Tryz.sizeOf96 (by omega) (by omega)) rfl rfl rfl fun a S => ?_
  refine r_y S H (y_loadAggAt [.int .u64 (((hs.getD 0 hd0).1.1 : Nat) : Int), .int .u64 (((hs.getD 0 hd0).1.2 : Nat) : Int), .int .i64 (((hs.getD 0 hd0).2 : Nat) : Int)] S rfl rfl (fun w => ⟨Tryz.isAgg96 w, Tryz.sizeOf96 w⟩) rfl (fun w H => (SlOk.ofRow (i := 2) H rfl).cells w H (hds_from (i := 0) (by first | omega | (simp <;> omega))))) rfl rfl rfl fun a S => ?_
  refine rs 2 S H t0 fun a w S H => ?_
  refine wp_ret ?_
  refine r_ret2 S H Tryz.results74 (ro_agg [_, _, _] (i := 0) S rfl (fun w => ⟨Tryz.isAgg96 w, Tryz.sizeOf96 w⟩) rfl rfl ⟨rfl, rfl, rfl, trivial⟩) (ro_tmp S rfl) ?_
  rw [decide_eq_true (by omega)]
  exact ⟨rfl, pk [1, 2] 3 H⟩

def PopP (hs hs' : List Hd) : Prop := (hs = [] ∧ hs' = []) ∨ (0 < hs.length ∧ hs.Perm (hg hs 0 :: hs') ∧ HeapOk hs')
theorem pop_ct (w : World) (fr : List Res) (hb : Nat) (A : Option Addr) (c : Nat) (hs : List Hd) (hok : HeapOk hs) (hn : hs.length ≤ 1099511627776) (H : Sat w (blk hb (.cells #[.slice A hs.length c] 93) :: row 96 3 (.slice A hs.length c) hs.length (hds hs) :: fr)) :
    Rt Tryz.prog 50 #[.pointer (some ⟨hb, 0, none⟩)] w fun v w' => ∃ A' c' hs', v = .tuple #[.agg #[.int .u64 (((hs.getD 0 hd0).1.1 : Nat) : Int), .int .u64 (((hs.getD 0 hd0).1.2 : Nat) : Int), .int .i64 (((hs.getD 0 hd0).2 : Nat) : Int)], .bool (decide (0 < hs.length))] ∧ PopP hs hs' ∧ Sat w' (blk hb (.cells #[.slice A' hs'.length c'] 93) :: row 96 3 (.slice A' hs'.length c') hs'.length (hds hs') :: fr) := by
  refine en1 Tryz.func50 rfl Tryz.ntmps50 rfl fun a S => ?_
  refine sb ?_
  refine r_alloc S H rfl Tryz.zeroValue96 rfl rfl rfl rfl fun a w b1 S H => ?_
  replace H : Sat _ (blk b1 (.cells #[.int .u64 0, .int .u64 0, .int .i64 0] 96) :: blk hb (.cells #[.slice A hs.length c] 93) :: row 96 3 (.slice A hs.length c) hs.length (hds hs) :: fr) := H
  refine rs 1 S H t0 fun a w S H => ?_
  refine sb ?_
  refine rn 1 S H t0 fun a w S H => ?_
  refine r_call (args := #[.pointer (some ⟨hb, 0, none⟩)]) S rfl rfl Tryz.call74 (peek_ct (H := (pk [1, 2, 0] 3 H)) _ _ hb _ _ hs) rfl rfl rfl fun v a w hR S => ?_
  obtain ⟨rfl, H⟩ := hR
  refine rn 3 S H t0 fun a w S H => ?_
  refine r_alloc S H rfl Tryz.zeroValue96 rfl rfl rfl rfl fun a w b2 S H => ?_
  replace H : Sat _ (blk b2 (.cells #[.int .u64 0, .int .u64 0, .int .i64 0] 96) :: blk hb (.cells #[.slice A hs.length c] 93) :: row 96 3 (.slice A hs.length c) hs.length (hds hs) :: blk b1 (.cells #[.int .u64 0, .int .u64 0, .int .i64 0] 96) :: fr) := H
  refine rs 2 S H t0 fun a w S H => ?_
  refine r_seq ?_
  refine sr 2 S H t0 fun a w S H => ?_
  refine r_cond S rfl (fun h16 => ?_) (fun h16 => ?_)
  · skip
    have hnil : hs = [] := by simpa using h16
    refine sr 3 S H t0 fun a w S H => ?_
    refine wp_ret ?_
    refine x_thenRet ?_
    refine r_ret2 S H Tryz.results50 (ro_agg [_, _, _] (i := 3) S rfl (fun w => ⟨Tryz.isAgg96 w, Tryz.sizeOf96 w⟩) rfl rfl ⟨rfl, rfl, rfl, trivial⟩) (ro_tmp S rfl) ?_
    subst hnil
    exact ⟨_, _, [], rfl, .inl ⟨rfl, rfl⟩, pk [1, 2] 4 H⟩
  have hpos : 0 < hs.length := by simpa using h16
  refine wp_skip ?_
  refine x_then ?_
  refine sb ?_
  refine rn 5 S H t0 fun a w S H => ?_
  refine r_y S H (y_sub S rfl rfl rfl (wi64 (by omega) (by omega))) rfl rfl rfl fun a S => ?_
  have S := S.retell (v' := .int .i64 (((hs.length - 1) : Nat) : Int)) 23 rfl (int_eq (by omega))
  refine rs 1 S H t0 fun a w S H => ?_
  obtain ⟨b3, rfl⟩ := H.rowAt (i := 2) rfl (by omega)
  refine sb ?_
  refine rn 5 S H t0 fun a w S H => ?_
  refine r_y S H (y_index S rfl rfl rfl Tryz.underlying91 Tryz.sizeOf96 (by omega) (by omega)) rfl rfl rfl fun a S => ?_
  refine r_y S H (y_loadAggAt [.int .u64 (((hs.getD (hs.length - 1) hd0).1.1 : Nat) : Int), .int .u64 (((hs.getD (hs.length - 1) hd0).1.2 : Nat) : Int), .int .i64 (((hs.getD (hs.length - 1) hd0).2 : Nat) : Int)] S rfl rfl (fun w => ⟨Tryz.isAgg96 w, Tryz.sizeOf96 w⟩) rfl (fun w H => (SlOk.ofRow (i := 2) H rfl).cells w H (hds_from (i := (hs.length - 1)) (by first | omega | (simp <;> omega))))) rfl rfl rfl fun a S => ?_
  refine r_alloc S H rfl Tryz.zeroValue96 rfl rfl rfl rfl fun a w b4 S H => ?_
  replace H : Sat _ (blk b4 (.cells #[.int .u64 0, .int .u64 0, .int .i64 0] 96) :: blk b2 (.cells #[.int .u64 (((hs.getD 0 hd0).1.1 : Nat) : Int), .int .u64 (((hs.getD 0 hd0).1.2 : Nat) : Int), .int .i64 (((hs.getD 0 hd0).2 : Nat) : Int)] 96) :: blk hb (.cells #[.slice (some ⟨b3, 0, none⟩) hs.length c] 93) :: row 96 3 (.slice (some ⟨b3, 0, none⟩) hs.length c) hs.length (hds hs) :: blk b1 (.cells #[.int .u64 0, .int .u64 0, .int .i64 0] 96) :: fr) := H
  refine rs 1 S H t0 fun a w S H => ?_
  have hle := (SlOk.ofRow (i := 3) H rfl).le
  refine sb ?_
  refine rn 6 S H t0 fun a w S H => ?_
  refine r_y S H (y_sliceH (k := (hs.length - 1)) S rfl rfl rfl Tryz.underlying91 Tryz.sizeOf96 (by first | omega | (simp <;> omega)) (by first | omega | (simp <;> omega))) rfl rfl rfl fun a S => ?_
  have S := S.retell (v' := .slice (some ⟨b3, 0, none⟩) (hs.length - 1) c) 37 rfl (by rw [shift0])
  refine rs 3 S H t0 fun a w S H => ?_
  refine r_seq ?_
  have H := Sat.short (k := (hs.length - 1)) ((pk [3, 0, 1, 2, 4] 5 H)) (by omega)
  rw [hds_take] at H
  replace H : Sat _ (row 96 3 (.slice (some ⟨b3, 0, none⟩) (hs.length - 1) c) (hs.length - 1) (hds (hs.take (hs.length - 1))) :: blk b4 (.cells #[.int .u64 (((hs.getD (hs.length - 1) hd0).1.1 : Nat) : Int), .int .u64 (((hs.getD (hs.length - 1) hd0).1.2 : Nat) : Int), .int .i64 (((hs.getD (hs.length - 1) hd0).2 : Nat) : Int)] 96) :: blk b2 (.cells #[.int .u64 (((hs.getD 0 hd0).1.1 : Nat) : Int), .int .u64 (((hs.getD 0 hd0).1.2 : Nat) : Int), .int .i64 (((hs.getD 0 hd0).2 : Nat) : Int)] 96) :: blk hb (.cells #[.slice (some ⟨b3, 0, none⟩) (hs.length - 1) c] 93) :: blk b1 (.cells #[.int .u64 0, .int .u64 0, .int .i64 0] 96) :: fr) := H
  refine sr 2 S H t0 fun a w S H => ?_
  refine r_test S rfl (fun h41 => ?_) (fun h41 => ?_)
  · skip
    refine sr 3 S H t0 fun a w S H => ?_
    refine wp_ret ?_
    refine x_thenRet ?_
    refine r_ret2 S H Tryz.results50 (ro_agg [_, _, _] (i := 4) S rfl (fun w => ⟨Tryz.isAgg96 w, Tryz.sizeOf96 w⟩) rfl rfl ⟨rfl, rfl, rfl, trivial⟩) (ro_tmp S rfl) ?_
    have h1 : hs.length = 1 := by omega
    obtain ⟨a, rfl⟩ := List.length_eq_one_iff.1 h1
    rw [decide_eq_true (by omega)]
    exact ⟨_, _, [], rfl, .inr ⟨by simp, List.Perm.refl _, HeapOk.nil⟩, pk [3, 0] 5 H⟩
  refine wp_skip ?_
  refine x_then ?_
  refine sr 1 S H t0 fun a w S H => ?_
  refine r_seq ?_
  refine sb ?_
  refine rn 2 S H t0 fun a w S H => ?_
  refine r_call (args := #[.pointer (some ⟨hb, 0, none⟩), .int .i64 0]) S rfl rfl Tryz.call75 (least_ct (H := (pk [3, 0, 1, 2, 4] 5 H)) _ _ hb _ _ (hs.take (hs.length - 1)) 0 _ (by simp) (by simp; omega) (by omega)) rfl rfl rfl fun v a w hR S => ?_
  obtain ⟨rfl, H⟩ := hR
  refine rs 1 S H t0 fun a w S H => ?_
  refine r_block ?_
  refine r_loop (ι := List Hd × Nat) (fun ⟨l, i⟩ a w => Slots a 85 [(0, .pointer (some ⟨hb, 0, none⟩)), (2, .pointer (some ⟨b1, 0, none⟩)), (3, .bool false), (4, .pointer (some ⟨b2, 0, none⟩)), (7, .pointer (some ⟨b4, 0, none⟩)), (8, .int .i64 ((i : Nat) : Int)), (9, .int .i64 (Rn.lst l i)), (85, undef)] ∧ Sat w (blk hb (.cells #[.slice (some ⟨b3, 0, none⟩) (hs.length - 1) c] 93) :: row 96 3 (.slice (some ⟨b3, 0, none⟩) (hs.length - 1) c) (hs.length - 1) (hds l) :: blk b4 (.cells #[.int .u64 (((hs.getD (hs.length - 1) hd0).1.1 : Nat) : Int), .int .u64 (((hs.getD (hs.length - 1) hd0).1.2 : Nat) : Int), .int .i64 (((hs.getD (hs.length - 1) hd0).2 : Nat) : Int)] 96) :: blk b2 (.cells #[.int .u64 (((hs.getD 0 hd0).1.1 : Nat) : Int), .int .u64 (((hs.getD 0 hd0).1.2 : Nat) : Int), .int .i64 (((hs.getD 0 hd0).2 : Nat) : Int)] 96) :: blk b1 (.cells #[.int .u64 0, .int .u64 0, .int .i64 0] 96) :: fr) ∧ (Rn.DnEx (hs.getD (hs.length - 1) hd0) i l ∧ ((hs.getD 0 hd0) :: l.set i (hs.getD (hs.length - 1) hd0)).Perm hs ∧ l.length = (hs.length - 1))) (fun ⟨l, i⟩ => l.length - i) (hs.take (hs.length - 1), 0) ⟨S.sub ⟨rfl, rfl, rfl, rfl, rfl, rfl, rfl, rfl, trivial⟩, H, ⟨Rn.DnEx.start hok (by omega) (by omega), Rn.last_perm (by omega) (by omega), by simp⟩⟩ (fun ⟨l, i⟩ a w hI => ?_)
  obtain ⟨S, H, hI⟩ := hI
  obtain ⟨hD, hP, hL⟩ := hI
  have hil := hD.lt
  refine r_seq ?_
  rcases Int.lt_or_le (Rn.lst l i) 0 with h0 | h0
  · skip
    apply qb H rfl (by kernel_rfl)
    · skip
      refine qn 1 S t0 fun a S => ?_
      refine q_y S (y_ge S rfl rfl rfl) rfl rfl rfl fun a S => ?_
      have S := S.retell (v' := .bool false) 47 rfl (by rw [decide_eq_false (by omega)])
      refine qn 12 S t0 fun a S => ?_
      exact q_nil S
    · intro a w S H
      refine r_condF S rfl ?_
      refine wp_exit ?_
      refine x_thenExit ?_
      refine x_thenExit ?_
      refine x_blockHere ?_
      refine x_then ?_
      refine r_seq ?_
      refine ha [0, 2, 3, 4] 5 H fun w H HS => ?_
      refine tk 0 S HS fun a S => ?_
      refine tk 1 S HS fun a S => ?_
      refine tk 2 S HS fun a S => ?_
      refine tk 3 S HS fun a S => ?_
      refine tk 4 S HS fun a S => ?_
      refine tk 5 S HS fun a S => ?_
      refine tkY 6 S HS rfl (y_index S rfl rfl rfl Tryz.underlying91 Tryz.sizeOf96 (by omega) (by omega)) rfl rfl rfl fun a S => ?_
      refine h1 7 ?_
      refine r_setRows (vs := [.int .u64 (((hs.getD (hs.length - 1) hd0).1.1 : Nat) : Int), .int .u64 (((hs.getD (hs.length - 1) hd0).1.2 : Nat) : Int), .int .i64 (((hs.getD (hs.length - 1) hd0).2 : Nat) : Int)]) (xs' := hds (l.set i (hs.getD (hs.length - 1) hd0))) (L' := blk hb (.cells #[.slice (some ⟨b3, 0, none⟩) (hs.length - 1) c] 93) :: row 96 3 (.slice (some ⟨b3, 0, none⟩) (hs.length - 1) c) (hs.length - 1) (hds (l.set i (hs.getD (hs.length - 1) hd0))) :: blk b4 (.cells #[.int .u64 (((hs.getD (hs.length - 1) hd0).1.1 : Nat) : Int), .int .u64 (((hs.getD (hs.length - 1) hd0).1.2 : Nat) : Int), .int .i64 (((hs.getD (hs.length - 1) hd0).2 : Nat) : Int)] 96) :: blk b2 (.cells #[.int .u64 (((hs.getD 0 hd0).1.1 : Nat) : Int), .int .u64 (((hs.getD 0 hd0).1.2 : Nat) : Int), .int .i64 (((hs.getD 0 hd0).2 : Nat) : Int)] 96) :: blk b1 (.cells #[.int .u64 0, .int .u64 0, .int .i64 0] 96) :: fr) 1 S H rfl rfl rfl rfl Tryz.sizeOf96 rfl rfl (by simp [Value.oneCell']) (by first | omega | (simp <;> omega)) (hds_put (by first | omega | (simp <;> omega))) rfl rfl rfl fun w H => ?_
      refine sn ?_
      refine hk (pk [0, 2, 3, 4] 5 H) fun HS => ?_
      refine hz ?_
      refine x_then ?_
      refine sr 3 S H t0 fun a w S H => ?_
      refine wp_ret ?_
      refine r_ret2 S H Tryz.results50 (ro_agg [_, _, _] (i := 4) S rfl (fun w => ⟨Tryz.isAgg96 w, Tryz.sizeOf96 w⟩) rfl rfl ⟨rfl, rfl, rfl, trivial⟩) (ro_tmp S rfl) ?_
      have hdn : HeapOk (l.set i (hs.getD (hs.length - 1) hd0)) := hD.done (fun j h1 h2 h3 => absurd h2 (by have := Rn.lst_none h0; omega))
      have en : (hs.length - 1) = (l.set i (hs.getD (hs.length - 1) hd0)).length := by simp; omega
      have H := pk [0, 1] 5 H
      rw [decide_eq_true (by omega)]
      exact ⟨_, _, l.set i (hs.getD (hs.length - 1) hd0), rfl, .inr ⟨by omega, hP.symm, hdn⟩, by rw [← en]; exact H⟩
  obtain ⟨k, hke, hkl, hk0, hkp, hkm⟩ := Rn.lst_some h0
  have S := S.retell (v' := .int .i64 ((k : Nat) : Int)) 9 rfl (by rw [hke])
  apply qb H rfl (by kernel_rfl)
  · skip
    refine qn 1 S t0 fun a S => ?_
    refine q_y S (y_ge S rfl rfl rfl) rfl rfl rfl fun a S => ?_
    have S := S.retell (v' := .bool true) 47 rfl (by rw [decide_eq_true (by omega)])
    refine qn 6 S t0 fun a S => ?_
    refine q_y S (y_index S rfl rfl rfl Tryz.underlying91 Tryz.sizeOf96 (by omega) (by omega)) rfl rfl rfl fun a S => ?_
    refine q_y S (y_loadAggAt [.int .u64 (((l.getD k hd0).1.1 : Nat) : Int), .int .u64 (((l.getD k hd0).1.2 : Nat) : Int), .int .i64 (((l.getD k hd0).2 : Nat) : Int)] S rfl rfl (fun w => ⟨Tryz.isAgg96 w, Tryz.sizeOf96 w⟩) rfl (fun w H => (SlOk.ofRow (i := 1) H rfl).cells w H (hds_from (i := k) (by first | omega | (simp <;> omega))))) rfl rfl rfl fun a S => ?_
    refine q_y S (y_iface S rfl rfl Tryz.underlying96 (fun _ h => by cases h)) rfl rfl rfl fun a S => ?_
    refine qn 1 S t0 fun a S => ?_
    refine q_callM (args := #[.agg #[.int .u64 (((hs.getD (hs.length - 1) hd0).1.1 : Nat) : Int), .int .u64 (((hs.getD (hs.length - 1) hd0).1.2 : Nat) : Int), .int .i64 (((hs.getD (hs.length - 1) hd0).2 : Nat) : Int)]]) (args' := #[.agg #[.int .u64 (((l.getD k hd0).1.1 : Nat) : Int), .int .u64 (((l.getD k hd0).1.2 : Nat) : Int), .int .i64 (((l.getD k hd0).2 : Nat) : Int)], .agg #[.int .u64 (((hs.getD (hs.length - 1) hd0).1.1 : Nat) : Int), .int .u64 (((hs.getD (hs.length - 1) hd0).1.2 : Nat) : Int), .int .i64 (((hs.getD (hs.length - 1) hd0).2 : Nat) : Int)]]) S rfl rfl rfl (meth96_Before _) Tryz.call162 rfl (fun w H => hbefore_ct (H := H) _ _ (l.getD k hd0) (hs.getD (hs.length - 1) hd0)) rfl rfl rfl fun a S => ?_
    refine qn 1 S t0 fun a S => ?_
    exact q_nil S
  · intro a w S H
    refine r_cond S rfl (fun h59 => ?_) (fun h59 => ?_)
    · skip
      refine wp_skip ?_
      refine x_then ?_
      refine r_seq ?_
      refine r_block ?_
      refine r_seq ?_
      refine ha [0, 2, 3, 4] 5 H fun w H HS => ?_
      refine tk 0 S HS fun a S => ?_
      refine tk 1 S HS fun a S => ?_
      refine tk 2 S HS fun a S => ?_
      refine tk 3 S HS fun a S => ?_
      refine tk 4 S HS fun a S => ?_
      refine tk 5 S HS fun a S => ?_
      refine tk 6 S HS fun a S => ?_
      refine tk 7 S HS fun a S => ?_
      refine tk 8 S HS fun a S => ?_
      refine tk 9 S HS fun a S => ?_
      refine tkY 10 S HS rfl (y_index S rfl rfl rfl Tryz.underlying91 Tryz.sizeOf96 (by omega) (by omega)) rfl rfl rfl fun a S => ?_
      refine h1 11 ?_
      refine r_y S H (y_loadAggAt [.int .u64 (((l.getD k hd0).1.1 : Nat) : Int), .int .u64 (((l.getD k hd0).1.2 : Nat) : Int), .int .i64 (((l.getD k hd0).2 : Nat) : Int)] S rfl rfl (fun w => ⟨Tryz.isAgg96 w, Tryz.sizeOf96 w⟩) rfl (fun w H => (SlOk.ofRow (i := 1) H rfl).cells w H (hds_from (i := k) (by first | omega | (simp <;> omega))))) rfl rfl rfl fun a S => ?_
      refine sn ?_
      refine hk (pk [0, 2, 3, 4] 5 H) fun HS => ?_
      refine tkY 12 S HS rfl (y_index S rfl rfl rfl Tryz.underlying91 Tryz.sizeOf96 (by omega) (by omega)) rfl rfl rfl fun a S => ?_
      refine h1 13 ?_
      refine r_setRows (vs := [.int .u64 (((l.getD k hd0).1.1 : Nat) : Int), .int .u64 (((l.getD k hd0).1.2 : Nat) : Int), .int .i64 (((l.getD k hd0).2 : Nat) : Int)]) (xs' := hds (l.set i (l.getD k hd0))) (L' := blk hb (.cells #[.slice (some ⟨b3, 0, none⟩) (hs.length - 1) c] 93) :: row 96 3 (.slice (some ⟨b3, 0, none⟩) (hs.length - 1) c) (hs.length - 1) (hds (l.set i (l.getD k hd0))) :: blk b4 (.cells #[.int .u64 (((hs.getD (hs.length - 1) hd0).1.1 : Nat) : Int), .int .u64 (((hs.getD (hs.length - 1) hd0).1.2 : Nat) : Int), .int .i64 (((hs.getD (hs.length - 1) hd0).2 : Nat) : Int)] 96) :: blk b2 (.cells #[.int .u64 (((hs.getD 0 hd0).1.1 : Nat) : Int), .int .u64 (((hs.getD 0 hd0).1.2 : Nat) : Int), .int .i64 (((hs.getD 0 hd0).2 : Nat) : Int)] 96) :: blk b1 (.cells #[.int .u64 0, .int .u64 0, .int .i64 0] 96) :: fr) 1 S H rfl rfl rfl rfl Tryz.sizeOf96 rfl rfl (by simp [Value.oneCell']) (by first | omega | (simp <;> omega)) (hds_put (by first | omega | (simp <;> omega))) rfl rfl rfl fun w H => ?_
      refine sn ?_
      refine hk (pk [0, 2, 3, 4] 5 H) fun HS => ?_
      refine hz ?_
      refine x_then ?_
      refine er 2 S H t0 fun a w S H => ?_
      refine x_blockEnd ?_
      refine x_then ?_
      refine r_region ?_
      refine rn 2 S H t0 fun a w S H => ?_
      refine r_call (args := #[.pointer (some ⟨hb, 0, none⟩), .int .i64 ((k : Nat) : Int)]) S rfl rfl Tryz.call75 (least_ct (H := H) _ _ hb _ _ (l.set i (l.getD k hd0)) k _ (by simp; omega) (by simp; omega) (by omega)) rfl rfl rfl fun v a w hR S => ?_
      obtain ⟨rfl, H⟩ := hR
      refine rn 1 S H t0 fun a w S H => ?_
      refine r_nil ?_
      refine x_then ?_
      exact ⟨(l.set i (l.getD k hd0), k), ⟨S.sub ⟨rfl, rfl, rfl, rfl, rfl, rfl, rfl, rfl, trivial⟩, H, ⟨hD.step hkl hk0 hkp hkm h59, (List.Perm.cons _ (Rn.swap_perm hD.lt hkl (by omega))).trans hP, by simp; omega⟩⟩, by show (l.set i (l.getD k hd0)).length - k < l.length - i; rw [List.length_set]; omega⟩
    refine wp_exit ?_
    refine x_thenExit ?_
    refine x_thenExit ?_
    refine x_blockHere ?_
    refine x_then ?_
    refine r_seq ?_
    refine ha [0, 2, 3, 4] 5 H fun w H HS => ?_
    refine tk 0 S HS fun a S => ?_
    refine tk 1 S HS fun a S => ?_
    refine tk 2 S HS fun a S => ?_
    refine tk 3 S HS fun a S => ?_
    refine tk 4 S HS fun a S => ?_
    refine tk 5 S HS fun a S => ?_
    refine tkY 6 S HS rfl (y_index S rfl rfl rfl Tryz.underlying91 Tryz.sizeOf96 (by omega) (by omega)) rfl rfl rfl fun a S => ?_
    refine h1 7 ?_
    refine r_setRows (vs := [.int .u64 (((hs.getD (hs.length - 1) hd0).1.1 : Nat) : Int), .int .u64 (((hs.getD (hs.length - 1) hd0).1.2 : Nat) : Int), .int .i64 (((hs.getD (hs.length - 1) hd0).2 : Nat) : Int)]) (xs' := hds (l.set i (hs.getD (hs.length - 1) hd0))) (L' := blk hb (.cells #[.slice (some ⟨b3, 0, none⟩) (hs.length - 1) c] 93) :: row 96 3 (.slice (some ⟨b3, 0, none⟩) (hs.length - 1) c) (hs.length - 1) (hds (l.set i (hs.getD (hs.length - 1) hd0))) :: blk b4 (.cells #[.int .u64 (((hs.getD (hs.length - 1) hd0).1.1 : Nat) : Int), .int .u64 (((hs.getD (hs.length - 1) hd0).1.2 : Nat) : Int), .int .i64 (((hs.getD (hs.length - 1) hd0).2 : Nat) : Int)] 96) :: blk b2 (.cells #[.int .u64 (((hs.getD 0 hd0).1.1 : Nat) : Int), .int .u64 (((hs.getD 0 hd0).1.2 : Nat) : Int), .int .i64 (((hs.getD 0 hd0).2 : Nat) : Int)] 96) :: blk b1 (.cells #[.int .u64 0, .int .u64 0, .int .i64 0] 96) :: fr) 1 S H rfl rfl rfl rfl Tryz.sizeOf96 rfl rfl (by simp [Value.oneCell']) (by first | omega | (simp <;> omega)) (hds_put (by first | omega | (simp <;> omega))) rfl rfl rfl fun w H => ?_
    refine sn ?_
    refine hk (pk [0, 2, 3, 4] 5 H) fun HS => ?_
    refine hz ?_
    refine x_then ?_
    refine sr 3 S H t0 fun a w S H => ?_
    refine wp_ret ?_
    refine r_ret2 S H Tryz.results50 (ro_agg [_, _, _] (i := 4) S rfl (fun w => ⟨Tryz.isAgg96 w, Tryz.sizeOf96 w⟩) rfl rfl ⟨rfl, rfl, rfl, trivial⟩) (ro_tmp S rfl) ?_
    have hdn : HeapOk (l.set i (hs.getD (hs.length - 1) hd0)) := hD.done (fun j h1 h2 h3 => Rn.hlt_ntr (hkm j h1 h2 h3) (by simpa using h59))
    have en : (hs.length - 1) = (l.set i (hs.getD (hs.length - 1) hd0)).length := by simp; omega
    have H := pk [0, 1] 5 H
    rw [decide_eq_true (by omega)]
    exact ⟨_, _, l.set i (hs.getD (hs.length - 1) hd0), rfl, .inr ⟨by omega, hP.symm, hdn⟩, by rw [← en]; exact H⟩

end Go.Proofs.YtembfpadojnpmaaGreatDoor
namespace Go.Proofs.YtembfpadojnpmaaGreatDoor
open Go.RowKit Go.Cg
set_option linter.unusedVariables false
set_option linter.unusedSimpArgs false
set_option maxRecDepth 8000
set_option synthInstance.maxHeartbeats 1000000
set_option synthInstance.maxSize 1000000
open Go.Cg.Rn (R Bd Up)
theorem mid_perm (l : List R) (r : R) (k : Nat) : (l.take k ++ r :: l.drop k).Perm (r :: l) := by
  refine List.perm_middle.trans ?_
  rw [List.take_append_drop]
theorem mid_get {l : List R} {g : R} {k j : Nat} (hk : k ≤ l.length) (hj : j < k) : (l.take k ++ g :: l.drop k).getD j (0, 0) = l.getD j (0, 0) := by
  rw [List.getD_eq_getElem?_getD, List.getD_eq_getElem?_getD, List.getElem?_append_left (by simp; omega), List.getElem?_take, if_pos hj]
theorem mid_set {l : List R} {g x : R} {k : Nat} (hk : k ≤ l.length) : (l.take k ++ g :: l.drop k).set k x = l.take k ++ x :: l.drop k := by
  have e : (l.take k).length = k := by simp; omega
  rw [List.set_append, if_neg (by omega), e, Nat.sub_self]; rfl
theorem mid_step {l : List R} {x : R} {k : Nat} (hk : k ≤ l.length) (h0 : 0 < k) (hx : x = l.getD (k - 1) (0, 0)) : l.take k ++ x :: l.drop k = l.take (k - 1) ++ l.getD (k - 1) (0, 0) :: l.drop (k - 1) := by
  have e1 : l.take k = l.take (k - 1) ++ [l.getD (k - 1) (0, 0)] := by
    rw [show k = (k - 1) + 1 from by omega, List.take_add_one, List.getElem?_eq_getElem (by omega), List.getD_eq_getElem?_getD, List.getElem?_eq_getElem (by omega)]; simp
  have e2 : l.drop (k - 1) = l.getD (k - 1) (0, 0) :: l.drop k := by
    rw [List.drop_eq_getElem_cons (by omega), List.getD_eq_getElem?_getD, List.getElem?_eq_getElem (by omega), show k - 1 + 1 = k from by omega]; rfl
  rw [e1, e2, hx]; simp
theorem mid_done {l : List R} {r : R} {k : Nat} (hu : Up l) (hk : k ≤ l.length) (ha : ∀ x ∈ l.drop k, Rn.ltb r x = true) (hb : 0 < k → Rn.ltb r (l.getD (k - 1) (0, 0)) = false) : l.take k ++ r :: l.drop k = Rn.ins r l := by
  refine Rn.up_one ((mid_perm l r k).trans (Rn.ins_perm r l).symm) ?_ (Rn.ins_up r hu)
  have hu2 : Up (l.take k ++ l.drop k) := by rw [List.take_append_drop]; exact hu
  obtain ⟨h1, h2, h3⟩ := List.pairwise_append.1 hu2
  refine List.pairwise_append.2 ⟨h1, List.pairwise_cons.2 ⟨fun x hx => Rn.ltb_as (ha x hx), h2⟩, fun a hma b hb2 => ?_⟩
  rcases List.mem_cons.1 hb2 with rfl | hb2
  · have h0 : 0 < k := by
      rcases Nat.eq_zero_or_pos k with h | h
      · subst h; simp at hma
      · exact h
    have hlast := hb h0
    obtain ⟨j, hj, rfl⟩ := List.getElem_of_mem hma
    have hjk : j < k := by simp at hj; omega
    rw [List.getElem_take]
    by_cases e : j = k - 1
    · subst e; rw [List.getD_eq_getElem?_getD, List.getElem?_eq_getElem (by omega)] at hlast; exact hlast
    · have h4 := List.pairwise_iff_getElem.1 hu j (k - 1) (by omega) (by omega) (by omega)
      rw [List.getD_eq_getElem?_getD, List.getElem?_eq_getElem (by omega)] at hlast
      exact Rn.ltb_ntr hlast h4
  · exact h3 a hma b hb2
theorem fold_zero (l : List R) : Rn.fold 0 l = l := by
  have key : ∀ (l m : List R), l.foldl (Rn.fput 0) m = m ++ l := by
    intro l
    induction l with
    | nil => simp
    | cons x l ih => intro m; rw [List.foldl_cons, ih, fput_zero]; simp
  exact key l []
theorem sort_take {l : List R} {i : Nat} (h : i < l.length) : Rn.ins (l.getD i (0, 0)) (Rn.sort (l.take i)) = Rn.sort (l.take (i + 1)) := by
  rw [take_getD h, Rn.sort_app_one]
theorem put7_ct (w : World) (fr : List Res) (A : Option Addr) (c : Nat) (l : List R) (r : R) (ok : SlOk fr 2 A l.length c (recs l)) (hu : Up l) (hn : l.length ≤ 1099511627776) (H : Sat w (fr)) :
    Rt Tryz.prog 54 #[.slice A l.length c, .agg #[.int .u64 ((r.1 : Nat) : Int), .int .u64 ((r.2 : Nat) : Int)]] w fun v w' => ∃ A' c', v = .slice A' (l.length + 1) c' ∧ Sat w' (row 33 2 (.slice A' (l.length + 1) c') (l.length + 1) (recs (Rn.ins r l)) :: fr) := by
  refine en2 Tryz.func54 rfl Tryz.ntmps54 rfl fun a S => ?_
  refine sb ?_
  refine r_box (c := #[.int .u64 ((r.1 : Nat) : Int), .int .u64 ((r.2 : Nat) : Int)]) S H rfl rfl rfl rfl rfl rfl fun a w b1 S H => ?_
  refine rs 1 S H t0 fun a w S H => ?_
  refine r_seq ?_
  refine ha [0] 1 H fun w H HS => ?_
  refine tk 1 S HS fun a S => ?_
  refine tk 3 S HS fun a S => ?_
  refine hmemo [true, true, true, true, true, false, false] 2 (fun a w => ∃ A3 : Option Addr, ∃ c4 : Nat, ∃ b5 : Nat, Slots a 42 [(3, .pointer (some ⟨b1, 0, none⟩)), (4, .slice none 0 0), (9, .slice A3 l.length c4), (11, .slice (some ⟨b5, 0, none⟩) 1 1), (42, undef)] ∧ Sat w (row 33 2 (.slice (some ⟨b5, 0, none⟩) 1 1) 1 (recs [(r.1, r.2)]) :: row 33 2 (.slice A3 l.length c4) l.length (recs l) :: blk b1 (.cells #[.int .u64 ((r.1 : Nat) : Int), .int .u64 ((r.2 : Nat) : Int)] 33) :: fr)) ?_ fun K0 => ?_
  · rintro a w ⟨A3, c4, b5, S, H⟩
    have HS : Sat w _ := pk [2] 3 H
    refine h1 5 ?_
    refine r_appendS (L' := fun A13 c14 => row 33 2 (.slice (some ⟨b5, 0, none⟩) 1 1) 1 (recs [(r.1, r.2)]) :: row 33 2 (.slice A13 (l.length + 1) c14) (l.length + 1) (recs (l ++ ([(r.1, r.2)]))) :: blk b1 (.cells #[.int .u64 ((r.1 : Nat) : Int), .int .u64 ((r.2 : Nat) : Int)] 33) :: fr) (xs' := recs (l ++ ([(r.1, r.2)]))) 1 S H rfl rfl rfl rfl el22 (SlOk.ofRow (i := 0) H rfl) (one_recs _) (by simp only [maxLen]; first | omega | (simp <;> omega)) (by first | omega | (simp <;> omega)) (recs_app l ([(r.1, r.2)])) (by first | omega | (simp <;> omega)) (fun _ _ => rfl) rfl rfl rfl fun a w A13 c14 hA13 S H => ?_
    refine sn ?_
    refine hk (pk [2] 3 H) fun HS => ?_
    refine tk 6 S HS fun a S => ?_
    refine hz ?_
    refine x_then ?_
    refine sb ?_
    refine rn 2 S H t0 fun a w S H => ?_
    refine r_y S H (y_sub S rfl rfl rfl (wi64 (by omega) (by omega))) rfl rfl rfl fun a S => ?_
    have S := S.retell (v' := .int .i64 ((l.length : Nat) : Int)) 15 rfl (int_eq (by omega))
    refine rs 1 S H t0 fun a w S H => ?_
    refine r_seq ?_
    refine r_block ?_
    obtain ⟨b15, rfl⟩ := H.rowAt (i := 1) rfl (by omega)
    refine r_loop (ι := List R × Nat × R) (fun ⟨o, k, g⟩ a w => Slots a 42 [(3, .pointer (some ⟨b1, 0, none⟩)), (4, .slice none 0 0), (5, .slice (some ⟨b15, 0, none⟩) (l.length + 1) c14), (6, .int .i64 ((k : Nat) : Int)), (42, undef)] ∧ Sat w (blk b1 (.cells #[.int .u64 ((r.1 : Nat) : Int), .int .u64 ((r.2 : Nat) : Int)] 33) :: row 33 2 (.slice (some ⟨b15, 0, none⟩) (l.length + 1) c14) (l.length + 1) (recs o) :: fr) ∧ (k ≤ l.length ∧ o = l.take k ++ g :: l.drop k ∧ ∀ x ∈ l.drop k, Rn.ltb r x = true)) (fun ⟨o, k, g⟩ => k) (l ++ ([(r.1, r.2)]), l.length, r) ⟨S.sub ⟨rfl, rfl, rfl, rfl, rfl, trivial⟩, pk [2, 1] 3 H, ⟨Nat.le_refl _, by simp, by simp⟩⟩ (fun ⟨o, k, g⟩ a w hI => ?_)
    obtain ⟨S, H, hI⟩ := hI
    obtain ⟨hkl, ho, ha⟩ := hI
    have hol : o.length = l.length + 1 := by rw [ho]; simp; omega
    refine r_seq ?_
    rcases Nat.eq_zero_or_pos k with h0 | h0
    · skip
      apply qb H rfl (by kernel_rfl)
      · skip
        refine qn 1 S t0 fun a S => ?_
        refine q_y S (y_gt S rfl rfl rfl) rfl rfl rfl fun a S => ?_
        have S := S.retell (v' := .bool false) 17 rfl (by rw [decide_eq_false (by omega)])
        refine qn 9 S t0 fun a S => ?_
        exact q_nil S
      · intro a w S H
        refine r_condF S rfl ?_
        refine wp_exit ?_
        refine x_thenExit ?_
        refine x_thenExit ?_
        refine x_blockHere ?_
        refine x_then ?_
        refine sb ?_
        refine rn 3 S H t0 fun a w S H => ?_
        refine r_y S H (y_index S rfl rfl rfl Tryz.underlying22 Tryz.sizeOf33 (by omega) (by omega)) rfl rfl rfl fun a S => ?_
        refine r_setRows (vs := [.int .u64 ((r.1 : Nat) : Int), .int .u64 ((r.2 : Nat) : Int)]) (xs' := recs (o.set k (r.1, r.2))) (L' := blk b1 (.cells #[.int .u64 ((r.1 : Nat) : Int), .int .u64 ((r.2 : Nat) : Int)] 33) :: row 33 2 (.slice (some ⟨b15, 0, none⟩) (l.length + 1) c14) (l.length + 1) (recs (o.set k (r.1, r.2))) :: fr) 1 S H rfl rfl rfl rfl Tryz.sizeOf33 rfl rfl (by simp [Value.oneCell']) (by first | omega | (simp <;> omega)) (recs_put (by first | omega | (simp <;> omega))) rfl rfl rfl fun w H => ?_
        refine sn ?_
        refine sr 2 S H t0 fun a w S H => ?_
        refine wp_ret ?_
        refine r_ret1 S H Tryz.results54 (ro_tmp S rfl) ?_
        have e : o.set k r = Rn.ins r l := by rw [ho, mid_set hkl]; exact mid_done hu hkl ha (fun h => absurd h (by omega))
        have H := pk [1] 2 H
        rw [e] at H
        exact ⟨_, _, rfl, H⟩
    apply qb H rfl (by kernel_rfl)
    · skip
      refine qn 1 S t0 fun a S => ?_
      refine q_y S (y_gt S rfl rfl rfl) rfl rfl rfl fun a S => ?_
      have S := S.retell (v' := .bool true) 17 rfl (by rw [decide_eq_true (by omega)])
      refine qn 4 S t0 fun a S => ?_
      refine q_y S (y_sub S rfl rfl rfl (wi64 (by omega) (by omega))) rfl rfl rfl fun a S => ?_
      have S := S.retell (v' := .int .i64 (((k - 1) : Nat) : Int)) 22 rfl (int_eq (by omega))
      refine q_y S (y_index S rfl rfl rfl Tryz.underlying22 Tryz.sizeOf33 (by omega) (by omega)) rfl rfl rfl fun a S => ?_
      refine q_y S (y_loadAggAt [.int .u64 (((o.getD (k - 1) (0, 0)).1 : Nat) : Int), .int .u64 (((o.getD (k - 1) (0, 0)).2 : Nat) : Int)] S rfl rfl (fun w => ⟨Tryz.isAgg33 w, Tryz.sizeOf33 w⟩) rfl (fun w H => (SlOk.ofRow (i := 1) H rfl).cells w H (recs_from (i := (k - 1)) (by first | omega | (simp <;> omega))))) rfl rfl rfl fun a S => ?_
      refine q_call (args := #[.agg #[.int .u64 ((r.1 : Nat) : Int), .int .u64 ((r.2 : Nat) : Int)], .agg #[.int .u64 (((o.getD (k - 1) (0, 0)).1 : Nat) : Int), .int .u64 (((o.getD (k - 1) (0, 0)).2 : Nat) : Int)]]) S rfl rfl Tryz.call77 (fun w H => less_ct (H := H) _ _ r (o.getD (k - 1) (0, 0))) rfl rfl rfl fun a S => ?_
      refine qn 1 S t0 fun a S => ?_
      exact q_nil S
    · intro a w S H
      refine r_cond S rfl (fun h26 => ?_) (fun h26 => ?_)
      · skip
        refine wp_skip ?_
        refine x_then ?_
        refine r_block ?_
        refine sb ?_
        refine rn 4 S H t0 fun a w S H => ?_
        refine r_y S H (y_sub S rfl rfl rfl (wi64 (by omega) (by omega))) rfl rfl rfl fun a S => ?_
        have S := S.retell (v' := .int .i64 (((k - 1) : Nat) : Int)) 31 rfl (int_eq (by omega))
        refine r_y S H (y_index S rfl rfl rfl Tryz.underlying22 Tryz.sizeOf33 (by omega) (by omega)) rfl rfl rfl fun a S => ?_
        refine r_y S H (y_loadAggAt [.int .u64 (((o.getD (k - 1) (0, 0)).1 : Nat) : Int), .int .u64 (((o.getD (k - 1) (0, 0)).2 : Nat) : Int)] S rfl rfl (fun w => ⟨Tryz.isAgg33 w, Tryz.sizeOf33 w⟩) rfl (fun w H => (SlOk.ofRow (i := 1) H rfl).cells w H (recs_from (i := (k - 1)) (by first | omega | (simp <;> omega))))) rfl rfl rfl fun a S => ?_
        refine r_y S H (y_index S rfl rfl rfl Tryz.underlying22 Tryz.sizeOf33 (by omega) (by omega)) rfl rfl rfl fun a S => ?_
        refine r_setRows (vs := [.int .u64 (((o.getD (k - 1) (0, 0)).1 : Nat) : Int), .int .u64 (((o.getD (k - 1) (0, 0)).2 : Nat) : Int)]) (xs' := recs (o.set k (o.getD (k - 1) (0, 0)))) (L' := blk b1 (.cells #[.int .u64 ((r.1 : Nat) : Int), .int .u64 ((r.2 : Nat) : Int)] 33) :: row 33 2 (.slice (some ⟨b15, 0, none⟩) (l.length + 1) c14) (l.length + 1) (recs (o.set k (o.getD (k - 1) (0, 0)))) :: fr) 1 S H rfl rfl rfl rfl Tryz.sizeOf33 rfl rfl (by simp [Value.oneCell']) (by first | omega | (simp <;> omega)) (recs_put (by first | omega | (simp <;> omega))) rfl rfl rfl fun w H => ?_
        refine sn ?_
        refine r_region ?_
        refine rn 1 S H t0 fun a w S H => ?_
        refine r_y S H (y_sub S rfl rfl rfl (wi64 (by omega) (by omega))) rfl rfl rfl fun a S => ?_
        have S := S.retell (v' := .int .i64 (((k - 1) : Nat) : Int)) 36 rfl (int_eq (by omega))
        refine rn 1 S H t0 fun a w S H => ?_
        refine r_nil ?_
        refine x_blockEnd ?_
        refine x_then ?_
        have hg1 : o.getD (k - 1) (0, 0) = l.getD (k - 1) (0, 0) := by rw [ho]; exact mid_get hkl (by omega)
        exact ⟨(o.set k (o.getD (k - 1) (0, 0)), k - 1, l.getD (k - 1) (0, 0)), ⟨S.sub ⟨rfl, rfl, rfl, rfl, rfl, trivial⟩, H, ⟨by omega, by rw [hg1, ho, mid_set hkl]; exact mid_step hkl h0 rfl, fun x hx => by rw [List.drop_eq_getElem_cons (by omega)] at hx; rcases List.mem_cons.1 hx with rfl | hx; (rw [hg1, List.getD_eq_getElem?_getD, List.getElem?_eq_getElem (by omega)] at h26; exact h26); (rw [show k - 1 + 1 = k from by omega] at hx; exact ha x hx)⟩⟩, by show k - 1 < k; omega⟩
      refine wp_exit ?_
      refine x_thenExit ?_
      refine x_thenExit ?_
      refine x_blockHere ?_
      refine x_then ?_
      refine sb ?_
      refine rn 3 S H t0 fun a w S H => ?_
      refine r_y S H (y_index S rfl rfl rfl Tryz.underlying22 Tryz.sizeOf33 (by omega) (by omega)) rfl rfl rfl fun a S => ?_
      refine r_setRows (vs := [.int .u64 ((r.1 : Nat) : Int), .int .u64 ((r.2 : Nat) : Int)]) (xs' := recs (o.set k (r.1, r.2))) (L' := blk b1 (.cells #[.int .u64 ((r.1 : Nat) : Int), .int .u64 ((r.2 : Nat) : Int)] 33) :: row 33 2 (.slice (some ⟨b15, 0, none⟩) (l.length + 1) c14) (l.length + 1) (recs (o.set k (r.1, r.2))) :: fr) 1 S H rfl rfl rfl rfl Tryz.sizeOf33 rfl rfl (by simp [Value.oneCell']) (by first | omega | (simp <;> omega)) (recs_put (by first | omega | (simp <;> omega))) rfl rfl rfl fun w H => ?_
      refine sn ?_
      refine sr 2 S H t0 fun a w S H => ?_
      refine wp_ret ?_
      refine r_ret1 S H Tryz.results54 (ro_tmp S rfl) ?_
      have e : o.set k r = Rn.ins r l := by rw [ho, mid_set hkl]; exact mid_done hu hkl ha (fun _ => by rw [← mid_get (g := g) hkl (show k - 1 < k by omega), ← ho]; simpa using h26)
      have H := pk [1] 2 H
      rw [e] at H
      exact ⟨_, _, rfl, H⟩
  refine hmemo [true, true, false, true, true, false, false] 3 (fun a w => ∃ b2 : Nat, ∃ b8 : Nat, Slots a 42 [(3, .pointer (some ⟨b1, 0, none⟩)), (4, .slice none 0 0), (7, .slice (some ⟨b2, 0, none⟩) 0 0), (8, .slice A l.length c), (11, .slice (some ⟨b8, 0, none⟩) 1 1), (42, undef)] ∧ Sat w (row 33 2 (.slice (some ⟨b8, 0, none⟩) 1 1) 1 (recs [(r.1, r.2)]) :: row 33 2 (.slice (some ⟨b2, 0, none⟩) 0 0) 0 (recs []) :: blk b1 (.cells #[.int .u64 ((r.1 : Nat) : Int), .int .u64 ((r.2 : Nat) : Int)] 33) :: fr)) ?_ fun K1 => ?_
  · rintro a w ⟨b2, b8, S, H⟩
    have HS : Sat w _ := pk [2] 3 H
    refine h1 2 ?_
    refine r_appendS (L' := fun A16 c17 => row 33 2 (.slice (some ⟨b8, 0, none⟩) 1 1) 1 (recs [(r.1, r.2)]) :: row 33 2 (.slice A16 l.length c17) l.length (recs l) :: blk b1 (.cells #[.int .u64 ((r.1 : Nat) : Int), .int .u64 ((r.2 : Nat) : Int)] 33) :: fr) (xs' := recs l) 1 S H rfl rfl rfl rfl el22 (((ok.more _).more _).more _) (one_recs _) (by simp only [maxLen]; first | omega | (simp <;> omega)) (by first | omega | (simp <;> omega)) (List.nil_append _) (by first | omega | (simp <;> omega)) (fun _ _ => rfl) rfl rfl rfl fun a w A16 c17 hA16 S H => ?_
    refine sn ?_
    refine hk (pk [2] 3 H) fun HS => ?_
    exact K0 _ _ ⟨_, _, _, S.sub ⟨rfl, rfl, rfl, rfl, rfl, trivial⟩, H⟩
  refine h2 0 4 ?_ ?_
  · skip
    refine r_lit (vs := #[]) (cs := recs []) S H rfl rfl el22 (by kernel_rfl) (by decide) (by rfl) rfl rfl rfl fun a w b18 S H => ?_
    refine sn ?_
    refine hk (pk [1] 2 H) fun HS => ?_
    refine h2 2 4 ?_ ?_
    · skip
      refine r_appendS (L' := fun A19 c20 => row 33 2 (.slice A19 l.length c20) l.length (recs l) :: blk b1 (.cells #[.int .u64 ((r.1 : Nat) : Int), .int .u64 ((r.2 : Nat) : Int)] 33) :: fr) (xs' := recs l) 0 S H rfl rfl rfl rfl el22 ((ok.more _).more _) (one_recs _) (by simp only [maxLen]; first | omega | (simp <;> omega)) (by first | omega | (simp <;> omega)) (List.nil_append _) (by first | omega | (simp <;> omega)) (fun _ _ => rfl) rfl rfl rfl fun a w A19 c20 hA19 S H => ?_
      refine sn ?_
      refine hk (pk [1] 2 H) fun HS => ?_
      refine h1 4 ?_
      refine r_lit (vs := #[(0, .agg #[.int .u64 ((r.1 : Nat) : Int), .int .u64 ((r.2 : Nat) : Int)])]) (cs := recs [(r.1, r.2)]) S H rfl rfl el22 (by kernel_rfl) (by decide) (by rfl) rfl rfl rfl fun a w b21 S H => ?_
      refine sn ?_
      refine hk (pk [2] 3 H) fun HS => ?_
      exact K0 _ _ ⟨_, _, _, S.sub ⟨rfl, rfl, rfl, rfl, rfl, trivial⟩, H⟩
    · skip
      refine r_lit (vs := #[(0, .agg #[.int .u64 ((r.1 : Nat) : Int), .int .u64 ((r.2 : Nat) : Int)])]) (cs := recs [(r.1, r.2)]) S H rfl rfl el22 (by kernel_rfl) (by decide) (by rfl) rfl rfl rfl fun a w b22 S H => ?_
      refine sn ?_
      refine hk (pk [2] 3 H) fun HS => ?_
      exact K1 _ _ ⟨_, _, S.sub ⟨rfl, rfl, rfl, rfl, rfl, rfl, trivial⟩, H⟩
  · skip
    refine r_lit (vs := #[(0, .agg #[.int .u64 ((r.1 : Nat) : Int), .int .u64 ((r.2 : Nat) : Int)])]) (cs := recs [(r.1, r.2)]) S H rfl rfl el22 (by kernel_rfl) (by decide) (by rfl) rfl rfl rfl fun a w b23 S H => ?_
    refine sn ?_
    refine hk (pk [1] 2 H) fun HS => ?_
    refine h1 0 ?_
    refine r_lit (vs := #[]) (cs := recs []) S H rfl rfl el22 (by kernel_rfl) (by decide) (by rfl) rfl rfl rfl fun a w b24 S H => ?_
    refine sn ?_
    refine hk (pk [2] 3 H) fun HS => ?_
    exact K1 _ _ ⟨_, _, S.sub ⟨rfl, rfl, rfl, rfl, rfl, rfl, trivial⟩, pk [1, 0, 2] 3 H⟩

theorem sort7_ct (w : World) (fr : List Res) (A : Option Addr) (c : Nat) (l : List R) (ok : SlOk fr 2 A l.length c (recs l)) (hn : l.length ≤ 1099511627776) (H : Sat w (fr)) :
    Rt Tryz.prog 30 #[.slice A l.length c] w fun v w' => ∃ A' c', v = .slice A' l.length c' ∧ Sat w' (row 33 2 (.slice A' l.length c') l.length (recs (Rn.sort l)) :: fr) := by
  refine en1 Tryz.func30 rfl Tryz.ntmps30 rfl fun a S => ?_
  refine sr 1 S H t0 fun a w S H => ?_
  refine sb ?_
  refine r_lit (vs := #[]) (cs := recs []) S H rfl rfl el22 (by kernel_rfl) (by decide) (by rfl) rfl rfl rfl fun a w b1 S H => ?_
  refine rs 1 S H t0 fun a w S H => ?_
  refine r_seq ?_
  refine sr 1 S H t0 fun a w S H => ?_
  refine r_block ?_
  refine r_loop (ι := Nat × Option Addr × Nat) (fun ⟨i, Ao, co⟩ a w => Slots a 19 [(0, .slice A l.length c), (2, .slice none 0 0), (3, .slice Ao i co), (4, .int .i64 ((i : Nat) : Int)), (19, undef)] ∧ Sat w (row 33 2 (.slice Ao i co) i (recs (Rn.sort (l.take i))) :: fr) ∧ (i ≤ l.length)) (fun ⟨i, Ao, co⟩ => l.length - i) (0, (some ⟨b1, 0, none⟩), 0) ⟨S.sub ⟨rfl, rfl, rfl, rfl, rfl, trivial⟩, H, (Nat.zero_le _)⟩ (fun ⟨i, Ao, co⟩ a w hI => ?_)
  obtain ⟨S, H, hI⟩ := hI
  have hil := hI
  refine r_seq ?_
  refine sr 4 S H t0 fun a w S H => ?_
  refine r_test S rfl (fun h9 => ?_) (fun h9 => ?_)
  · skip
    refine wp_skip ?_
    refine x_then ?_
    refine r_seq ?_
    refine r_block ?_
    have hle : (Rn.sort (l.take i)).length = i := by simp; omega
    refine r_region ?_
    refine r_y S H (y_move S rfl rfl) rfl rfl rfl fun a S => ?_
    have S := S.retell (v' := .slice Ao ((Rn.sort (l.take i)).length) co) 12 rfl (by rw [hle])
    refine rn 2 S H t0 fun a w S H => ?_
    obtain ⟨b2, o3, rfl⟩ := (ok.more _).addr H (by first | omega | (simp <;> omega))
    refine r_y S H (y_index S rfl rfl rfl Tryz.underlying22 Tryz.sizeOf33 (by omega) (by omega)) rfl rfl rfl fun a S => ?_
    refine r_y S H (y_loadAggAt [.int .u64 (((l.getD i (0, 0)).1 : Nat) : Int), .int .u64 (((l.getD i (0, 0)).2 : Nat) : Int)] S rfl rfl (fun w => ⟨Tryz.isAgg33 w, Tryz.sizeOf33 w⟩) rfl (fun w H => (ok.more _).cells w H (recs_from (i := i) (by first | omega | (simp <;> omega))))) rfl rfl rfl fun a S => ?_
    refine r_call (args := #[.slice Ao ((Rn.sort (l.take i)).length) co, .agg #[.int .u64 (((l.getD i (0, 0)).1 : Nat) : Int), .int .u64 (((l.getD i (0, 0)).2 : Nat) : Int)]]) S rfl rfl Tryz.call54 (put7_ct (H := H) _ _ Ao co (Rn.sort (l.take i)) (l.getD i (0, 0)) (by rw [hle]; exact SlOk.ofRow (i := 0) H rfl) (Rn.sort_up _) (by omega)) rfl rfl rfl fun v a w hR S => ?_
    obtain ⟨A4, c5, rfl, H⟩ := hR
    refine rn 1 S H t0 fun a w S H => ?_
    refine r_nil ?_
    refine x_blockEnd ?_
    refine x_then ?_
    refine er 3 S H (by omega) fun a w S H => ?_
    refine x_then ?_
    have el : (Rn.sort (l.take i)).length + 1 = i + 1 := by simp; omega
    have H := pk [0] 2 H
    rw [sort_take (by omega), el] at H
    rw [el] at S
    exact ⟨(i + 1, A4, c5), ⟨S.sub ⟨rfl, rfl, rfl, rfl, rfl, trivial⟩, H, (by omega)⟩, by show l.length - (i + 1) < l.length - i; omega⟩
  refine wp_exit ?_
  refine x_thenExit ?_
  refine x_thenExit ?_
  refine x_blockHere ?_
  refine x_then ?_
  refine sr 2 S H t0 fun a w S H => ?_
  refine wp_ret ?_
  refine r_ret1 S H Tryz.results30 (ro_tmp S rfl) ?_
  have hi : i = l.length := by omega
  subst hi
  have e : l.take l.length = l := List.take_length
  rw [e] at H
  exact ⟨_, _, rfl, H⟩

theorem sorted8_ct (w : World) (fr : List Res) (A : Option Addr) (c : Nat) (l : List R) (ok : SlOk fr 2 A l.length c (recs l)) (hn : l.length ≤ 1099511627776) (hl : Bd l) (how : Int) (H : Sat w (fr)) :
    Rt Tryz.prog 18 #[.slice A l.length c, .int .i64 how] w fun v w' => ∃ A' c', v = .slice A' (Rn.fold how (Rn.sort l)).length c' ∧ Sat w' (row 33 2 (.slice A' (Rn.fold how (Rn.sort l)).length c') (Rn.fold how (Rn.sort l)).length (recs (Rn.fold how (Rn.sort l))) :: fr) := by
  refine en2 Tryz.func18 rfl Tryz.ntmps18 rfl fun a S => ?_
  refine sr 1 S H t0 fun a w S H => ?_
  refine sb ?_
  refine rn 1 S H t0 fun a w S H => ?_
  refine r_call (args := #[.slice A l.length c]) S rfl rfl Tryz.call30 (sort7_ct (H := H) _ _ A c l ok (by omega)) rfl rfl rfl fun v a w hR S => ?_
  obtain ⟨A5, c6, rfl, H⟩ := hR
  refine rs 1 S H t0 fun a w S H => ?_
  refine r_seq ?_
  refine sr 2 S H t0 fun a w S H => ?_
  refine r_test S rfl (fun h12 => ?_) (fun h12 => ?_)
  · skip
    refine sr 2 S H t0 fun a w S H => ?_
    refine wp_ret ?_
    refine x_thenRet ?_
    refine r_ret1 S H Tryz.results18 (ro_tmp S rfl) ?_
    have h0 : how = 0 := by omega
    have e : Rn.fold how (Rn.sort l) = Rn.sort l := by rw [h0]; exact fold_zero _
    rw [e]
    have en : (Rn.sort l).length = l.length := by simp
    rw [en]
    exact ⟨_, _, rfl, H⟩
  have hne : how ≠ 0 := by omega
  refine wp_skip ?_
  refine x_then ?_
  refine sb ?_
  refine r_lit (vs := #[]) (cs := recs []) S H rfl rfl el22 (by kernel_rfl) (by decide) (by rfl) rfl rfl rfl fun a w b7 S H => ?_
  refine rs 1 S H t0 fun a w S H => ?_
  refine r_seq ?_
  refine sr 1 S H t0 fun a w S H => ?_
  refine r_block ?_
  refine r_loop (ι := Nat × Option Addr × Nat) (fun ⟨i, Ao, co⟩ a w => Slots a 65 [(1, .int .i64 how), (4, .slice none 0 0), (5, .slice A5 l.length c6), (6, .slice Ao ((Rn.fold how ((Rn.sort l).take i)).length) co), (7, .int .i64 ((i : Nat) : Int)), (65, undef)] ∧ Sat w (row 33 2 (.slice A5 l.length c6) l.length (recs (Rn.sort l)) :: row 33 2 (.slice Ao ((Rn.fold how ((Rn.sort l).take i)).length) co) ((Rn.fold how ((Rn.sort l).take i)).length) (recs (Rn.fold how ((Rn.sort l).take i))) :: fr) ∧ (i ≤ l.length)) (fun ⟨i, Ao, co⟩ => l.length - i) (0, (some ⟨b7, 0, none⟩), 0) ⟨S.sub ⟨rfl, rfl, rfl, rfl, rfl, rfl, trivial⟩, pk [1, 0] 2 H, (Nat.zero_le _)⟩ (fun ⟨i, Ao, co⟩ a w hI => ?_)
  obtain ⟨S, H, hI⟩ := hI
  have hil := hI
  have hfl := Rn.fold_len how ((Rn.sort l).take i)
  have htl : ((Rn.sort l).take i).length ≤ l.length := by simp; omega
  refine r_seq ?_
  refine sr 4 S H t0 fun a w S H => ?_
  refine r_test S rfl (fun h18 => ?_) (fun h18 => ?_)
  · skip
    refine wp_skip ?_
    refine x_then ?_
    refine r_seq ?_
    refine r_block ?_
    have hgb := (Rn.Bd.sort hl).at (i := i) (by simp; omega)
    have hob := Rn.fold_bd how _ ((Rn.Bd.sort hl).take i)
    refine sr 3 S H t0 fun a w S H => ?_
    rcases fold_cases how (Rn.fold how ((Rn.sort l).take i)) ((Rn.sort l).getD i (0, 0)) with h0 | ⟨h0, hnil⟩ | ⟨h0, hpos, hkey⟩ | ⟨h0, hpos, hkey⟩
    · skip
      exact absurd h0 hne
    · skip
      obtain ⟨b8, rfl⟩ := H.rowAt (i := 0) rfl (by omega)
      apply qb H rfl (by kernel_rfl)
      · skip
        refine qn 1 S t0 fun a S => ?_
        refine q_y S (y_gt S rfl rfl rfl) rfl rfl rfl fun a S => ?_
        have S := S.retell (v' := .bool false) 24 rfl (by rw [decide_eq_false (by omega)])
        refine qn 14 S t0 fun a S => ?_
        exact q_nil S
      · intro a w S H
        refine r_condF S rfl ?_
        refine r_region ?_
        refine rn 3 S H t0 fun a w S H => ?_
        refine r_y S H (y_index S rfl rfl rfl Tryz.underlying22 Tryz.sizeOf33 (by omega) (by omega)) rfl rfl rfl fun a S => ?_
        refine r_y S H (y_loadAggAt [.int .u64 ((((Rn.sort l).getD i (0, 0)).1 : Nat) : Int), .int .u64 ((((Rn.sort l).getD i (0, 0)).2 : Nat) : Int)] S rfl rfl (fun w => ⟨Tryz.isAgg33 w, Tryz.sizeOf33 w⟩) rfl (fun w H => (SlOk.ofRow (i := 0) H rfl).cells w H (recs_from (i := i) (by first | omega | (simp <;> omega))))) rfl rfl rfl fun a S => ?_
        refine r_lit (vs := #[(0, .agg #[.int .u64 ((((Rn.sort l).getD i (0, 0)).1 : Nat) : Int), .int .u64 ((((Rn.sort l).getD i (0, 0)).2 : Nat) : Int)])]) (cs := recs [((Rn.sort l).getD i (0, 0))]) S H rfl rfl el22 (by kernel_rfl) (by decide) (by rfl) rfl rfl rfl fun a w b9 S H => ?_
        refine r_appendS (L' := fun A10 c11 => row 33 2 (.slice (some ⟨b9, 0, none⟩) 1 1) 1 (recs [((Rn.sort l).getD i (0, 0))]) :: row 33 2 (.slice (some ⟨b8, 0, none⟩) l.length c6) l.length (recs (Rn.sort l)) :: row 33 2 (.slice A10 ((Rn.fold how ((Rn.sort l).take i)).length + 1) c11) ((Rn.fold how ((Rn.sort l).take i)).length + 1) (recs ((Rn.fold how ((Rn.sort l).take i)) ++ ([((Rn.sort l).getD i (0, 0))]))) :: fr) (xs' := recs ((Rn.fold how ((Rn.sort l).take i)) ++ ([((Rn.sort l).getD i (0, 0))]))) 2 S H rfl rfl rfl rfl el22 (SlOk.ofRow (i := 0) H rfl) (one_recs _) (by simp only [maxLen]; first | omega | (simp <;> omega)) (by first | omega | (simp <;> omega)) (recs_app (Rn.fold how ((Rn.sort l).take i)) ([((Rn.sort l).getD i (0, 0))])) (by first | omega | (simp <;> omega)) (fun _ _ => rfl) rfl rfl rfl fun a w A10 c11 hA10 S H => ?_
        refine rn 1 S H t0 fun a w S H => ?_
        refine r_nil ?_
        refine x_blockEnd ?_
        refine x_then ?_
        refine er 3 S H (by omega) fun a w S H => ?_
        refine x_then ?_
        have ef : Rn.fold how ((Rn.sort l).take (i + 1)) = (Rn.fold how ((Rn.sort l).take i)) ++ ([((Rn.sort l).getD i (0, 0))]) := by rw [Rn.fold_take (by simp; omega)]; rw [List.eq_nil_of_length_eq_zero hnil]; rfl
        have en : (Rn.fold how ((Rn.sort l).take (i + 1))).length = (Rn.fold how ((Rn.sort l).take i)).length + 1 := by rw [ef]; simp
        have H := pk [1, 2] 3 H
        exact ⟨(i + 1, A10, c11), ⟨S.sub ⟨rfl, rfl, rfl, (show lk _ _ = some (.slice _ (Rn.fold how ((Rn.sort l).take (i + 1))).length _) from by rw [en]; rfl), rfl, rfl, trivial⟩, (by rw [en, ef]; exact H), (by omega)⟩, by show l.length - (i + 1) < l.length - i; omega⟩
    · skip
      obtain ⟨b12, rfl⟩ := H.rowAt (i := 0) rfl (by omega)
      obtain ⟨b13, rfl⟩ := H.rowAt (i := 1) rfl hpos
      have hzz := hob _ (getDR_mem (l := (Rn.fold how ((Rn.sort l).take i))) (i := (Rn.fold how ((Rn.sort l).take i)).length - 1) (by omega))
      apply qb H rfl (by kernel_rfl)
      · skip
        refine qn 1 S t0 fun a S => ?_
        refine q_y S (y_gt S rfl rfl rfl) rfl rfl rfl fun a S => ?_
        have S := S.retell (v' := .bool true) 24 rfl (by rw [decide_eq_true (by omega)])
        refine qn 3 S t0 fun a S => ?_
        refine q_y S (y_sub S rfl rfl rfl (wi64 (by omega) (by omega))) rfl rfl rfl fun a S => ?_
        have S := S.retell (v' := .int .i64 ((((Rn.fold how ((Rn.sort l).take i)).length - 1) : Nat) : Int)) 28 rfl (int_eq (by omega))
        refine q_y S (y_index S rfl rfl rfl Tryz.underlying22 Tryz.sizeOf33 (by omega) (by omega)) rfl rfl rfl fun a S => ?_
        refine qn 1 S t0 fun a S => ?_
        refine q_y S (y_loadAt S rfl rfl Tryz.isAgg31 (fun w H => (SlOk.ofRow (i := 1) H rfl).cell w H (recs_from (i := ((Rn.fold how ((Rn.sort l).take i)).length - 1)) (by first | omega | (simp <;> omega)) 0 _ rfl))) rfl rfl rfl fun a S => ?_
        refine qn 2 S t0 fun a S => ?_
        refine q_y S (y_index S rfl rfl rfl Tryz.underlying22 Tryz.sizeOf33 (by omega) (by omega)) rfl rfl rfl fun a S => ?_
        refine qn 1 S t0 fun a S => ?_
        refine q_y S (y_loadAt S rfl rfl Tryz.isAgg31 (fun w H => (SlOk.ofRow (i := 0) H rfl).cell w H (recs_from (i := i) (by first | omega | (simp <;> omega)) 0 _ rfl))) rfl rfl rfl fun a S => ?_
        refine q_y S (y_eq S rfl rfl rfl) rfl rfl rfl fun a S => ?_
        have S := S.retell (v' := .bool true) 37 rfl (by rw [decide_eq_true (by omega)])
        refine qn 1 S t0 fun a S => ?_
        exact q_nil S
      · intro a w S H
        refine r_condT S rfl ?_
        refine ha [0] 2 H fun w H HS => ?_
        refine tk 0 S HS fun a S => ?_
        refine tk 1 S HS fun a S => ?_
        refine tkY 2 S HS rfl (y_sub S rfl rfl rfl (wi64 (by omega) (by omega))) rfl rfl rfl fun a S => ?_
        have S := S.retell (v' := .int .i64 ((((Rn.fold how ((Rn.sort l).take i)).length - 1) : Nat) : Int)) 41 rfl (int_eq (by omega))
        refine tk 3 S HS fun a S => ?_
        refine tk 4 S HS fun a S => ?_
        refine tk 5 S HS fun a S => ?_
        refine tkY 6 S HS rfl (y_sub S rfl rfl rfl (wi64 (by omega) (by omega))) rfl rfl rfl fun a S => ?_
        have S := S.retell (v' := .int .i64 ((((Rn.fold how ((Rn.sort l).take i)).length - 1) : Nat) : Int)) 45 rfl (int_eq (by omega))
        refine tkY 7 S HS rfl (y_index S rfl rfl rfl Tryz.underlying22 Tryz.sizeOf33 (by omega) (by omega)) rfl rfl rfl fun a S => ?_
        refine tk 8 S HS fun a S => ?_
        refine tk 10 S HS fun a S => ?_
        refine tk 11 S HS fun a S => ?_
        refine tkY 12 S HS rfl (y_index S rfl rfl rfl Tryz.underlying22 Tryz.sizeOf33 (by omega) (by omega)) rfl rfl rfl fun a S => ?_
        refine tk 13 S HS fun a S => ?_
        refine tkY 14 S HS rfl (y_loadAt S rfl rfl Tryz.isAgg31 (fun w H => (SlOk.ofRow (i := 0) HS rfl).cell w H (recs_from (i := i) (by first | omega | (simp <;> omega)) 1 _ rfl))) rfl rfl rfl fun a S => ?_
        refine h1 9 ?_
        refine r_y S H (y_loadAt S rfl rfl Tryz.isAgg31 (fun w H => (SlOk.ofRow (i := 1) H rfl).cell w H (recs_from (i := ((Rn.fold how ((Rn.sort l).take i)).length - 1)) (by first | omega | (simp <;> omega)) 1 _ rfl))) rfl rfl rfl fun a S => ?_
        refine sn ?_
        refine hk (pk [0] 2 H) fun HS => ?_
        refine h1 15 ?_
        refine r_call (args := #[.int .i64 how, .int .u64 ((((Rn.fold how ((Rn.sort l).take i)).getD ((Rn.fold how ((Rn.sort l).take i)).length - 1) (0, 0)).2 : Nat) : Int), .int .u64 ((((Rn.sort l).getD i (0, 0)).2 : Nat) : Int)]) S rfl rfl Tryz.call31 (comb8_ct (H := H) _ _ how (((Rn.fold how ((Rn.sort l).take i)).getD ((Rn.fold how ((Rn.sort l).take i)).length - 1) (0, 0)).2) (((Rn.sort l).getD i (0, 0)).2) (by omega) (by omega)) rfl rfl rfl fun v a w hR S => ?_
        obtain ⟨rfl, H⟩ := hR
        refine sn ?_
        refine hk (pk [0] 2 H) fun HS => ?_
        refine tkY 16 S HS rfl (y_index S rfl rfl rfl Tryz.underlying22 Tryz.sizeOf33 (by omega) (by omega)) rfl rfl rfl fun a S => ?_
        refine tk 17 S HS fun a S => ?_
        refine h1 18 ?_
        refine r_setRowV (L' := row 33 2 (.slice (some ⟨b12, 0, none⟩) l.length c6) l.length (recs (Rn.sort l)) :: row 33 2 (.slice (some ⟨b13, 0, none⟩) ((Rn.fold how ((Rn.sort l).take i)).length) co) ((Rn.fold how ((Rn.sort l).take i)).length) (recs ((Rn.fold how ((Rn.sort l).take i)).set ((Rn.fold how ((Rn.sort l).take i)).length - 1) (((Rn.fold how ((Rn.sort l).take i)).getD ((Rn.fold how ((Rn.sort l).take i)).length - 1) (0, 0)).1, (Rn.comb how (((Rn.fold how ((Rn.sort l).take i)).getD ((Rn.fold how ((Rn.sort l).take i)).length - 1) (0, 0)).2) (((Rn.sort l).getD i (0, 0)).2))))) :: fr) 1 S H rfl rfl rfl rfl Tryz.sizeOf31 rfl rfl (by first | omega | (simp <;> omega)) (xs' := recs ((Rn.fold how ((Rn.sort l).take i)).set ((Rn.fold how ((Rn.sort l).take i)).length - 1) (((Rn.fold how ((Rn.sort l).take i)).getD ((Rn.fold how ((Rn.sort l).take i)).length - 1) (0, 0)).1, (Rn.comb how (((Rn.fold how ((Rn.sort l).take i)).getD ((Rn.fold how ((Rn.sort l).take i)).length - 1) (0, 0)).2) (((Rn.sort l).getD i (0, 0)).2))))) (recs_setA (by omega) rfl) rfl rfl rfl fun w H => ?_
        refine sn ?_
        refine hk (pk [0] 2 H) fun HS => ?_
        refine hz ?_
        refine x_blockEnd ?_
        refine x_then ?_
        refine er 3 S H (by omega) fun a w S H => ?_
        refine x_then ?_
        have ef : Rn.fold how ((Rn.sort l).take (i + 1)) = (Rn.fold how ((Rn.sort l).take i)).set ((Rn.fold how ((Rn.sort l).take i)).length - 1) (((Rn.fold how ((Rn.sort l).take i)).getD ((Rn.fold how ((Rn.sort l).take i)).length - 1) (0, 0)).1, (Rn.comb how (((Rn.fold how ((Rn.sort l).take i)).getD ((Rn.fold how ((Rn.sort l).take i)).length - 1) (0, 0)).2) (((Rn.sort l).getD i (0, 0)).2))) := by rw [Rn.fold_take (by simp; omega)]; rw [fput_last hpos, if_pos ⟨hne, hkey⟩]
        have en : (Rn.fold how ((Rn.sort l).take (i + 1))).length = (Rn.fold how ((Rn.sort l).take i)).length := by rw [ef]; simp
        have H := H
        exact ⟨(i + 1, (some ⟨b13, 0, none⟩), co), ⟨S.sub ⟨rfl, rfl, rfl, (show lk _ _ = some (.slice _ (Rn.fold how ((Rn.sort l).take (i + 1))).length _) from by rw [en]; rfl), rfl, rfl, trivial⟩, (by rw [en, ef]; exact H), (by omega)⟩, by show l.length - (i + 1) < l.length - i; omega⟩
    obtain ⟨b14, rfl⟩ := H.rowAt (i := 0) rfl (by omega)
    obtain ⟨b15, rfl⟩ := H.rowAt (i := 1) rfl hpos
    have hzz := hob _ (getDR_mem (l := (Rn.fold how ((Rn.sort l).take i))) (i := (Rn.fold how ((Rn.sort l).take i)).length - 1) (by omega))
    apply qb H rfl (by kernel_rfl)
    · skip
      refine qn 1 S t0 fun a S => ?_
      refine q_y S (y_gt S rfl rfl rfl) rfl rfl rfl fun a S => ?_
      have S := S.retell (v' := .bool true) 24 rfl (by rw [decide_eq_true (by omega)])
      refine qn 3 S t0 fun a S => ?_
      refine q_y S (y_sub S rfl rfl rfl (wi64 (by omega) (by omega))) rfl rfl rfl fun a S => ?_
      have S := S.retell (v' := .int .i64 ((((Rn.fold how ((Rn.sort l).take i)).length - 1) : Nat) : Int)) 28 rfl (int_eq (by omega))
      refine q_y S (y_index S rfl rfl rfl Tryz.underlying22 Tryz.sizeOf33 (by omega) (by omega)) rfl rfl rfl fun a S => ?_
      refine qn 1 S t0 fun a S => ?_
      refine q_y S (y_loadAt S rfl rfl Tryz.isAgg31 (fun w H => (SlOk.ofRow (i := 1) H rfl).cell w H (recs_from (i := ((Rn.fold how ((Rn.sort l).take i)).length - 1)) (by first | omega | (simp <;> omega)) 0 _ rfl))) rfl rfl rfl fun a S => ?_
      refine qn 2 S t0 fun a S => ?_
      refine q_y S (y_index S rfl rfl rfl Tryz.underlying22 Tryz.sizeOf33 (by omega) (by omega)) rfl rfl rfl fun a S => ?_
      refine qn 1 S t0 fun a S => ?_
      refine q_y S (y_loadAt S rfl rfl Tryz.isAgg31 (fun w H => (SlOk.ofRow (i := 0) H rfl).cell w H (recs_from (i := i) (by first | omega | (simp <;> omega)) 0 _ rfl))) rfl rfl rfl fun a S => ?_
      refine q_y S (y_eq S rfl rfl rfl) rfl rfl rfl fun a S => ?_
      have S := S.retell (v' := .bool false) 37 rfl (by rw [decide_eq_false (by omega)])
      refine qn 1 S t0 fun a S => ?_
      exact q_nil S
    · intro a w S H
      refine r_condF S rfl ?_
      refine r_region ?_
      refine rn 3 S H t0 fun a w S H => ?_
      refine r_y S H (y_index S rfl rfl rfl Tryz.underlying22 Tryz.sizeOf33 (by omega) (by omega)) rfl rfl rfl fun a S => ?_
      refine r_y S H (y_loadAggAt [.int .u64 ((((Rn.sort l).getD i (0, 0)).1 : Nat) : Int), .int .u64 ((((Rn.sort l).getD i (0, 0)).2 : Nat) : Int)] S rfl rfl (fun w => ⟨Tryz.isAgg33 w, Tryz.sizeOf33 w⟩) rfl (fun w H => (SlOk.ofRow (i := 0) H rfl).cells w H (recs_from (i := i) (by first | omega | (simp <;> omega))))) rfl rfl rfl fun a S => ?_
      refine r_lit (vs := #[(0, .agg #[.int .u64 ((((Rn.sort l).getD i (0, 0)).1 : Nat) : Int), .int .u64 ((((Rn.sort l).getD i (0, 0)).2 : Nat) : Int)])]) (cs := recs [((Rn.sort l).getD i (0, 0))]) S H rfl rfl el22 (by kernel_rfl) (by decide) (by rfl) rfl rfl rfl fun a w b16 S H => ?_
      refine r_appendS (L' := fun A17 c18 => row 33 2 (.slice (some ⟨b16, 0, none⟩) 1 1) 1 (recs [((Rn.sort l).getD i (0, 0))]) :: row 33 2 (.slice (some ⟨b14, 0, none⟩) l.length c6) l.length (recs (Rn.sort l)) :: row 33 2 (.slice A17 ((Rn.fold how ((Rn.sort l).take i)).length + 1) c18) ((Rn.fold how ((Rn.sort l).take i)).length + 1) (recs ((Rn.fold how ((Rn.sort l).take i)) ++ ([((Rn.sort l).getD i (0, 0))]))) :: fr) (xs' := recs ((Rn.fold how ((Rn.sort l).take i)) ++ ([((Rn.sort l).getD i (0, 0))]))) 2 S H rfl rfl rfl rfl el22 (SlOk.ofRow (i := 0) H rfl) (one_recs _) (by simp only [maxLen]; first | omega | (simp <;> omega)) (by first | omega | (simp <;> omega)) (recs_app (Rn.fold how ((Rn.sort l).take i)) ([((Rn.sort l).getD i (0, 0))])) (by first | omega | (simp <;> omega)) (fun _ _ => rfl) rfl rfl rfl fun a w A17 c18 hA17 S H => ?_
      refine rn 1 S H t0 fun a w S H => ?_
      refine r_nil ?_
      refine x_blockEnd ?_
      refine x_then ?_
      refine er 3 S H (by omega) fun a w S H => ?_
      refine x_then ?_
      have ef : Rn.fold how ((Rn.sort l).take (i + 1)) = (Rn.fold how ((Rn.sort l).take i)) ++ ([((Rn.sort l).getD i (0, 0))]) := by rw [Rn.fold_take (by simp; omega)]; rw [fput_last hpos, if_neg (fun h => hkey h.2)]
      have en : (Rn.fold how ((Rn.sort l).take (i + 1))).length = (Rn.fold how ((Rn.sort l).take i)).length + 1 := by rw [ef]; simp
      have H := pk [1, 2] 3 H
      exact ⟨(i + 1, A17, c18), ⟨S.sub ⟨rfl, rfl, rfl, (show lk _ _ = some (.slice _ (Rn.fold how ((Rn.sort l).take (i + 1))).length _) from by rw [en]; rfl), rfl, rfl, trivial⟩, (by rw [en, ef]; exact H), (by omega)⟩, by show l.length - (i + 1) < l.length - i; omega⟩
  refine wp_exit ?_
  refine x_thenExit ?_
  refine x_thenExit ?_
  refine x_blockHere ?_
  refine x_then ?_
  refine sr 2 S H t0 fun a w S H => ?_
  refine wp_ret ?_
  refine r_ret1 S H Tryz.results18 (ro_tmp S rfl) ?_
  have hi : i = l.length := by omega
  subst hi
  have e2 : (Rn.sort l).take l.length = Rn.sort l := by rw [List.take_of_length_le (by simp)]
  rw [e2] at H ⊢
  exact ⟨_, _, rfl, pk [1] 2 H⟩

end Go.Proofs.YtembfpadojnpmaaGreatDoor
namespace Go.Proofs.YtembfpadojnpmaaGreatDoor
open Go.RowKit Go.Cg
set_option linter.unusedVariables false
set_option linter.unusedSimpArgs false
set_option maxRecDepth 8000
set_option synthInstance.maxHeartbeats 1000000
set_option synthInstance.maxSize 1000000
open Go.Cg.Dk (By Nm)
open Go.Cg.Rn (R Bd Bx)
def boxR (bb db : Nat) (x : Bx) : Res := ex fun p : Nat × Option Addr × Nat => star [blk bb (.cells #[.pointer (some ⟨db, 0, none⟩), str x.name, .int .i64 ((x.budget : Nat) : Int), .int .i64 x.how, .map (some p.1), .slice p.2.1 x.files.length p.2.2, .int .i64 ((x.next : Nat) : Int)] 64), mp (mkN .u64) (mkN .u64) p.1 x.now, que 9 p.2.1 x.files.length p.2.2 (strs x.files)]
theorem Sat.openBox {w : World} {L : List Res} {bb db : Nat} {x : Bx} (H : Sat w (boxR bb db x :: L)) : ∃ mb A c, Sat w (blk bb (.cells #[.pointer (some ⟨db, 0, none⟩), str x.name, .int .i64 ((x.budget : Nat) : Int), .int .i64 x.how, .map (some mb), .slice A x.files.length c, .int .i64 ((x.next : Nat) : Int)] 64) :: mp (mkN .u64) (mkN .u64) mb x.now :: que 9 A x.files.length c (strs x.files) :: L) := by
  obtain ⟨⟨mb, A, c⟩, H⟩ := sat_ex.1 H; exact ⟨mb, A, c, sat_star.1 H⟩
theorem Sat.shutBox {w : World} {L : List Res} {bb db mb c : Nat} {A : Option Addr} (x : Bx) (H : Sat w (blk bb (.cells #[.pointer (some ⟨db, 0, none⟩), str x.name, .int .i64 ((x.budget : Nat) : Int), .int .i64 x.how, .map (some mb), .slice A x.files.length c, .int .i64 ((x.next : Nat) : Int)] 64) :: mp (mkN .u64) (mkN .u64) mb x.now :: que 9 A x.files.length c (strs x.files) :: L)) : Sat w (boxR bb db x :: L) := sat_ex.2 ⟨(mb, A, c), sat_star.2 H⟩
theorem newbox_ct (w : World) (fr : List Res) (db : Nat) (nm : Nm) (b : Nat) (how : Int) (hb : 1 ≤ b) (hh : how = 1 ∨ how = 2) (H : Sat w (fr)) :
    Rt Tryz.prog 11 #[.pointer (some ⟨db, 0, none⟩), str (nm), .int .i64 ((b : Nat) : Int), .int .i64 how] w fun v w' => ∃ bb, v = .tuple #[.pointer (some ⟨bb, 0, none⟩), .int .i64 0] ∧ Sat w' (boxR bb db (Rn.Bx.new nm b how) :: fr) := by
  refine en4 Tryz.func11 rfl Tryz.ntmps11 rfl fun a S => ?_
  refine sr 2 S H t0 fun a w S H => ?_
  refine r_seq ?_
  rcases hh with rfl | rfl
  · skip
    refine sb ?_
    refine rn 1 S H t0 fun a w S H => ?_
    refine r_y S H (y_lt S rfl rfl rfl) rfl rfl rfl fun a S => ?_
    have S := S.retell (v' := .bool false) 11 rfl (by rw [decide_eq_false (by omega)])
    refine rn 3 S H t0 fun a w S H => ?_
    have S := S.retell (v' := .bool false) 14 rfl rfl
    refine rs 5 S H t0 fun a w S H => ?_
    refine r_condF S rfl ?_
    refine wp_skip ?_
    refine x_then ?_
    refine sb ?_
    refine rn 4 S H t0 fun a w S H => ?_
    refine r_makeMap (mkN .u64) (mkN .u64) S H rfl rfl rfl rfl fun a w b1 S H => ?_
    refine r_y S H (y_build (vs := #[(0, .pointer (some ⟨db, 0, none⟩)), (1, str (nm)), (2, .int .i64 ((b : Nat) : Int)), (3, .int .i64 1), (4, .map (some b1))]) (v := .agg #[.pointer (some ⟨db, 0, none⟩), str (nm), .int .i64 ((b : Nat) : Int), .int .i64 1, .map (some b1), .slice none 0 0, .int .i64 0]) S rfl rfl (fun w => by kernel_rfl)) rfl rfl rfl fun a S => ?_
    refine r_box (c := #[.pointer (some ⟨db, 0, none⟩), str (nm), .int .i64 ((b : Nat) : Int), .int .i64 1, .map (some b1), .slice none 0 0, .int .i64 0]) S H rfl rfl rfl rfl rfl rfl fun a w b2 S H => ?_
    refine rs 2 S H t0 fun a w S H => ?_
    refine wp_ret ?_
    refine r_ret2 S H Tryz.results11 (ro_tmp S rfl) (ro_tmp S rfl) ?_
    have H := H.queNil 9
    exact ⟨_, rfl, Sat.shutBox (Rn.Bx.new nm b 1) (pk [1, 2, 0] 3 H)⟩
  refine sb ?_
  refine rn 1 S H t0 fun a w S H => ?_
  refine r_y S H (y_lt S rfl rfl rfl) rfl rfl rfl fun a S => ?_
  have S := S.retell (v' := .bool false) 11 rfl (by rw [decide_eq_false (by omega)])
  refine rn 3 S H t0 fun a w S H => ?_
  have S := S.retell (v' := .bool true) 14 rfl rfl
  refine rn 3 S H t0 fun a w S H => ?_
  have S := S.retell (v' := .bool false) 17 rfl rfl
  refine rs 2 S H t0 fun a w S H => ?_
  refine r_condF S rfl ?_
  refine wp_skip ?_
  refine x_then ?_
  refine sb ?_
  refine rn 4 S H t0 fun a w S H => ?_
  refine r_makeMap (mkN .u64) (mkN .u64) S H rfl rfl rfl rfl fun a w b3 S H => ?_
  refine r_y S H (y_build (vs := #[(0, .pointer (some ⟨db, 0, none⟩)), (1, str (nm)), (2, .int .i64 ((b : Nat) : Int)), (3, .int .i64 2), (4, .map (some b3))]) (v := .agg #[.pointer (some ⟨db, 0, none⟩), str (nm), .int .i64 ((b : Nat) : Int), .int .i64 2, .map (some b3), .slice none 0 0, .int .i64 0]) S rfl rfl (fun w => by kernel_rfl)) rfl rfl rfl fun a S => ?_
  refine r_box (c := #[.pointer (some ⟨db, 0, none⟩), str (nm), .int .i64 ((b : Nat) : Int), .int .i64 2, .map (some b3), .slice none 0 0, .int .i64 0]) S H rfl rfl rfl rfl rfl rfl fun a w b4 S H => ?_
  refine rs 2 S H t0 fun a w S H => ?_
  refine wp_ret ?_
  refine r_ret2 S H Tryz.results11 (ro_tmp S rfl) (ro_tmp S rfl) ?_
  have H := H.queNil 9
  exact ⟨_, rfl, Sat.shutBox (Rn.Bx.new nm b 2) (pk [1, 2, 0] 3 H)⟩

theorem newbad_ct (w : World) (fr : List Res) (db : Nat) (nm : Nm) (b how : Int) (hb : b < 1 ∨ (how ≠ 1 ∧ how ≠ 2)) (H : Sat w (fr)) :
    Rt Tryz.prog 11 #[.pointer (some ⟨db, 0, none⟩), str (nm), .int .i64 b, .int .i64 how] w fun v w' => v = .tuple #[.pointer none, .int .i64 1] ∧ Sat w' fr := by
  refine en4 Tryz.func11 rfl Tryz.ntmps11 rfl fun a S => ?_
  refine sr 2 S H t0 fun a w S H => ?_
  refine r_seq ?_
  rcases (show b < 1 ∨ (¬ b < 1 ∧ how ≠ 1 ∧ how ≠ 2) by omega) with h0 | h0
  · skip
    refine sb ?_
    refine rn 1 S H t0 fun a w S H => ?_
    refine r_y S H (y_lt S rfl rfl rfl) rfl rfl rfl fun a S => ?_
    have S := S.retell (v' := .bool true) 11 rfl (by rw [decide_eq_true (by omega)])
    refine rs 8 S H t0 fun a w S H => ?_
    refine r_condT S rfl ?_
    refine sr 2 S H t0 fun a w S H => ?_
    refine wp_ret ?_
    refine x_thenRet ?_
    refine r_ret2 S H Tryz.results11 (ro_tmp S rfl) (ro_tmp S rfl) ?_
    exact ⟨rfl, H⟩
  refine sb ?_
  refine rn 1 S H t0 fun a w S H => ?_
  refine r_y S H (y_lt S rfl rfl rfl) rfl rfl rfl fun a S => ?_
  have S := S.retell (v' := .bool false) 11 rfl (by rw [decide_eq_false (by omega)])
  refine rn 2 S H t0 fun a w S H => ?_
  refine r_y S H (y_ne S rfl rfl rfl) rfl rfl rfl fun a S => ?_
  have S := S.retell (v' := .bool true) 14 rfl (by rw [decide_eq_true (by omega)])
  refine rn 2 S H t0 fun a w S H => ?_
  refine r_y S H (y_ne S rfl rfl rfl) rfl rfl rfl fun a S => ?_
  have S := S.retell (v' := .bool true) 17 rfl (by rw [decide_eq_true (by omega)])
  refine rs 2 S H t0 fun a w S H => ?_
  refine r_condT S rfl ?_
  refine sr 2 S H t0 fun a w S H => ?_
  refine wp_ret ?_
  refine x_thenRet ?_
  refine r_ret2 S H Tryz.results11 (ro_tmp S rfl) (ro_tmp S rfl) ?_
  exact ⟨rfl, H⟩

theorem blen_ct (w : World) (fr : List Res) (bb db : Nat) (x : Bx) (H : Sat w (boxR bb db x :: fr)) :
    Rt Tryz.prog 13 #[.pointer (some ⟨bb, 0, none⟩)] w fun v w' => v = .int .i64 ((x.now.length : Nat) : Int) ∧ Sat w' (boxR bb db x :: fr) := by
  refine en1 Tryz.func13 rfl Tryz.ntmps13 rfl fun a S => ?_
  obtain ⟨mb, fA, fc, H⟩ := Sat.openBox (H)
  refine sr 1 S H t0 fun a w S H => ?_
  refine sb ?_
  refine rn 4 S H t0 fun a w S H => ?_
  refine r_y S H (y_lenM 1 S rfl rfl Tryz.underlying62 rfl) rfl rfl rfl fun a S => ?_
  refine rs 1 S H t0 fun a w S H => ?_
  refine wp_ret ?_
  refine r_ret1 S H Tryz.results13 (ro_tmp S rfl) ?_
  exact ⟨rfl, Sat.shutBox x (H)⟩

theorem bspl_ct (w : World) (fr : List Res) (bb db : Nat) (x : Bx) (H : Sat w (boxR bb db x :: fr)) :
    Rt Tryz.prog 14 #[.pointer (some ⟨bb, 0, none⟩)] w fun v w' => v = .int .i64 ((x.files.length : Nat) : Int) ∧ Sat w' (boxR bb db x :: fr) := by
  refine en1 Tryz.func14 rfl Tryz.ntmps14 rfl fun a S => ?_
  obtain ⟨mb, fA, fc, H⟩ := Sat.openBox (H)
  refine sr 1 S H t0 fun a w S H => ?_
  refine sr 6 S H t0 fun a w S H => ?_
  refine wp_ret ?_
  refine r_ret1 S H Tryz.results14 (ro_tmp S rfl) ?_
  exact ⟨rfl, Sat.shutBox x (H)⟩

theorem memory_ct (w : World) (fr : List Res) (bb db : Nat) (x : Bx) (mb : Nat) (fA : Option Addr) (fc : Nat) (hb : Bd x.now) (hn : x.now.length ≤ 1099511627776) (H : Sat w (blk bb (.cells #[.pointer (some ⟨db, 0, none⟩), str (x.name), .int .i64 ((x.budget : Nat) : Int), .int .i64 x.how, .map (some mb), .slice fA x.files.length fc, .int .i64 ((x.next : Nat) : Int)] 64) :: mp (mkN .u64) (mkN .u64) mb x.now :: que 9 fA x.files.length fc (strs x.files) :: fr)) :
    Rt Tryz.prog 26 #[.pointer (some ⟨bb, 0, none⟩)] w fun v w' => ∃ A' c', v = .slice A' (Rn.sort x.now).length c' ∧ Sat w' (row 33 2 (.slice A' (Rn.sort x.now).length c') (Rn.sort x.now).length (recs (Rn.sort x.now)) :: blk bb (.cells #[.pointer (some ⟨db, 0, none⟩), str (x.name), .int .i64 ((x.budget : Nat) : Int), .int .i64 x.how, .map (some mb), .slice fA x.files.length fc, .int .i64 ((x.next : Nat) : Int)] 64) :: mp (mkN .u64) (mkN .u64) mb x.now :: que 9 fA x.files.length fc (strs x.files) :: fr) := by
  refine en1 Tryz.func26 rfl Tryz.ntmps26 rfl fun a S => ?_
  refine sr 1 S H t0 fun a w S H => ?_
  refine sb ?_
  refine rn 4 S H t0 fun a w S H => ?_
  refine r_y S H (y_lenM 1 S rfl rfl Tryz.underlying62 rfl) rfl rfl rfl fun a S => ?_
  refine r_makeCap (cap := x.now.length) S H rfl rfl rfl el22 (by simp only [maxLen]; omega) (by omega) rfl rfl rfl fun a w b1 S H => ?_
  refine rs 1 S H t0 fun a w S H => ?_
  refine r_seq ?_
  refine sb ?_
  refine rn 4 S H t0 fun a w S H => ?_
  refine r_rangeM 2 S H rfl rfl Tryz.underlying62 rfl rfl rfl rfl fun a w b2 S H => ?_
  replace H : Sat _ (row 33 2 (.slice (some ⟨b1, 0, none⟩) 0 x.now.length) 0 (recs []) :: blk bb (.cells #[.pointer (some ⟨db, 0, none⟩), str (x.name), .int .i64 ((x.budget : Nat) : Int), .int .i64 x.how, .map (some mb), .slice fA x.files.length fc, .int .i64 ((x.next : Nat) : Int)] 64) :: mit (mkN .u64) (mkN .u64) mb b2 x.now ([]) :: que 9 fA x.files.length fc (strs x.files) :: fr) := H
  refine sn ?_
  refine r_block ?_
  refine r_loop (ι := List R × Option Addr × Nat) (fun ⟨got, Am, cm⟩ a w => Slots a 34 [(2, .slice none 0 0), (3, .slice Am got.length cm), (16, .pointer (some ⟨b2, 0, none⟩)), (34, undef)] ∧ Sat w (mit (mkN .u64) (mkN .u64) mb b2 x.now got :: row 33 2 (.slice Am got.length cm) got.length (recs got) :: blk bb (.cells #[.pointer (some ⟨db, 0, none⟩), str (x.name), .int .i64 ((x.budget : Nat) : Int), .int .i64 x.how, .map (some mb), .slice fA x.files.length fc, .int .i64 ((x.next : Nat) : Int)] 64) :: que 9 fA x.files.length fc (strs x.files) :: fr) ∧ (∃ lf, (got ++ lf).Perm x.now)) (fun ⟨got, Am, cm⟩ => x.now.length - got.length) ([], (some ⟨b1, 0, none⟩), x.now.length) ⟨S.sub ⟨rfl, rfl, rfl, rfl, trivial⟩, pk [2, 0, 1, 3] 4 H, ⟨x.now, List.Perm.refl _⟩⟩ (fun ⟨got, Am, cm⟩ a w hI => ?_)
  obtain ⟨S, H, hI⟩ := hI
  obtain ⟨lf0, hlf0⟩ := hI
  have hgl : got.length ≤ x.now.length := by have := hlf0.length_eq; simp at this; omega
  refine r_seq ?_
  refine r_region ?_
  refine r_nextM 0 S H rfl rfl rfl rfl rfl rfl (fun a w hpm S H => ?_) (fun a w p hpm S H => ?_)
  · skip
    refine r_y S H (y_extract (v := .bool false) S rfl rfl rfl) rfl rfl rfl fun a S => ?_
    refine r_nil ?_
    refine x_then ?_
    refine r_seq ?_
    refine r_condF S rfl ?_
    refine wp_exit ?_
    refine x_thenExit ?_
    refine x_thenExit ?_
    refine x_blockHere ?_
    refine x_then ?_
    refine sb ?_
    refine rn 1 S H t0 fun a w S H => ?_
    refine r_call (args := #[.slice Am got.length cm, .int .i64 0]) S rfl rfl Tryz.call41 (sorted14_ct (H := H) _ _ Am cm got (SlOk.ofRow (i := 1) H rfl) (by first | omega | (simp <;> omega)) (hb.perm hpm) 0) rfl rfl rfl fun v a w hR S => ?_
    obtain ⟨A3, c4, rfl, H⟩ := hR
    refine rs 4 S H t0 fun a w S H => ?_
    refine sr 2 S H t0 fun a w S H => ?_
    refine wp_ret ?_
    refine r_ret1 S H Tryz.results26 (ro_tmp S rfl) ?_
    have e : (Rn.sorted 0 got).1 = Rn.sort x.now := by
      have h1 : Rn.sorted 0 got = (Rn.fold 0 (Rn.sort got), 0) := rfl
      rw [h1, fold_zero, Rn.sort_of_perm hpm]
    have H := Sat.itDone (pk [1, 3, 4, 0] 5 H)
    have H := pk [3, 1, 0, 2] 4 H
    rw [e] at H ⊢
    exact ⟨_, _, rfl, H⟩
  · skip
    replace H : Sat _ (mit (mkN .u64) (mkN .u64) mb b2 x.now (got ++ [p]) :: row 33 2 (.slice Am got.length cm) got.length (recs got) :: blk bb (.cells #[.pointer (some ⟨db, 0, none⟩), str (x.name), .int .i64 ((x.budget : Nat) : Int), .int .i64 x.how, .map (some mb), .slice fA x.files.length fc, .int .i64 ((x.next : Nat) : Int)] 64) :: que 9 fA x.files.length fc (strs x.files) :: fr) := H
    have S := S.retell (v' := .tuple #[.bool true, .int .u64 ((p.1 : Nat) : Int), .int .u64 ((p.2 : Nat) : Int)]) 17 rfl rfl
    refine r_y S H (y_extract (v := .bool true) S rfl rfl rfl) rfl rfl rfl fun a S => ?_
    refine r_nil ?_
    refine x_then ?_
    refine r_seq ?_
    refine r_condT S rfl ?_
    refine wp_skip ?_
    refine x_then ?_
    refine r_block ?_
    refine sb ?_
    refine r_y S H (y_entryM 0 S rfl rfl rfl) rfl rfl rfl fun a S => ?_
    refine rs 4 S H t0 fun a w S H => ?_
    refine r_region ?_
    refine rn 3 S H t0 fun a w S H => ?_
    refine r_y S H (y_build (vs := #[(0, .int .u64 ((p.1 : Nat) : Int)), (1, .int .u64 ((p.2 : Nat) : Int))]) (v := .agg #[.int .u64 ((p.1 : Nat) : Int), .int .u64 ((p.2 : Nat) : Int)]) S rfl rfl (fun w => by kernel_rfl)) rfl rfl rfl fun a S => ?_
    refine r_lit (vs := #[(0, .agg #[.int .u64 ((p.1 : Nat) : Int), .int .u64 ((p.2 : Nat) : Int)])]) (cs := recs [(p.1, p.2)]) S H rfl rfl el22 (by kernel_rfl) (by decide) (by rfl) rfl rfl rfl fun a w b5 S H => ?_
    refine r_appendS (L' := fun A6 c7 => row 33 2 (.slice (some ⟨b5, 0, none⟩) 1 1) 1 (recs [(p.1, p.2)]) :: mit (mkN .u64) (mkN .u64) mb b2 x.now (got ++ [p]) :: row 33 2 (.slice A6 (got.length + 1) c7) (got.length + 1) (recs (got ++ ([(p.1, p.2)]))) :: blk bb (.cells #[.pointer (some ⟨db, 0, none⟩), str (x.name), .int .i64 ((x.budget : Nat) : Int), .int .i64 x.how, .map (some mb), .slice fA x.files.length fc, .int .i64 ((x.next : Nat) : Int)] 64) :: que 9 fA x.files.length fc (strs x.files) :: fr) (xs' := recs (got ++ ([(p.1, p.2)]))) 2 S H rfl rfl rfl rfl el22 (SlOk.ofRow (i := 0) H rfl) (one_recs _) (by simp only [maxLen]; first | omega | (simp <;> omega)) (by first | omega | (simp <;> omega)) (recs_app got ([(p.1, p.2)])) (by first | omega | (simp <;> omega)) (fun _ _ => rfl) rfl rfl rfl fun a w A6 c7 hA6 S H => ?_
    refine rn 1 S H t0 fun a w S H => ?_
    refine r_nil ?_
    refine x_blockEnd ?_
    refine x_then ?_
    have en : got.length + 1 = (got ++ [p]).length := by simp
    have H := pk [1, 2, 3, 4] 5 H
    rw [en] at H S
    obtain ⟨lf1, hlf1⟩ := hpm
    have hl1 := hlf1.length_eq
    simp at hl1
    exact ⟨(got ++ [p], A6, c7), ⟨S.sub ⟨rfl, rfl, rfl, rfl, trivial⟩, H, ⟨lf1, hlf1⟩⟩, by show x.now.length - (got ++ [p]).length < x.now.length - got.length; simp; omega⟩

end Go.Proofs.YtembfpadojnpmaaGreatDoor
namespace Go.Proofs.YtembfpadojnpmaaGreatDoor
open Go.RowKit Go.Cg
set_option linter.unusedVariables false
set_option linter.unusedSimpArgs false
set_option maxRecDepth 8000
set_option synthInstance.maxHeartbeats 1000000
set_option synthInstance.maxSize 1000000
theorem el46 : Elem Tryz.prog 46 9 1 16 (.string ByteArray.empty) := ⟨Tryz.underlying46, by kernel_rfl, rfl, by decide⟩
theorem km62 : KeyOk Tryz.prog 62 31 31 (mkN .u64) := KeyOk.nat Tryz.underlying62 Tryz.underlying31
open Go.Cg.Dk (By Nm)
open Go.Cg.Rn (R Bd Bx)
open Go.Shelf Go.Proofs
/-- what is laid: the table of powers -/
def Laid (fr : List Res) : Prop := ∀ w, Sat w fr → Go.Lib.TabIs Tryz.prog w "internal/strconv.uint64pow10" .u64 Go.Lib.pow10Tab
theorem Laid.via {M L : List Res} (h : Laid L) (hM : ∀ w, Sat w M → Sat w L) : Laid M := fun w H => h w (hM w H)
theorem itoa_ct (w : World) (fr : List Res) (hT : Laid fr) (x : Int) (h0 : -9223372036854775808 ≤ x) (h1 : x ≤ 9223372036854775807) (H : Sat w fr) : Rt Tryz.prog 39 #[.int .i64 x] w fun v w' => v = str (Go.Lib.itoa x) ∧ Sat w' fr := by
  have h : Calls Tryz.prog 39 #[.int .i64 x] w _ := Any.strconv_Itoa itoaA x h0 h1 w (hT w H)
  refine h.mono ?_
  rintro e w' ⟨rfl, k, os, rfl⟩
  exact ⟨_, rfl, rfl, H.grow ⟨rfl, rfl, rfl, by simp [Go.Sort.grow, World.drewN]⟩ fun k hk => by simp [Go.Sort.grow, World.drewN, Array.getElem?_append_left hk]⟩
theorem itoa_le {x : Int} (h0 : -9223372036854775808 ≤ x) (h1 : x ≤ 9223372036854775807) : (Go.Lib.itoa x).length ≤ 30 := by
  have h20 : ∀ (k u : Nat), u < 10 ^ (k + 1) → (Go.Lib.decDigits u).length ≤ k + 1 := by
    intro k
    induction k with
    | zero =>
      intro u hu
      unfold Go.Lib.decDigits
      split
      · simp
      · exfalso; omega
    | succ k ih =>
      intro u hu
      unfold Go.Lib.decDigits
      split
      · simp
      · have := ih (u / 10) (by rw [Nat.pow_succ] at hu; omega)
        simp; omega
  unfold Go.Lib.itoa
  split
  · have := h20 18 x.natAbs (by omega); simp; omega
  · have := h20 18 x.toNat (by omega); omega
theorem strs_app (l l' : List Nm) : strs l ++ strs l' = strs (l ++ l') := by simp [strs]
theorem strs_drop (l : List Nm) (k : Nat) : (strs l).drop k = strs (l.drop k) := by simp [strs, List.map_drop]
theorem spill_ct (w : World) (fr : List Res) (hl : Laid fr) (bb db : Nat) (x : Bx) (d : Dk.Disk) (k : Nat) (hf : x.Fit k) (hkb : k ≤ 1099511627) (hcnt : d.files.length + 1 ≤ 4398046511104) (H : Sat w (boxR bb db x :: diskR db d :: fr)) :
    Rt Tryz.prog 25 #[.pointer (some ⟨bb, 0, none⟩)] w fun v w' => v = .int .i64 (((x.spill d).2.2 : Nat) : Int) ∧ Sat w' (boxR bb db (x.spill d).2.1 :: diskR db (x.spill d).1 :: fr) := by
  refine en1 Tryz.func25 rfl Tryz.ntmps25 rfl fun a S => ?_
  obtain ⟨mb, fA, fc, H⟩ := Sat.openBox (H)
  have hfn := hf.now
  have hff := hf.files
  have hfx := hf.next
  have hfl := hf.name
  have hil := itoa_le (x := (((x.next + 1) : Nat) : Int)) (by omega) (by omega)
  refine sr 1 S H t0 fun a w S H => ?_
  apply qb H rfl (by kernel_rfl)
  · skip
    refine qn 4 S t0 fun a S => ?_
    refine q_y S (y_addS S rfl rfl rfl (by simp; omega)) rfl rfl rfl fun a S => ?_
    refine qn 4 S t0 fun a S => ?_
    refine q_y S (y_add S rfl rfl rfl (wi64 (by omega) (by omega))) rfl rfl rfl fun a S => ?_
    have S := S.retell (v' := .int .i64 (((x.next + 1) : Nat) : Int)) 14 rfl (int_eq (by omega))
    refine q_call (args := #[.int .i64 (((x.next + 1) : Nat) : Int)]) S rfl rfl Tryz.call39 (fun w H => itoa_ct (H := H) _ _ (hl.via fun _ H => H.drop.drop.drop.drop) (((x.next + 1) : Nat) : Int) (by omega) (by omega)) rfl rfl rfl fun a S => ?_
    refine q_y S (y_addS S rfl rfl rfl (by rw [List.length_append, List.length_singleton]; omega)) rfl rfl rfl fun a S => ?_
    refine qn 1 S t0 fun a S => ?_
    exact q_nil S
  · intro a w S H
    refine r_seq ?_
    have S := S.retell (v' := str ((x.file (x.next + 1)))) 3 rfl rfl
    refine r_seq ?_
    refine ha [0, 1, 2] 4 H fun w H HS => ?_
    refine tk 0 S HS fun a S => ?_
    refine tk 1 S HS fun a S => ?_
    refine tk 2 S HS fun a S => ?_
    refine tk 3 S HS fun a S => ?_
    refine tk 4 S HS fun a S => ?_
    refine tk 5 S HS fun a S => ?_
    refine h1 6 ?_
    refine r_call (args := #[.pointer (some ⟨bb, 0, none⟩)]) S rfl rfl Tryz.call26 (memory_ct (H := H) _ _ bb db x _ _ _ hf.bd (by omega)) rfl rfl rfl fun v a w hR S => ?_
    obtain ⟨A1, c2, rfl, H⟩ := hR
    refine sn ?_
    refine hk (pk [1, 2, 3] 5 H) fun HS => ?_
    refine h1 7 ?_
    refine r_call (args := #[.pointer (some ⟨db, 0, none⟩), str ((x.file (x.next + 1))), .slice A1 ((Rn.sort x.now).length) c2]) S rfl rfl Tryz.call40 (write_ct (H := (pk [4, 0, 1, 2, 3] 5 H)) _ _ db (x.file (x.next + 1)) d (by omega) _ _ (Rn.sort x.now) (SlOk.ofRow (i := 0) ((pk [4, 0, 1, 2, 3] 5 H)).drop rfl) ((by simp; omega)) hf.bd.sort) rfl rfl rfl fun v a w hR S => ?_
    obtain ⟨rfl, H⟩ := hR
    refine sn ?_
    refine hk (pk [2, 3, 4] 5 H) fun HS => ?_
    refine tk 8 S HS fun a S => ?_
    refine hz ?_
    refine x_then ?_
    have hwc := Rn.write_cnt (x.file (x.next + 1)) (Rn.sort x.now) d
    refine sr 2 S H t0 fun a w S H => ?_
    refine r_test S rfl (fun h26 => ?_) (fun h26 => ?_)
    · skip
      refine r_seq ?_
      refine sr 2 S H t0 fun a w S H => ?_
      refine r_test S rfl (fun h28 => ?_) (fun h28 => ?_)
      · skip
        refine er 6 S H (by omega) fun a w S H => ?_
        refine x_then ?_
        refine sr 2 S H t0 fun a w S H => ?_
        refine wp_ret ?_
        refine x_thenRet ?_
        refine r_ret1 S H Tryz.results25 (ro_tmp S rfl) ?_
        have h5 : (Rn.write (x.file (x.next + 1)) (Rn.sort x.now) d).2 ≠ 5 := by omega
        have e : x.spill d = (((Rn.write (x.file (x.next + 1)) (Rn.sort x.now) d).1.remove (x.file (x.next + 1))).1, x, (Rn.write (x.file (x.next + 1)) (Rn.sort x.now) d).2) := by unfold Rn.Bx.spill; rw [if_pos (by omega), if_pos h5]
        rw [e]
        exact ⟨rfl, Sat.shutBox x (pk [2, 3, 4, 0] 5 H)⟩
      refine wp_skip ?_
      refine x_then ?_
      refine sr 2 S H t0 fun a w S H => ?_
      refine wp_ret ?_
      refine x_thenRet ?_
      refine r_ret1 S H Tryz.results25 (ro_tmp S rfl) ?_
      have h5 : (Rn.write (x.file (x.next + 1)) (Rn.sort x.now) d).2 = 5 := by omega
      have e : x.spill d = ((Rn.write (x.file (x.next + 1)) (Rn.sort x.now) d).1, x, (Rn.write (x.file (x.next + 1)) (Rn.sort x.now) d).2) := by unfold Rn.Bx.spill; rw [if_pos (by omega), if_neg (by omega)]
      rw [e]
      exact ⟨rfl, Sat.shutBox x (pk [2, 3, 4, 0] 5 H)⟩
    refine wp_skip ?_
    refine x_then ?_
    refine sb ?_
    refine rn 4 S H t0 fun a w S H => ?_
    refine r_y S H (y_add S rfl rfl rfl (wi64 (by omega) (by omega))) rfl rfl rfl fun a S => ?_
    have S := S.retell (v' := .int .i64 (((x.next + 1) : Nat) : Int)) 40 rfl (int_eq (by omega))
    refine rs 3 S H t0 fun a w S H => ?_
    refine sb ?_
    refine rn 6 S H t0 fun a w S H => ?_
    refine r_lit (vs := #[(0, str ((x.file (x.next + 1))))]) (cs := strs [(x.file (x.next + 1))]) S H rfl rfl el46 (by kernel_rfl) (by decide) (by rfl) rfl rfl rfl fun a w b3 S H => ?_
    refine r_appendQ (xs' := strs (x.files ++ [(x.file (x.next + 1))])) (km := (x.files ++ [(x.file (x.next + 1))]).length) (L' := fun A4 c5 => row 9 1 (.slice (some ⟨b3, 0, none⟩) 1 1) 1 (strs [(x.file (x.next + 1))]) :: diskR db (Rn.write (x.file (x.next + 1)) (Rn.sort x.now) d).1 :: row 33 2 (.slice A1 ((Rn.sort x.now).length) c2) ((Rn.sort x.now).length) (recs (Rn.sort x.now)) :: blk bb (.cells #[.pointer (some ⟨db, 0, none⟩), str (x.name), .int .i64 ((x.budget : Nat) : Int), .int .i64 x.how, .map (some mb), .slice fA x.files.length fc, .int .i64 (((x.next + 1) : Nat) : Int)] 64) :: mp (mkN .u64) (mkN .u64) mb x.now :: que 9 A4 ((x.files ++ [(x.file (x.next + 1))]).length) c5 (strs (x.files ++ [(x.file (x.next + 1))])) :: fr) 5 S H rfl rfl rfl rfl el46 (SlOk.ofRow (i := 0) H rfl) (by omega) (one_strs _) (by simp only [maxLen]; omega) (by omega) (strs_app _ _) (by simp) (fun _ _ => rfl) rfl rfl rfl fun a w A4 c5 S H => ?_
    refine rs 3 S H t0 fun a w S H => ?_
    refine sb ?_
    refine rn 4 S H t0 fun a w S H => ?_
    refine r_clearM (L' := row 9 1 (.slice (some ⟨b3, 0, none⟩) 1 1) 1 (strs [(x.file (x.next + 1))]) :: diskR db (Rn.write (x.file (x.next + 1)) (Rn.sort x.now) d).1 :: row 33 2 (.slice A1 ((Rn.sort x.now).length) c2) ((Rn.sort x.now).length) (recs (Rn.sort x.now)) :: blk bb (.cells #[.pointer (some ⟨db, 0, none⟩), str (x.name), .int .i64 ((x.budget : Nat) : Int), .int .i64 x.how, .map (some mb), .slice A4 ((x.files ++ [(x.file (x.next + 1))]).length) c5, .int .i64 (((x.next + 1) : Nat) : Int)] 64) :: mp (mkN .u64) (mkN .u64) mb ([]) :: que 9 A4 ((x.files ++ [(x.file (x.next + 1))]).length) c5 (strs (x.files ++ [(x.file (x.next + 1))])) :: fr) 4 S H rfl rfl Tryz.underlying62 rfl rfl rfl rfl fun w H => ?_
    refine sn ?_
    refine sr 1 S H t0 fun a w S H => ?_
    refine wp_ret ?_
    refine r_ret1 S H Tryz.results25 (ro_tmp S rfl) ?_
    have e : x.spill d = ((Rn.write (x.file (x.next + 1)) (Rn.sort x.now) d).1, ({ x with now := [], files := x.files ++ [(x.file (x.next + 1))], next := x.next + 1 } : Bx), 0) := by unfold Rn.Bx.spill; rw [if_neg (by omega)]
    rw [e]
    exact ⟨rfl, Sat.shutBox ({ x with now := [], files := x.files ++ [(x.file (x.next + 1))], next := x.next + 1 } : Bx) (pk [3, 4, 5, 1] 6 H)⟩

theorem boxput_ct (w : World) (fr : List Res) (hl : Laid fr) (bb db : Nat) (x : Bx) (r : R) (d : Dk.Disk) (k : Nat) (hf : x.Fit k) (hkb : k ≤ 1099511627) (hcnt : d.files.length + 1 ≤ 4398046511104) (hr : r.1 < 18446744073709551616 ∧ r.2 < 18446744073709551616) (H : Sat w (boxR bb db x :: diskR db d :: fr)) :
    Rt Tryz.prog 12 #[.pointer (some ⟨bb, 0, none⟩), .agg #[.int .u64 ((r.1 : Nat) : Int), .int .u64 ((r.2 : Nat) : Int)]] w fun v w' => v = .int .i64 (((x.put r d).2.2 : Nat) : Int) ∧ Sat w' (boxR bb db (x.put r d).2.1 :: diskR db (x.put r d).1 :: fr) := by
  refine en2 Tryz.func12 rfl Tryz.ntmps12 rfl fun a S => ?_
  obtain ⟨mb, fA, fc, H⟩ := Sat.openBox (H)
  have hfn := hf.now
  have hfb := hf.budget
  refine sb ?_
  refine r_box (c := #[.int .u64 ((r.1 : Nat) : Int), .int .u64 ((r.2 : Nat) : Int)]) S H rfl rfl rfl rfl rfl rfl fun a w b1 S H => ?_
  refine rs 1 S H t0 fun a w S H => ?_
  apply qb H rfl (by kernel_rfl)
  · skip
    refine qn 6 S t0 fun a S => ?_
    refine q_y S (y_lookupOk (mkv := mkN .u64) (z := 0) 2 r.1 S rfl rfl rfl km62 Tryz.zeroValue31 rfl) rfl rfl rfl fun a S => ?_
    refine qn 5 S t0 fun a S => ?_
    exact q_nil S
  · intro a w S H
    refine r_seq ?_
    refine sr 1 S H t0 fun a w S H => ?_
    refine r_cond S rfl (fun h18 => ?_) (fun h18 => ?_)
    · skip
      obtain ⟨v0, hv0⟩ := Option.isSome_iff_exists.1 (show (tlook x.now r.1).isSome = true from h18)
      have hg : (tlook x.now r.1).getD 0 = v0 := by rw [hv0]; rfl
      have hlt0 : (tlook x.now r.1).getD 0 < 18446744073709551616 := by rw [hg]; exact Rn.Bx.tlook_lt hf.bd hv0
      refine r_seq ?_
      refine ha [0, 1, 3, 4] 5 H fun w H HS => ?_
      refine tk 0 S HS fun a S => ?_
      refine tk 1 S HS fun a S => ?_
      refine tk 2 S HS fun a S => ?_
      refine tk 3 S HS fun a S => ?_
      refine tk 4 S HS fun a S => ?_
      refine tk 5 S HS fun a S => ?_
      refine tk 6 S HS fun a S => ?_
      refine tk 7 S HS fun a S => ?_
      refine tk 8 S HS fun a S => ?_
      refine tk 9 S HS fun a S => ?_
      refine tk 10 S HS fun a S => ?_
      refine tk 11 S HS fun a S => ?_
      refine tk 12 S HS fun a S => ?_
      refine h1 13 ?_
      refine r_call (args := #[.int .i64 x.how, .int .u64 (((tlook x.now r.1).getD 0 : Nat) : Int), .int .u64 ((r.2 : Nat) : Int)]) S rfl rfl Tryz.call24 (combine_ct (H := H) _ _ x.how ((tlook x.now r.1).getD 0) r.2 (by omega) (by omega)) rfl rfl rfl fun v a w hR S => ?_
      obtain ⟨rfl, H⟩ := hR
      refine sn ?_
      refine hk (pk [0, 1, 3, 4] 5 H) fun HS => ?_
      refine h1 14 ?_
      refine r_mapSet (L' := blk b1 (.cells #[.int .u64 ((r.1 : Nat) : Int), .int .u64 ((r.2 : Nat) : Int)] 33) :: blk bb (.cells #[.pointer (some ⟨db, 0, none⟩), str (x.name), .int .i64 ((x.budget : Nat) : Int), .int .i64 x.how, .map (some mb), .slice fA x.files.length fc, .int .i64 ((x.next : Nat) : Int)] 64) :: mp (mkN .u64) (mkN .u64) mb (tupd x.now r.1 (Rn.comb x.how ((tlook x.now r.1).getD 0) r.2)) :: que 9 fA x.files.length fc (strs x.files) :: diskR db d :: fr) 2 r.1 (Rn.comb x.how ((tlook x.now r.1).getD 0) r.2) S H rfl rfl rfl rfl km62 rfl rfl rfl rfl fun w H => ?_
      refine sn ?_
      refine hk (pk [0, 1, 3, 4] 5 H) fun HS => ?_
      refine hz ?_
      refine x_then ?_
      refine sr 1 S H t0 fun a w S H => ?_
      refine wp_ret ?_
      refine x_thenRet ?_
      refine r_ret1 S H Tryz.results12 (ro_tmp S rfl) ?_
      have e : x.put r d = (d, (x.into r.1 (Rn.comb x.how ((tlook x.now r.1).getD 0) r.2)), 0) := by unfold Rn.Bx.put; rw [hg, hv0]
      rw [e]
      exact ⟨rfl, Sat.shutBox (x.into r.1 (Rn.comb x.how ((tlook x.now r.1).getD 0) r.2)) (pk [1, 2, 3, 4] 5 H)⟩
    refine wp_skip ?_
    refine x_then ?_
    refine r_seq ?_
    apply qb H rfl (by kernel_rfl)
    · skip
      refine qn 4 S t0 fun a S => ?_
      refine q_y S (y_lenM 2 S rfl rfl Tryz.underlying62 rfl) rfl rfl rfl fun a S => ?_
      refine qn 5 S t0 fun a S => ?_
      exact q_nil S
    · intro a w S H
      refine r_test S rfl (fun h42 => ?_) (fun h42 => ?_)
      · skip
        have H := Sat.shutBox x (pk [1, 2, 3, 0, 4] 5 H)
        refine sb ?_
        refine rn 1 S H t0 fun a w S H => ?_
        refine r_call (args := #[.pointer (some ⟨bb, 0, none⟩)]) S rfl rfl Tryz.call25 (spill_ct (H := (pk [0, 2, 1] 3 H)) _ _ (hl.via fun _ H => H.drop) bb db x d _ hf (by omega) (hcnt)) rfl rfl rfl fun v a w hR S => ?_
        obtain ⟨rfl, H⟩ := hR
        refine rs 1 S H t0 fun a w S H => ?_
        refine sr 2 S H t0 fun a w S H => ?_
        refine r_test S rfl (fun h46 => ?_) (fun h46 => ?_)
        · skip
          refine sr 2 S H t0 fun a w S H => ?_
          refine wp_ret ?_
          refine x_thenRet ?_
          refine r_ret1 S H Tryz.results12 (ro_tmp S rfl) ?_
          have hnv : (tlook x.now r.1) = none := by simpa using h18
          have e : x.put r d = (Rn.Bx.spill x d) := by unfold Rn.Bx.put; rw [hnv]; simp only; rw [if_pos (by omega), if_pos (by omega)]
          rw [e]
          exact ⟨rfl, pk [0, 1] 3 H⟩
        refine wp_skip ?_
        refine x_then ?_
        obtain ⟨mb, fA, fc, H⟩ := Sat.openBox (H)
        refine r_seq ?_
        refine ha [0, 2, 3, 4] 5 H fun w H HS => ?_
        refine tk 0 S HS fun a S => ?_
        refine tk 1 S HS fun a S => ?_
        refine tk 2 S HS fun a S => ?_
        refine tk 3 S HS fun a S => ?_
        refine tk 4 S HS fun a S => ?_
        refine tk 5 S HS fun a S => ?_
        refine tk 6 S HS fun a S => ?_
        refine tk 7 S HS fun a S => ?_
        refine h1 8 ?_
        refine r_mapSet (L' := blk bb (.cells #[.pointer (some ⟨db, 0, none⟩), str ((Rn.Bx.spill x d).2.1.name), .int .i64 (((Rn.Bx.spill x d).2.1.budget : Nat) : Int), .int .i64 ((Rn.Bx.spill x d).2.1.how), .map (some mb), .slice fA ((Rn.Bx.spill x d).2.1.files.length) fc, .int .i64 (((Rn.Bx.spill x d).2.1.next : Nat) : Int)] 64) :: mp (mkN .u64) (mkN .u64) mb (tupd ((Rn.Bx.spill x d).2.1.now) r.1 r.2) :: que 9 fA ((Rn.Bx.spill x d).2.1.files.length) fc (strs (Rn.Bx.spill x d).2.1.files) :: diskR db (Rn.Bx.spill x d).1 :: blk b1 (.cells #[.int .u64 ((r.1 : Nat) : Int), .int .u64 ((r.2 : Nat) : Int)] 33) :: fr) 1 r.1 r.2 S H rfl rfl rfl rfl km62 rfl rfl rfl rfl fun w H => ?_
        refine sn ?_
        refine hk (pk [0, 2, 3, 4] 5 H) fun HS => ?_
        refine hz ?_
        refine x_then ?_
        refine sr 1 S H t0 fun a w S H => ?_
        refine wp_ret ?_
        refine r_ret1 S H Tryz.results12 (ro_tmp S rfl) ?_
        have hnv : (tlook x.now r.1) = none := by simpa using h18
        have e : x.put r d = ((Rn.Bx.spill x d).1, ((Rn.Bx.spill x d).2.1.into r.1 r.2), 0) := by unfold Rn.Bx.put; rw [hnv]; simp only; rw [if_pos (by omega), if_neg (by omega)]
        rw [e]
        exact ⟨rfl, Sat.shutBox ((Rn.Bx.spill x d).2.1.into r.1 r.2) (pk [0, 1, 2, 3] 5 H)⟩
      refine wp_skip ?_
      refine x_then ?_
      refine r_seq ?_
      refine ha [0, 1, 3, 4] 5 H fun w H HS => ?_
      refine tk 0 S HS fun a S => ?_
      refine tk 1 S HS fun a S => ?_
      refine tk 2 S HS fun a S => ?_
      refine tk 3 S HS fun a S => ?_
      refine tk 4 S HS fun a S => ?_
      refine tk 5 S HS fun a S => ?_
      refine tk 6 S HS fun a S => ?_
      refine tk 7 S HS fun a S => ?_
      refine h1 8 ?_
      refine r_mapSet (L' := blk b1 (.cells #[.int .u64 ((r.1 : Nat) : Int), .int .u64 ((r.2 : Nat) : Int)] 33) :: blk bb (.cells #[.pointer (some ⟨db, 0, none⟩), str (x.name), .int .i64 ((x.budget : Nat) : Int), .int .i64 x.how, .map (some mb), .slice fA x.files.length fc, .int .i64 ((x.next : Nat) : Int)] 64) :: mp (mkN .u64) (mkN .u64) mb (tupd x.now r.1 r.2) :: que 9 fA x.files.length fc (strs x.files) :: diskR db d :: fr) 2 r.1 r.2 S H rfl rfl rfl rfl km62 rfl rfl rfl rfl fun w H => ?_
      refine sn ?_
      refine hk (pk [0, 1, 3, 4] 5 H) fun HS => ?_
      refine hz ?_
      refine x_then ?_
      refine sr 1 S H t0 fun a w S H => ?_
      refine wp_ret ?_
      refine r_ret1 S H Tryz.results12 (ro_tmp S rfl) ?_
      have hnv : (tlook x.now r.1) = none := by simpa using h18
      have e : x.put r d = (d, (x.into r.1 r.2), 0) := by unfold Rn.Bx.put; rw [hnv]; simp only; rw [if_neg (by omega)]
      rw [e]
      exact ⟨rfl, Sat.shutBox (x.into r.1 r.2) (pk [1, 2, 3, 4] 5 H)⟩

end Go.Proofs.YtembfpadojnpmaaGreatDoor
namespace Go.Proofs.YtembfpadojnpmaaGreatDoor
open Go.RowKit Go.Cg
set_option linter.unusedVariables false
set_option linter.unusedSimpArgs false
set_option maxRecDepth 8000
set_option synthInstance.maxHeartbeats 1000000
set_option synthInstance.maxSize 1000000
open Go.Cg.Rn (R Bd Hd hd0 hlt hg HeapOk rg MInv NextP)
theorem made_sls (n : Nat) : (madeCells (Value.slice none 0 0).cells (n * 1)).toList = sls (List.replicate n sl0) := by
  have h : (Value.slice none 0 0).cells = #[Value.slice none 0 0] := rfl
  rw [Nat.mul_one, h]
  apply List.ext_getElem
  · simp [madeCells]
  · intro i h1 h2
    simp [madeCells, sls, slv, sl0, Nat.mod_one]
theorem sls_put {l : List Sl} {j i : Nat} {s : Sl} {v : Value} (hj : j = i) (hv : v = slv s) : (sls l).set j v = sls (l.set i s) := by subst hj; subst hv; simp [sls, List.map_set]
theorem recs_drop (l : List R) (k : Nat) : (recs l).drop (k * 2) = recs (l.drop k) := by
  induction k generalizing l with
  | zero => simp
  | succ k ih => cases l with
    | nil => simp [recs]
    | cons e l =>
      have e3 : recs (e :: l) = rcell e ++ recs l := by simp [recs]
      rw [e3, List.drop_succ_cons, ← ih l, show (k + 1) * 2 = (rcell e).length + k * 2 from by simp [rcell]; omega, List.drop_length_add_append]
theorem SlOk.tailR {L : List Res} {A : Option Addr} {m c : Nat} {l : List R} (h : SlOk L 2 A m c (recs l)) (i : Nat) (hi : i ≤ m) : SlOk L 2 (shift A (i * 2) (decide (c = i))) (m - i) (c - i) (recs (l.drop i)) := by
  have := h.tail i hi
  rwa [recs_drop] at this
theorem SlOk.nR {L : List Res} {A : Option Addr} {m c : Nat} {l : List R} (h : SlOk L 2 A m c (recs l)) : m = l.length := by have := h.len; simp at this; omega
/-- slices that tell records -/
structure RlsOk (L : List Res) (l : List Sl) (ds : List (List R)) : Prop where
  len : l.length = ds.length
  ok : ∀ i, i < l.length → SlOk L 2 (l.getD i sl0).1 (l.getD i sl0).2.1 (l.getD i sl0).2.2 (recs (ds.getD i []))
theorem RlsOk.at {L : List Res} {l : List Sl} {ds : List (List R)} (h : RlsOk L l ds) {i : Nat} (hi : i < l.length) : ∃ A c, l.getD i sl0 = (A, (ds.getD i []).length, c) ∧ SlOk L 2 A (ds.getD i []).length c (recs (ds.getD i [])) := by
  have h1 := h.ok i hi
  have h2 := SlOk.nR h1
  refine ⟨(l.getD i sl0).1, (l.getD i sl0).2.2, ?_, ?_⟩
  · rw [← h2]
  · rw [h2] at h1; exact h1
theorem RlsOk.via {L M : List Res} {l : List Sl} {ds : List (List R)} (h : RlsOk L l ds) (hM : ∀ w, Sat w M → Sat w L) : RlsOk M l ds := ⟨h.len, fun i hi => (h.ok i hi).via hM⟩
theorem getD_setS {α : Type} {l : List α} {i j : Nat} {x z : α} (h : i < l.length) : (l.set i x).getD j z = if j = i then x else l.getD j z := by
  rw [List.getD_eq_getElem?_getD, List.getD_eq_getElem?_getD, List.getElem?_set]
  by_cases e : i = j
  · subst e; simp [h]
  · rw [if_neg e, if_neg (fun h => e h.symm)]
theorem RlsOk.set {L : List Res} {l : List Sl} {ds : List (List R)} (h : RlsOk L l ds) {i n c : Nat} {A : Option Addr} {d : List R} (hi : i < l.length) (hd : SlOk L 2 A n c (recs d)) : RlsOk L (l.set i (A, n, c)) (ds.set i d) := by
  refine ⟨by simp [h.len], fun j hj => ?_⟩
  rw [List.length_set] at hj
  rw [getD_setS hi, getD_setS (by rw [← h.len]; exact hi)]
  split
  · exact hd
  · exact h.ok j hj
theorem RlsOk.none (L : List Res) (n : Nat) : RlsOk L (List.replicate n sl0) (List.replicate n []) := by
  refine ⟨by simp, fun i hi => ?_⟩
  have e1 : (List.replicate n sl0).getD i sl0 = sl0 := by rw [List.getD_eq_getElem?_getD, List.getElem?_replicate]; split <;> rfl
  have e2 : (List.replicate n ([] : List R)).getD i [] = [] := by rw [List.getD_eq_getElem?_getD, List.getElem?_replicate]; split <;> rfl
  rw [e1, e2]
  exact ⟨fun _ => rfl, Nat.le_refl _, Nat.zero_le _, rfl, fun _ _ j v h => by simp [recs] at h⟩
/-! ### rows of records of their own, listed -/
def RLens (l : List Sl) (ds : List (List R)) : Prop := l.length = ds.length ∧ ∀ i, i < l.length → (l.getD i sl0).2.1 = (ds.getD i []).length
def rRows (l : List Sl) (ds : List (List R)) : List Res := (l.zip ds).map fun p => row 33 2 (slv p.1) p.2.length (recs p.2)
def rowsR (l : List Sl) (ds : List (List R)) : Res := star (fact (RLens l ds) :: rRows l ds)
theorem Sat.noRows {w : World} {L : List Res} (H : Sat w L) : Sat w (rowsR [] [] :: L) := sat_star.2 (sat_fact.2 ⟨⟨rfl, fun i h => absurd h (Nat.not_lt_zero _)⟩, H⟩)
theorem RLens.snoc {l : List Sl} {ds : List (List R)} (hl : RLens l ds) (A : Option Addr) (c : Nat) (d : List R) : RLens (l ++ [(A, d.length, c)]) (ds ++ [d]) := by
  refine ⟨by simp [hl.1], fun i hi => ?_⟩
  by_cases h : i < l.length
  · have := hl.2 i h
    rw [List.getD_eq_getElem?_getD, List.getD_eq_getElem?_getD, List.getElem?_append_left h, List.getElem?_append_left (by rw [← hl.1]; exact h), ← List.getD_eq_getElem?_getD, ← List.getD_eq_getElem?_getD]; exact this
  · have e : i = l.length := by simp at hi; omega
    subst e
    rw [List.getD_eq_getElem?_getD, List.getD_eq_getElem?_getD, List.getElem?_append_right (Nat.le_refl _), List.getElem?_append_right (by rw [hl.1]; exact Nat.le_refl _), Nat.sub_self, hl.1, Nat.sub_self]; rfl
theorem rRows_snoc {l : List Sl} {ds : List (List R)} (hl : RLens l ds) (A : Option Addr) (c : Nat) (d : List R) : rRows (l ++ [(A, d.length, c)]) (ds ++ [d]) = rRows l ds ++ [row 33 2 (.slice A d.length c) d.length (recs d)] := by
  unfold rRows; rw [List.zip_append hl.1]; simp [slv]
theorem Sat.rowsLens {w : World} {L : List Res} {l : List Sl} {ds : List (List R)} (H : Sat w (rowsR l ds :: L)) : RLens l ds := (sat_fact.1 (sat_star.1 H)).1
theorem Sat.rowIn {w : World} {L : List Res} {l : List Sl} {ds : List (List R)} {A : Option Addr} {c n : Nat} {d : List R} (hn : n = d.length) (H : Sat w (row 33 2 (.slice A n c) n (recs d) :: rowsR l ds :: L)) : Sat w (rowsR (l ++ [(A, n, c)]) (ds ++ [d]) :: L) := by
  subst hn
  have H1 := sat_star.1 (H.perm (List.Perm.swap _ _ _))
  obtain ⟨hl, H1⟩ := sat_fact.1 H1
  refine sat_star.2 (sat_fact.2 ⟨hl.snoc A c d, ?_⟩)
  rw [rRows_snoc hl]
  refine H1.perm ?_
  show (rRows l ds ++ (row _ 2 (.slice A d.length c) d.length (recs d) :: L)).Perm (rRows l ds ++ [row _ 2 (.slice A d.length c) d.length (recs d)] ++ L)
  rw [List.append_assoc]
  exact List.Perm.refl _
theorem rowsR_less {l : List Sl} {ds : List (List R)} (hl : RLens l ds) {A : Option Addr} {c n : Nat} {d : List R} (hn : n = d.length) (w : World) (H : Sat w [rowsR (l ++ [(A, n, c)]) (ds ++ [d])]) : Sat w [rowsR l ds] := by
  subst hn
  have H1 : Sat w (rRows (l ++ [(A, d.length, c)]) (ds ++ [d]) ++ []) := (sat_fact.1 (sat_star.1 H)).2
  rw [rRows_snoc hl, List.append_nil] at H1
  refine sat_star.2 (sat_fact.2 ⟨hl, ?_⟩)
  show Sat w (rRows l ds ++ [])
  rw [List.append_nil]
  exact H1.sub (List.sublist_append_left _ _)
theorem rowsR_last {l : List Sl} {ds : List (List R)} (hl : RLens l ds) {A : Option Addr} {c n : Nat} {d : List R} (hn : n = d.length) (w : World) (H : Sat w [rowsR (l ++ [(A, n, c)]) (ds ++ [d])]) : SlOk [rowsR (l ++ [(A, n, c)]) (ds ++ [d])] 2 A n c (recs d) := by
  subst hn
  have H1 : Sat w (rRows (l ++ [(A, d.length, c)]) (ds ++ [d]) ++ []) := (sat_fact.1 (sat_star.1 H)).2
  have e := rRows_snoc hl A c d
  rw [e, List.append_nil] at H1
  refine (SlOk.ofRow (i := (rRows l ds).length) H1 (by rw [List.getElem?_append_right (Nat.le_refl _), Nat.sub_self]; rfl)).via fun w' H' => ?_
  have : Sat w' (rRows (l ++ [(A, d.length, c)]) (ds ++ [d]) ++ []) := (sat_fact.1 (sat_star.1 H')).2
  rwa [e, List.append_nil] at this
theorem RlsOk.snoc {L : List Res} {l : List Sl} {ds : List (List R)} (h : RlsOk L l ds) {n c : Nat} {A : Option Addr} {d : List R} (hd : SlOk L 2 A n c (recs d)) : RlsOk L (l ++ [(A, n, c)]) (ds ++ [d]) := by
  refine ⟨by simp [h.len], fun i hi => ?_⟩
  by_cases hl : i < l.length
  · have := h.ok i hl
    rw [List.getD_eq_getElem?_getD, List.getD_eq_getElem?_getD] at this ⊢
    rw [List.getElem?_append_left hl, List.getElem?_append_left (by rw [← h.len]; exact hl)]
    exact this
  · have e : i = l.length := by simp at hi; omega
    subst e
    rw [List.getD_eq_getElem?_getD, List.getD_eq_getElem?_getD, List.getElem?_append_right (Nat.le_refl _), List.getElem?_append_right (by rw [h.len]; exact Nat.le_refl _), Nat.sub_self, h.len, Nat.sub_self]
    exact hd
/-! ### a merge, round by round -/
theorem flat_takeR {ds : List (List R)} {i : Nat} (h : i < ds.length) : (ds.take (i + 1)).flatten = (ds.take i).flatten ++ ds.getD i [] := by
  have e : ds.take (i + 1) = ds.take i ++ [ds[i]] := by simp
  rw [List.getD_eq_getElem?_getD, List.getElem?_eq_getElem h, Option.getD_some, e, List.flatten_append]; simp
theorem mrun {ls rs rs' : List (List R)} {hs hs' : List Hd} {i n : Nat} (m : MInv (ls.take i).flatten [] hs rs n) (hrl : rs.length = n) (hi : i < n) (hln : ls.length = n) (hz : ∀ j, i ≤ j → rg rs j = []) (hh : ∀ h ∈ hs, h.2 < i) (hnx : NextP hs (rs.set i (Rn.sort (ls.getD i []))) i hs' rs') :
    MInv (ls.take (i + 1)).flatten [] hs' rs' n ∧ rs'.length = n ∧ (∀ j, i + 1 ≤ j → rg rs' j = []) ∧ (∀ h ∈ hs', h.2 < i + 1) := by
  have m1 := m.run (l := ls.getD i []) (by omega) (by omega) (hz i (Nat.le_refl _)) (fun h hm => by have := hh h hm; omega)
  rw [← flat_takeR (by omega)] at m1
  have hl1 : (rs.set i (Rn.sort (ls.getD i []))).length = n := by simp [hrl]
  refine ⟨m1.next (by omega) hnx n (by omega), by rw [hnx.len, hl1], fun j hj => ?_, fun h hm => ?_⟩
  · rcases hnx with ⟨_, _, rfl⟩ | ⟨r, q, _, _, _, rfl⟩
    · rw [Rn.rg_set (by omega), if_neg (by omega)]; exact hz j (by omega)
    · rw [Rn.rg_set (by omega), if_neg (by omega), Rn.rg_set (by omega), if_neg (by omega)]; exact hz j (by omega)
  · rcases hnx with ⟨_, rfl, _⟩ | ⟨r, q, _, _, hp, _⟩
    · have := hh h hm; omega
    · rcases List.mem_cons.1 (hp.mem_iff.1 hm) with rfl | hm
      · exact Nat.lt_succ_self i
      · have := hh h hm; omega
theorem MInv.bds {all out : List R} {hs : List Hd} {rs : List (List R)} {k : Nat} (m : MInv all out hs rs k) (hB : Bd all) : Bd out ∧ ∀ h ∈ hs, h.1.1 < 18446744073709551616 ∧ h.1.2 < 18446744073709551616 :=
  ⟨fun z hz => hB z (m.perm.mem_iff.1 (List.mem_append_left _ hz)), fun h hh => hB h.1 (m.perm.mem_iff.1 (List.mem_append_right _ (List.mem_append_left _ (List.mem_map.2 ⟨h, hh, rfl⟩))))⟩
theorem MInv.size {all out : List R} {hs : List Hd} {rs : List (List R)} {k : Nat} (m : MInv all out hs rs k) : out.length + (hs.length + rs.flatten.length) = all.length := by
  have := m.perm.length_eq; simpa using this
theorem mnext_ct (w : World) (fr : List Res) (rb hb g : Nat) (ss : List Sl) (rq : List (List R)) (A : Option Addr) (c : Nat) (hs : List Hd) (i n : Nat) (hsl : ss.length = n) (hi : i < ss.length) (M : List Res) (hM : ∀ w, Sat w fr → Sat w M) (hss : RlsOk M ss rq) (hok : HeapOk hs) (hn : hs.length ≤ 1099511627776) (H : Sat w (blk rb (.cells #[.slice (some ⟨g, 0, none⟩) n n] 68) :: row 22 1 (.slice (some ⟨g, 0, none⟩) n n) n (sls ss) :: blk hb (.cells #[.slice A hs.length c] 93) :: row 96 3 (.slice A hs.length c) hs.length (hds hs) :: fr)) :
    Rt Tryz.prog 45 #[.int .i64 ((i : Nat) : Int), .pointer (some ⟨rb, 0, none⟩), .pointer (some ⟨hb, 0, none⟩)] w fun v w' => ∃ ss' rs' hs' A' c', v = .tuple #[] ∧ NextP hs rq i hs' rs' ∧ RlsOk M ss' rs' ∧ ss'.length = ss.length ∧ Sat w' (blk rb (.cells #[.slice (some ⟨g, 0, none⟩) n n] 68) :: row 22 1 (.slice (some ⟨g, 0, none⟩) n n) n (sls ss') :: blk hb (.cells #[.slice A' hs'.length c'] 93) :: row 96 3 (.slice A' hs'.length c') hs'.length (hds hs') :: fr) := by
  refine en3 Tryz.func45 rfl Tryz.ntmps45 rfl fun a S => ?_
  refine sb ?_
  refine rn 2 S H t0 fun a w S H => ?_
  refine r_y S H (y_index S rfl rfl rfl Tryz.underlying68 Tryz.sizeOf22 (by omega) (by omega)) rfl rfl rfl fun a S => ?_
  refine r_y S H (y_loadAt S rfl rfl Tryz.isAgg22 (fun w H => (SlOk.ofRow (i := 1) H rfl).cell w H (sls_at (i := i) (by first | omega | (simp <;> omega))))) rfl rfl rfl fun a S => ?_
  obtain ⟨As, cs, hes, okM⟩ := hss.at (i := i) hi
  have okAs := okM.via hM
  have S := S.retell (v' := .slice As ((rq.getD i []).length) cs) 7 rfl (by rw [hes])
  refine rs 2 S H t0 fun a w S H => ?_
  refine r_test S rfl (fun h9 => ?_) (fun h9 => ?_)
  · skip
    refine sb ?_
    refine rn 2 S H t0 fun a w S H => ?_
    refine r_y S H (y_index S rfl rfl rfl Tryz.underlying68 Tryz.sizeOf22 (by omega) (by omega)) rfl rfl rfl fun a S => ?_
    refine r_y S H (y_loadAt S rfl rfl Tryz.isAgg22 (fun w H => (SlOk.ofRow (i := 1) H rfl).cell w H (sls_at (i := i) (by first | omega | (simp <;> omega))))) rfl rfl rfl fun a S => ?_
    have S := S.retell (v' := .slice As ((rq.getD i []).length) cs) 13 rfl (by rw [hes])
    obtain ⟨b1, o2, rfl⟩ := ((((okAs.more _).more _).more _).more _).addr H (by first | omega | (simp <;> omega))
    refine r_y S H (y_index S rfl rfl rfl Tryz.underlying22 Tryz.sizeOf33 (by omega) (by omega)) rfl rfl rfl fun a S => ?_
    refine r_y S H (y_loadAggAt [.int .u64 ((((rq.getD i []).getD 0 (0, 0)).1 : Nat) : Int), .int .u64 ((((rq.getD i []).getD 0 (0, 0)).2 : Nat) : Int)] S rfl rfl (fun w => ⟨Tryz.isAgg33 w, Tryz.sizeOf33 w⟩) rfl (fun w H => ((((okAs.more _).more _).more _).more _).cells w H (recs_from (i := 0) (by first | omega | (simp <;> omega))))) rfl rfl rfl fun a S => ?_
    refine rn 1 S H t0 fun a w S H => ?_
    refine r_y S H (y_build (vs := #[(0, .agg #[.int .u64 ((((rq.getD i []).getD 0 (0, 0)).1 : Nat) : Int), .int .u64 ((((rq.getD i []).getD 0 (0, 0)).2 : Nat) : Int)]), (1, .int .i64 ((i : Nat) : Int))]) (v := .agg #[.int .u64 ((((rq.getD i []).getD 0 (0, 0)).1 : Nat) : Int), .int .u64 ((((rq.getD i []).getD 0 (0, 0)).2 : Nat) : Int), .int .i64 ((i : Nat) : Int)]) S rfl rfl (fun w => by kernel_rfl)) rfl rfl rfl fun a S => ?_
    refine r_call (args := #[.pointer (some ⟨hb, 0, none⟩), .agg #[.int .u64 ((((rq.getD i []).getD 0 (0, 0)).1 : Nat) : Int), .int .u64 ((((rq.getD i []).getD 0 (0, 0)).2 : Nat) : Int), .int .i64 ((i : Nat) : Int)]]) S rfl rfl Tryz.call46 (push_ct (H := (pk [2, 3, 0, 1] 4 H)) _ _ hb _ _ hs (((rq.getD i []).getD 0 (0, 0)), i) (hok) (by omega)) rfl rfl rfl fun v a w hR S => ?_
    obtain ⟨A3, c4, h5, rfl, hokh5, hpmh5, H⟩ := hR
    refine sn ?_
    refine ha [0, 1, 2] 4 H fun w H HS => ?_
    refine tk 0 S HS fun a S => ?_
    refine tk 1 S HS fun a S => ?_
    refine tk 2 S HS fun a S => ?_
    refine tk 3 S HS fun a S => ?_
    refine tkY 4 S HS rfl (y_index S rfl rfl rfl Tryz.underlying68 Tryz.sizeOf22 (by omega) (by omega)) rfl rfl rfl fun a S => ?_
    refine h1 5 ?_
    refine r_y S H (y_loadAt S rfl rfl Tryz.isAgg22 (fun w H => (SlOk.ofRow (i := 3) H rfl).cell w H (sls_at (i := i) (by first | omega | (simp <;> omega))))) rfl rfl rfl fun a S => ?_
    have S := S.retell (v' := .slice (some ⟨b1, o2, none⟩) ((rq.getD i []).length) cs) 24 rfl (by rw [hes])
    refine sn ?_
    refine hk (pk [0, 1, 2] 4 H) fun HS => ?_
    refine tkY 6 S HS rfl (y_sliceL (k := 1) S rfl rfl rfl Tryz.underlying22 Tryz.sizeOf33 (by first | omega | (simp <;> omega)) (by first | omega | (simp <;> omega))) rfl rfl rfl fun a S => ?_
    refine tkY 7 S HS rfl (y_index S rfl rfl rfl Tryz.underlying68 Tryz.sizeOf22 (by omega) (by omega)) rfl rfl rfl fun a S => ?_
    refine h1 8 ?_
    refine r_setRowV (L' := blk hb (.cells #[.slice A3 h5.length c4] 93) :: row 96 3 (.slice A3 h5.length c4) h5.length (hds h5) :: blk rb (.cells #[.slice (some ⟨g, 0, none⟩) n n] 68) :: row 22 1 (.slice (some ⟨g, 0, none⟩) n n) n (sls (ss.set i ((shift (some ⟨b1, o2, none⟩) (1 * 2) (decide (cs = 1))), ((rq.getD i []).length - 1), (cs - 1)))) :: fr) 3 S H rfl rfl rfl rfl Tryz.sizeOf22 rfl rfl (by first | omega | (simp <;> omega)) (xs' := sls (ss.set i ((shift (some ⟨b1, o2, none⟩) (1 * 2) (decide (cs = 1))), ((rq.getD i []).length - 1), (cs - 1)))) (sls_put (by omega) rfl) rfl rfl rfl fun w H => ?_
    refine sn ?_
    refine hk (pk [0, 1, 2] 4 H) fun HS => ?_
    refine hz ?_
    refine r_end0 S Tryz.results45 ?_
    have e : rg rq i = (rq.getD i []).getD 0 (0, 0) :: (rq.getD i []).drop 1 := by
      show rq.getD i [] = _
      cases hq : rq.getD i [] with
      | nil => rw [hq] at h9; simp at h9
      | cons z q => simp
    have hst : SlOk M 2 (shift (some ⟨b1, o2, none⟩) (1 * 2) (decide (cs = 1))) ((rq.getD i []).length - 1) (cs - 1) (recs ((rq.getD i []).drop 1)) := SlOk.tailR okM 1 (by omega)
    exact ⟨_, _, _, _, _, rfl, .inr ⟨_, _, e, hokh5, hpmh5, rfl⟩, hss.set hi hst, by simp, pk [2, 3, 0, 1] 4 H⟩
  refine wp_skip ?_
  refine r_end0 S Tryz.results45 ?_
  have e : rg rq i = [] := List.eq_nil_of_length_eq_zero (by show (rq.getD i []).length = 0; omega)
  exact ⟨_, _, _, _, _, rfl, .inl ⟨e, rfl, rfl⟩, hss, rfl, H⟩

end Go.Proofs.YtembfpadojnpmaaGreatDoor
namespace Go.Proofs.YtembfpadojnpmaaGreatDoor
open Go.RowKit Go.Cg
set_option linter.unusedVariables false
set_option linter.unusedSimpArgs false
set_option maxRecDepth 8000
set_option synthInstance.maxHeartbeats 1000000
set_option synthInstance.maxSize 1000000
theorem el68 : Elem Tryz.prog 68 22 1 24 (.slice none 0 0) := ⟨Tryz.underlying68, by kernel_rfl, rfl, by decide⟩
open Go.Cg.Rn (R Bd Hd hd0 hlt hg HeapOk rg MInv NextP)
theorem Sat.only {w : World} {R : Res} {L : List Res} (H : Sat w (R :: L)) : Sat w [R] := H.sub (List.Sublist.cons_cons _ (List.nil_sublist _))
theorem flat_leR (ds : List (List R)) (i : Nat) : (ds.take i).flatten.length ≤ ds.flatten.length := by
  conv => rhs; rw [← List.take_append_drop i ds]
  rw [List.flatten_append, List.length_append]; omega
theorem getD_memR {ds : List (List R)} {i : Nat} (h : i < ds.length) : ds.getD i [] ∈ ds := by
  rw [List.getD_eq_getElem?_getD, List.getElem?_eq_getElem h]; exact List.getElem_mem h
theorem mem_lenR {ds : List (List R)} {d : List R} (h : d ∈ ds) : d.length ≤ ds.flatten.length := by
  induction ds with
  | nil => cases h
  | cons x l ih =>
    rw [List.flatten_cons, List.length_append]
    rcases List.mem_cons.1 h with rfl | h
    · omega
    · have := ih h; omega
theorem bd_flat {ds : List (List R)} (h : ∀ x ∈ ds, Bd x) : Bd ds.flatten := fun z hz => by
  obtain ⟨d, hd, hz⟩ := List.mem_flatten.1 hz; exact h d hd z hz
theorem mpop {all out : List R} {hs hs1 : List Hd} {rq : List (List R)} {n : Nat} (m : MInv all out hs rq n) (hn : rq.length = n) (h0 : 0 < hs.length) (hp : PopP hs hs1) : (hs.getD 0 hd0).2 < n ∧ MInv all (out ++ [(hs.getD 0 hd0).1]) hs1 rq (hs.getD 0 hd0).2 ∧ hs1.length + 1 = hs.length ∧ HeapOk hs1 := by
  rcases hp with ⟨h, _⟩ | ⟨_, hp, hok⟩
  · rw [h] at h0; exact absurd h0 (Nat.lt_irrefl _)
  · have h1 := m.pop (by omega) hp hok (fun y hy => by
      obtain ⟨j, hj, rfl⟩ := List.getElem_of_mem hy
      have := m.ok.least j hj
      rw [show hg hs j = hs[j] from by unfold hg; rw [List.getD_eq_getElem?_getD, List.getElem?_eq_getElem hj]; rfl] at this
      exact this)
    exact ⟨by rw [← hn]; exact h1.1, h1.2, by have := hp.length_eq; simp at this; omega, hok⟩
theorem mem0 {hs : List Hd} (h : 0 < hs.length) : hs.getD 0 hd0 ∈ hs := by
  rw [List.getD_eq_getElem?_getD, List.getElem?_eq_getElem h]; exact List.getElem_mem h
/-- where the merge stands behind the first loop's rounds -/
structure MRun (ls : List (List R)) (i n : Nat) (ss : List Sl) (rq : List (List R)) (hs : List Hd) (bl : List Sl) (bs : List (List R)) : Prop where
  inv : MInv (ls.take i).flatten [] hs rq n
  len : rq.length = n
  slen : ss.length = n
  zero : ∀ j, i ≤ j → rg rq j = []
  low : ∀ h ∈ hs, h.2 < i
  ok : RlsOk [rowsR bl bs] ss rq
  bl : RLens bl bs
theorem merge_ct (w : World) (fr : List Res) (A : Option Addr) (c : Nat) (l : List Sl) (ls : List (List R)) (ok : SlOk fr 1 A l.length c (sls l)) (hls : RlsOk fr l ls) (hB : Bd ls.flatten) (hn : ls.flatten.length ≤ 1099511627776) (hln : l.length ≤ 1099511627776) (how : Int) (H : Sat w (fr)) :
    Rt Tryz.prog 28 #[.slice A l.length c, .int .i64 how] w fun v w' => ∃ A' c', v = .tuple #[.slice A' (Rn.merge how ls).1.length c', .int .i64 (((Rn.merge how ls).2 : Nat) : Int)] ∧ Sat w' (row 33 2 (.slice A' (Rn.merge how ls).1.length c') (Rn.merge how ls).1.length (recs (Rn.merge how ls).1) :: fr) := by
  refine en2 Tryz.func28 rfl Tryz.ntmps28 rfl fun a S => ?_
  refine sr 2 S H t0 fun a w S H => ?_
  refine r_seq ?_
  refine sb ?_
  refine rn 1 S H t0 fun a w S H => ?_
  refine r_call (args := #[.int .i64 how]) S rfl rfl Tryz.call44 (hright_ct (H := H) _ _ how) rfl rfl rfl fun v a w hR S => ?_
  obtain ⟨rfl, H⟩ := hR
  refine rs 1 S H t0 fun a w S H => ?_
  refine r_cond S rfl (fun h16 => ?_) (fun h16 => ?_)
  · skip
    refine sr 2 S H t0 fun a w S H => ?_
    refine wp_ret ?_
    refine x_thenRet ?_
    refine r_ret2 S H Tryz.results28 (ro_tmp S rfl) (ro_tmp S rfl) ?_
    have hr : Rn.hright how = false := by simpa using h16
    have e : Rn.merge how ls = ([], 1) := by unfold Rn.merge; rw [hr]; rfl
    rw [e]
    have H := H.nilRow 33 2
    exact ⟨none, 0, rfl, H⟩
  refine wp_skip ?_
  refine x_then ?_
  refine sb ?_
  refine rn 2 S H t0 fun a w S H => ?_
  refine r_make (len := l.length) S H rfl rfl rfl el68 (by simp only [maxLen]; omega) (by omega) rfl rfl rfl fun a w b1 S H => ?_
  rw [made_sls] at H
  refine r_alloc S H rfl Tryz.zeroValue68 rfl rfl rfl rfl fun a w b2 S H => ?_
  replace H : Sat _ (blk b2 (.cells #[.slice none 0 0] 68) :: row 22 1 (.slice (some ⟨b1, 0, none⟩) l.length l.length) l.length (sls (List.replicate l.length sl0)) :: fr) := H
  refine rs 1 S H t0 fun a w S H => ?_
  refine sb ?_
  refine r_alloc S H rfl Tryz.zeroValue93 rfl rfl rfl rfl fun a w b3 S H => ?_
  replace H : Sat _ (blk b3 (.cells #[.slice none 0 0] 93) :: blk b2 (.cells #[.slice (some ⟨b1, 0, none⟩) l.length l.length] 68) :: row 22 1 (.slice (some ⟨b1, 0, none⟩) l.length l.length) l.length (sls (List.replicate l.length sl0)) :: fr) := H
  refine sn ?_
  refine sb ?_
  refine r_y S H (y_makeFunc (vs := #[.pointer (some ⟨b2, 0, none⟩), .pointer (some ⟨b3, 0, none⟩)]) S rfl rfl) rfl rfl rfl fun a S => ?_
  refine rs 1 S H t0 fun a w S H => ?_
  refine r_seq ?_
  refine sr 3 S H t0 fun a w S H => ?_
  refine r_block ?_
  have H := H.nilRow 96 3
  have H := Sat.noRows H
  refine r_loop (ι := Nat × List Sl × List (List R) × List Hd × List Sl × List (List R) × Option Addr × Nat) (fun ⟨i, ss, rq, hs, bl, bs, Ah, ch⟩ a w => Slots a 59 [(1, .int .i64 how), (4, .slice none 0 0), (5, .int .i64 0), (6, .pointer (some ⟨b2, 0, none⟩)), (7, .pointer (some ⟨b3, 0, none⟩)), (8, .func (.func 45) #[] #[.pointer (some ⟨b2, 0, none⟩), .pointer (some ⟨b3, 0, none⟩)]), (21, .slice A l.length c), (22, .int .i64 ((l.length : Nat) : Int)), (23, .int .i64 ((i : Nat) : Int)), (59, undef)] ∧ Sat w (blk b2 (.cells #[.slice (some ⟨b1, 0, none⟩) l.length l.length] 68) :: row 22 1 (.slice (some ⟨b1, 0, none⟩) l.length l.length) l.length (sls ss) :: blk b3 (.cells #[.slice Ah hs.length ch] 93) :: row 96 3 (.slice Ah hs.length ch) hs.length (hds hs) :: rowsR bl bs :: fr) ∧ (i ≤ l.length ∧ MRun ls i l.length ss rq hs bl bs)) (fun ⟨i, ss, rq, hs, bl, bs, Ah, ch⟩ => l.length - i) (0, List.replicate l.length sl0, List.replicate l.length [], [], [], [], none, 0) ⟨S.sub ⟨rfl, rfl, rfl, rfl, rfl, rfl, rfl, rfl, rfl, rfl, trivial⟩, pk [3, 4, 2, 1, 0] 5 H, ⟨Nat.zero_le _, ⟨by simpa using MInv.none l.length, by simp, by simp, fun j _ => by (unfold rg; rw [List.getD_eq_getElem?_getD, List.getElem?_replicate]; split <;> rfl), (fun h hh => by cases hh), RlsOk.none _ _, ⟨rfl, fun i h => absurd h (Nat.not_lt_zero _)⟩⟩⟩⟩ (fun ⟨i, ss, rq, hs, bl, bs, Ah, ch⟩ a w hI => ?_)
  obtain ⟨S, H, hI⟩ := hI
  obtain ⟨hile, hR⟩ := hI
  have hrs := hR.slen
  have hsz := MInv.size hR.inv
  have hfl := flat_leR ls i
  simp only [List.length_nil] at hsz
  refine sr 1 S H t0 fun a w S H => ?_
  refine r_seq ?_
  refine r_test S rfl (fun h24 => ?_) (fun h24 => ?_)
  · skip
    refine wp_skip ?_
    refine x_then ?_
    refine r_seq ?_
    refine r_block ?_
    refine sb ?_
    refine rn 1 S H t0 fun a w S H => ?_
    obtain ⟨b4, o5, rfl⟩ := (((((ok.more _).more _).more _).more _).more _).addr H (by first | omega | (simp <;> omega))
    refine r_y S H (y_index S rfl rfl rfl Tryz.underlying68 Tryz.sizeOf22 (by omega) (by omega)) rfl rfl rfl fun a S => ?_
    refine r_y S H (y_loadAt S rfl rfl Tryz.isAgg22 (fun w H => (((((ok.more _).more _).more _).more _).more _).cell w H (sls_at (i := i) (by first | omega | (simp <;> omega))))) rfl rfl rfl fun a S => ?_
    have hil : i < l.length := by omega
    obtain ⟨Al, cl, hel, okl⟩ := hls.at (i := i) hil
    have hlz := mem_lenR (getD_memR (ds := ls) (i := i) (by have := hls.len; omega))
    have S := S.retell (v' := .slice Al ((ls.getD i []).length) cl) 27 rfl (by rw [hel])
    refine rs 2 S H t0 fun a w S H => ?_
    refine r_seq ?_
    refine ha [0, 2, 3, 4] 5 H fun w H HS => ?_
    refine tk 0 S HS fun a S => ?_
    refine tk 1 S HS fun a S => ?_
    refine tk 2 S HS fun a S => ?_
    refine h1 3 ?_
    refine r_call (args := #[.slice Al ((ls.getD i []).length) cl]) S rfl rfl Tryz.call48 (values_ct (H := H) _ _ _ _ _) rfl rfl rfl fun v a w hR S => ?_
    obtain ⟨kb7, rfl, H⟩ := hR
    refine sn ?_
    refine hk (pk [1, 3, 4, 5] 6 H) fun HS => ?_
    refine h1 4 ?_
    refine r_call (args := #[.func (.func 72) #[] #[.pointer (some ⟨kb7, 0, none⟩)], .func (.func 49) #[] #[]]) S rfl rfl Tryz.call47 (sortedf_ct (H := H) _ _ kb7 Al cl (ls.getD i []) (((((okl.more _).more _).more _).more _).more _) (by first | omega | (simp <;> omega))) rfl rfl rfl fun v a w hR S => ?_
    obtain ⟨A10, c11, rfl, H⟩ := hR
    refine sn ?_
    refine hk (pk [2, 4, 5, 6] 7 H) fun HS => ?_
    refine tkY 5 S HS rfl (y_index S rfl rfl rfl Tryz.underlying68 Tryz.sizeOf22 (by omega) (by omega)) rfl rfl rfl fun a S => ?_
    refine h1 6 ?_
    refine r_setRowV (L' := row 33 2 (.slice A10 ((ls.getD i []).length) c11) ((ls.getD i []).length) (recs (Rn.sort (ls.getD i []))) :: blk kb7 (.cells #[.slice Al ((ls.getD i []).length) cl] 22) :: blk b2 (.cells #[.slice (some ⟨b1, 0, none⟩) l.length l.length] 68) :: row 22 1 (.slice (some ⟨b1, 0, none⟩) l.length l.length) l.length (sls (ss.set i (A10, (ls.getD i []).length, c11))) :: blk b3 (.cells #[.slice Ah hs.length ch] 93) :: row 96 3 (.slice Ah hs.length ch) hs.length (hds hs) :: rowsR bl bs :: fr) 3 S H rfl rfl rfl rfl Tryz.sizeOf22 rfl rfl (by first | omega | (simp <;> omega)) (xs' := sls (ss.set i (A10, (ls.getD i []).length, c11))) (sls_put (by omega) rfl) rfl rfl rfl fun w H => ?_
    refine sn ?_
    refine hk (pk [2, 4, 5, 6] 7 H) fun HS => ?_
    refine hz ?_
    refine x_then ?_
    have H := Sat.rowIn (by simp) ((pk [0, 6, 1, 2, 3, 4, 5] 7 H))
    have hbl2 : RLens (bl ++ [(A10, (ls.getD i []).length, c11)]) (bs ++ [Rn.sort (ls.getD i [])]) := Sat.rowsLens H
    have hss1 : RlsOk [rowsR (bl ++ [(A10, (ls.getD i []).length, c11)]) (bs ++ [Rn.sort (ls.getD i [])])] (ss.set i (A10, (ls.getD i []).length, c11)) (rq.set i (Rn.sort (ls.getD i []))) := (hR.ok.via (rowsR_less hR.bl (by simp))).set (by omega) (rowsR_last hR.bl (by simp) _ (Sat.only H))
    refine r_region ?_
    refine rn 2 S H t0 fun a w S H => ?_
    refine r_callV (args := #[.int .i64 ((i : Nat) : Int)]) S rfl rfl rfl Tryz.call45 (mnext_ct (H := (pk [2, 3, 4, 5, 0, 1] 6 H)) _ _ b2 b3 b1 (ss.set i (A10, (ls.getD i []).length, c11)) (rq.set i (Rn.sort (ls.getD i []))) _ _ hs i l.length ((by simp; exact hR.slen)) (by simp; omega) _ (fun _ H => Sat.only (pk [0] 2 H)) hss1 hR.inv.ok (by omega)) rfl rfl rfl fun v a w hR S => ?_
    obtain ⟨ss14, rs15, h16, A12, c13, rfl, hnxss14, hssss14, hslss14, H⟩ := hR
    refine r_nil ?_
    refine x_blockEnd ?_
    refine x_then ?_
    refine er 2 S H (by omega) fun a w S H => ?_
    refine x_then ?_
    have hnm := mrun hR.inv hR.len hil (by have := hls.len; omega) hR.zero hR.low hnxss14
    exact ⟨(i + 1, ss14, rs15, h16, bl ++ [(A10, (ls.getD i []).length, c11)], bs ++ [Rn.sort (ls.getD i [])], A12, c13), ⟨S.sub ⟨rfl, rfl, rfl, rfl, rfl, rfl, rfl, rfl, rfl, rfl, trivial⟩, pk [0, 1, 2, 3, 4] 6 H, ⟨by omega, ⟨hnm.1, hnm.2.1, by rw [hslss14]; simp [hR.slen], hnm.2.2.1, hnm.2.2.2, hssss14, hbl2⟩⟩⟩, by show l.length - (i + 1) < l.length - i; omega⟩
  refine wp_exit ?_
  refine x_thenExit ?_
  refine x_thenExit ?_
  refine x_blockHere ?_
  refine x_then ?_
  refine sb ?_
  refine rn 1 S H t0 fun a w S H => ?_
  refine r_y S H (y_build (vs := #[(0, .int .i64 how)]) (v := .agg #[.int .i64 how, .slice none 0 0]) S rfl rfl (fun w => by kernel_rfl)) rfl rfl rfl fun a S => ?_
  refine r_alloc S H rfl Tryz.zeroValue104 rfl rfl rfl rfl fun a w b17 S H => ?_
  replace H : Sat _ (blk b17 (.cells #[.int .i64 0, .slice none 0 0] 104) :: blk b2 (.cells #[.slice (some ⟨b1, 0, none⟩) l.length l.length] 68) :: row 22 1 (.slice (some ⟨b1, 0, none⟩) l.length l.length) l.length (sls ss) :: blk b3 (.cells #[.slice Ah hs.length ch] 93) :: row 96 3 (.slice Ah hs.length ch) hs.length (hds hs) :: rowsR bl bs :: fr) := H
  refine rs 1 S H t0 fun a w S H => ?_
  refine r_seq ?_
  refine sb ?_
  refine r_call (args := #[.pointer (some ⟨b3, 0, none⟩)]) S rfl rfl Tryz.call50 (pop_ct (H := (pk [3, 4, 0, 1, 2, 5] 6 H)) _ _ b3 _ _ hs (hR.inv.ok) (by omega)) rfl rfl rfl fun v a w hR S => ?_
  obtain ⟨A18, c19, h20, rfl, hpoph20, H⟩ := hR
  refine rn 3 S H t0 fun a w S H => ?_
  refine r_alloc S H rfl Tryz.zeroValue96 rfl rfl rfl rfl fun a w b21 S H => ?_
  replace H : Sat _ (blk b21 (.cells #[.int .u64 0, .int .u64 0, .int .i64 0] 96) :: blk b3 (.cells #[.slice A18 h20.length c19] 93) :: row 96 3 (.slice A18 h20.length c19) h20.length (hds h20) :: blk b17 (.cells #[.int .i64 how, .slice none 0 0] 104) :: blk b2 (.cells #[.slice (some ⟨b1, 0, none⟩) l.length l.length] 68) :: row 22 1 (.slice (some ⟨b1, 0, none⟩) l.length l.length) l.length (sls ss) :: rowsR bl bs :: fr) := H
  refine rs 2 S H t0 fun a w S H => ?_
  refine r_block ?_
  have H := H.nilRow 33 2
  have hM0 : MInv ls.flatten [] hs rq l.length := by have := hR.inv; rwa [show i = l.length from by omega, List.take_of_length_le (by have := hls.len; omega)] at this
  refine r_loop (ι := List Hd × List Hd × List Sl × List (List R) × List R × Nat × Option Addr × Nat × Option Addr × Nat) (fun ⟨hs, hs1, ss, rq, out, pb, A1, c1, Af, cf⟩ a w => Slots a 59 [(4, .slice none 0 0), (5, .int .i64 0), (7, .pointer (some ⟨b3, 0, none⟩)), (8, .func (.func 45) #[] #[.pointer (some ⟨b2, 0, none⟩), .pointer (some ⟨b3, 0, none⟩)]), (11, .pointer (some ⟨b17, 0, none⟩)), (12, .pointer (some ⟨pb, 0, none⟩)), (13, .bool (decide (0 < hs.length))), (59, undef)] ∧ Sat w (blk b2 (.cells #[.slice (some ⟨b1, 0, none⟩) l.length l.length] 68) :: row 22 1 (.slice (some ⟨b1, 0, none⟩) l.length l.length) l.length (sls ss) :: blk b3 (.cells #[.slice A1 hs1.length c1] 93) :: row 96 3 (.slice A1 hs1.length c1) hs1.length (hds hs1) :: rowsR bl bs :: blk b17 (.cells #[.int .i64 how, .slice Af ((Rn.fold how out).length) cf] 104) :: row 33 2 (.slice Af ((Rn.fold how out).length) cf) ((Rn.fold how out).length) (recs (Rn.fold how out)) :: blk pb (.cells #[.int .u64 (((hs.getD 0 hd0).1.1 : Nat) : Int), .int .u64 (((hs.getD 0 hd0).1.2 : Nat) : Int), .int .i64 (((hs.getD 0 hd0).2 : Nat) : Int)] 96) :: fr) ∧ (MInv ls.flatten out hs rq l.length ∧ PopP hs hs1 ∧ RlsOk [rowsR bl bs] ss rq ∧ ss.length = l.length ∧ rq.length = l.length)) (fun ⟨hs, hs1, ss, rq, out, pb, A1, c1, Af, cf⟩ => hs.length + rq.flatten.length) (hs, h20, ss, rq, [], b21, A18, c19, none, 0) ⟨S.sub ⟨rfl, rfl, rfl, rfl, rfl, rfl, rfl, rfl, trivial⟩, pk [5, 6, 2, 3, 7, 4, 0, 1] 8 H, ⟨hM0, hpoph20, hR.ok, hR.slen, hR.len⟩⟩ (fun ⟨hs, hs1, ss, rq, out, pb, A1, c1, Af, cf⟩ a w hI => ?_)
  obtain ⟨S, H, hI⟩ := hI
  obtain ⟨hM, hP, hss, hslen, hrlen⟩ := hI
  have hsz := MInv.size hM
  have hbds := MInv.bds hM hB
  have hfo := Rn.fold_len how out
  have hsl1 : hs1.length ≤ hs.length := by rcases hP with ⟨_, h⟩ | ⟨_, hp, _⟩; (rw [h]; exact Nat.zero_le _); (have := hp.length_eq; simp at this; omega)
  refine r_seq ?_
  refine sr 1 S H t0 fun a w S H => ?_
  refine r_test S rfl (fun h44 => ?_) (fun h44 => ?_)
  · skip
    refine wp_skip ?_
    refine x_then ?_
    refine r_seq ?_
    refine r_block ?_
    refine sb ?_
    refine rn 2 S H t0 fun a w S H => ?_
    refine r_call (args := #[.pointer (some ⟨b17, 0, none⟩), .agg #[.int .u64 (((hs.getD 0 hd0).1.1 : Nat) : Int), .int .u64 (((hs.getD 0 hd0).1.2 : Nat) : Int)]]) S rfl rfl Tryz.call51 (fput_ct (H := (pk [5, 6, 0, 1, 2, 3, 4, 7] 8 H)) _ _ b17 how _ _ (Rn.fold how out) (hs.getD 0 hd0).1 (Rn.fold_bd how _ hbds.1) ((hbds.2 _ (mem0 h44))) (by omega)) rfl rfl rfl fun v a w hR S => ?_
    obtain ⟨A22, c23, rfl, H⟩ := hR
    refine sn ?_
    obtain ⟨hx2, hm2, hpl, hok1⟩ := mpop hM hrlen h44 hP
    refine r_region ?_
    refine rn 3 S H t0 fun a w S H => ?_
    refine r_callV (args := #[.int .i64 (((hs.getD 0 hd0).2 : Nat) : Int)]) S rfl rfl rfl Tryz.call45 (mnext_ct (H := (pk [2, 3, 4, 5, 0, 1, 6, 7] 8 H)) _ _ b2 b3 b1 ss rq _ _ hs1 ((hs.getD 0 hd0).2) l.length (hslen) (by omega) _ (fun _ H => Sat.only (pk [2] 4 H)) hss hok1 (by omega)) rfl rfl rfl fun v a w hR S => ?_
    obtain ⟨ss26, rs27, h28, A24, c25, rfl, hnxss26, hssss26, hslss26, H⟩ := hR
    refine r_nil ?_
    refine x_blockEnd ?_
    refine x_then ?_
    refine r_seq ?_
    refine sr 1 S H t0 fun a w S H => ?_
    refine r_region ?_
    refine r_alloc S H rfl Tryz.zeroValue96 rfl rfl rfl rfl fun a w b29 S H => ?_
    replace H : Sat _ (blk b29 (.cells #[.int .u64 0, .int .u64 0, .int .i64 0] 96) :: blk b2 (.cells #[.slice (some ⟨b1, 0, none⟩) l.length l.length] 68) :: row 22 1 (.slice (some ⟨b1, 0, none⟩) l.length l.length) l.length (sls ss26) :: blk b3 (.cells #[.slice A24 h28.length c25] 93) :: row 96 3 (.slice A24 h28.length c25) h28.length (hds h28) :: blk b17 (.cells #[.int .i64 how, .slice A22 ((Rn.fput how (Rn.fold how out) (hs.getD 0 hd0).1).length) c23] 104) :: row 33 2 (.slice A22 ((Rn.fput how (Rn.fold how out) (hs.getD 0 hd0).1).length) c23) ((Rn.fput how (Rn.fold how out) (hs.getD 0 hd0).1).length) (recs (Rn.fput how (Rn.fold how out) (hs.getD 0 hd0).1)) :: rowsR bl bs :: blk pb (.cells #[.int .u64 (((hs.getD 0 hd0).1.1 : Nat) : Int), .int .u64 (((hs.getD 0 hd0).1.2 : Nat) : Int), .int .i64 (((hs.getD 0 hd0).2 : Nat) : Int)] 96) :: fr) := H
    refine rn 1 S H t0 fun a w S H => ?_
    refine r_nil ?_
    refine x_then ?_
    have hm3 := hm2.next (by omega) hnxss26 l.length (by omega)
    have hs3 := MInv.size hm3
    refine r_region ?_
    refine r_call (args := #[.pointer (some ⟨b3, 0, none⟩)]) S rfl rfl Tryz.call50 (pop_ct (H := (pk [3, 4, 0, 1, 2, 5, 6, 7, 8] 9 H)) _ _ b3 _ _ h28 (hm3.ok) (by have := MInv.size hm3; omega)) rfl rfl rfl fun v a w hR S => ?_
    obtain ⟨A30, c31, h32, rfl, hpoph32, H⟩ := hR
    refine rn 5 S H t0 fun a w S H => ?_
    refine r_nil ?_
    refine x_then ?_
    have ef : Rn.fput how (Rn.fold how out) (hs.getD 0 hd0).1 = Rn.fold how (out ++ [(hs.getD 0 hd0).1]) := (Rn.fold_snoc how out _).symm
    have H := pk [3, 4, 0, 1, 7, 5, 6, 2] 9 H
    rw [ef] at H
    have hnsm := hnxss26.sum (by omega)
    exact ⟨(h28, h32, ss26, rs27, out ++ [(hs.getD 0 hd0).1], b29, A30, c31, A22, c23), ⟨S.sub ⟨rfl, rfl, rfl, rfl, rfl, rfl, rfl, rfl, trivial⟩, H, ⟨hm3, hpoph32, hssss26, by rw [hslss26]; exact hslen, by rw [hnxss26.len]; exact hrlen⟩⟩, by show h28.length + rs27.flatten.length < hs.length + rq.flatten.length; omega⟩
  refine wp_exit ?_
  refine x_thenExit ?_
  refine x_thenExit ?_
  refine x_blockHere ?_
  refine x_then ?_
  refine sr 4 S H t0 fun a w S H => ?_
  refine wp_ret ?_
  refine r_ret2 S H Tryz.results28 (ro_tmp S rfl) (ro_tmp S rfl) ?_
  have hr : Rn.hright how = true := by simpa using h16
  have hnil : hs = [] := List.eq_nil_of_length_eq_zero (by omega)
  rw [hnil] at hM
  have eo : out = Rn.sort ls.flatten := hM.done (by omega)
  have e : Rn.merge how ls = (Rn.fold how out, 0) := by unfold Rn.merge; rw [hr, eo]; rfl
  rw [e]
  exact ⟨_, _, rfl, pk [6] 8 H⟩

end Go.Proofs.YtembfpadojnpmaaGreatDoor

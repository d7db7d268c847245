/- Walks of functions of the program, over slots and resources, and what they rest on. No condition. -/
import Derived.Test.YtembfpadojnpmaaGreatDoorKMailboxSpacec
import Derived.Test.YtembfpadojnpmaaGreatDoorBp
import Derived.Laws.BitsLemmas
import Derived.Test.YtembfpadojnpmaaGreatDoorBr
namespace Go.Proofs.YtembfpadojnpmaaGreatDoor
open Go.RowKit Go.Cg
set_option linter.unusedVariables false
set_option linter.unusedSimpArgs false
set_option maxRecDepth 8000
set_option synthInstance.maxHeartbeats 1000000
set_option synthInstance.maxSize 1000000
open Go.Cg.Dk (By Nm)
open Go.Cg.Rn (R Bd Bx)
theorem RlsOk.ofRows1 {w : World} {l : List Sl} {ds : List (List R)} (H : Sat w [rowsR l ds]) : RlsOk [rowsR l ds] l ds := by
  obtain ⟨hl, H1⟩ := sat_fact.1 (sat_star.1 H)
  have H1 : Sat w (rRows l ds ++ []) := H1
  refine ⟨hl.1, fun i hi => ?_⟩
  have hi' : i < ds.length := by rw [← hl.1]; exact hi
  have hn := hl.2 i hi
  have e : (rRows l ds ++ [])[i]? = some (row 33 2 (.slice (l.getD i sl0).1 (l.getD i sl0).2.1 (l.getD i sl0).2.2) (l.getD i sl0).2.1 (recs (ds.getD i []))) := by
    rw [hn]
    rw [List.append_nil]
    unfold rRows
    rw [List.getElem?_map, List.getElem?_zip_eq_some (z := (l[i], ds[i])).2 ⟨List.getElem?_eq_getElem hi, List.getElem?_eq_getElem hi'⟩]
    rw [List.getD_eq_getElem?_getD, List.getD_eq_getElem?_getD, List.getElem?_eq_getElem hi, List.getElem?_eq_getElem hi'] at hn ⊢
    simp only [Option.getD_some, Option.map_some, slv] at hn ⊢
    rw [← hn]
  exact (SlOk.ofRow (i := i) H1 e).via fun w' H' => (sat_fact.1 (sat_star.1 H')).2
theorem reads_len : ∀ (ns : List Nm) (ls : List (List R)) (d : Dk.Disk), (Rn.Bx.reads ns ls d).2.2 = 0 → (Rn.Bx.reads ns ls d).2.1.length = ls.length + ns.length
  | [], ls, d, _ => by simp [Rn.Bx.reads]
  | n :: ns, ls, d, h => by
    unfold Rn.Bx.reads at h ⊢
    split at h
    · rename_i h1; exact absurd h h1
    · rename_i h1; rw [if_neg h1, reads_len ns _ _ h]; simp; omega
theorem bd_snoc {ls : List (List R)} {l : List R} (h : Bd ls.flatten) (hl : Bd l) : Bd (ls ++ [l]).flatten := by
  rw [List.flatten_append]; simpa using h.app hl
theorem all_ct (w : World) (fr : List Res) (bb db : Nat) (x : Bx) (d : Dk.Disk) (k : Nat) (hf : x.Fit k) (hkb : k ≤ 1099511627) (hcnt : d.files.length ≤ 4398046511104) (hz : (Rn.Bx.reads x.files [Rn.sort x.now] d).2.1.flatten.length ≤ 1099511627776) (H : Sat w (boxR bb db x :: diskR db d :: fr)) :
    Rt Tryz.prog 15 #[.pointer (some ⟨bb, 0, none⟩)] w fun v w' => ∃ A' c', v = .tuple #[.slice A' (x.all d).2.1.length c', .int .i64 (((x.all d).2.2 : Nat) : Int)] ∧ Sat w' (row 33 2 (.slice A' (x.all d).2.1.length c') (x.all d).2.1.length (recs (x.all d).2.1) :: boxR bb db x :: diskR db (x.all d).1 :: fr) := by
  refine en1 Tryz.func15 rfl Tryz.ntmps15 rfl fun a S => ?_
  obtain ⟨mb, fA, fc, H⟩ := Sat.openBox (H)
  have hfn := hf.now
  have hff := hf.files
  have hbd := hf.bd
  refine sr 2 S H t0 fun a w S H => ?_
  refine sb ?_
  refine rn 1 S H t0 fun a w S H => ?_
  refine r_call (args := #[.pointer (some ⟨bb, 0, none⟩)]) S rfl rfl Tryz.call26 (memory_ct (H := H) _ _ bb db x _ _ _ hf.bd (by omega)) rfl rfl rfl fun v a w hR S => ?_
  obtain ⟨A1, c2, rfl, H⟩ := hR
  refine r_lit (vs := #[(0, .slice A1 ((Rn.sort x.now).length) c2)]) (cs := sls [(A1, (Rn.sort x.now).length, c2)]) S H rfl rfl el68 (by kernel_rfl) (by decide) (by rfl) rfl rfl rfl fun a w b3 S H => ?_
  refine rs 1 S H t0 fun a w S H => ?_
  refine r_seq ?_
  have H := Sat.noRows H
  have H := Sat.rowIn rfl ((pk [2, 0, 1, 3, 4, 5, 6] 7 H))
  replace H : Sat _ (rowsR [(A1, (Rn.sort x.now).length, c2)] [Rn.sort x.now] :: row 22 1 (.slice (some ⟨b3, 0, none⟩) 1 1) 1 (sls [(A1, (Rn.sort x.now).length, c2)]) :: blk bb (.cells #[.pointer (some ⟨db, 0, none⟩), str (x.name), .int .i64 ((x.budget : Nat) : Int), .int .i64 x.how, .map (some mb), .slice fA x.files.length fc, .int .i64 ((x.next : Nat) : Int)] 64) :: mp (mkN .u64) (mkN .u64) mb x.now :: que 9 fA x.files.length fc (strs x.files) :: diskR db d :: fr) := H
  refine sr 6 S H t0 fun a w S H => ?_
  refine r_block ?_
  refine r_loop (ι := Nat × List Sl × Option Addr × Nat) (fun ⟨i, l, Al, cl⟩ a w => Slots a 46 [(0, .pointer (some ⟨bb, 0, none⟩)), (4, .slice Al l.length cl), (15, .slice fA x.files.length fc), (16, .int .i64 ((x.files.length : Nat) : Int)), (17, .int .i64 ((i : Nat) : Int)), (46, undef)] ∧ Sat w (row 22 1 (.slice Al l.length cl) l.length (sls l) :: rowsR l (Rn.Bx.reads (x.files.take i) [Rn.sort x.now] d).2.1 :: blk bb (.cells #[.pointer (some ⟨db, 0, none⟩), str (x.name), .int .i64 ((x.budget : Nat) : Int), .int .i64 x.how, .map (some mb), .slice fA x.files.length fc, .int .i64 ((x.next : Nat) : Int)] 64) :: mp (mkN .u64) (mkN .u64) mb x.now :: que 9 fA x.files.length fc (strs x.files) :: diskR db (Rn.Bx.reads (x.files.take i) [Rn.sort x.now] d).1 :: fr) ∧ (i ≤ x.files.length ∧ (Rn.Bx.reads (x.files.take i) [Rn.sort x.now] d).2.2 = 0 ∧ l.length = i + 1 ∧ Bd (Rn.Bx.reads (x.files.take i) [Rn.sort x.now] d).2.1.flatten)) (fun ⟨i, l, Al, cl⟩ => x.files.length - i) (0, [(A1, (Rn.sort x.now).length, c2)], (some ⟨b3, 0, none⟩), 1) ⟨S.sub ⟨rfl, rfl, rfl, rfl, rfl, rfl, trivial⟩, pk [1, 0, 2, 3, 4, 5] 6 H, ⟨Nat.zero_le _, rfl, rfl, by show Bd ([Rn.sort x.now] : List (List R)).flatten; simpa using hbd.sort⟩⟩ (fun ⟨i, l, Al, cl⟩ a w hI => ?_)
  obtain ⟨S, H, hI⟩ := hI
  obtain ⟨hil, hp0, hll, hbf⟩ := hI
  have hrc := Rn.Bx.reads_cnt (x.files.take i) [Rn.sort x.now] d
  refine sr 1 S H t0 fun a w S H => ?_
  refine r_seq ?_
  refine r_test S rfl (fun h18 => ?_) (fun h18 => ?_)
  · skip
    refine wp_skip ?_
    refine x_then ?_
    refine r_seq ?_
    refine r_block ?_
    refine sb ?_
    obtain ⟨b4, o5, rfl⟩ := (SlOk.ofQue (i := 4) H rfl).addr H (by first | omega | (simp <;> omega))
    refine r_y S H (y_index S rfl rfl rfl Tryz.underlying46 Tryz.sizeOf9 (by omega) (by omega)) rfl rfl rfl fun a S => ?_
    refine r_y S H (y_loadAt S rfl rfl Tryz.isAgg9 (fun w H => (SlOk.ofQue (i := 4) H rfl).cell w H (strs_at (i := i) (by first | omega | (simp <;> omega))))) rfl rfl rfl fun a S => ?_
    refine rs 1 S H t0 fun a w S H => ?_
    have hdok := Sat.diskOk ((pk [5] 6 H))
    have hrf := Rn.read_facts (n := (x.files.getD i [])) hdok
    have hbr := hrf.2
    refine sb ?_
    refine rn 5 S H t0 fun a w S H => ?_
    refine r_call (args := #[.pointer (some ⟨db, 0, none⟩), str (x.files.getD i [])]) S rfl rfl Tryz.call27 (read_ct (H := (pk [5, 0, 1, 2, 3, 4] 6 H)) _ _ db (x.files.getD i []) ((Rn.Bx.reads (x.files.take i) [Rn.sort x.now] d).1) (by omega)) rfl rfl rfl fun v a w hR S => ?_
    obtain ⟨A6, c7, rfl, H⟩ := hR
    refine rs 5 S H t0 fun a w S H => ?_
    refine r_seq ?_
    refine sr 2 S H t0 fun a w S H => ?_
    refine r_test S rfl (fun h31 => ?_) (fun h31 => ?_)
    · skip
      refine sr 3 S H t0 fun a w S H => ?_
      refine wp_ret ?_
      refine x_thenRet ?_
      refine x_blockRet ?_
      refine x_thenRet ?_
      refine x_thenRet ?_
      refine x_blockRet ?_
      refine x_thenRet ?_
      refine r_ret2 S H Tryz.results15 (ro_tmp S rfl) (ro_tmp S rfl) ?_
      have hst := Rn.Bx.reads_stop (ns := x.files) (i := i) (ls := [Rn.sort x.now]) (d := d) (by omega) hp0 (show (Rn.read (x.files.getD i []) (Rn.Bx.reads (x.files.take i) [Rn.sort x.now] d).1).2.2 ≠ 0 by omega)
      have e : x.all d = ((Rn.read (x.files.getD i []) (Rn.Bx.reads (x.files.take i) [Rn.sort x.now] d).1).1, [], (Rn.read (x.files.getD i []) (Rn.Bx.reads (x.files.take i) [Rn.sort x.now] d).1).2.2) := by unfold Rn.Bx.all; rw [if_pos (by rw [hst.2]; omega), hst.1, hst.2]
      rw [e]
      have H := H.nilRow 33 2
      have H := pk [0, 5, 6, 7, 2] 8 H
      have H := pk [1, 2, 3, 0, 4] 5 H
      have H := Sat.shutBox x H
      exact ⟨none, 0, rfl, pk [1, 0, 2] 3 H⟩
    refine wp_skip ?_
    refine x_then ?_
    refine r_region ?_
    refine rn 2 S H t0 fun a w S H => ?_
    refine r_lit (vs := #[(0, .slice A6 ((Rn.read (x.files.getD i []) ((Rn.Bx.reads (x.files.take i) [Rn.sort x.now] d).1)).2.1.length) c7)]) (cs := sls [(A6, (Rn.read (x.files.getD i []) ((Rn.Bx.reads (x.files.take i) [Rn.sort x.now] d).1)).2.1.length, c7)]) S H rfl rfl el68 (by kernel_rfl) (by decide) (by rfl) rfl rfl rfl fun a w b8 S H => ?_
    refine r_appendS (L' := fun A9 c10 => row 22 1 (.slice (some ⟨b8, 0, none⟩) 1 1) 1 (sls [(A6, (Rn.read (x.files.getD i []) ((Rn.Bx.reads (x.files.take i) [Rn.sort x.now] d).1)).2.1.length, c7)]) :: row 33 2 (.slice A6 ((Rn.read (x.files.getD i []) ((Rn.Bx.reads (x.files.take i) [Rn.sort x.now] d).1)).2.1.length) c7) ((Rn.read (x.files.getD i []) ((Rn.Bx.reads (x.files.take i) [Rn.sort x.now] d).1)).2.1.length) (recs ((Rn.read (x.files.getD i []) ((Rn.Bx.reads (x.files.take i) [Rn.sort x.now] d).1)).2.1)) :: diskR db (Rn.read (x.files.getD i []) ((Rn.Bx.reads (x.files.take i) [Rn.sort x.now] d).1)).1 :: row 22 1 (.slice A9 (l.length + 1) c10) (l.length + 1) (sls (l ++ ([(A6, (Rn.read (x.files.getD i []) ((Rn.Bx.reads (x.files.take i) [Rn.sort x.now] d).1)).2.1.length, c7)]))) :: rowsR l (Rn.Bx.reads (x.files.take i) [Rn.sort x.now] d).2.1 :: blk bb (.cells #[.pointer (some ⟨db, 0, none⟩), str (x.name), .int .i64 ((x.budget : Nat) : Int), .int .i64 x.how, .map (some mb), .slice (some ⟨b4, o5, none⟩) x.files.length fc, .int .i64 ((x.next : Nat) : Int)] 64) :: mp (mkN .u64) (mkN .u64) mb x.now :: que 9 (some ⟨b4, o5, none⟩) x.files.length fc (strs x.files) :: fr) (xs' := sls (l ++ ([(A6, (Rn.read (x.files.getD i []) ((Rn.Bx.reads (x.files.take i) [Rn.sort x.now] d).1)).2.1.length, c7)]))) 3 S H rfl rfl rfl rfl el68 (SlOk.ofRow (i := 0) H rfl) (one_sls _) (by simp only [maxLen]; first | omega | (simp <;> omega)) (by first | omega | (simp <;> omega)) (sls_app l ([(A6, (Rn.read (x.files.getD i []) ((Rn.Bx.reads (x.files.take i) [Rn.sort x.now] d).1)).2.1.length, c7)])) (by first | omega | (simp <;> omega)) (fun _ _ => rfl) rfl rfl rfl fun a w A9 c10 hA9 S H => ?_
    refine rn 1 S H t0 fun a w S H => ?_
    refine r_nil ?_
    refine x_blockEnd ?_
    refine x_then ?_
    have H := Sat.rowIn rfl ((pk [1, 4, 0, 2, 3, 5, 6, 7] 8 H))
    replace H : Sat _ (rowsR (l ++ [(A6, (Rn.read (x.files.getD i []) ((Rn.Bx.reads (x.files.take i) [Rn.sort x.now] d).1)).2.1.length, c7)]) ((Rn.Bx.reads (x.files.take i) [Rn.sort x.now] d).2.1 ++ [(Rn.read (x.files.getD i []) (Rn.Bx.reads (x.files.take i) [Rn.sort x.now] d).1).2.1]) :: row 22 1 (.slice (some ⟨b8, 0, none⟩) 1 1) 1 (sls [(A6, (Rn.read (x.files.getD i []) ((Rn.Bx.reads (x.files.take i) [Rn.sort x.now] d).1)).2.1.length, c7)]) :: diskR db (Rn.read (x.files.getD i []) ((Rn.Bx.reads (x.files.take i) [Rn.sort x.now] d).1)).1 :: row 22 1 (.slice A9 (l.length + 1) c10) (l.length + 1) (sls (l ++ ([(A6, (Rn.read (x.files.getD i []) ((Rn.Bx.reads (x.files.take i) [Rn.sort x.now] d).1)).2.1.length, c7)]))) :: blk bb (.cells #[.pointer (some ⟨db, 0, none⟩), str (x.name), .int .i64 ((x.budget : Nat) : Int), .int .i64 x.how, .map (some mb), .slice (some ⟨b4, o5, none⟩) x.files.length fc, .int .i64 ((x.next : Nat) : Int)] 64) :: mp (mkN .u64) (mkN .u64) mb x.now :: que 9 (some ⟨b4, o5, none⟩) x.files.length fc (strs x.files) :: fr) := H
    refine er 2 S H (by omega) fun a w S H => ?_
    refine x_then ?_
    have hr0 : (Rn.read (x.files.getD i []) (Rn.Bx.reads (x.files.take i) [Rn.sort x.now] d).1).2.2 = 0 := by omega
    have ert := Rn.Bx.reads_take (ns := x.files) (i := i) (ls := [Rn.sort x.now]) (d := d) (by omega) hp0 hr0
    have en : l.length + 1 = (l ++ ([(A6, (Rn.read (x.files.getD i []) ((Rn.Bx.reads (x.files.take i) [Rn.sort x.now] d).1)).2.1.length, c7)])).length := by simp
    have H := pk [3, 0, 4, 5, 6, 2] 7 H
    rw [en] at H S
    have e1 : (Rn.Bx.reads (x.files.take (i + 1)) [Rn.sort x.now] d).1 = (Rn.read (x.files.getD i []) (Rn.Bx.reads (x.files.take i) [Rn.sort x.now] d).1).1 := by rw [ert]
    have e2 : (Rn.Bx.reads (x.files.take (i + 1)) [Rn.sort x.now] d).2.1 = (Rn.Bx.reads (x.files.take i) [Rn.sort x.now] d).2.1 ++ [(Rn.read (x.files.getD i []) (Rn.Bx.reads (x.files.take i) [Rn.sort x.now] d).1).2.1] := by rw [ert]
    rw [← e1, ← e2] at H
    exact ⟨(i + 1, l ++ ([(A6, (Rn.read (x.files.getD i []) ((Rn.Bx.reads (x.files.take i) [Rn.sort x.now] d).1)).2.1.length, c7)]), A9, c10), ⟨S.sub ⟨rfl, rfl, rfl, rfl, rfl, rfl, trivial⟩, H, ⟨by omega, by rw [ert], by simp; omega, by rw [e2]; exact bd_snoc hbf hbr⟩⟩, by show x.files.length - (i + 1) < x.files.length - i; omega⟩
  refine wp_exit ?_
  refine x_thenExit ?_
  refine x_thenExit ?_
  refine x_blockHere ?_
  refine x_then ?_
  have hif : i = x.files.length := by omega
  subst hif
  rw [List.take_length] at hp0 hbf H hrc
  refine sb ?_
  refine rn 5 S H t0 fun a w S H => ?_
  refine r_call (args := #[.slice Al l.length cl, .int .i64 x.how]) S rfl rfl Tryz.call28 (merge_ct (H := H) _ _ Al cl l ((Rn.Bx.reads x.files [Rn.sort x.now] d).2.1) (SlOk.ofRow (i := 0) H rfl) ((RlsOk.ofRows1 (Sat.only (pk [1] 6 H))).via fun _ H => Sat.only (pk [1] 6 H)) (hbf) (hz) (by omega) x.how) rfl rfl rfl fun v a w hR S => ?_
  obtain ⟨A11, c12, rfl, H⟩ := hR
  refine rs 4 S H t0 fun a w S H => ?_
  refine wp_ret ?_
  refine r_ret2 S H Tryz.results15 (ro_tmp S rfl) (ro_tmp S rfl) ?_
  have e : x.all d = ((Rn.Bx.reads x.files [Rn.sort x.now] d).1, (Rn.merge x.how (Rn.Bx.reads x.files [Rn.sort x.now] d).2.1).1, (Rn.merge x.how (Rn.Bx.reads x.files [Rn.sort x.now] d).2.1).2) := by unfold Rn.Bx.all; rw [if_neg (by omega)]
  rw [e]
  have H := Sat.shutBox x (pk [3, 4, 5, 0, 6] 7 H)
  exact ⟨_, _, rfl, pk [1, 0, 2] 3 H⟩

theorem clear_ct (w : World) (fr : List Res) (bb db : Nat) (x : Bx) (d : Dk.Disk) (hcnt : d.files.length ≤ 4398046511104) (H : Sat w (boxR bb db x :: diskR db d :: fr)) :
    Rt Tryz.prog 17 #[.pointer (some ⟨bb, 0, none⟩)] w fun v w' => v = .int .i64 (((x.clear d).2.2 : Nat) : Int) ∧ Sat w' (boxR bb db (x.clear d).2.1 :: diskR db (x.clear d).1 :: fr) := by
  refine en1 Tryz.func17 rfl Tryz.ntmps17 rfl fun a S => ?_
  obtain ⟨mb, fA, fc, H⟩ := Sat.openBox (H)
  refine sr 1 S H t0 fun a w S H => ?_
  refine sb ?_
  refine rn 4 S H t0 fun a w S H => ?_
  refine r_clearM (L' := blk bb (.cells #[.pointer (some ⟨db, 0, none⟩), str (x.name), .int .i64 ((x.budget : Nat) : Int), .int .i64 x.how, .map (some mb), .slice fA x.files.length fc, .int .i64 ((x.next : Nat) : Int)] 64) :: mp (mkN .u64) (mkN .u64) mb ([]) :: que 9 fA x.files.length fc (strs x.files) :: diskR db d :: fr) 1 S H rfl rfl Tryz.underlying62 rfl rfl rfl rfl fun w H => ?_
  refine sn ?_
  refine r_seq ?_
  refine r_block ?_
  refine r_loop (ι := List Nm × Dk.Disk × Option Addr × Nat) (fun ⟨fs, dd, gA, gc⟩ a w => Slots a 36 [(0, .pointer (some ⟨bb, 0, none⟩)), (36, undef)] ∧ Sat w (blk bb (.cells #[.pointer (some ⟨db, 0, none⟩), str (x.name), .int .i64 ((x.budget : Nat) : Int), .int .i64 x.how, .map (some mb), .slice gA fs.length gc, .int .i64 ((x.next : Nat) : Int)] 64) :: mp (mkN .u64) (mkN .u64) mb ([]) :: que 9 gA fs.length gc (strs fs) :: diskR db dd :: fr) ∧ ((Rn.Bx.clears x.files d) = (Rn.Bx.clears fs dd) ∧ dd.files.length ≤ d.files.length)) (fun ⟨fs, dd, gA, gc⟩ => fs.length) (x.files, d, fA, fc) ⟨S.sub ⟨rfl, rfl, trivial⟩, H, ⟨rfl, Nat.le_refl _⟩⟩ (fun ⟨fs, dd, gA, gc⟩ a w hI => ?_)
  obtain ⟨S, H, hI⟩ := hI
  obtain ⟨hcl, hdl⟩ := hI
  refine r_seq ?_
  refine sr 6 S H t0 fun a w S H => ?_
  refine r_test S rfl (fun h13 => ?_) (fun h13 => ?_)
  · skip
    refine wp_skip ?_
    refine x_then ?_
    refine r_block ?_
    refine r_seq ?_
    refine r_seq ?_
    refine ha [0, 1, 2] 4 H fun w H HS => ?_
    refine tk 0 S HS fun a S => ?_
    refine tk 1 S HS fun a S => ?_
    refine tk 2 S HS fun a S => ?_
    refine tk 3 S HS fun a S => ?_
    refine tk 4 S HS fun a S => ?_
    refine tk 5 S HS fun a S => ?_
    refine tk 6 S HS fun a S => ?_
    refine tk 7 S HS fun a S => ?_
    obtain ⟨b1, o2, rfl⟩ := (SlOk.ofQue (i := 2) HS rfl).addr HS (by first | omega | (simp <;> omega))
    refine tkY 8 S HS rfl (y_index S rfl rfl rfl Tryz.underlying46 Tryz.sizeOf9 (by omega) (by omega)) rfl rfl rfl fun a S => ?_
    refine tkY 9 S HS rfl (y_loadAt S rfl rfl Tryz.isAgg9 (fun w H => (SlOk.ofQue (i := 2) HS rfl).cell w H (strs_at (i := 0) (by first | omega | (simp <;> omega))))) rfl rfl rfl fun a S => ?_
    refine h1 10 ?_
    refine rs 1 S H (by omega) fun a w S H => ?_
    refine hk (pk [0, 1, 2] 4 H) fun HS => ?_
    refine tk 11 S HS fun a S => ?_
    refine hz ?_
    refine x_then ?_
    refine sr 2 S H t0 fun a w S H => ?_
    refine r_test S rfl (fun h26 => ?_) (fun h26 => ?_)
    · skip
      refine sr 2 S H t0 fun a w S H => ?_
      refine wp_ret ?_
      refine x_thenRet ?_
      refine x_blockRet ?_
      refine x_thenRet ?_
      refine x_blockRet ?_
      refine x_thenRet ?_
      refine r_ret1 S H Tryz.results17 (ro_tmp S rfl) ?_
      have hst := hcl.trans (Rn.Bx.clears_stop (show 0 < fs.length by omega) (show (dd.remove (fs.getD 0 [])).2 ≠ 0 by omega))
      have e : x.clear d = ((dd.remove (fs.getD 0 [])).1, { x with now := [], files := fs }, (dd.remove (fs.getD 0 [])).2) := by unfold Rn.Bx.clear; rw [hst]
      rw [e]
      exact ⟨rfl, Sat.shutBox { x with now := [], files := fs } (H)⟩
    refine wp_skip ?_
    refine x_then ?_
    refine r_region ?_
    refine rn 5 S H t0 fun a w S H => ?_
    refine r_y S H (y_sliceL (k := 1) S rfl rfl rfl Tryz.underlying46 Tryz.sizeOf9 (by first | omega | (simp <;> omega)) (by first | omega | (simp <;> omega))) rfl rfl rfl fun a S => ?_
    refine rn 3 S H t0 fun a w S H => ?_
    refine r_nil ?_
    refine x_blockEnd ?_
    refine x_then ?_
    have hr0 : (dd.remove (fs.getD 0 [])).2 = 0 := by omega
    have H := Sat.queTail (pk [2, 0, 1, 3] 4 H) 1 (by omega)
    rw [strs_drop] at H
    have en : fs.length - 1 = (fs.drop 1).length := by simp
    rw [en] at H
    have H := pk [1, 2, 0, 3] 4 H
    exact ⟨(fs.drop 1, (dd.remove (fs.getD 0 [])).1, (shift (some ⟨b1, o2, none⟩) (1 * 1) (decide (gc = 1))), (gc - 1)), ⟨S.sub ⟨rfl, rfl, trivial⟩, H, ⟨hcl.trans (Rn.Bx.clears_step (by omega) hr0), Nat.le_trans (Dk.len_remove _ _) hdl⟩⟩, by show (fs.drop 1).length < fs.length; simp; omega⟩
  refine wp_exit ?_
  refine x_thenExit ?_
  refine x_thenExit ?_
  refine x_blockHere ?_
  refine x_then ?_
  refine sr 1 S H t0 fun a w S H => ?_
  refine wp_ret ?_
  refine r_ret1 S H Tryz.results17 (ro_tmp S rfl) ?_
  have hnil : fs = [] := List.eq_nil_of_length_eq_zero (by omega)
  subst hnil
  have e : x.clear d = (dd, { x with now := [], files := [] }, 0) := by unfold Rn.Bx.clear; rw [hcl]; rfl
  rw [e]
  exact ⟨rfl, Sat.shutBox { x with now := [], files := [] } (H)⟩

end Go.Proofs.YtembfpadojnpmaaGreatDoor
namespace Go.Proofs.YtembfpadojnpmaaGreatDoor
open Go.RowKit Go.Cg
set_option linter.unusedVariables false
set_option linter.unusedSimpArgs false
set_option maxRecDepth 8000
set_option synthInstance.maxHeartbeats 1000000
set_option synthInstance.maxSize 1000000
open Go.Cg.Dk (By Nm)
open Go.Cg.Rn (R Bd Bx)
theorem shown_ct (w : World) (fr : List Res) (hl : Laid fr) (H : Sat w (fr)) :
    Rt Tryz.prog 9 #[] w fun v w' => v = .bool true ∧ Sat w' fr := by
  refine en0 Tryz.func9 rfl Tryz.ntmps9 rfl fun a S => ?_
  obtain ⟨d1, x1, d2, x2, d3, x3, d4, d5, x5, e1, e2, e3, e4, e5, hf3, hn5, hu5, ft0, ft1, ft2, ft3, k0, k1, k2, k3, k4, hz⟩ := Rn.Bx.shown_plan
  refine sr 1 S H t0 fun a w S H => ?_
  refine sb ?_
  refine r_call (args := #[.int .i64 100]) S rfl rfl Tryz.call10 (new_ct (H := H) _ _ 100 (by omega)) rfl rfl rfl fun v a w hR S => ?_
  obtain ⟨db2, rfl, H⟩ := hR
  refine rs 1 S H t0 fun a w S H => ?_
  refine r_seq ?_
  refine sr 2 S H t0 fun a w S H => ?_
  refine r_condF S rfl ?_
  refine wp_skip ?_
  refine x_then ?_
  refine sb ?_
  refine rn 1 S H t0 fun a w S H => ?_
  refine r_call (args := #[.pointer (some ⟨db2, 0, none⟩), str ([98]), .int .i64 1, .int .i64 1]) S rfl rfl Tryz.call11 (newbox_ct (H := H) _ _ db2 ([98]) 1 1 (by omega) (by omega)) rfl rfl rfl fun v a w hR S => ?_
  obtain ⟨b5, rfl, H⟩ := hR
  refine rs 5 S H t0 fun a w S H => ?_
  refine r_seq ?_
  refine sb ?_
  refine rn 2 S H t0 fun a w S H => ?_
  have S := S.retell (v' := .bool false) 24 rfl rfl
  refine rs 4 S H t0 fun a w S H => ?_
  refine r_condF S rfl ?_
  refine wp_skip ?_
  refine x_then ?_
  refine sb ?_
  refine rn 1 S H t0 fun a w S H => ?_
  refine r_y S H (y_build (vs := #[(0, .int .u64 1), (1, .int .u64 5)]) (v := .agg #[.int .u64 1, .int .u64 5]) S rfl rfl (fun w => by kernel_rfl)) rfl rfl rfl fun a S => ?_
  refine r_call (args := #[.pointer (some ⟨b5, 0, none⟩), .agg #[.int .u64 1, .int .u64 5]]) S rfl rfl Tryz.call12 (boxput_ct (H := H) _ _ (hl.via fun _ H => H) b5 db2 (Rn.Bx.new ([98]) 1 1) (1, 5) (Dk.fresh 100) _ ft0 (by omega) (by omega) (by decide)) rfl rfl rfl fun v a w hR S => ?_
  obtain ⟨rfl, H⟩ := hR
  have e1' : Rn.Bx.put (Rn.Bx.new ([98]) 1 1) (1, 5) (Dk.fresh 100) = (d1, x1, 0) := e1
  rw [e1'] at S H
  dsimp only at S H
  refine rs 1 S H t0 fun a w S H => ?_
  refine sb ?_
  refine rn 1 S H t0 fun a w S H => ?_
  refine r_y S H (y_build (vs := #[(0, .int .u64 2), (1, .int .u64 5)]) (v := .agg #[.int .u64 2, .int .u64 5]) S rfl rfl (fun w => by kernel_rfl)) rfl rfl rfl fun a S => ?_
  refine r_call (args := #[.pointer (some ⟨b5, 0, none⟩), .agg #[.int .u64 2, .int .u64 5]]) S rfl rfl Tryz.call12 (boxput_ct (H := H) _ _ (hl.via fun _ H => H) b5 db2 x1 (2, 5) d1 _ ft1 (by omega) (by omega) (by decide)) rfl rfl rfl fun v a w hR S => ?_
  obtain ⟨rfl, H⟩ := hR
  rw [e2] at S H
  dsimp only at S H
  refine rs 1 S H t0 fun a w S H => ?_
  refine sb ?_
  refine rn 1 S H t0 fun a w S H => ?_
  refine r_y S H (y_build (vs := #[(0, .int .u64 1), (1, .int .u64 1)]) (v := .agg #[.int .u64 1, .int .u64 1]) S rfl rfl (fun w => by kernel_rfl)) rfl rfl rfl fun a S => ?_
  refine r_call (args := #[.pointer (some ⟨b5, 0, none⟩), .agg #[.int .u64 1, .int .u64 1]]) S rfl rfl Tryz.call12 (boxput_ct (H := H) _ _ (hl.via fun _ H => H) b5 db2 x2 (1, 1) d2 _ ft2 (by omega) (by omega) (by decide)) rfl rfl rfl fun v a w hR S => ?_
  obtain ⟨rfl, H⟩ := hR
  rw [e3] at S H
  dsimp only at S H
  refine rs 1 S H t0 fun a w S H => ?_
  refine sb ?_
  refine rn 1 S H t0 fun a w S H => ?_
  refine r_call (args := #[.pointer (some ⟨b5, 0, none⟩)]) S rfl rfl Tryz.call15 (all_ct (H := H) _ _ b5 db2 x3 d3 _ ft3 (by omega) (by omega) (hz)) rfl rfl rfl fun v a w hR S => ?_
  obtain ⟨A6, c7, rfl, H⟩ := hR
  rw [e4] at S H
  dsimp only at S H
  have hl2 : ([(1, 6), (2, 5)] : List R).length = 2 := rfl
  rw [hl2] at S H
  refine rs 5 S H t0 fun a w S H => ?_
  refine sb ?_
  refine rn 1 S H t0 fun a w S H => ?_
  refine r_call (args := #[.pointer (some ⟨b5, 0, none⟩)]) S rfl rfl Tryz.call14 (bspl_ct (H := (pk [1, 0, 2] 3 H)) _ _ b5 db2 x3) rfl rfl rfl fun v a w hR S => ?_
  obtain ⟨rfl, H⟩ := hR
  rw [hf3] at S
  refine rs 1 S H t0 fun a w S H => ?_
  refine sb ?_
  refine rn 1 S H t0 fun a w S H => ?_
  refine r_call (args := #[.pointer (some ⟨b5, 0, none⟩)]) S rfl rfl Tryz.call17 (clear_ct (H := (pk [0, 2, 1] 3 H)) _ _ b5 db2 x3 d4 (by omega)) rfl rfl rfl fun v a w hR S => ?_
  obtain ⟨rfl, H⟩ := hR
  rw [e5] at S H
  dsimp only at S H
  refine rs 1 S H t0 fun a w S H => ?_
  refine sb ?_
  refine rn 1 S H t0 fun a w S H => ?_
  refine r_call (args := #[.pointer (some ⟨db2, 0, none⟩), str ([98]), .int .i64 0, .int .i64 1]) S rfl rfl Tryz.call11 (newbad_ct (H := H) _ _ db2 ([98]) 0 1 (by omega)) rfl rfl rfl fun v a w hR S => ?_
  obtain ⟨rfl, H⟩ := hR
  refine rs 5 S H t0 fun a w S H => ?_
  refine sb ?_
  refine rn 1 S H t0 fun a w S H => ?_
  refine r_call (args := #[.pointer (some ⟨db2, 0, none⟩), str ([98]), .int .i64 1, .int .i64 0]) S rfl rfl Tryz.call11 (newbad_ct (H := H) _ _ db2 ([98]) 1 0 (by omega)) rfl rfl rfl fun v a w hR S => ?_
  obtain ⟨rfl, H⟩ := hR
  refine rs 5 S H t0 fun a w S H => ?_
  refine sb ?_
  refine rn 2 S H t0 fun a w S H => ?_
  have S := S.retell (v' := .bool true) 58 rfl rfl
  refine rn 3 S H t0 fun a w S H => ?_
  have S := S.retell (v' := .bool true) 61 rfl rfl
  refine rn 4 S H t0 fun a w S H => ?_
  have S := S.retell (v' := .bool true) 65 rfl rfl
  refine rn 4 S H t0 fun a w S H => ?_
  have S := S.retell (v' := .bool true) 69 rfl rfl
  refine rn 5 S H t0 fun a w S H => ?_
  have S := S.retell (v' := .bool true) 74 rfl rfl
  refine rn 3 S H t0 fun a w S H => ?_
  obtain ⟨b8, rfl⟩ := H.rowAt (i := 2) rfl (by first | omega | (simp <;> omega))
  refine r_y S H (y_index S rfl rfl rfl Tryz.underlying22 Tryz.sizeOf33 (by omega) (by omega)) rfl rfl rfl fun a S => ?_
  refine rn 1 S H t0 fun a w S H => ?_
  refine r_y S H (y_loadAt S rfl rfl Tryz.isAgg31 (fun w H => (SlOk.ofRow (i := 2) H rfl).cell w H (recs_from (i := 0) (by first | omega | (simp <;> omega)) 1 _ rfl))) rfl rfl rfl fun a S => ?_
  have S := S.retell (v' := .int .u64 6) 80 rfl rfl
  refine rn 1 S H t0 fun a w S H => ?_
  have S := S.retell (v' := .bool true) 81 rfl rfl
  refine rn 4 S H t0 fun a w S H => ?_
  have S := S.retell (v' := .bool true) 85 rfl rfl
  refine rn 3 S H t0 fun a w S H => ?_
  refine r_call (args := #[.pointer (some ⟨b5, 0, none⟩)]) S rfl rfl Tryz.call13 (blen_ct (H := H) _ _ b5 db2 x5) rfl rfl rfl fun v a w hR S => ?_
  obtain ⟨rfl, H⟩ := hR
  rw [hn5] at S
  refine rn 1 S H t0 fun a w S H => ?_
  have S := S.retell (v' := .bool true) 90 rfl rfl
  refine rn 4 S H t0 fun a w S H => ?_
  have S := S.retell (v' := .bool true) 94 rfl rfl
  refine rn 3 S H t0 fun a w S H => ?_
  refine r_call (args := #[.pointer (some ⟨db2, 0, none⟩)]) S rfl rfl Tryz.call23 (dused_ct (H := (pk [1, 0, 2] 3 H)) _ _ db2 d5) rfl rfl rfl fun v a w hR S => ?_
  obtain ⟨rfl, H⟩ := hR
  rw [hu5] at S
  refine rn 1 S H t0 fun a w S H => ?_
  have S := S.retell (v' := .bool true) 99 rfl rfl
  refine rn 4 S H t0 fun a w S H => ?_
  have S := S.retell (v' := .bool true) 103 rfl rfl
  refine rn 4 S H t0 fun a w S H => ?_
  have S := S.retell (v' := .bool true) 107 rfl rfl
  refine rs 2 S H t0 fun a w S H => ?_
  refine wp_ret ?_
  refine r_ret1 S H Tryz.results9 (ro_tmp S rfl) ?_
  exact ⟨rfl, H.drop.drop.drop⟩

end Go.Proofs.YtembfpadojnpmaaGreatDoor
namespace Go.Proofs.YtembfpadojnpmaaGreatDoor
open Go.RowKit Go.Cg
set_option linter.unusedVariables false
set_option linter.unusedSimpArgs false
set_option maxRecDepth 8000
set_option synthInstance.maxHeartbeats 1000000
set_option synthInstance.maxSize 1000000
theorem el30 : Elem Tryz.prog 30 31 1 8 (.int .u64 0) := ⟨Tryz.underlying30, by kernel_rfl, rfl, by decide⟩
open Go.Cg.Dk (By Nm)
open Go.Cg.Rn (R Bd Bx)
theorem maskL {P : Program} {t : TypeId} (k : Nat) (N M : Int) (hN : N = ((2 ^ k : Nat) : Int)) (hM : (BitVec.ofInt 64 M).toNat = 2 ^ k - 1) (hk : k ≤ 62) (n : Int) (w : World) : (binOp .and t (.int .i64 n) (.int .i64 M)).run P w = .ok (.int .i64 (n % N)) w := by
  have hp : 2 ^ k ≤ 2 ^ 62 := Nat.pow_le_pow_right (by omega) hk
  have h1 : 0 < 2 ^ k := Nat.two_pow_pos k
  have hd : (2 ^ k : Nat) ∣ 2 ^ 64 := Nat.pow_dvd_pow 2 (by omega)
  have key : (BitVec.ofInt 64 n &&& BitVec.ofInt 64 M).toNat = (n % ((2 ^ 64 : Nat) : Int)).toNat % 2 ^ k := by
    rw [BitVec.toNat_and, BitVec.toNat_ofInt, hM, Nat.and_two_pow_sub_one_eq_mod]
  generalize 2 ^ k = K at *
  subst hN
  have h : bits .and .i64 n M = n % (K : Int) := by
    show IntKind.i64.wrap ((BitVec.ofInt 64 n &&& BitVec.ofInt 64 M).toNat : Nat) = n % (K : Int)
    rw [key]
    have h0 : 0 ≤ n % ((2 ^ 64 : Nat) : Int) := Int.emod_nonneg _ (by decide)
    have e : (((n % ((2 ^ 64 : Nat) : Int)).toNat % K : Nat) : Int) = n % (K : Int) := by
      rw [Int.natCast_emod, Int.toNat_of_nonneg h0]
      exact Int.emod_emod_of_dvd n (Int.ofNat_dvd.2 hd)
    rw [e]
    have a1 : 0 ≤ n % (K : Int) := Int.emod_nonneg _ (by omega)
    have a2 : n % (K : Int) < K := Int.emod_lt_of_pos _ (by omega)
    rw [IntKind.wrap_i64]
    omega
  rw [binOp_and, intBits_and, h, Sem.run_pure]
theorem spill_cases (x : Bx) (k : Nat) : x.has k = true ∨ (x.has k = false ∧ x.now.length = x.budget) ∨ (x.has k = false ∧ ¬ x.now.length = x.budget) := by
  cases x.has k
  · by_cases h : x.now.length = x.budget <;> simp [h]
  · simp
theorem law_spills (w : World) (fr : List Res) (hl : Laid fr) (A : Option Addr) (n c : Nat) (l : List R) (ok0 : SlOk fr 2 A n c (recs l)) (hB : Bd l) (a1 : Int) (H : Sat w (fr)) :
    Rt Tryz.prog 3 #[.slice A n c, .int .i64 a1] w fun v w' => v = .bool true ∧ Sat w' fr := by
  refine en2 Tryz.func3 rfl Tryz.ntmps3 rfl fun a S => ?_
  obtain rfl := SlOk.nR ok0
  have hcpl := ok0.le
  have hcql := ok0.cap
  simp only [maxLen] at hcql
  refine sr 1 S H t0 fun a w S H => ?_
  refine sb ?_
  refine r_call (args := #[]) S rfl rfl Tryz.call9 (shown_ct (H := H) _ _ (hl.via fun _ H => H)) rfl rfl rfl fun v a w hR S => ?_
  obtain ⟨rfl, H⟩ := hR
  refine rs 1 S H t0 fun a w S H => ?_
  refine sb ?_
  refine rn 1 S H t0 fun a w S H => ?_
  refine r_y S H (y_bitop S rfl rfl rfl (fun w => maskL 16 65536 65535 (by decide) (by decide) (by decide) a1 w)) rfl rfl rfl fun a S => ?_
  refine r_y S H (y_remN S rfl rfl rfl (by omega) (by omega)) rfl rfl rfl fun a S => ?_
  refine rs 2 S H (by omega) fun a w S H => ?_
  obtain ⟨bn, hbn⟩ : ∃ x : Nat, ((x : Nat) : Int) = 1 + a1 % 65536 % 20 := ⟨(1 + a1 % 65536 % 20).toNat, by omega⟩
  have S := S.retell (v' := .int .i64 ((bn : Nat) : Int)) 1 rfl (by rw [hbn])
  have hbnb : bn ≤ 20 := by omega
  have hbn1 : 1 ≤ bn := by omega
  refine sb ?_
  refine r_call (args := #[.int .i64 10000]) S rfl rfl Tryz.call10 (new_ct (H := H) _ _ 10000 (by omega)) rfl rfl rfl fun v a w hR S => ?_
  obtain ⟨db2, rfl, H⟩ := hR
  refine rs 1 S H t0 fun a w S H => ?_
  refine r_seq ?_
  refine sr 2 S H t0 fun a w S H => ?_
  refine r_condF S rfl ?_
  refine wp_skip ?_
  refine x_then ?_
  refine sb ?_
  refine rn 2 S H t0 fun a w S H => ?_
  refine r_call (args := #[.pointer (some ⟨db2, 0, none⟩), str ([98, 111, 120]), .int .i64 ((bn : Nat) : Int), .int .i64 2]) S rfl rfl Tryz.call11 (newbox_ct (H := H) _ _ db2 ([98, 111, 120]) bn 2 (by omega) (.inr rfl)) rfl rfl rfl fun v a w hR S => ?_
  obtain ⟨b3, rfl, H⟩ := hR
  refine rs 5 S H t0 fun a w S H => ?_
  refine r_seq ?_
  refine sb ?_
  refine rn 2 S H t0 fun a w S H => ?_
  have S := S.retell (v' := .bool false) 29 rfl rfl
  refine rs 4 S H t0 fun a w S H => ?_
  refine r_condF S rfl ?_
  refine wp_skip ?_
  refine x_then ?_
  refine sr 1 S H t0 fun a w S H => ?_
  refine sr 1 S H t0 fun a w S H => ?_
  refine r_seq ?_
  refine sr 1 S H t0 fun a w S H => ?_
  refine r_block ?_
  have H := H.nilRow 31 1
  refine r_loop (ι := Nat × Bx × List (List R) × Dk.Disk × Option Addr × Nat) (fun ⟨i, x, cs, d, An, cn⟩ a w => Slots a 104 [(0, .slice A l.length c), (1, .int .i64 ((bn : Nat) : Int)), (5, .bool true), (7, .pointer (some ⟨b3, 0, none⟩)), (9, .slice An x.ks.length cn), (10, .int .i64 ((cs.length : Nat) : Int)), (11, .int .i64 ((i : Nat) : Int)), (104, undef)] ∧ Sat w (boxR b3 db2 x :: diskR db2 d :: row 31 1 (.slice An x.ks.length cn) x.ks.length (u64s x.ks) :: fr) ∧ (i ≤ l.length ∧ i ≤ 100 ∧ Cl.Q d ∧ d.room = 10000 ∧ Rn.Bx.Run [98, 111, 120] bn 2 (l.take i) d.files x cs ∧ Dk.used d.files + 2 * x.now.length ≤ 2 * i ∧ d.files.length ≤ i)) (fun ⟨i, x, cs, d, An, cn⟩ => 100 - i) (0, Rn.Bx.new [98, 111, 120] bn 2, [], Dk.fresh 10000, none, 0) ⟨S.sub ⟨rfl, rfl, rfl, rfl, rfl, rfl, rfl, rfl, trivial⟩, pk [1, 2, 0] 3 H, ⟨Nat.zero_le _, Nat.zero_le _, Rn.Bx.fresh_q (by decide), rfl, Rn.Bx.Run.new (by decide) ⟨hbn1, by omega⟩ (.inr rfl) (fun i => rfl), Nat.le_refl _, Nat.le_refl _⟩⟩ (fun ⟨i, x, cs, d, An, cn⟩ a w hI => ?_)
  obtain ⟨S, H, hI⟩ := hI
  obtain ⟨hil, hi1, hq, hrm, hR, hpot, hcnt⟩ := hI
  have hbud := hR.budget
  have hnow := hR.on.now
  have hksl : x.ks.length ≤ 20 := by rw [Rn.Bx.ks_len]; omega
  have hcl := hR.on.le
  have hnx := hR.next
  rw [List.length_take] at hnx
  refine r_seq ?_
  refine sb ?_
  refine rn 5 S H t0 fun a w S H => ?_
  refine scA 1 S H (fun _ => t0) fun a w S H => ?_
  refine sn ?_
  refine r_cond S rfl (fun h41 => ?_) (fun h41 => ?_)
  · skip
    simp only [Bool.and_eq_true, decide_eq_true_eq] at h41
    refine wp_skip ?_
    refine x_then ?_
    refine r_seq ?_
    refine r_block ?_
    refine sr 1 S H t0 fun a w S H => ?_
    refine r_seq ?_
    refine sr 1 S H t0 fun a w S H => ?_
    refine r_block ?_
    refine r_loop (ι := Nat) (fun k a w => Slots a 104 [(0, .slice A l.length c), (1, .int .i64 ((bn : Nat) : Int)), (5, .bool true), (7, .pointer (some ⟨b3, 0, none⟩)), (9, .slice An x.ks.length cn), (10, .int .i64 ((cs.length : Nat) : Int)), (11, .int .i64 ((i : Nat) : Int)), (12, .bool (Rn.Bx.inT x.ks k (l.getD i (0, 0)).1)), (13, .int .i64 ((k : Nat) : Int)), (34, .int .i64 ((i : Nat) : Int)), (35, .slice A l.length c), (36, .int .i64 ((l.length : Nat) : Int)), (37, .bool (decide (((i : Nat) : Int) < ((l.length : Nat) : Int)))), (38, .bool (decide (((i : Nat) : Int) < ((l.length : Nat) : Int)))), (41, .bool ((decide (((i : Nat) : Int) < ((l.length : Nat) : Int))) && (decide (((i : Nat) : Int) < 100)))), (104, undef)] ∧ Sat w (boxR b3 db2 x :: diskR db2 d :: row 31 1 (.slice An x.ks.length cn) x.ks.length (u64s x.ks) :: fr) ∧ (k ≤ x.ks.length)) (fun k => x.ks.length - k) 0 ⟨S.sub ⟨rfl, rfl, rfl, rfl, rfl, rfl, rfl, (by rw [Rn.Bx.inT_zero]; rfl), rfl, rfl, rfl, rfl, rfl, rfl, rfl, rfl, trivial⟩, H, (Nat.zero_le _)⟩ (fun k a w hI => ?_)
    obtain ⟨S, H, hI⟩ := hI
    have hkl := hI
    refine r_seq ?_
    refine sr 4 S H t0 fun a w S H => ?_
    refine r_test S rfl (fun h47 => ?_) (fun h47 => ?_)
    · skip
      refine wp_skip ?_
      refine x_then ?_
      refine r_seq ?_
      refine r_block ?_
      rcases Bool.eq_false_or_eq_true (Rn.Bx.inT x.ks k (l.getD i (0, 0)).1) with hin | hin
      · skip
        have S := S.retell (v' := .bool true) 12 rfl (by rw [hin])
        refine qe 14 S H t0 fun a w S H => ?_
        refine x_blockEnd ?_
        refine x_then ?_
        refine er 3 S H (by omega) fun a w S H => ?_
        refine x_then ?_
        exact ⟨(k + 1), ⟨S.sub ⟨rfl, rfl, rfl, rfl, rfl, rfl, rfl, (by rw [Rn.Bx.inT_true hin]; rfl), rfl, rfl, rfl, rfl, rfl, rfl, rfl, rfl, trivial⟩, H, (by omega : k + 1 ≤ x.ks.length)⟩, by show x.ks.length - (k + 1) < x.ks.length - k; omega⟩
      have S := S.retell (v' := .bool false) 12 rfl (by rw [hin])
      obtain ⟨b4, rfl⟩ := H.rowAt (i := 2) rfl (by omega)
      obtain ⟨b5, o6, rfl⟩ := (((ok0.more _).more _).more _).addr H (by omega)
      apply qbe H rfl (by kernel_rfl)
      · skip
        refine qn 4 S t0 fun a S => ?_
        refine q_y S (y_index S rfl rfl rfl Tryz.underlying30 Tryz.sizeOf31 (by omega) (by omega)) rfl rfl rfl fun a S => ?_
        refine q_y S (y_loadAt S rfl rfl Tryz.isAgg31 (fun w H => (SlOk.ofRow (i := 2) H rfl).cell w H (u64s_at (i := k) (by first | omega | (simp <;> omega))))) rfl rfl rfl fun a S => ?_
        refine qn 2 S t0 fun a S => ?_
        refine q_y S (y_index S rfl rfl rfl Tryz.underlying22 Tryz.sizeOf33 (by omega) (by omega)) rfl rfl rfl fun a S => ?_
        refine qn 1 S t0 fun a S => ?_
        refine q_y S (y_loadAt S rfl rfl Tryz.isAgg31 (fun w H => (((ok0.more _).more _).more _).cell w H (recs_from (i := i) (by first | omega | (simp <;> omega)) 0 _ rfl))) rfl rfl rfl fun a S => ?_
        refine qn 3 S t0 fun a S => ?_
        exact q_nil S
      · intro a w S H
        refine x_blockEnd ?_
        refine x_then ?_
        refine er 3 S H (by omega) fun a w S H => ?_
        refine x_then ?_
        exact ⟨(k + 1), ⟨S.sub ⟨rfl, rfl, rfl, rfl, rfl, rfl, rfl, (by rw [Rn.Bx.inT_false (by omega) hin]; rfl), rfl, rfl, rfl, rfl, rfl, rfl, rfl, rfl, trivial⟩, H, (by omega : k + 1 ≤ x.ks.length)⟩, by show x.ks.length - (k + 1) < x.ks.length - k; omega⟩
    refine wp_exit ?_
    refine x_thenExit ?_
    refine x_thenExit ?_
    refine x_blockHere ?_
    refine x_then ?_
    refine r_seq ?_
    have hkk : k = x.ks.length := by omega
    subst hkk
    have S := S.retell (v' := .bool (x.has (l.getD i (0, 0)).1)) 12 rfl (by rw [Rn.Bx.inT_all])
    rcases spill_cases x (l.getD i (0, 0)).1 with hh | ⟨hh, hf⟩ | ⟨hh, hf⟩
    · skip
      have S := S.retell (v' := .bool true) 12 rfl (by rw [hh])
      refine sr 8 S H t0 fun a w S H => ?_
      refine r_condF S rfl ?_
      refine wp_skip ?_
      refine x_then ?_
      refine r_seq ?_
      refine sr 2 S H t0 fun a w S H => ?_
      refine r_condF S rfl ?_
      refine wp_skip ?_
      refine x_then ?_
      refine sb ?_
      refine rn 3 S H t0 fun a w S H => ?_
      obtain ⟨b7, o8, rfl⟩ := (((ok0.more _).more _).more _).addr H (by first | omega | (simp <;> omega))
      refine r_y S H (y_index S rfl rfl rfl Tryz.underlying22 Tryz.sizeOf33 (by omega) (by omega)) rfl rfl rfl fun a S => ?_
      refine r_y S H (y_loadAggAt [.int .u64 (((l.getD i (0, 0)).1 : Nat) : Int), .int .u64 (((l.getD i (0, 0)).2 : Nat) : Int)] S rfl rfl (fun w => ⟨Tryz.isAgg33 w, Tryz.sizeOf33 w⟩) rfl (fun w H => (((ok0.more _).more _).more _).cells w H (recs_from (i := i) (by first | omega | (simp <;> omega))))) rfl rfl rfl fun a S => ?_
      refine r_call (args := #[.pointer (some ⟨b3, 0, none⟩), .agg #[.int .u64 (((l.getD i (0, 0)).1 : Nat) : Int), .int .u64 (((l.getD i (0, 0)).2 : Nat) : Int)]]) S rfl rfl Tryz.call12 (boxput_ct (H := H) _ _ (hl.via fun _ H => H.drop) b3 db2 x (l.getD i (0, 0)) d _ hR.on.fit (by omega) (by omega) (hB.at (i := i) (by omega))) rfl rfl rfl fun v a w hR S => ?_
      obtain ⟨rfl, H⟩ := hR
      obtain ⟨d', x', cs', ep', q', rm', hp', R'⟩ := hR.step hq (by simp; omega) (r := (l.getD i (0, 0))) (hB.at (i := i) (by omega)) (by omega)
      have hcn' := Rn.Bx.put_cnt' ep'
      have hon' := R'.on.len
      rw [ep'] at S H
      dsimp only at S H
      have hk := hp'.ksY hh
      have hkl' := congrArg List.length hk.1
      simp only [Rn.Bx.ks_len, List.length_append, List.length_cons, List.length_nil] at hkl'
      refine rn 1 S H t0 fun a w S H => ?_
      have S := S.retell (v' := .bool false) 89 rfl rfl
      refine rn 2 S H t0 fun a w S H => ?_
      refine r_call (args := #[.pointer (some ⟨b3, 0, none⟩)]) S rfl rfl Tryz.call13 (blen_ct (H := H) _ _ b3 db2 x') rfl rfl rfl fun v a w hR S => ?_
      obtain ⟨rfl, H⟩ := hR
      refine rn 2 S H t0 fun a w S H => ?_
      refine r_y S H (y_ne S rfl rfl rfl) rfl rfl rfl fun a S => ?_
      have S := S.retell (v' := .bool false) 95 rfl (by rw [decide_eq_false (by simp only [Rn.Bx.ks_len] at *; omega)])
      refine rn 3 S H t0 fun a w S H => ?_
      refine r_call (args := #[.pointer (some ⟨b3, 0, none⟩)]) S rfl rfl Tryz.call14 (bspl_ct (H := H) _ _ b3 db2 x') rfl rfl rfl fun v a w hR S => ?_
      obtain ⟨rfl, H⟩ := hR
      refine rn 1 S H t0 fun a w S H => ?_
      refine r_y S H (y_ne S rfl rfl rfl) rfl rfl rfl fun a S => ?_
      have S := S.retell (v' := .bool false) 101 rfl (by rw [decide_eq_false (by have := hk.2; omega)])
      refine rs 1 S H t0 fun a w S H => ?_
      refine r_condF S rfl ?_
      refine wp_skip ?_
      refine x_blockEnd ?_
      refine x_then ?_
      refine er 3 S H (by omega) fun a w S H => ?_
      refine x_then ?_
      have hkn : x'.ks.length = x.ks.length := by rw [hk.1] <;> simp
      have H := H
      exact ⟨(i + 1, x', cs', d', An, cn), ⟨S.sub ⟨rfl, rfl, rfl, rfl, (show lk _ _ = some (.slice _ x'.ks.length _) from by rw [hkn]; rfl), (show lk _ _ = some (.int .i64 ((cs'.length : Nat) : Int)) from by rw [hk.2]; rfl), rfl, rfl, trivial⟩, (by rw [hkn, hk.1]; exact H), ⟨by omega, by omega, q', rm'.trans hrm, (by rw [Rn.take_snoc (by omega)]; exact R'), by have := hp'.pot; omega, by omega⟩⟩, by show 100 - (i + 1) < 100 - i; omega⟩
    · skip
      have S := S.retell (v' := .bool false) 12 rfl (by rw [hh])
      refine sb ?_
      refine rn 6 S H t0 fun a w S H => ?_
      refine r_y S H (y_eq S rfl rfl rfl) rfl rfl rfl fun a S => ?_
      have S := S.retell (v' := .bool true) 69 rfl (by rw [decide_eq_true (by simp only [Rn.Bx.ks_len] at *; omega)])
      refine rs 1 S H t0 fun a w S H => ?_
      refine r_condT S rfl ?_
      refine sr 1 S H t0 fun a w S H => ?_
      refine r_region ?_
      refine rn 1 S H t0 fun a w S H => ?_
      refine r_y S H (y_add S rfl rfl rfl (wi64 (by omega) (by omega))) rfl rfl rfl fun a S => ?_
      have S := S.retell (v' := .int .i64 (((cs.length + 1) : Nat) : Int)) 72 rfl (int_eq (by omega))
      refine rn 1 S H t0 fun a w S H => ?_
      refine r_nil ?_
      refine x_then ?_
      refine r_seq ?_
      refine sr 2 S H t0 fun a w S H => ?_
      refine r_condT S rfl ?_
      refine r_region ?_
      refine rn 3 S H t0 fun a w S H => ?_
      obtain ⟨b9, o10, rfl⟩ := (((ok0.more _).more _).more _).addr H (by first | omega | (simp <;> omega))
      refine r_y S H (y_index S rfl rfl rfl Tryz.underlying22 Tryz.sizeOf33 (by omega) (by omega)) rfl rfl rfl fun a S => ?_
      refine rn 1 S H t0 fun a w S H => ?_
      refine r_y S H (y_loadAt S rfl rfl Tryz.isAgg31 (fun w H => (((ok0.more _).more _).more _).cell w H (recs_from (i := i) (by first | omega | (simp <;> omega)) 0 _ rfl))) rfl rfl rfl fun a S => ?_
      refine r_lit (vs := #[(0, .int .u64 (((l.getD i (0, 0)).1 : Nat) : Int))]) (cs := u64s [((l.getD i (0, 0)).1)]) S H rfl rfl el30 (by kernel_rfl) (by decide) (by rfl) rfl rfl rfl fun a w b11 S H => ?_
      have H := H.nilRow 31 1
      refine r_appendS (L' := fun A12 c13 => row 31 1 (.slice A12 1 c13) 1 (u64s ([((l.getD i (0, 0)).1)])) :: row 31 1 (.slice (some ⟨b11, 0, none⟩) 1 1) 1 (u64s [((l.getD i (0, 0)).1)]) :: boxR b3 db2 x :: diskR db2 d :: row 31 1 (.slice An x.ks.length cn) x.ks.length (u64s x.ks) :: fr) (xs' := u64s ([((l.getD i (0, 0)).1)])) 0 S H rfl rfl rfl rfl el30 (SlOk.ofRow (i := 1) H rfl) (one_u64s _) (by simp only [maxLen]; first | omega | (simp <;> omega)) (by first | omega | (simp <;> omega)) (List.nil_append _) (by first | omega | (simp <;> omega)) (fun _ _ => rfl) rfl rfl rfl fun a w A12 c13 hA12 S H => ?_
      refine rn 1 S H t0 fun a w S H => ?_
      refine r_nil ?_
      refine x_then ?_
      refine sb ?_
      refine rn 3 S H t0 fun a w S H => ?_
      refine r_y S H (y_index S rfl rfl rfl Tryz.underlying22 Tryz.sizeOf33 (by omega) (by omega)) rfl rfl rfl fun a S => ?_
      refine r_y S H (y_loadAggAt [.int .u64 (((l.getD i (0, 0)).1 : Nat) : Int), .int .u64 (((l.getD i (0, 0)).2 : Nat) : Int)] S rfl rfl (fun w => ⟨Tryz.isAgg33 w, Tryz.sizeOf33 w⟩) rfl (fun w H => (((((ok0.more _).more _).more _).more _).more _).cells w H (recs_from (i := i) (by first | omega | (simp <;> omega))))) rfl rfl rfl fun a S => ?_
      refine r_call (args := #[.pointer (some ⟨b3, 0, none⟩), .agg #[.int .u64 (((l.getD i (0, 0)).1 : Nat) : Int), .int .u64 (((l.getD i (0, 0)).2 : Nat) : Int)]]) S rfl rfl Tryz.call12 (boxput_ct (H := (pk [2, 3, 0, 1, 4] 5 H)) _ _ (hl.via fun _ H => H.drop.drop.drop) b3 db2 x (l.getD i (0, 0)) d _ hR.on.fit (by omega) (by omega) (hB.at (i := i) (by omega))) rfl rfl rfl fun v a w hR S => ?_
      obtain ⟨rfl, H⟩ := hR
      obtain ⟨d', x', cs', ep', q', rm', hp', R'⟩ := hR.step hq (by simp; omega) (r := (l.getD i (0, 0))) (hB.at (i := i) (by omega)) (by omega)
      have hcn' := Rn.Bx.put_cnt' ep'
      have hon' := R'.on.len
      rw [ep'] at S H
      dsimp only at S H
      have hk := hp'.ksF hh hf
      have hkl' := congrArg List.length hk.1
      simp only [Rn.Bx.ks_len, List.length_append, List.length_cons, List.length_nil] at hkl'
      refine rn 1 S H t0 fun a w S H => ?_
      have S := S.retell (v' := .bool false) 89 rfl rfl
      refine rn 2 S H t0 fun a w S H => ?_
      refine r_call (args := #[.pointer (some ⟨b3, 0, none⟩)]) S rfl rfl Tryz.call13 (blen_ct (H := H) _ _ b3 db2 x') rfl rfl rfl fun v a w hR S => ?_
      obtain ⟨rfl, H⟩ := hR
      refine rn 2 S H t0 fun a w S H => ?_
      refine r_y S H (y_ne S rfl rfl rfl) rfl rfl rfl fun a S => ?_
      have S := S.retell (v' := .bool false) 95 rfl (by rw [decide_eq_false (by simp only [Rn.Bx.ks_len] at *; omega)])
      refine rn 3 S H t0 fun a w S H => ?_
      refine r_call (args := #[.pointer (some ⟨b3, 0, none⟩)]) S rfl rfl Tryz.call14 (bspl_ct (H := H) _ _ b3 db2 x') rfl rfl rfl fun v a w hR S => ?_
      obtain ⟨rfl, H⟩ := hR
      refine rn 1 S H t0 fun a w S H => ?_
      refine r_y S H (y_ne S rfl rfl rfl) rfl rfl rfl fun a S => ?_
      have S := S.retell (v' := .bool false) 101 rfl (by rw [decide_eq_false (by have := hk.2; omega)])
      refine rs 1 S H t0 fun a w S H => ?_
      refine r_condF S rfl ?_
      refine wp_skip ?_
      refine x_blockEnd ?_
      refine x_then ?_
      refine er 3 S H (by omega) fun a w S H => ?_
      refine x_then ?_
      have hkn : x'.ks.length = 1 := by rw [hk.1] <;> simp
      have H := pk [0, 1, 2] 5 H
      exact ⟨(i + 1, x', cs', d', A12, c13), ⟨S.sub ⟨rfl, rfl, rfl, rfl, (show lk _ _ = some (.slice _ x'.ks.length _) from by rw [hkn]; rfl), (show lk _ _ = some (.int .i64 ((cs'.length : Nat) : Int)) from by rw [hk.2]; rfl), rfl, rfl, trivial⟩, (by rw [hkn, hk.1]; exact H), ⟨by omega, by omega, q', rm'.trans hrm, (by rw [Rn.take_snoc (by omega)]; exact R'), by have := hp'.pot; omega, by omega⟩⟩, by show 100 - (i + 1) < 100 - i; omega⟩
    have S := S.retell (v' := .bool false) 12 rfl (by rw [hh])
    refine sb ?_
    refine rn 6 S H t0 fun a w S H => ?_
    refine r_y S H (y_eq S rfl rfl rfl) rfl rfl rfl fun a S => ?_
    have S := S.retell (v' := .bool false) 69 rfl (by rw [decide_eq_false (by simp only [Rn.Bx.ks_len] at *; omega)])
    refine rs 1 S H t0 fun a w S H => ?_
    refine r_condF S rfl ?_
    refine wp_skip ?_
    refine x_then ?_
    refine r_seq ?_
    refine sr 2 S H t0 fun a w S H => ?_
    refine r_condT S rfl ?_
    refine r_region ?_
    refine rn 3 S H t0 fun a w S H => ?_
    obtain ⟨b14, o15, rfl⟩ := (((ok0.more _).more _).more _).addr H (by first | omega | (simp <;> omega))
    refine r_y S H (y_index S rfl rfl rfl Tryz.underlying22 Tryz.sizeOf33 (by omega) (by omega)) rfl rfl rfl fun a S => ?_
    refine rn 1 S H t0 fun a w S H => ?_
    refine r_y S H (y_loadAt S rfl rfl Tryz.isAgg31 (fun w H => (((ok0.more _).more _).more _).cell w H (recs_from (i := i) (by first | omega | (simp <;> omega)) 0 _ rfl))) rfl rfl rfl fun a S => ?_
    refine r_lit (vs := #[(0, .int .u64 (((l.getD i (0, 0)).1 : Nat) : Int))]) (cs := u64s [((l.getD i (0, 0)).1)]) S H rfl rfl el30 (by kernel_rfl) (by decide) (by rfl) rfl rfl rfl fun a w b16 S H => ?_
    refine r_appendS (L' := fun A17 c18 => row 31 1 (.slice (some ⟨b16, 0, none⟩) 1 1) 1 (u64s [((l.getD i (0, 0)).1)]) :: boxR b3 db2 x :: diskR db2 d :: row 31 1 (.slice A17 (x.ks.length + 1) c18) (x.ks.length + 1) (u64s (x.ks ++ ([((l.getD i (0, 0)).1)]))) :: fr) (xs' := u64s (x.ks ++ ([((l.getD i (0, 0)).1)]))) 3 S H rfl rfl rfl rfl el30 (SlOk.ofRow (i := 0) H rfl) (one_u64s _) (by simp only [maxLen]; first | omega | (simp <;> omega)) (by first | omega | (simp <;> omega)) (u64s_app x.ks ([((l.getD i (0, 0)).1)])) (by first | omega | (simp <;> omega)) (fun _ _ => rfl) rfl rfl rfl fun a w A17 c18 hA17 S H => ?_
    refine rn 1 S H t0 fun a w S H => ?_
    refine r_nil ?_
    refine x_then ?_
    refine sb ?_
    refine rn 3 S H t0 fun a w S H => ?_
    refine r_y S H (y_index S rfl rfl rfl Tryz.underlying22 Tryz.sizeOf33 (by omega) (by omega)) rfl rfl rfl fun a S => ?_
    refine r_y S H (y_loadAggAt [.int .u64 (((l.getD i (0, 0)).1 : Nat) : Int), .int .u64 (((l.getD i (0, 0)).2 : Nat) : Int)] S rfl rfl (fun w => ⟨Tryz.isAgg33 w, Tryz.sizeOf33 w⟩) rfl (fun w H => ((((ok0.more _).more _).more _).more _).cells w H (recs_from (i := i) (by first | omega | (simp <;> omega))))) rfl rfl rfl fun a S => ?_
    refine r_call (args := #[.pointer (some ⟨b3, 0, none⟩), .agg #[.int .u64 (((l.getD i (0, 0)).1 : Nat) : Int), .int .u64 (((l.getD i (0, 0)).2 : Nat) : Int)]]) S rfl rfl Tryz.call12 (boxput_ct (H := (pk [1, 2, 0, 3] 4 H)) _ _ (hl.via fun _ H => H.drop.drop) b3 db2 x (l.getD i (0, 0)) d _ hR.on.fit (by omega) (by omega) (hB.at (i := i) (by omega))) rfl rfl rfl fun v a w hR S => ?_
    obtain ⟨rfl, H⟩ := hR
    obtain ⟨d', x', cs', ep', q', rm', hp', R'⟩ := hR.step hq (by simp; omega) (r := (l.getD i (0, 0))) (hB.at (i := i) (by omega)) (by omega)
    have hcn' := Rn.Bx.put_cnt' ep'
    have hon' := R'.on.len
    rw [ep'] at S H
    dsimp only at S H
    have hk := hp'.ksN hh hf
    have hkl' := congrArg List.length hk.1
    simp only [Rn.Bx.ks_len, List.length_append, List.length_cons, List.length_nil] at hkl'
    refine rn 1 S H t0 fun a w S H => ?_
    have S := S.retell (v' := .bool false) 89 rfl rfl
    refine rn 2 S H t0 fun a w S H => ?_
    refine r_call (args := #[.pointer (some ⟨b3, 0, none⟩)]) S rfl rfl Tryz.call13 (blen_ct (H := H) _ _ b3 db2 x') rfl rfl rfl fun v a w hR S => ?_
    obtain ⟨rfl, H⟩ := hR
    refine rn 2 S H t0 fun a w S H => ?_
    refine r_y S H (y_ne S rfl rfl rfl) rfl rfl rfl fun a S => ?_
    have S := S.retell (v' := .bool false) 95 rfl (by rw [decide_eq_false (by simp only [Rn.Bx.ks_len] at *; omega)])
    refine rn 3 S H t0 fun a w S H => ?_
    refine r_call (args := #[.pointer (some ⟨b3, 0, none⟩)]) S rfl rfl Tryz.call14 (bspl_ct (H := H) _ _ b3 db2 x') rfl rfl rfl fun v a w hR S => ?_
    obtain ⟨rfl, H⟩ := hR
    refine rn 1 S H t0 fun a w S H => ?_
    refine r_y S H (y_ne S rfl rfl rfl) rfl rfl rfl fun a S => ?_
    have S := S.retell (v' := .bool false) 101 rfl (by rw [decide_eq_false (by have := hk.2; omega)])
    refine rs 1 S H t0 fun a w S H => ?_
    refine r_condF S rfl ?_
    refine wp_skip ?_
    refine x_blockEnd ?_
    refine x_then ?_
    refine er 3 S H (by omega) fun a w S H => ?_
    refine x_then ?_
    have hkn : x'.ks.length = x.ks.length + 1 := by rw [hk.1] <;> simp
    have H := pk [0, 1, 3] 4 H
    exact ⟨(i + 1, x', cs', d', A17, c18), ⟨S.sub ⟨rfl, rfl, rfl, rfl, (show lk _ _ = some (.slice _ x'.ks.length _) from by rw [hkn]; rfl), (show lk _ _ = some (.int .i64 ((cs'.length : Nat) : Int)) from by rw [hk.2]; rfl), rfl, rfl, trivial⟩, (by rw [hkn, hk.1]; exact H), ⟨by omega, by omega, q', rm'.trans hrm, (by rw [Rn.take_snoc (by omega)]; exact R'), by have := hp'.pot; omega, by omega⟩⟩, by show 100 - (i + 1) < 100 - i; omega⟩
  refine wp_exit ?_
  refine x_thenExit ?_
  refine x_thenExit ?_
  refine x_blockHere ?_
  refine x_then ?_
  refine sr 2 S H t0 fun a w S H => ?_
  refine wp_ret ?_
  refine r_ret1 S H Tryz.results3 (ro_tmp S rfl) ?_
  exact ⟨rfl, H.drop.drop.drop⟩

end Go.Proofs.YtembfpadojnpmaaGreatDoor
namespace Go.Proofs.YtembfpadojnpmaaGreatDoor
open Go.RowKit Go.Cg
set_option linter.unusedVariables false
set_option linter.unusedSimpArgs false
set_option maxRecDepth 8000
set_option synthInstance.maxHeartbeats 1000000
set_option synthInstance.maxSize 1000000
open Go.Cg.Dk (By Nm)
open Go.Cg.Rn (R Bd Bx)
theorem recs_take (l : List R) (k : Nat) : (recs l).take (k * 2) = recs (l.take k) := by
  induction k generalizing l with
  | zero => simp [recs]
  | succ k ih => cases l with
    | nil => simp [recs]
    | cons e l =>
      have e3 : ∀ l : List R, recs (e :: l) = rcell e ++ recs l := fun l => by simp [recs]
      rw [List.take_succ_cons, e3, e3, ← ih l, show (k + 1) * 2 = (rcell e).length + k * 2 from by simp [rcell]; omega, List.take_length_add_append]
/-- no file is left -/
theorem gone_all {d d5 : Dk.Disk} {x : Bx} (h : d5.Ok) (g : ∀ m, Dk.fget d5.files m = if m ∈ x.files then none else Dk.fget d.files m) (ho : ∀ m, Dk.fget d.files m ≠ none → m ∈ x.files) : d5.files = [] := by
  refine Dk.files_ext h.ris List.Pairwise.nil fun m => ?_
  rw [g]; split
  · rfl
  · rename_i hm
    cases hx : Dk.fget d.files m with
    | none => rfl
    | some f => exact absurd (ho m (by rw [hx]; simp)) hm
theorem all_none {x : Bx} {d : Dk.Disk} (hq : Cl.Q d) (h : Rn.Bx.On d.files x []) (hn : x.now = []) : ∃ o, x.all d = (Cl.dk d o 0 d.files, [], 0) := by
  obtain ⟨o, e⟩ := h.all hq
  refine ⟨o, ?_⟩
  rw [e, hn]; rfl
theorem law_tells (w : World) (fr : List Res) (hl : Laid fr) (A : Option Addr) (n c : Nat) (l : List R) (ok0 : SlOk fr 2 A n c (recs l)) (hB : Bd l) (a1 a2 a3 : Int) (H : Sat w (fr)) :
    Rt Tryz.prog 7 #[.slice A n c, .int .i64 a1, .int .i64 a2, .int .i64 a3] w fun v w' => v = .bool true ∧ Sat w' fr := by
  refine en4 Tryz.func7 rfl Tryz.ntmps7 rfl fun a S => ?_
  obtain rfl := SlOk.nR ok0
  have hcpl := ok0.le
  have hcql := ok0.cap
  simp only [maxLen] at hcql
  refine sr 1 S H t0 fun a w S H => ?_
  refine sb ?_
  refine r_call (args := #[]) S rfl rfl Tryz.call9 (shown_ct (H := H) _ _ (hl.via fun _ H => H)) rfl rfl rfl fun v a w hR S => ?_
  obtain ⟨rfl, H⟩ := hR
  refine rs 1 S H t0 fun a w S H => ?_
  refine sb ?_
  refine rn 1 S H t0 fun a w S H => ?_
  refine r_y S H (y_bitop S rfl rfl rfl (fun w => maskL 16 65536 65535 (by decide) (by decide) (by decide) a1 w)) rfl rfl rfl fun a S => ?_
  refine r_y S H (y_remN S rfl rfl rfl (by omega) (by omega)) rfl rfl rfl fun a S => ?_
  refine rs 2 S H (by omega) fun a w S H => ?_
  obtain ⟨bn, hbn⟩ : ∃ x : Nat, ((x : Nat) : Int) = 1 + a1 % 65536 % 50 := ⟨(1 + a1 % 65536 % 50).toNat, by omega⟩
  have S := S.retell (v' := .int .i64 ((bn : Nat) : Int)) 1 rfl (by rw [hbn])
  have hbnb : bn ≤ 50 := by omega
  have hbn1 : 1 ≤ bn := by omega
  refine sb ?_
  refine rn 1 S H t0 fun a w S H => ?_
  refine r_y S H (y_bitop S rfl rfl rfl (fun w => maskL 1 2 1 (by decide) (by decide) (by decide) a2 w)) rfl rfl rfl fun a S => ?_
  refine rs 2 S H (by omega) fun a w S H => ?_
  obtain ⟨hw, hhw⟩ : ∃ y : Int, y = 1 + a2 % 2 := ⟨_, rfl⟩
  have S := S.retell (v' := .int .i64 hw) 2 rfl (by rw [hhw])
  have hhw12 : hw = 1 ∨ hw = 2 := by omega
  refine sb ?_
  refine rn 1 S H t0 fun a w S H => ?_
  refine r_y S H (y_bitop S rfl rfl rfl (fun w => maskL 16 65536 65535 (by decide) (by decide) (by decide) a3 w)) rfl rfl rfl fun a S => ?_
  refine r_y S H (y_remN S rfl rfl rfl (by omega) (by omega)) rfl rfl rfl fun a S => ?_
  refine rs 1 S H t0 fun a w S H => ?_
  obtain ⟨ask, hask⟩ : ∃ y : Int, y = a3 % 65536 % 101 := ⟨_, rfl⟩
  have S := S.retell (v' := .int .i64 ask) 3 rfl (by rw [hask])
  refine sb ?_
  refine r_call (args := #[.int .i64 10000]) S rfl rfl Tryz.call10 (new_ct (H := H) _ _ 10000 (by omega)) rfl rfl rfl fun v a w hR S => ?_
  obtain ⟨db2, rfl, H⟩ := hR
  refine rs 1 S H t0 fun a w S H => ?_
  refine r_seq ?_
  refine sr 2 S H t0 fun a w S H => ?_
  refine r_condF S rfl ?_
  refine wp_skip ?_
  refine x_then ?_
  refine sb ?_
  refine rn 3 S H t0 fun a w S H => ?_
  refine r_call (args := #[.pointer (some ⟨db2, 0, none⟩), str ([98, 111, 120]), .int .i64 ((bn : Nat) : Int), .int .i64 hw]) S rfl rfl Tryz.call11 (newbox_ct (H := H) _ _ db2 ([98, 111, 120]) bn hw (by omega) (hhw12)) rfl rfl rfl fun v a w hR S => ?_
  obtain ⟨b3, rfl, H⟩ := hR
  refine rs 5 S H t0 fun a w S H => ?_
  refine r_seq ?_
  refine sb ?_
  refine rn 2 S H t0 fun a w S H => ?_
  have S := S.retell (v' := .bool false) 48 rfl rfl
  refine rs 4 S H t0 fun a w S H => ?_
  refine r_condF S rfl ?_
  refine wp_skip ?_
  refine x_then ?_
  refine sr 4 S H t0 fun a w S H => ?_
  refine r_seq ?_
  obtain ⟨N, hN⟩ : ∃ N : Nat, ((N : Nat) : Int) = min ((l.length : Nat) : Int) 100 := ⟨min l.length 100, by omega⟩
  have S := S.retell (v' := .int .i64 ((N : Nat) : Int)) 13 rfl (by rw [hN])
  have hN1 : N ≤ l.length ∧ N ≤ 100 := by omega
  refine sr 1 S H t0 fun a w S H => ?_
  refine r_block ?_
  refine r_loop (ι := Nat × Bx × List (List R) × Dk.Disk) (fun ⟨i, x, cs, d⟩ a w => Slots a 177 [(0, .slice A l.length c), (1, .int .i64 ((bn : Nat) : Int)), (2, .int .i64 hw), (3, .int .i64 ask), (9, .bool true), (10, .pointer (some ⟨db2, 0, none⟩)), (11, .pointer (some ⟨b3, 0, none⟩)), (13, .int .i64 ((N : Nat) : Int)), (14, .int .i64 ((i : Nat) : Int)), (177, undef)] ∧ Sat w (boxR b3 db2 x :: diskR db2 d :: fr) ∧ (i ≤ N ∧ Cl.Q d ∧ d.room = 10000 ∧ Rn.Bx.Run [98, 111, 120] bn hw (l.take i) d.files x cs ∧ Dk.used d.files + 2 * x.now.length ≤ 2 * i ∧ d.files.length ≤ i ∧ ∀ m, Dk.fget d.files m ≠ none → m ∈ x.files)) (fun ⟨i, x, cs, d⟩ => N - i) (0, Rn.Bx.new [98, 111, 120] bn hw, [], Dk.fresh 10000) ⟨S.sub ⟨rfl, rfl, rfl, rfl, rfl, rfl, rfl, rfl, rfl, rfl, trivial⟩, H, ⟨Nat.zero_le _, Rn.Bx.fresh_q (by decide), rfl, Rn.Bx.Run.new (by decide) ⟨hbn1, by omega⟩ hhw12 (fun i => rfl), Nat.le_refl _, Nat.le_refl _, fun m hm => absurd rfl hm⟩⟩ (fun ⟨i, x, cs, d⟩ a w hI => ?_)
  obtain ⟨S, H, hI⟩ := hI
  obtain ⟨hil, hq, hrm, hR, hpot, hcnt, ho⟩ := hI
  have hlt : (l.take i).length = i := by rw [List.length_take]; omega
  refine r_seq ?_
  refine sr 3 S H t0 fun a w S H => ?_
  refine r_test S rfl (fun h58 => ?_) (fun h58 => ?_)
  · skip
    refine wp_skip ?_
    refine x_then ?_
    refine r_seq ?_
    refine r_block ?_
    refine r_seq ?_
    refine sr 3 S H t0 fun a w S H => ?_
    refine r_test S rfl (fun h63 => ?_) (fun h63 => ?_)
    · skip
      obtain ⟨orA, hrrA⟩ := hR.on.reads hq
      have hzzA : (Rn.Bx.reads x.files [Rn.sort x.now] d).2.1.flatten.length ≤ 1099511627776 := by rw [hrrA]; exact hR.on.sum
      refine sb ?_
      refine rn 1 S H t0 fun a w S H => ?_
      refine r_call (args := #[.pointer (some ⟨b3, 0, none⟩)]) S rfl rfl Tryz.call15 (all_ct (H := H) _ _ b3 db2 x d _ hR.on.fit (by omega) (by omega) (hzzA)) rfl rfl rfl fun v a w hR S => ?_
      obtain ⟨A4, c5, rfl, H⟩ := hR
      obtain ⟨oaA, eaA⟩ := hR.all hq
      obtain ⟨dA, hdA⟩ : ∃ y, y = Cl.dk d oaA 0 d.files := ⟨_, rfl⟩
      rw [← hdA] at eaA
      have qA : Cl.Q dA := by rw [hdA]; exact hq.same _
      have hfA : dA.files = d.files := by rw [hdA]; rfl
      have hmA : dA.room = d.room := by rw [hdA]; rfl
      rw [eaA] at S H
      dsimp only at S H
      rw [← hfA] at hR hpot hcnt ho
      rw [← hmA] at hrm
      refine rs 5 S H t0 fun a w S H => ?_
      refine sb ?_
      refine rn 2 S H t0 fun a w S H => ?_
      have S := S.retell (v' := .bool false) 70 rfl rfl
      refine rn 4 S H t0 fun a w S H => ?_
      refine r_y S H (y_sliceH (k := i) S rfl rfl rfl Tryz.underlying22 Tryz.sizeOf33 (by first | omega | (simp <;> omega)) (by first | omega | (simp <;> omega))) rfl rfl rfl fun a S => ?_
      have etk : (l.take i).length = i := by rw [List.length_take]; omega
      have oktk : SlOk fr 2 (shift A 0 (decide (c = 0))) (l.take i).length c (recs (l.take i)) := by rw [etk]; exact recs_take l i ▸ ok0.init i (by omega)
      have S := S.retell (v' := .slice (shift A 0 (decide (c = 0))) ((l.take i).length) c) 75 rfl (by rw [etk])
      refine rn 1 S H t0 fun a w S H => ?_
      refine r_call (args := #[.slice (shift A 0 (decide (c = 0))) ((l.take i).length) c, .int .i64 hw]) S rfl rfl Tryz.call18 (sorted8_ct (H := H) _ _ (shift A 0 (decide (c = 0))) c (l.take i) (((oktk.more _).more _).more _) (by rw [hlt]; omega) ((hB.take i)) hw) rfl rfl rfl fun v a w hR S => ?_
      obtain ⟨A6, c7, rfl, H⟩ := hR
      refine r_call (args := #[.slice A4 ((Rn.fold hw (Rn.sort (l.take i))).length) c5, .slice A6 ((Rn.fold hw (Rn.sort (l.take i))).length) c7]) S rfl rfl Tryz.call16 (same7_ct (H := H) _ _ _ _ _ (Rn.fold hw (Rn.sort (l.take i))) (SlOk.ofRow (i := 1) H rfl) _ _ _ (Rn.fold hw (Rn.sort (l.take i))) (SlOk.ofRow (i := 0) H rfl)) rfl rfl rfl fun v a w hR S => ?_
      obtain ⟨rfl, H⟩ := hR
      have S := S.retell (v' := .bool true) 78 rfl (by simp)
      refine rs 2 S H t0 fun a w S H => ?_
      refine r_condF S rfl ?_
      refine wp_skip ?_
      refine x_then ?_
      refine sb ?_
      refine rn 3 S H t0 fun a w S H => ?_
      obtain ⟨b8, o9, rfl⟩ := ((((ok0.more _).more _).more _).more _).addr H (by first | omega | (simp <;> omega))
      refine r_y S H (y_index S rfl rfl rfl Tryz.underlying22 Tryz.sizeOf33 (by omega) (by omega)) rfl rfl rfl fun a S => ?_
      refine r_y S H (y_loadAggAt [.int .u64 (((l.getD i (0, 0)).1 : Nat) : Int), .int .u64 (((l.getD i (0, 0)).2 : Nat) : Int)] S rfl rfl (fun w => ⟨Tryz.isAgg33 w, Tryz.sizeOf33 w⟩) rfl (fun w H => ((((ok0.more _).more _).more _).more _).cells w H (recs_from (i := i) (by first | omega | (simp <;> omega))))) rfl rfl rfl fun a S => ?_
      refine r_call (args := #[.pointer (some ⟨b3, 0, none⟩), .agg #[.int .u64 (((l.getD i (0, 0)).1 : Nat) : Int), .int .u64 (((l.getD i (0, 0)).2 : Nat) : Int)]]) S rfl rfl Tryz.call12 (boxput_ct (H := (pk [2, 3, 0, 1] 4 H)) _ _ (hl.via fun _ H => H.drop.drop) b3 db2 x (l.getD i (0, 0)) dA _ hR.on.fit (by omega) (by omega) (hB.at (i := i) (by omega))) rfl rfl rfl fun v a w hR S => ?_
      obtain ⟨rfl, H⟩ := hR
      obtain ⟨d', x', cs', ep', q', rm', hp', R'⟩ := hR.step qA (by simp; omega) (r := (l.getD i (0, 0))) (hB.at (i := i) (by omega)) (by omega)
      have hcn' := Rn.Bx.put_cnt' ep'
      have hon' := R'.on.len
      rw [ep'] at S H
      dsimp only at S H
      have hn1 := R'.on.now
      have hb1 := R'.budget
      have hs1 := hp'.some
      refine rn 1 S H t0 fun a w S H => ?_
      have S := S.retell (v' := .bool false) 87 rfl rfl
      refine rn 2 S H t0 fun a w S H => ?_
      refine r_call (args := #[.pointer (some ⟨b3, 0, none⟩)]) S rfl rfl Tryz.call13 (blen_ct (H := H) _ _ b3 db2 x') rfl rfl rfl fun v a w hR S => ?_
      obtain ⟨rfl, H⟩ := hR
      refine rn 1 S H t0 fun a w S H => ?_
      refine r_y S H (y_gt S rfl rfl rfl) rfl rfl rfl fun a S => ?_
      have S := S.retell (v' := .bool false) 92 rfl (by rw [decide_eq_false (by omega)])
      refine rn 3 S H t0 fun a w S H => ?_
      refine r_call (args := #[.pointer (some ⟨b3, 0, none⟩)]) S rfl rfl Tryz.call13 (blen_ct (H := H) _ _ b3 db2 x') rfl rfl rfl fun v a w hR S => ?_
      obtain ⟨rfl, H⟩ := hR
      refine r_y S H (y_lt S rfl rfl rfl) rfl rfl rfl fun a S => ?_
      have S := S.retell (v' := .bool false) 97 rfl (by rw [decide_eq_false (by omega)])
      refine rs 1 S H t0 fun a w S H => ?_
      refine r_condF S rfl ?_
      refine wp_skip ?_
      refine x_blockEnd ?_
      refine x_then ?_
      refine er 3 S H (by omega) fun a w S H => ?_
      refine x_then ?_
      have hpt := hp'.pot
      have H := pk [0, 1] 4 H
      exact ⟨(i + 1, x', cs', d'), ⟨S.sub ⟨rfl, rfl, rfl, rfl, rfl, rfl, rfl, rfl, rfl, rfl, trivial⟩, H, ⟨by omega, q', rm'.trans hrm, (by rw [Rn.take_snoc (by omega)]; exact R'), by omega, by omega, hp'.only ho⟩⟩, by show N - (i + 1) < N - i; omega⟩
    refine wp_skip ?_
    refine x_then ?_
    refine sb ?_
    refine rn 3 S H t0 fun a w S H => ?_
    obtain ⟨b10, o11, rfl⟩ := ((ok0.more _).more _).addr H (by first | omega | (simp <;> omega))
    refine r_y S H (y_index S rfl rfl rfl Tryz.underlying22 Tryz.sizeOf33 (by omega) (by omega)) rfl rfl rfl fun a S => ?_
    refine r_y S H (y_loadAggAt [.int .u64 (((l.getD i (0, 0)).1 : Nat) : Int), .int .u64 (((l.getD i (0, 0)).2 : Nat) : Int)] S rfl rfl (fun w => ⟨Tryz.isAgg33 w, Tryz.sizeOf33 w⟩) rfl (fun w H => ((ok0.more _).more _).cells w H (recs_from (i := i) (by first | omega | (simp <;> omega))))) rfl rfl rfl fun a S => ?_
    refine r_call (args := #[.pointer (some ⟨b3, 0, none⟩), .agg #[.int .u64 (((l.getD i (0, 0)).1 : Nat) : Int), .int .u64 (((l.getD i (0, 0)).2 : Nat) : Int)]]) S rfl rfl Tryz.call12 (boxput_ct (H := H) _ _ (hl.via fun _ H => H) b3 db2 x (l.getD i (0, 0)) d _ hR.on.fit (by omega) (by omega) (hB.at (i := i) (by omega))) rfl rfl rfl fun v a w hR S => ?_
    obtain ⟨rfl, H⟩ := hR
    obtain ⟨d', x', cs', ep', q', rm', hp', R'⟩ := hR.step hq (by simp; omega) (r := (l.getD i (0, 0))) (hB.at (i := i) (by omega)) (by omega)
    have hcn' := Rn.Bx.put_cnt' ep'
    have hon' := R'.on.len
    rw [ep'] at S H
    dsimp only at S H
    have hn1 := R'.on.now
    have hb1 := R'.budget
    have hs1 := hp'.some
    refine rn 1 S H t0 fun a w S H => ?_
    have S := S.retell (v' := .bool false) 87 rfl rfl
    refine rn 2 S H t0 fun a w S H => ?_
    refine r_call (args := #[.pointer (some ⟨b3, 0, none⟩)]) S rfl rfl Tryz.call13 (blen_ct (H := H) _ _ b3 db2 x') rfl rfl rfl fun v a w hR S => ?_
    obtain ⟨rfl, H⟩ := hR
    refine rn 1 S H t0 fun a w S H => ?_
    refine r_y S H (y_gt S rfl rfl rfl) rfl rfl rfl fun a S => ?_
    have S := S.retell (v' := .bool false) 92 rfl (by rw [decide_eq_false (by omega)])
    refine rn 3 S H t0 fun a w S H => ?_
    refine r_call (args := #[.pointer (some ⟨b3, 0, none⟩)]) S rfl rfl Tryz.call13 (blen_ct (H := H) _ _ b3 db2 x') rfl rfl rfl fun v a w hR S => ?_
    obtain ⟨rfl, H⟩ := hR
    refine r_y S H (y_lt S rfl rfl rfl) rfl rfl rfl fun a S => ?_
    have S := S.retell (v' := .bool false) 97 rfl (by rw [decide_eq_false (by omega)])
    refine rs 1 S H t0 fun a w S H => ?_
    refine r_condF S rfl ?_
    refine wp_skip ?_
    refine x_blockEnd ?_
    refine x_then ?_
    refine er 3 S H (by omega) fun a w S H => ?_
    refine x_then ?_
    have hpt := hp'.pot
    have H := H
    exact ⟨(i + 1, x', cs', d'), ⟨S.sub ⟨rfl, rfl, rfl, rfl, rfl, rfl, rfl, rfl, rfl, rfl, trivial⟩, H, ⟨by omega, q', rm'.trans hrm, (by rw [Rn.take_snoc (by omega)]; exact R'), by omega, by omega, hp'.only ho⟩⟩, by show N - (i + 1) < N - i; omega⟩
  refine wp_exit ?_
  refine x_thenExit ?_
  refine x_thenExit ?_
  refine x_blockHere ?_
  refine x_then ?_
  obtain rfl : i = N := by omega
  obtain ⟨orB, hrrB⟩ := hR.on.reads hq
  have hzzB : (Rn.Bx.reads x.files [Rn.sort x.now] d).2.1.flatten.length ≤ 1099511627776 := by rw [hrrB]; exact hR.on.sum
  refine sb ?_
  refine rn 1 S H t0 fun a w S H => ?_
  refine r_call (args := #[.pointer (some ⟨b3, 0, none⟩)]) S rfl rfl Tryz.call15 (all_ct (H := H) _ _ b3 db2 x d _ hR.on.fit (by omega) (by omega) (hzzB)) rfl rfl rfl fun v a w hR S => ?_
  obtain ⟨A12, c13, rfl, H⟩ := hR
  obtain ⟨oaB, eaB⟩ := hR.all hq
  obtain ⟨dB, hdB⟩ : ∃ y, y = Cl.dk d oaB 0 d.files := ⟨_, rfl⟩
  rw [← hdB] at eaB
  have qB : Cl.Q dB := by rw [hdB]; exact hq.same _
  have hfB : dB.files = d.files := by rw [hdB]; rfl
  have hmB : dB.room = d.room := by rw [hdB]; rfl
  rw [eaB] at S H
  dsimp only at S H
  rw [← hfB] at hR hcnt ho
  refine rs 5 S H t0 fun a w S H => ?_
  refine sb ?_
  refine rn 1 S H t0 fun a w S H => ?_
  refine r_call (args := #[.pointer (some ⟨db2, 0, none⟩)]) S rfl rfl Tryz.call22 (list_ct (H := (pk [2, 0, 1] 3 H)) _ _ db2 dB (by omega)) rfl rfl rfl fun v a w hR S => ?_
  obtain ⟨A14, c15, rfl, H⟩ := hR
  obtain ⟨olC, elC⟩ := Cl.list_q qB
  obtain ⟨dC, hdC⟩ : ∃ y, y = Cl.dk dB olC 0 dB.files := ⟨_, rfl⟩
  obtain ⟨nsC, hnsC⟩ : ∃ y, y = dB.files.map (fun p : Nm × Dk.Fl => p.1) := ⟨_, rfl⟩
  rw [← hdC, ← hnsC] at elC
  have qC : Cl.Q dC := by rw [hdC]; exact qB.same _
  have hfC : dC.files = dB.files := by rw [hdC]; rfl
  have hmC : dC.room = dB.room := by rw [hdC]; rfl
  have hnlC : nsC.length = dB.files.length := by rw [hnsC]; simp
  rw [elC] at S H
  dsimp only at S H
  have hct := hR.on.count qB.ok.ris ho
  have hlx := hR.on.len
  rw [← hfC] at hR hcnt ho
  refine rs 5 S H t0 fun a w S H => ?_
  refine r_seq ?_
  refine sb ?_
  refine rn 2 S H t0 fun a w S H => ?_
  have S := S.retell (v' := .bool false) 110 rfl rfl
  refine rn 4 S H t0 fun a w S H => ?_
  refine r_y S H (y_sliceH (k := i) S rfl rfl rfl Tryz.underlying22 Tryz.sizeOf33 (by first | omega | (simp <;> omega)) (by first | omega | (simp <;> omega))) rfl rfl rfl fun a S => ?_
  have etk : (l.take i).length = i := by rw [List.length_take]; omega
  have oktk : SlOk fr 2 (shift A 0 (decide (c = 0))) (l.take i).length c (recs (l.take i)) := by rw [etk]; exact recs_take l i ▸ ok0.init i (by omega)
  have S := S.retell (v' := .slice (shift A 0 (decide (c = 0))) ((l.take i).length) c) 115 rfl (by rw [etk])
  refine rn 1 S H t0 fun a w S H => ?_
  refine r_call (args := #[.slice (shift A 0 (decide (c = 0))) ((l.take i).length) c, .int .i64 hw]) S rfl rfl Tryz.call18 (sorted8_ct (H := H) _ _ (shift A 0 (decide (c = 0))) c (l.take i) ((((oktk.more _).more _).more _).more _) (by rw [hlt]; omega) ((hB.take i)) hw) rfl rfl rfl fun v a w hR S => ?_
  obtain ⟨A16, c17, rfl, H⟩ := hR
  refine r_call (args := #[.slice A12 ((Rn.fold hw (Rn.sort (l.take i))).length) c13, .slice A16 ((Rn.fold hw (Rn.sort (l.take i))).length) c17]) S rfl rfl Tryz.call16 (same7_ct (H := H) _ _ _ _ _ (Rn.fold hw (Rn.sort (l.take i))) (SlOk.ofRow (i := 3) H rfl) _ _ _ (Rn.fold hw (Rn.sort (l.take i))) (SlOk.ofRow (i := 0) H rfl)) rfl rfl rfl fun v a w hR S => ?_
  obtain ⟨rfl, H⟩ := hR
  have S := S.retell (v' := .bool true) 118 rfl (by simp)
  refine rn 5 S H t0 fun a w S H => ?_
  have S := S.retell (v' := .bool false) 123 rfl rfl
  refine rn 5 S H t0 fun a w S H => ?_
  refine r_call (args := #[.pointer (some ⟨b3, 0, none⟩)]) S rfl rfl Tryz.call14 (bspl_ct (H := (pk [4, 0, 1, 2, 3] 5 H)) _ _ b3 db2 x) rfl rfl rfl fun v a w hR S => ?_
  obtain ⟨rfl, H⟩ := hR
  refine r_y S H (y_ne S rfl rfl rfl) rfl rfl rfl fun a S => ?_
  have S := S.retell (v' := .bool false) 130 rfl (by rw [decide_eq_false (by omega)])
  refine rs 1 S H t0 fun a w S H => ?_
  refine r_condF S rfl ?_
  refine wp_skip ?_
  refine x_then ?_
  refine sb ?_
  refine rn 1 S H t0 fun a w S H => ?_
  refine r_call (args := #[.pointer (some ⟨b3, 0, none⟩)]) S rfl rfl Tryz.call17 (clear_ct (H := (pk [0, 2, 1, 3, 4] 5 H)) _ _ b3 db2 x dC (by omega)) rfl rfl rfl fun v a w hR S => ?_
  obtain ⟨rfl, H⟩ := hR
  obtain ⟨d5, ec, q5, o5, g5, m5, u5⟩ := Rn.Bx.On.clear qC hR.on
  obtain ⟨x5, hx5⟩ : ∃ y, y = ({ x with now := [], files := [] } : Bx) := ⟨_, rfl⟩
  rw [← hx5] at ec o5
  have hx5n : x5.now = [] := by rw [hx5]
  have hx5f : x5.files = [] := by rw [hx5]
  have hz5 : d5.files = [] := gone_all q5.ok g5 ho
  have hk5 : d5.files.length = 0 := by rw [hz5]; rfl
  rw [ec] at S H
  dsimp only at S H
  refine rs 1 S H t0 fun a w S H => ?_
  refine sb ?_
  refine rn 1 S H t0 fun a w S H => ?_
  refine r_call (args := #[.pointer (some ⟨db2, 0, none⟩)]) S rfl rfl Tryz.call22 (list_ct (H := (pk [1, 0, 2, 3, 4] 5 H)) _ _ db2 d5 (by omega)) rfl rfl rfl fun v a w hR S => ?_
  obtain ⟨A18, c19, rfl, H⟩ := hR
  obtain ⟨olE, elE⟩ := Cl.list_q q5
  obtain ⟨dE, hdE⟩ : ∃ y, y = Cl.dk d5 olE 0 d5.files := ⟨_, rfl⟩
  obtain ⟨nsE, hnsE⟩ : ∃ y, y = d5.files.map (fun p : Nm × Dk.Fl => p.1) := ⟨_, rfl⟩
  rw [← hdE, ← hnsE] at elE
  have qE : Cl.Q dE := by rw [hdE]; exact q5.same _
  have hfE : dE.files = d5.files := by rw [hdE]; rfl
  have hmE : dE.room = d5.room := by rw [hdE]; rfl
  have hnlE : nsE.length = d5.files.length := by rw [hnsE]; simp
  rw [elE] at S H
  dsimp only at S H
  rw [← hfE] at o5
  refine rs 5 S H t0 fun a w S H => ?_
  obtain ⟨orG, hrrG⟩ := o5.reads qE
  have hzzG : (Rn.Bx.reads x5.files [Rn.sort x5.now] dE).2.1.flatten.length ≤ 1099511627776 := by rw [hrrG]; exact o5.sum
  have hkE : dE.files.length = 0 := by rw [hfE]; exact hk5
  refine sb ?_
  refine rn 1 S H t0 fun a w S H => ?_
  refine r_call (args := #[.pointer (some ⟨b3, 0, none⟩)]) S rfl rfl Tryz.call15 (all_ct (H := (pk [2, 0, 1, 3, 4, 5] 6 H)) _ _ b3 db2 x5 dE _ o5.fit (by omega) (by omega) (hzzG)) rfl rfl rfl fun v a w hR S => ?_
  obtain ⟨A20, c21, rfl, H⟩ := hR
  obtain ⟨oaG, eaG⟩ := all_none qE o5 hx5n
  obtain ⟨dG, hdG⟩ : ∃ y, y = Cl.dk dE oaG 0 dE.files := ⟨_, rfl⟩
  rw [← hdG] at eaG
  have qG : Cl.Q dG := by rw [hdG]; exact qE.same _
  have hfG : dG.files = dE.files := by rw [hdG]; rfl
  have hmG : dG.room = dE.room := by rw [hdG]; rfl
  rw [eaG] at S H
  dsimp only at S H
  refine rs 5 S H t0 fun a w S H => ?_
  refine sb ?_
  refine rn 4 S H t0 fun a w S H => ?_
  have S := S.retell (v' := .bool true) 147 rfl rfl
  refine rn 4 S H t0 fun a w S H => ?_
  have S := S.retell (v' := .bool true) 151 rfl rfl
  refine rn 4 S H t0 fun a w S H => ?_
  refine r_y S H (y_eq S rfl rfl rfl) rfl rfl rfl fun a S => ?_
  have S := S.retell (v' := .bool true) 156 rfl (by rw [decide_eq_true (by omega)])
  refine rn 4 S H t0 fun a w S H => ?_
  have S := S.retell (v' := .bool true) 160 rfl rfl
  refine rn 4 S H t0 fun a w S H => ?_
  refine r_y S H (y_eq S rfl rfl rfl) rfl rfl rfl fun a S => ?_
  have S := S.retell (v' := .bool true) 165 rfl (by rfl)
  refine rn 3 S H t0 fun a w S H => ?_
  refine r_call (args := #[.pointer (some ⟨b3, 0, none⟩)]) S rfl rfl Tryz.call13 (blen_ct (H := (pk [1, 0, 2, 3, 4, 5, 6] 7 H)) _ _ b3 db2 x5) rfl rfl rfl fun v a w hR S => ?_
  obtain ⟨rfl, H⟩ := hR
  refine r_y S H (y_eq S rfl rfl rfl) rfl rfl rfl fun a S => ?_
  have S := S.retell (v' := .bool true) 170 rfl (by rw [hx5n]; rfl)
  refine rn 3 S H t0 fun a w S H => ?_
  refine r_call (args := #[.pointer (some ⟨b3, 0, none⟩)]) S rfl rfl Tryz.call14 (bspl_ct (H := H) _ _ b3 db2 x5) rfl rfl rfl fun v a w hR S => ?_
  obtain ⟨rfl, H⟩ := hR
  refine r_y S H (y_eq S rfl rfl rfl) rfl rfl rfl fun a S => ?_
  have S := S.retell (v' := .bool true) 175 rfl (by rw [hx5f]; rfl)
  refine rs 2 S H t0 fun a w S H => ?_
  refine wp_ret ?_
  refine r_ret1 S H Tryz.results7 (ro_tmp S rfl) ?_
  exact ⟨rfl, H.drop.drop.drop.drop.drop.drop.drop⟩

end Go.Proofs.YtembfpadojnpmaaGreatDoor
namespace Go.Proofs.YtembfpadojnpmaaGreatDoor
open Go.RowKit Go.Cg
set_option linter.unusedVariables false
set_option linter.unusedSimpArgs false
set_option maxRecDepth 8000
set_option synthInstance.maxHeartbeats 1000000
set_option synthInstance.maxSize 1000000
open Go.Cg.Dk (By Nm)
open Go.Cg.Rn (R Bd Bx)
theorem okNil (L : List Res) : SlOk L 1 none 0 0 [] := ⟨fun _ => rfl, Nat.le_refl _, Nat.zero_le _, rfl, Rd.nil _ _⟩
theorem arm_up (a : Nat) : Dk.Disk.arm ((a : Nat) : Int) ([]) (Dk.fresh 10000) = Cl.dk (Dk.fresh 10000) 0 a [] := rfl
theorem law_down (w : World) (fr : List Res) (hl : Laid fr) (a0 a1 a2 : Int) (H : Sat w (fr)) :
    Rt Tryz.prog 6 #[.int .i64 a0, .int .i64 a1, .int .i64 a2] w fun v w' => v = .bool true ∧ Sat w' fr := by
  refine en3 Tryz.func6 rfl Tryz.ntmps6 rfl fun a S => ?_
  refine sr 1 S H t0 fun a w S H => ?_
  refine sb ?_
  refine r_call (args := #[]) S rfl rfl Tryz.call9 (shown_ct (H := H) _ _ (hl.via fun _ H => H)) rfl rfl rfl fun v a w hR S => ?_
  obtain ⟨rfl, H⟩ := hR
  refine rs 1 S H t0 fun a w S H => ?_
  refine sb ?_
  refine rn 1 S H t0 fun a w S H => ?_
  refine r_y S H (y_bitop S rfl rfl rfl (fun w => maskL 16 65536 65535 (by decide) (by decide) (by decide) a0 w)) rfl rfl rfl fun a S => ?_
  refine r_y S H (y_remN S rfl rfl rfl (by omega) (by omega)) rfl rfl rfl fun a S => ?_
  refine rs 1 S H t0 fun a w S H => ?_
  obtain ⟨N, hN⟩ : ∃ x : Nat, ((x : Nat) : Int) = a0 % 65536 % 41 := ⟨(a0 % 65536 % 41).toNat, by omega⟩
  have S := S.retell (v' := .int .i64 ((N : Nat) : Int)) 0 rfl (by rw [hN])
  have hNb : N ≤ 40 := by omega
  refine sb ?_
  refine rn 1 S H t0 fun a w S H => ?_
  refine r_y S H (y_bitop S rfl rfl rfl (fun w => maskL 16 65536 65535 (by decide) (by decide) (by decide) a1 w)) rfl rfl rfl fun a S => ?_
  refine r_y S H (y_remN S rfl rfl rfl (by omega) (by omega)) rfl rfl rfl fun a S => ?_
  refine rs 2 S H (by omega) fun a w S H => ?_
  obtain ⟨bn, hbn⟩ : ∃ x : Nat, ((x : Nat) : Int) = 1 + a1 % 65536 % 5 := ⟨(1 + a1 % 65536 % 5).toNat, by omega⟩
  have S := S.retell (v' := .int .i64 ((bn : Nat) : Int)) 1 rfl (by rw [hbn])
  have hbnb : bn ≤ 5 := by omega
  have hbn1 : 1 ≤ bn := by omega
  refine sb ?_
  refine rn 1 S H t0 fun a w S H => ?_
  refine r_y S H (y_bitop S rfl rfl rfl (fun w => maskL 16 65536 65535 (by decide) (by decide) (by decide) a2 w)) rfl rfl rfl fun a S => ?_
  refine r_y S H (y_remN S rfl rfl rfl (by omega) (by omega)) rfl rfl rfl fun a S => ?_
  refine rs 2 S H (by omega) fun a w S H => ?_
  obtain ⟨an, han⟩ : ∃ x : Nat, ((x : Nat) : Int) = 1 + a2 % 65536 % 60 := ⟨(1 + a2 % 65536 % 60).toNat, by omega⟩
  have S := S.retell (v' := .int .i64 ((an : Nat) : Int)) 2 rfl (by rw [han])
  have hanb : an ≤ 60 := by omega
  have han1 : 1 ≤ an := by omega
  refine sb ?_
  refine r_call (args := #[.int .i64 10000]) S rfl rfl Tryz.call10 (new_ct (H := H) _ _ 10000 (by omega)) rfl rfl rfl fun v a w hR S => ?_
  obtain ⟨db2, rfl, H⟩ := hR
  refine rs 1 S H t0 fun a w S H => ?_
  refine r_seq ?_
  refine sr 2 S H t0 fun a w S H => ?_
  refine r_condF S rfl ?_
  refine wp_skip ?_
  refine x_then ?_
  refine sb ?_
  refine rn 2 S H t0 fun a w S H => ?_
  refine r_call (args := #[.pointer (some ⟨db2, 0, none⟩), str ([98, 111, 120]), .int .i64 ((bn : Nat) : Int), .int .i64 2]) S rfl rfl Tryz.call11 (newbox_ct (H := H) _ _ db2 ([98, 111, 120]) bn 2 (by omega) (.inr rfl)) rfl rfl rfl fun v a w hR S => ?_
  obtain ⟨b3, rfl, H⟩ := hR
  refine rs 5 S H t0 fun a w S H => ?_
  refine r_seq ?_
  refine sb ?_
  refine rn 2 S H t0 fun a w S H => ?_
  have S := S.retell (v' := .bool false) 39 rfl rfl
  refine rs 4 S H t0 fun a w S H => ?_
  refine r_condF S rfl ?_
  refine wp_skip ?_
  refine x_then ?_
  refine sb ?_
  refine rn 2 S H t0 fun a w S H => ?_
  refine r_call (args := #[.pointer (some ⟨db2, 0, none⟩), .int .i64 ((an : Nat) : Int), .slice none 0 0]) S rfl rfl Tryz.call19 (arm_ct (H := (pk [1, 0] 2 H)) _ _ db2 (Dk.fresh 10000) ((an : Nat) : Int) (by omega) _ _ [] (okNil _) (by simp)) rfl rfl rfl fun v a w hR S => ?_
  obtain ⟨rfl, H⟩ := hR
  rw [arm_up] at H
  refine sn ?_
  refine sr 1 S H t0 fun a w S H => ?_
  refine r_seq ?_
  refine sr 1 S H t0 fun a w S H => ?_
  refine r_block ?_
  have H := H.nilRow 33 2
  refine r_loop (ι := Nat × Bx × List (List R) × Int × Nat × Dk.Fs × Option Addr × Nat) (fun ⟨i, x, cs, o, ar, fs, An, cn⟩ a w => Slots a 99 [(0, .int .i64 ((N : Nat) : Int)), (7, .bool true), (8, .pointer (some ⟨db2, 0, none⟩)), (9, .pointer (some ⟨b3, 0, none⟩)), (11, .slice An ((Rn.Bx.own i).length) cn), (12, .int .i64 ((i : Nat) : Int)), (99, undef)] ∧ Sat w (boxR b3 db2 x :: diskR db2 (Cl.dk (Dk.fresh 10000) o ar fs) :: row 33 2 (.slice An ((Rn.Bx.own i).length) cn) ((Rn.Bx.own i).length) (recs (Rn.Bx.own i)) :: fr) ∧ (i ≤ N ∧ (Cl.dk (Dk.fresh 10000) o ar fs).Ok ∧ Rn.Bx.Run [98, 111, 120] bn 2 (Rn.Bx.own i) fs x cs ∧ Dk.used fs + 2 * x.now.length ≤ 2 * i ∧ (Cl.dk (Dk.fresh 10000) o ar fs).files.length ≤ i)) (fun ⟨i, x, cs, o, ar, fs, An, cn⟩ => N - i) (0, Rn.Bx.new [98, 111, 120] bn 2, [], 0, an, [], none, 0) ⟨S.sub ⟨rfl, rfl, rfl, rfl, rfl, rfl, rfl, trivial⟩, pk [2, 1, 0] 3 H, ⟨Nat.zero_le _, (Dk.fresh_ok (by decide)).arm (n := ((an : Nat) : Int)) (by omega) [], Rn.Bx.Run.new (by decide) ⟨hbn1, by omega⟩ (.inr rfl) (fun i => rfl), Nat.le_refl _, Nat.le_refl _⟩⟩ (fun ⟨i, x, cs, o, ar, fs, An, cn⟩ a w hI => ?_)
  obtain ⟨S, H, hI⟩ := hI
  obtain ⟨hil, hok, hR, hpot, hcnt⟩ := hI
  refine r_seq ?_
  refine sr 3 S H t0 fun a w S H => ?_
  refine r_test S rfl (fun h49 => ?_) (fun h49 => ?_)
  · skip
    refine wp_skip ?_
    refine x_then ?_
    refine r_seq ?_
    refine r_block ?_
    refine sb ?_
    refine rn 1 S H t0 fun a w S H => ?_
    refine r_y S H (y_mul S rfl rfl rfl (wi64 (by omega) (by omega))) rfl rfl rfl fun a S => ?_
    have S := S.retell (v' := .int .i64 (((7 * i) : Nat) : Int)) 53 rfl (int_eq (by omega))
    refine rn 3 S H (by omega) fun a w S H => ?_
    refine r_y S H (y_build (vs := #[(0, .int .u64 (((7 * i) : Nat) : Int)), (1, .int .u64 ((i : Nat) : Int))]) (v := .agg #[.int .u64 (((7 * i) : Nat) : Int), .int .u64 ((i : Nat) : Int)]) S rfl rfl (fun w => by kernel_rfl)) rfl rfl rfl fun a S => ?_
    refine r_alloc S H rfl Tryz.zeroValue33 rfl rfl rfl rfl fun a w b4 S H => ?_
    replace H : Sat _ (blk b4 (.cells #[.int .u64 0, .int .u64 0] 33) :: boxR b3 db2 x :: diskR db2 (Cl.dk (Dk.fresh 10000) o ar fs) :: row 33 2 (.slice An ((Rn.Bx.own i).length) cn) ((Rn.Bx.own i).length) (recs (Rn.Bx.own i)) :: fr) := H
    refine rs 1 S H t0 fun a w S H => ?_
    rcases Rn.Bx.put_go (d := (Dk.fresh 10000)) (fs := fs) rfl o ar hok.ris hR.on (by have := hR.next; rw [Rn.Bx.own_len] at this; omega) (r := ((7 * i), i)) ⟨by show 7 * i < _; omega, by show i < _; omega⟩ (by show _ ≤ (10000 : Nat); omega) with ⟨ha1, ha3, o', fs', ep, hfr⟩ | ⟨o', ar', fs', x', cs', ep, haa, hp⟩
    · skip
      refine sb ?_
      refine rn 2 S H t0 fun a w S H => ?_
      refine r_call (args := #[.pointer (some ⟨b3, 0, none⟩), .agg #[.int .u64 (((7 * i) : Nat) : Int), .int .u64 ((i : Nat) : Int)]]) S rfl rfl Tryz.call12 (boxput_ct (H := (pk [1, 2, 0, 3] 4 H)) _ _ (hl.via fun _ H => H.drop.drop) b3 db2 x ((7 * i), i) (Cl.dk (Dk.fresh 10000) o ar fs) _ hR.on.fit (by omega) (by omega) ⟨by show 7 * i < _; omega, by show i < _; omega⟩) rfl rfl rfl fun v a w hR S => ?_
      obtain ⟨rfl, H⟩ := hR
      have hcn := Rn.Bx.put_cnt' ep
      have hok' := Rn.Bx.put_ok' ep hok
      rw [ep] at S H
      dsimp only at S H
      refine rs 1 S H t0 fun a w S H => ?_
      refine r_seq ?_
      refine sb ?_
      refine rn 2 S H t0 fun a w S H => ?_
      have S := S.retell (v' := .bool true) 62 rfl rfl
      refine rn 3 S H t0 fun a w S H => ?_
      have S := S.retell (v' := .bool false) 65 rfl rfl
      refine rn 4 S H t0 fun a w S H => ?_
      have S := S.retell (v' := .bool true) 69 rfl rfl
      refine rn 1 S H t0 fun a w S H => ?_
      refine r_call (args := #[.pointer (some ⟨db2, 0, none⟩)]) S rfl rfl Tryz.call20 (isdown_ct (H := (pk [1, 0, 2, 3] 4 H)) _ _ db2 (Cl.dn (Dk.fresh 10000) o' (Dk.tornAll fs' (Dk.fresh 10000).keep))) rfl rfl rfl fun v a w hR S => ?_
      obtain ⟨rfl, H⟩ := hR
      have S := S.retell (v' := .bool true) 71 rfl rfl
      refine r_y S H (y_neB S rfl rfl rfl Tryz.underlying4) rfl rfl rfl fun a S => ?_
      have S := S.retell (v' := .bool false) 72 rfl rfl
      refine rs 1 S H t0 fun a w S H => ?_
      refine r_condF S rfl ?_
      refine wp_skip ?_
      refine x_then ?_
      refine r_seq ?_
      refine sr 2 S H t0 fun a w S H => ?_
      have S := S.retell (v' := .bool true) 75 rfl rfl
      refine r_condT S rfl ?_
      refine wp_exit ?_
      refine x_thenExit ?_
      refine x_blockFar rfl ?_
      refine x_thenExit ?_
      refine x_thenExit ?_
      refine x_blockHere ?_
      refine x_then ?_
      refine sb ?_
      refine rn 1 S H t0 fun a w S H => ?_
      refine r_call (args := #[.pointer (some ⟨db2, 0, none⟩), .int .i64 0, .slice none 0 0]) S rfl rfl Tryz.call19 (arm_ct (H := H) _ _ db2 (Cl.dn (Dk.fresh 10000) o' (Dk.tornAll fs' (Dk.fresh 10000).keep)) 0 (by omega) _ _ [] (okNil _) (by simp)) rfl rfl rfl fun v a w hR S => ?_
      obtain ⟨rfl, H⟩ := hR
      refine sn ?_
      refine sr 2 S H (by omega) fun a w S H => ?_
      obtain ⟨qz, hzz, oz, ez⟩ := Rn.Bx.down_fall hok' hR hfr
      rw [Rn.fold_self (by decide) (Rn.Bx.own_kup i)] at ez
      have hkz : (Dk.Disk.restart (Dk.Disk.arm 0 ([]) (Cl.dn (Dk.fresh 10000) o' (Dk.tornAll fs' (Dk.fresh 10000).keep)))).files.length ≤ 41 := by show (Cl.dn (Dk.fresh 10000) o' (Dk.tornAll fs' (Dk.fresh 10000).keep)).files.length ≤ 41; omega
      refine sb ?_
      refine rn 1 S H t0 fun a w S H => ?_
      refine r_call (args := #[.pointer (some ⟨b3, 0, none⟩)]) S rfl rfl Tryz.call15 (all_ct (H := (pk [1, 0, 2, 3] 4 H)) _ _ b3 db2 x (Dk.Disk.restart (Dk.Disk.arm 0 ([]) (Cl.dn (Dk.fresh 10000) o' (Dk.tornAll fs' (Dk.fresh 10000).keep)))) _ hR.on.fit (by omega) (by omega) (hzz)) rfl rfl rfl fun v a w hR S => ?_
      obtain ⟨A5, c6, rfl, H⟩ := hR
      obtain ⟨oaZ, eaZ⟩ := (show ∃ q, Rn.Bx.all x (Dk.Disk.restart (Dk.Disk.arm 0 ([]) (Cl.dn (Dk.fresh 10000) o' (Dk.tornAll fs' (Dk.fresh 10000).keep)))) = (Cl.dk (Dk.Disk.restart (Dk.Disk.arm 0 ([]) (Cl.dn (Dk.fresh 10000) o' (Dk.tornAll fs' (Dk.fresh 10000).keep)))) q 0 (Dk.Disk.restart (Dk.Disk.arm 0 ([]) (Cl.dn (Dk.fresh 10000) o' (Dk.tornAll fs' (Dk.fresh 10000).keep)))).files, (Rn.Bx.own i), 0) from ⟨oz, ez⟩)
      obtain ⟨dZ, hdZ⟩ : ∃ y, y = Cl.dk (Dk.Disk.restart (Dk.Disk.arm 0 ([]) (Cl.dn (Dk.fresh 10000) o' (Dk.tornAll fs' (Dk.fresh 10000).keep)))) oaZ 0 (Dk.Disk.restart (Dk.Disk.arm 0 ([]) (Cl.dn (Dk.fresh 10000) o' (Dk.tornAll fs' (Dk.fresh 10000).keep)))).files := ⟨_, rfl⟩
      rw [← hdZ] at eaZ
      have qZ : Cl.Q dZ := by rw [hdZ]; exact qz.same _
      have hfZ : dZ.files = (Dk.Disk.restart (Dk.Disk.arm 0 ([]) (Cl.dn (Dk.fresh 10000) o' (Dk.tornAll fs' (Dk.fresh 10000).keep)))).files := by rw [hdZ]; rfl
      have hmZ : dZ.room = (Dk.Disk.restart (Dk.Disk.arm 0 ([]) (Cl.dn (Dk.fresh 10000) o' (Dk.tornAll fs' (Dk.fresh 10000).keep)))).room := by rw [hdZ]; rfl
      rw [eaZ] at S H
      dsimp only at S H
      refine rs 5 S H t0 fun a w S H => ?_
      refine sb ?_
      refine rn 4 S H t0 fun a w S H => ?_
      have S := S.retell (v' := .bool true) 92 rfl rfl
      refine rn 4 S H t0 fun a w S H => ?_
      refine r_call (args := #[.slice A5 ((Rn.Bx.own i).length) c6, .slice An ((Rn.Bx.own i).length) cn]) S rfl rfl Tryz.call16 (same7_ct (H := H) _ _ _ _ _ (Rn.Bx.own i) (SlOk.ofRow (i := 0) H rfl) _ _ _ (Rn.Bx.own i) (SlOk.ofRow (i := 4) H rfl)) rfl rfl rfl fun v a w hR S => ?_
      obtain ⟨rfl, H⟩ := hR
      have S := S.retell (v' := .bool true) 97 rfl (by simp)
      refine rs 2 S H t0 fun a w S H => ?_
      refine wp_ret ?_
      refine r_ret1 S H Tryz.results6 (ro_tmp S rfl) ?_
      exact ⟨rfl, H.drop.drop.drop.drop.drop⟩
    refine sb ?_
    refine rn 2 S H t0 fun a w S H => ?_
    refine r_call (args := #[.pointer (some ⟨b3, 0, none⟩), .agg #[.int .u64 (((7 * i) : Nat) : Int), .int .u64 ((i : Nat) : Int)]]) S rfl rfl Tryz.call12 (boxput_ct (H := (pk [1, 2, 0, 3] 4 H)) _ _ (hl.via fun _ H => H.drop.drop) b3 db2 x ((7 * i), i) (Cl.dk (Dk.fresh 10000) o ar fs) _ hR.on.fit (by omega) (by omega) ⟨by show 7 * i < _; omega, by show i < _; omega⟩) rfl rfl rfl fun v a w hR S => ?_
    obtain ⟨rfl, H⟩ := hR
    have hcn := Rn.Bx.put_cnt' ep
    have hok' := Rn.Bx.put_ok' ep hok
    rw [ep] at S H
    dsimp only at S H
    refine rs 1 S H t0 fun a w S H => ?_
    refine r_seq ?_
    refine sb ?_
    refine rn 2 S H t0 fun a w S H => ?_
    have S := S.retell (v' := .bool false) 62 rfl rfl
    refine rn 7 S H t0 fun a w S H => ?_
    have S := S.retell (v' := .bool false) 69 rfl rfl
    refine rn 1 S H t0 fun a w S H => ?_
    refine r_call (args := #[.pointer (some ⟨db2, 0, none⟩)]) S rfl rfl Tryz.call20 (isdown_ct (H := (pk [1, 0, 2, 3] 4 H)) _ _ db2 (Cl.dk (Dk.fresh 10000) o' ar' fs')) rfl rfl rfl fun v a w hR S => ?_
    obtain ⟨rfl, H⟩ := hR
    have S := S.retell (v' := .bool false) 71 rfl rfl
    refine r_y S H (y_neB S rfl rfl rfl Tryz.underlying4) rfl rfl rfl fun a S => ?_
    have S := S.retell (v' := .bool false) 72 rfl rfl
    refine rs 1 S H t0 fun a w S H => ?_
    refine r_condF S rfl ?_
    refine wp_skip ?_
    refine x_then ?_
    refine r_seq ?_
    refine sr 2 S H t0 fun a w S H => ?_
    have S := S.retell (v' := .bool false) 75 rfl rfl
    refine r_condF S rfl ?_
    refine wp_skip ?_
    refine x_then ?_
    refine r_region ?_
    refine rn 2 S H t0 fun a w S H => ?_
    refine r_lit (vs := #[(0, .agg #[.int .u64 (((7 * i) : Nat) : Int), .int .u64 ((i : Nat) : Int)])]) (cs := recs [((7 * i), i)]) S H rfl rfl el22 (by kernel_rfl) (by decide) (by rfl) rfl rfl rfl fun a w b7 S H => ?_
    refine r_appendS (L' := fun A8 c9 => row 33 2 (.slice (some ⟨b7, 0, none⟩) 1 1) 1 (recs [((7 * i), i)]) :: diskR db2 (Cl.dk (Dk.fresh 10000) o' ar' fs') :: boxR b3 db2 x' :: blk b4 (.cells #[.int .u64 (((7 * i) : Nat) : Int), .int .u64 ((i : Nat) : Int)] 33) :: row 33 2 (.slice A8 ((Rn.Bx.own i).length + 1) c9) ((Rn.Bx.own i).length + 1) (recs ((Rn.Bx.own i) ++ ([((7 * i), i)]))) :: fr) (xs' := recs ((Rn.Bx.own i) ++ ([((7 * i), i)]))) 4 S H rfl rfl rfl rfl el22 (SlOk.ofRow (i := 0) H rfl) (one_recs _) (by simp only [maxLen]; first | omega | (simp <;> omega)) (by first | omega | (simp <;> omega)) (recs_app (Rn.Bx.own i) ([((7 * i), i)])) (by first | omega | (simp <;> omega)) (fun _ _ => rfl) rfl rfl rfl fun a w A8 c9 hA8 S H => ?_
    refine rn 1 S H t0 fun a w S H => ?_
    refine r_nil ?_
    refine x_blockEnd ?_
    refine x_then ?_
    refine er 3 S H (by omega) fun a w S H => ?_
    refine x_then ?_
    have hkn : (Rn.Bx.own (i + 1)).length = (Rn.Bx.own i).length + 1 := by rw [Rn.Bx.own_succ]; simp
    have R' := hR.put hp
    rw [← Rn.Bx.own_succ] at R'
    have hpt := hp.pot
    have H := pk [2, 1, 4] 5 H
    exact ⟨(i + 1, x', cs', o', ar', fs', A8, c9), ⟨S.sub ⟨rfl, rfl, rfl, rfl, (show lk _ _ = some (.slice _ (Rn.Bx.own (i + 1)).length _) from by rw [hkn]; rfl), rfl, rfl, trivial⟩, (by rw [hkn, Rn.Bx.own_succ]; exact H), ⟨by omega, hok', R', by omega, by omega⟩⟩, by show N - (i + 1) < N - i; omega⟩
  refine wp_exit ?_
  refine x_thenExit ?_
  refine x_thenExit ?_
  refine x_blockHere ?_
  refine x_then ?_
  refine sb ?_
  refine rn 1 S H t0 fun a w S H => ?_
  refine r_call (args := #[.pointer (some ⟨db2, 0, none⟩), .int .i64 0, .slice none 0 0]) S rfl rfl Tryz.call19 (arm_ct (H := (pk [1, 0, 2] 3 H)) _ _ db2 (Cl.dk (Dk.fresh 10000) o ar fs) 0 (by omega) _ _ [] (okNil _) (by simp)) rfl rfl rfl fun v a w hR S => ?_
  obtain ⟨rfl, H⟩ := hR
  refine sn ?_
  refine sr 2 S H (by omega) fun a w S H => ?_
  obtain ⟨qz, hzz, oz, ez⟩ := Rn.Bx.down_go rfl hok hR
  rw [Rn.fold_self (by decide) (Rn.Bx.own_kup i)] at ez
  have hkz : (Dk.Disk.restart (Dk.Disk.arm 0 ([]) (Cl.dk (Dk.fresh 10000) o ar fs))).files.length ≤ 41 := by show (Cl.dk (Dk.fresh 10000) o ar fs).files.length ≤ 41; omega
  refine sb ?_
  refine rn 1 S H t0 fun a w S H => ?_
  refine r_call (args := #[.pointer (some ⟨b3, 0, none⟩)]) S rfl rfl Tryz.call15 (all_ct (H := (pk [1, 0, 2] 3 H)) _ _ b3 db2 x (Dk.Disk.restart (Dk.Disk.arm 0 ([]) (Cl.dk (Dk.fresh 10000) o ar fs))) _ hR.on.fit (by omega) (by omega) (hzz)) rfl rfl rfl fun v a w hR S => ?_
  obtain ⟨A10, c11, rfl, H⟩ := hR
  obtain ⟨oaZ, eaZ⟩ := (show ∃ q, Rn.Bx.all x (Dk.Disk.restart (Dk.Disk.arm 0 ([]) (Cl.dk (Dk.fresh 10000) o ar fs))) = (Cl.dk (Dk.Disk.restart (Dk.Disk.arm 0 ([]) (Cl.dk (Dk.fresh 10000) o ar fs))) q 0 (Dk.Disk.restart (Dk.Disk.arm 0 ([]) (Cl.dk (Dk.fresh 10000) o ar fs))).files, (Rn.Bx.own i), 0) from ⟨oz, ez⟩)
  obtain ⟨dZ, hdZ⟩ : ∃ y, y = Cl.dk (Dk.Disk.restart (Dk.Disk.arm 0 ([]) (Cl.dk (Dk.fresh 10000) o ar fs))) oaZ 0 (Dk.Disk.restart (Dk.Disk.arm 0 ([]) (Cl.dk (Dk.fresh 10000) o ar fs))).files := ⟨_, rfl⟩
  rw [← hdZ] at eaZ
  have qZ : Cl.Q dZ := by rw [hdZ]; exact qz.same _
  have hfZ : dZ.files = (Dk.Disk.restart (Dk.Disk.arm 0 ([]) (Cl.dk (Dk.fresh 10000) o ar fs))).files := by rw [hdZ]; rfl
  have hmZ : dZ.room = (Dk.Disk.restart (Dk.Disk.arm 0 ([]) (Cl.dk (Dk.fresh 10000) o ar fs))).room := by rw [hdZ]; rfl
  rw [eaZ] at S H
  dsimp only at S H
  refine rs 5 S H t0 fun a w S H => ?_
  refine sb ?_
  refine rn 4 S H t0 fun a w S H => ?_
  have S := S.retell (v' := .bool true) 92 rfl rfl
  refine rn 4 S H t0 fun a w S H => ?_
  refine r_call (args := #[.slice A10 ((Rn.Bx.own i).length) c11, .slice An ((Rn.Bx.own i).length) cn]) S rfl rfl Tryz.call16 (same7_ct (H := H) _ _ _ _ _ (Rn.Bx.own i) (SlOk.ofRow (i := 0) H rfl) _ _ _ (Rn.Bx.own i) (SlOk.ofRow (i := 3) H rfl)) rfl rfl rfl fun v a w hR S => ?_
  obtain ⟨rfl, H⟩ := hR
  have S := S.retell (v' := .bool true) 97 rfl (by simp)
  refine rs 2 S H t0 fun a w S H => ?_
  refine wp_ret ?_
  refine r_ret1 S H Tryz.results6 (ro_tmp S rfl) ?_
  exact ⟨rfl, H.drop.drop.drop.drop⟩

end Go.Proofs.YtembfpadojnpmaaGreatDoor
namespace Go.Proofs.YtembfpadojnpmaaGreatDoor
open Go.RowKit Go.Cg
set_option linter.unusedVariables false
set_option linter.unusedSimpArgs false
set_option maxRecDepth 8000
set_option synthInstance.maxHeartbeats 1000000
set_option synthInstance.maxSize 1000000
open Go.Cg.Dk (By Nm)
open Go.Cg.Rn (R Bd Bx)
theorem nU64 {L : List Res} {A : Option Addr} {m c : Nat} {l : List Nat} (h : SlOk L 1 A m c (u64s l)) : m = l.length := by have := h.len; simp at this; omega
theorem low_snoc {ow : List R} {i : Nat} {r : R} (h : ∀ z ∈ ow, z.1 < i) (hr : r.1 = i) : ∀ z ∈ ow ++ [r], z.1 < i + 1 := by
  intro z hz
  rcases List.mem_append.1 hz with hz | hz
  · have := h z hz; omega
  · rw [List.mem_singleton.1 hz]; omega
theorem law_space (w : World) (fr : List Res) (hl : Laid fr) (A : Option Addr) (n c : Nat) (l : List Nat) (ok0 : SlOk fr 1 A n c (u64s l)) (mb : ∀ a ∈ l, a ≤ 18446744073709551615) (a1 a2 : Int) (H : Sat w (fr)) :
    Rt Tryz.prog 8 #[.slice A n c, .int .i64 a1, .int .i64 a2] w fun v w' => v = .bool true ∧ Sat w' fr := by
  refine en3 Tryz.func8 rfl Tryz.ntmps8 rfl fun a S => ?_
  obtain rfl := nU64 ok0
  have hcpl := ok0.le
  have hcql := ok0.cap
  simp only [maxLen] at hcql
  refine sr 1 S H t0 fun a w S H => ?_
  refine sb ?_
  refine r_call (args := #[]) S rfl rfl Tryz.call9 (shown_ct (H := H) _ _ (hl.via fun _ H => H)) rfl rfl rfl fun v a w hR S => ?_
  obtain ⟨rfl, H⟩ := hR
  refine rs 1 S H t0 fun a w S H => ?_
  refine sb ?_
  refine rn 1 S H t0 fun a w S H => ?_
  refine r_y S H (y_bitop S rfl rfl rfl (fun w => maskL 16 65536 65535 (by decide) (by decide) (by decide) a1 w)) rfl rfl rfl fun a S => ?_
  refine r_y S H (y_remN S rfl rfl rfl (by omega) (by omega)) rfl rfl rfl fun a S => ?_
  refine rs 2 S H (by omega) fun a w S H => ?_
  obtain ⟨bn, hbn⟩ : ∃ x : Nat, ((x : Nat) : Int) = 1 + a1 % 65536 % 10 := ⟨(1 + a1 % 65536 % 10).toNat, by omega⟩
  have S := S.retell (v' := .int .i64 ((bn : Nat) : Int)) 1 rfl (by rw [hbn])
  have hbnb : bn ≤ 10 := by omega
  have hbn1 : 1 ≤ bn := by omega
  refine sb ?_
  refine rn 1 S H t0 fun a w S H => ?_
  refine r_y S H (y_bitop S rfl rfl rfl (fun w => maskL 16 65536 65535 (by decide) (by decide) (by decide) a2 w)) rfl rfl rfl fun a S => ?_
  refine r_y S H (y_remN S rfl rfl rfl (by omega) (by omega)) rfl rfl rfl fun a S => ?_
  refine rs 1 S H t0 fun a w S H => ?_
  obtain ⟨ro, hro⟩ : ∃ x : Nat, ((x : Nat) : Int) = a2 % 65536 % 41 := ⟨(a2 % 65536 % 41).toNat, by omega⟩
  have S := S.retell (v' := .int .i64 ((ro : Nat) : Int)) 2 rfl (by rw [hro])
  have hrob : ro ≤ 40 := by omega
  refine sb ?_
  refine rn 1 S H t0 fun a w S H => ?_
  refine r_call (args := #[.int .i64 ((ro : Nat) : Int)]) S rfl rfl Tryz.call10 (new_ct (H := H) _ _ ((ro : Nat) : Int) (by omega)) rfl rfl rfl fun v a w hR S => ?_
  obtain ⟨db3, rfl, H⟩ := hR
  refine rs 1 S H t0 fun a w S H => ?_
  refine r_seq ?_
  refine sr 2 S H t0 fun a w S H => ?_
  refine r_condF S rfl ?_
  refine wp_skip ?_
  refine x_then ?_
  refine sb ?_
  refine rn 2 S H t0 fun a w S H => ?_
  refine r_call (args := #[.pointer (some ⟨db3, 0, none⟩), str ([98, 111, 120]), .int .i64 ((bn : Nat) : Int), .int .i64 1]) S rfl rfl Tryz.call11 (newbox_ct (H := H) _ _ db3 ([98, 111, 120]) bn 1 (by omega) (.inl rfl)) rfl rfl rfl fun v a w hR S => ?_
  obtain ⟨b4, rfl, H⟩ := hR
  refine rs 5 S H t0 fun a w S H => ?_
  refine r_seq ?_
  refine sb ?_
  refine rn 2 S H t0 fun a w S H => ?_
  have S := S.retell (v' := .bool false) 38 rfl rfl
  refine rs 4 S H t0 fun a w S H => ?_
  refine r_condF S rfl ?_
  refine wp_skip ?_
  refine x_then ?_
  refine sr 1 S H t0 fun a w S H => ?_
  refine r_seq ?_
  refine sr 1 S H t0 fun a w S H => ?_
  refine r_block ?_
  have H := H.nilRow 33 2
  refine r_loop (ι := Nat × Bx × List (List R) × Dk.Disk × List R × Option Addr × Nat) (fun ⟨i, x, cs, d, ow, An, cn⟩ a w => Slots a 111 [(0, .slice A l.length c), (2, .int .i64 ((ro : Nat) : Int)), (7, .bool true), (8, .pointer (some ⟨db3, 0, none⟩)), (9, .pointer (some ⟨b4, 0, none⟩)), (11, .slice An ow.length cn), (12, .int .i64 ((i : Nat) : Int)), (111, undef)] ∧ Sat w (boxR b4 db3 x :: diskR db3 d :: row 33 2 (.slice An ow.length cn) ow.length (recs ow) :: fr) ∧ (i ≤ l.length ∧ i ≤ 60 ∧ Cl.Q d ∧ d.room = ro ∧ Rn.Bx.Run [98, 111, 120] bn 1 ow d.files x cs ∧ (∀ m, Dk.fget d.files m ≠ none → m ∈ x.files) ∧ (∀ z ∈ ow, z.1 < i) ∧ ow.length ≤ i ∧ Bd ow ∧ d.files.length ≤ i)) (fun ⟨i, x, cs, d, ow, An, cn⟩ => 60 - i) (0, Rn.Bx.new [98, 111, 120] bn 1, [], Dk.fresh ((ro : Nat) : Int), [], none, 0) ⟨S.sub ⟨rfl, rfl, rfl, rfl, rfl, rfl, rfl, rfl, trivial⟩, pk [1, 2, 0] 3 H, ⟨Nat.zero_le _, Nat.zero_le _, Rn.Bx.fresh_q (by omega), rfl, Rn.Bx.Run.new (by decide) ⟨hbn1, by omega⟩ (.inl rfl) (fun i => rfl), fun m hm => absurd rfl hm, (fun z hz => by cases hz), Nat.le_refl _, Bd.nil, Nat.le_refl _⟩⟩ (fun ⟨i, x, cs, d, ow, An, cn⟩ a w hI => ?_)
  obtain ⟨S, H, hI⟩ := hI
  obtain ⟨hil, hi6, hq, hrm, hR, ho, hlt, hol, hbo, hcnt⟩ := hI
  refine r_seq ?_
  refine sb ?_
  refine rn 5 S H t0 fun a w S H => ?_
  refine scA 1 S H (fun _ => t0) fun a w S H => ?_
  refine sn ?_
  refine r_cond S rfl (fun h50 => ?_) (fun h50 => ?_)
  · skip
    simp only [Bool.and_eq_true, decide_eq_true_eq] at h50
    refine wp_skip ?_
    refine x_then ?_
    refine r_seq ?_
    refine r_block ?_
    refine sb ?_
    refine rn 4 S H (by omega) fun a w S H => ?_
    obtain ⟨b5, o6, rfl⟩ := (((ok0.more _).more _).more _).addr H (by first | omega | (simp <;> omega))
    refine r_y S H (y_index S rfl rfl rfl Tryz.underlying30 Tryz.sizeOf31 (by omega) (by omega)) rfl rfl rfl fun a S => ?_
    refine r_y S H (y_loadAt S rfl rfl Tryz.isAgg31 (fun w H => (((ok0.more _).more _).more _).cell w H (u64s_at (i := i) (by first | omega | (simp <;> omega))))) rfl rfl rfl fun a S => ?_
    refine r_y S H (y_build (vs := #[(0, .int .u64 ((i : Nat) : Int)), (1, .int .u64 ((l.getD i 0 : Nat) : Int))]) (v := .agg #[.int .u64 ((i : Nat) : Int), .int .u64 ((l.getD i 0 : Nat) : Int)]) S rfl rfl (fun w => by kernel_rfl)) rfl rfl rfl fun a S => ?_
    refine r_alloc S H rfl Tryz.zeroValue33 rfl rfl rfl rfl fun a w b7 S H => ?_
    replace H : Sat _ (blk b7 (.cells #[.int .u64 0, .int .u64 0] 33) :: boxR b4 db3 x :: diskR db3 d :: row 33 2 (.slice An ow.length cn) ow.length (recs ow) :: fr) := H
    refine rs 1 S H t0 fun a w S H => ?_
    have hri : ((i, l.getD i 0) : R).1 < 18446744073709551616 ∧ ((i, l.getD i 0) : R).2 < 18446744073709551616 := ⟨by show i < _; omega, Nat.lt_succ_of_le (mb _ (by rw [List.getD_eq_getElem?_getD, List.getElem?_eq_getElem (by omega)]; exact List.getElem_mem _))⟩
    have hnk := hR.new_key (q := i) (fun z hz => by have := hlt z hz; omega)
    have hnx := hR.next
    by_cases hS : x.budget ≤ x.now.length ∧ d.room < Dk.used d.files + x.now.length + 1
    · skip
      obtain ⟨os, eS⟩ := Rn.Bx.put_space hq hR.on (by omega) (r := (i, l.getD i 0)) hnk hS.1 hS.2
      refine sb ?_
      refine rn 2 S H t0 fun a w S H => ?_
      refine r_call (args := #[.pointer (some ⟨b4, 0, none⟩), .agg #[.int .u64 ((i : Nat) : Int), .int .u64 ((l.getD i 0 : Nat) : Int)]]) S rfl rfl Tryz.call12 (boxput_ct (H := (pk [1, 2, 0, 3] 4 H)) _ _ (hl.via fun _ H => H.drop.drop) b4 db3 x (i, l.getD i 0) d _ hR.on.fit (by omega) (by omega) hri) rfl rfl rfl fun v a w hR S => ?_
      obtain ⟨rfl, H⟩ := hR
      obtain ⟨d', hd'⟩ : ∃ y, y = Cl.dk d os 0 d.files := ⟨_, rfl⟩
      rw [← hd'] at eS
      have q' : Cl.Q d' := by rw [hd']; exact hq.same _
      have hf' : d'.files = d.files := by rw [hd']; rfl
      have rm' : d'.room = d.room := by rw [hd']; rfl
      rw [← hf'] at hR ho hcnt
      have hct := hR.on.count q'.ok.ris ho
      have hlx := hR.on.len
      rw [eS] at S H
      dsimp only at S H
      refine rs 1 S H t0 fun a w S H => ?_
      refine r_seq ?_
      refine sb ?_
      refine rn 2 S H t0 fun a w S H => ?_
      have S := S.retell (v' := .bool true) 64 rfl rfl
      refine rn 3 S H t0 fun a w S H => ?_
      have S := S.retell (v' := .bool false) 67 rfl rfl
      refine rs 1 S H t0 fun a w S H => ?_
      refine r_condF S rfl ?_
      refine wp_skip ?_
      refine x_then ?_
      refine r_seq ?_
      refine sr 2 S H t0 fun a w S H => ?_
      have S := S.retell (v' := .bool false) 70 rfl rfl
      refine r_condF S rfl ?_
      refine wp_skip ?_
      refine x_then ?_
      refine sb ?_
      refine rn 1 S H t0 fun a w S H => ?_
      refine r_call (args := #[.pointer (some ⟨db3, 0, none⟩)]) S rfl rfl Tryz.call22 (list_ct (H := (pk [1, 0, 2, 3] 4 H)) _ _ db3 d' (by omega)) rfl rfl rfl fun v a w hR S => ?_
      obtain ⟨A8, c9, rfl, H⟩ := hR
      obtain ⟨olC, elC⟩ := Cl.list_q q'
      obtain ⟨dC, hdC⟩ : ∃ y, y = Cl.dk d' olC 0 d'.files := ⟨_, rfl⟩
      obtain ⟨nsC, hnsC⟩ : ∃ y, y = d'.files.map (fun p : Nm × Dk.Fl => p.1) := ⟨_, rfl⟩
      rw [← hdC, ← hnsC] at elC
      have qC : Cl.Q dC := by rw [hdC]; exact q'.same _
      have hfC : dC.files = d'.files := by rw [hdC]; rfl
      have hmC : dC.room = d'.room := by rw [hdC]; rfl
      have hnlC : nsC.length = d'.files.length := by rw [hnsC]; simp
      rw [elC] at S H
      dsimp only at S H
      have hfit : dC.used ≤ dC.room := qC.ok.fit
      rw [← hfC] at hR ho hcnt
      refine rs 5 S H t0 fun a w S H => ?_
      refine sb ?_
      refine rn 2 S H t0 fun a w S H => ?_
      have S := S.retell (v' := .bool false) 81 rfl rfl
      refine rn 4 S H t0 fun a w S H => ?_
      refine r_call (args := #[.pointer (some ⟨b4, 0, none⟩)]) S rfl rfl Tryz.call14 (bspl_ct (H := (pk [2, 0, 1, 3, 4] 5 H)) _ _ b4 db3 x) rfl rfl rfl fun v a w hR S => ?_
      obtain ⟨rfl, H⟩ := hR
      refine r_y S H (y_ne S rfl rfl rfl) rfl rfl rfl fun a S => ?_
      have S := S.retell (v' := .bool false) 87 rfl (by rw [decide_eq_false (by omega)])
      refine rn 3 S H t0 fun a w S H => ?_
      refine r_call (args := #[.pointer (some ⟨db3, 0, none⟩)]) S rfl rfl Tryz.call23 (dused_ct (H := (pk [1, 0, 2, 3, 4] 5 H)) _ _ db3 dC) rfl rfl rfl fun v a w hR S => ?_
      obtain ⟨rfl, H⟩ := hR
      refine rn 1 S H t0 fun a w S H => ?_
      refine r_y S H (y_gt S rfl rfl rfl) rfl rfl rfl fun a S => ?_
      have S := S.retell (v' := .bool false) 93 rfl (by rw [decide_eq_false (by omega)])
      refine rs 1 S H t0 fun a w S H => ?_
      refine r_condF S rfl ?_
      refine wp_skip ?_
      refine x_blockEnd ?_
      refine x_then ?_
      refine er 3 S H (by omega) fun a w S H => ?_
      refine x_then ?_
      have H := pk [1, 0, 4] 5 H
      exact ⟨(i + 1, x, cs, dC, ow, An, cn), ⟨S.sub ⟨rfl, rfl, rfl, rfl, rfl, rfl, rfl, rfl, trivial⟩, H, ⟨by omega, by omega, qC, hmC.trans (rm'.trans hrm), hR, ho, fun z hz => (by have := hlt z hz; omega), by omega, hbo, by omega⟩⟩, by show 60 - (i + 1) < 60 - i; omega⟩
    obtain ⟨d', x', cs', ep, q', rm', hp', R'⟩ := hR.stepC hq (by omega) (r := (i, l.getD i 0)) hri (fun _ hbf => by omega)
    refine sb ?_
    refine rn 2 S H t0 fun a w S H => ?_
    refine r_call (args := #[.pointer (some ⟨b4, 0, none⟩), .agg #[.int .u64 ((i : Nat) : Int), .int .u64 ((l.getD i 0 : Nat) : Int)]]) S rfl rfl Tryz.call12 (boxput_ct (H := (pk [1, 2, 0, 3] 4 H)) _ _ (hl.via fun _ H => H.drop.drop) b4 db3 x (i, l.getD i 0) d _ hR.on.fit (by omega) (by omega) hri) rfl rfl rfl fun v a w hR S => ?_
    obtain ⟨rfl, H⟩ := hR
    have hcn := Rn.Bx.put_cnt' ep
    have ho' := hp'.only ho
    have hct := R'.on.count q'.ok.ris ho'
    have hlx := R'.on.len
    rw [ep] at S H
    dsimp only at S H
    refine rs 1 S H t0 fun a w S H => ?_
    refine r_seq ?_
    refine sb ?_
    refine rn 2 S H t0 fun a w S H => ?_
    have S := S.retell (v' := .bool false) 64 rfl rfl
    refine rs 4 S H t0 fun a w S H => ?_
    refine r_condF S rfl ?_
    refine wp_skip ?_
    refine x_then ?_
    refine r_seq ?_
    refine sr 2 S H t0 fun a w S H => ?_
    have S := S.retell (v' := .bool true) 70 rfl rfl
    refine r_condT S rfl ?_
    refine r_region ?_
    refine rn 2 S H t0 fun a w S H => ?_
    refine r_lit (vs := #[(0, .agg #[.int .u64 ((i : Nat) : Int), .int .u64 ((l.getD i 0 : Nat) : Int)])]) (cs := recs [(i, (l.getD i 0))]) S H rfl rfl el22 (by kernel_rfl) (by decide) (by rfl) rfl rfl rfl fun a w b10 S H => ?_
    refine r_appendS (L' := fun A11 c12 => row 33 2 (.slice (some ⟨b10, 0, none⟩) 1 1) 1 (recs [(i, (l.getD i 0))]) :: boxR b4 db3 x' :: diskR db3 d' :: blk b7 (.cells #[.int .u64 ((i : Nat) : Int), .int .u64 ((l.getD i 0 : Nat) : Int)] 33) :: row 33 2 (.slice A11 (ow.length + 1) c12) (ow.length + 1) (recs (ow ++ ([(i, (l.getD i 0))]))) :: fr) (xs' := recs (ow ++ ([(i, (l.getD i 0))]))) 4 S H rfl rfl rfl rfl el22 (SlOk.ofRow (i := 0) H rfl) (one_recs _) (by simp only [maxLen]; first | omega | (simp <;> omega)) (by first | omega | (simp <;> omega)) (recs_app ow ([(i, (l.getD i 0))])) (by first | omega | (simp <;> omega)) (fun _ _ => rfl) rfl rfl rfl fun a w A11 c12 hA11 S H => ?_
    refine rn 1 S H t0 fun a w S H => ?_
    refine r_nil ?_
    refine x_then ?_
    refine sb ?_
    refine rn 1 S H t0 fun a w S H => ?_
    refine r_call (args := #[.pointer (some ⟨db3, 0, none⟩)]) S rfl rfl Tryz.call22 (list_ct (H := (pk [2, 0, 1, 3, 4] 5 H)) _ _ db3 d' (by omega)) rfl rfl rfl fun v a w hR S => ?_
    obtain ⟨A13, c14, rfl, H⟩ := hR
    obtain ⟨olC, elC⟩ := Cl.list_q q'
    obtain ⟨dC, hdC⟩ : ∃ y, y = Cl.dk d' olC 0 d'.files := ⟨_, rfl⟩
    obtain ⟨nsC, hnsC⟩ : ∃ y, y = d'.files.map (fun p : Nm × Dk.Fl => p.1) := ⟨_, rfl⟩
    rw [← hdC, ← hnsC] at elC
    have qC : Cl.Q dC := by rw [hdC]; exact q'.same _
    have hfC : dC.files = d'.files := by rw [hdC]; rfl
    have hmC : dC.room = d'.room := by rw [hdC]; rfl
    have hnlC : nsC.length = d'.files.length := by rw [hnsC]; simp
    rw [elC] at S H
    dsimp only at S H
    have hfit : dC.used ≤ dC.room := qC.ok.fit
    rw [← hfC] at R' ho' hcn
    refine rs 5 S H t0 fun a w S H => ?_
    refine sb ?_
    refine rn 2 S H t0 fun a w S H => ?_
    have S := S.retell (v' := .bool false) 81 rfl rfl
    refine rn 4 S H t0 fun a w S H => ?_
    refine r_call (args := #[.pointer (some ⟨b4, 0, none⟩)]) S rfl rfl Tryz.call14 (bspl_ct (H := (pk [3, 0, 1, 2, 4, 5] 6 H)) _ _ b4 db3 x') rfl rfl rfl fun v a w hR S => ?_
    obtain ⟨rfl, H⟩ := hR
    refine r_y S H (y_ne S rfl rfl rfl) rfl rfl rfl fun a S => ?_
    have S := S.retell (v' := .bool false) 87 rfl (by rw [decide_eq_false (by omega)])
    refine rn 3 S H t0 fun a w S H => ?_
    refine r_call (args := #[.pointer (some ⟨db3, 0, none⟩)]) S rfl rfl Tryz.call23 (dused_ct (H := (pk [1, 0, 2, 3, 4, 5] 6 H)) _ _ db3 dC) rfl rfl rfl fun v a w hR S => ?_
    obtain ⟨rfl, H⟩ := hR
    refine rn 1 S H t0 fun a w S H => ?_
    refine r_y S H (y_gt S rfl rfl rfl) rfl rfl rfl fun a S => ?_
    have S := S.retell (v' := .bool false) 93 rfl (by rw [decide_eq_false (by omega)])
    refine rs 1 S H t0 fun a w S H => ?_
    refine r_condF S rfl ?_
    refine wp_skip ?_
    refine x_blockEnd ?_
    refine x_then ?_
    refine er 3 S H (by omega) fun a w S H => ?_
    refine x_then ?_
    have hkn : (ow ++ [(i, l.getD i 0)]).length = ow.length + 1 := by simp
    have H := pk [1, 0, 5] 6 H
    exact ⟨(i + 1, x', cs', dC, ow ++ [(i, l.getD i 0)], A11, c12), ⟨S.sub ⟨rfl, rfl, rfl, rfl, rfl, (show lk _ _ = some (.slice _ (ow ++ [(i, l.getD i 0)]).length _) from by rw [hkn]; rfl), rfl, rfl, trivial⟩, (by rw [hkn]; exact H), ⟨by omega, by omega, qC, hmC.trans (rm'.trans hrm), R', ho', low_snoc hlt rfl, (by simp; omega), hbo.app fun z hz => (by rw [List.mem_singleton.1 hz]; exact hri), by omega⟩⟩, by show 60 - (i + 1) < 60 - i; omega⟩
  refine wp_exit ?_
  refine x_thenExit ?_
  refine x_thenExit ?_
  refine x_blockHere ?_
  refine x_then ?_
  obtain ⟨orA, hrrA⟩ := hR.on.reads hq
  have hzzA : (Rn.Bx.reads x.files [Rn.sort x.now] d).2.1.flatten.length ≤ 1099511627776 := by rw [hrrA]; exact hR.on.sum
  refine sb ?_
  refine rn 1 S H t0 fun a w S H => ?_
  refine r_call (args := #[.pointer (some ⟨b4, 0, none⟩)]) S rfl rfl Tryz.call15 (all_ct (H := H) _ _ b4 db3 x d _ hR.on.fit (by omega) (by omega) (hzzA)) rfl rfl rfl fun v a w hR S => ?_
  obtain ⟨A15, c16, rfl, H⟩ := hR
  obtain ⟨oaA, eaA⟩ := hR.all hq
  obtain ⟨dA, hdA⟩ : ∃ y, y = Cl.dk d oaA 0 d.files := ⟨_, rfl⟩
  rw [← hdA] at eaA
  have qA : Cl.Q dA := by rw [hdA]; exact hq.same _
  have hfA : dA.files = d.files := by rw [hdA]; rfl
  have hmA : dA.room = d.room := by rw [hdA]; rfl
  rw [eaA] at S H
  dsimp only at S H
  refine rs 5 S H t0 fun a w S H => ?_
  refine sb ?_
  refine rn 4 S H t0 fun a w S H => ?_
  have S := S.retell (v' := .bool true) 103 rfl rfl
  refine rn 4 S H t0 fun a w S H => ?_
  refine r_call (args := #[.slice An ow.length cn, .int .i64 1]) S rfl rfl Tryz.call18 (sorted8_ct (H := H) _ _ An cn ow (SlOk.ofRow (i := 3) H rfl) (by omega) (hbo) 1) rfl rfl rfl fun v a w hR S => ?_
  obtain ⟨A17, c18, rfl, H⟩ := hR
  refine r_call (args := #[.slice A15 ((Rn.fold 1 (Rn.sort ow)).length) c16, .slice A17 ((Rn.fold 1 (Rn.sort ow)).length) c18]) S rfl rfl Tryz.call16 (same7_ct (H := H) _ _ _ _ _ (Rn.fold 1 (Rn.sort ow)) (SlOk.ofRow (i := 1) H rfl) _ _ _ (Rn.fold 1 (Rn.sort ow)) (SlOk.ofRow (i := 0) H rfl)) rfl rfl rfl fun v a w hR S => ?_
  obtain ⟨rfl, H⟩ := hR
  have S := S.retell (v' := .bool true) 109 rfl (by simp)
  refine rs 2 S H t0 fun a w S H => ?_
  refine wp_ret ?_
  refine r_ret1 S H Tryz.results8 (ro_tmp S rfl) ?_
  exact ⟨rfl, H.drop.drop.drop.drop.drop⟩

end Go.Proofs.YtembfpadojnpmaaGreatDoor

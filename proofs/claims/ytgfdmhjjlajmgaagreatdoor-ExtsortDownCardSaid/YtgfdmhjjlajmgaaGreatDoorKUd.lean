/- Walks of functions of the program, over slots and resources, and what they rest on. No condition. -/
import Derived.Test.YtgfdmhjjlajmgaaGreatDoorKUc
import Derived.Test.YtgfdmhjjlajmgaaGreatDoorKUXs
import Derived.Test.YtgfdmhjjlajmgaaGreatDoorKURg
import Derived.RangeFuncBox
import Derived.Shelf.Abstract
import Derived.WalkKit
import Derived.OwnWalkIn
import Derived.TacticsInMore
import Derived.LoopNIn
import Derived.LoopIn
import Derived.BigRegionIn
import Derived.Test.YtgfdmhjjlajmgaaGreatDoorKUXc
import Derived.Test.YtgfdmhjjlajmgaaGreatDoorKUb
import Derived.Test.YtgfdmhjjlajmgaaGreatDoorKUXb
import Derived.Laws.BitsLemmas
namespace Go.Proofs.YtgfdmhjjlajmgaaGreatDoor
open Go.RowKit Go.Cg
set_option linter.unusedVariables false
set_option linter.unusedSimpArgs false
set_option maxRecDepth 8000
set_option synthInstance.maxHeartbeats 1000000
set_option synthInstance.maxSize 1000000
open Go.Cg.Dk (By Nm)
open Go.Cg.Rn (R Bd Rs RsOk RsFit Hd hd0)
open Go.Cg.Xs (Tm Rd rd0 RdsOk HBd)
/-- the last record, by its address, if there is one -/
def lastR (lv : Value) : Option R → Res
  | none => fact (lv = .pointer none)
  | some z => ex fun p : Nat × Value => star [fact (lv = .pointer (some ⟨p.1, 0, none⟩)), blk p.1 (.cells #[.int .u64 ((z.1 : Nat) : Int), .int .u64 ((z.2 : Nat) : Int), p.2] 135)]
theorem Sat.lastNo {w : World} {L : List Res} (H : Sat w L) : Sat w (lastR (.pointer none) none :: L) := sat_fact.2 ⟨rfl, H⟩
theorem Sat.lastNone {w : World} {L : List Res} {lv : Value} (H : Sat w (lastR lv none :: L)) : lv = .pointer none ∧ Sat w L := sat_fact.1 H
theorem Sat.lastSome {w : World} {L : List Res} {lv : Value} {z : R} (H : Sat w (lastR lv (some z) :: L)) : ∃ lb q, lv = .pointer (some ⟨lb, 0, none⟩) ∧ Sat w (blk lb (.cells #[.int .u64 ((z.1 : Nat) : Int), .int .u64 ((z.2 : Nat) : Int), q] 135) :: L) := by
  obtain ⟨⟨lb, q⟩, H⟩ := sat_ex.1 H
  obtain ⟨h, H⟩ := sat_fact.1 (sat_star.1 H)
  exact ⟨lb, q, h, H⟩
theorem Sat.lastIn {w : World} {L : List Res} {lb : Nat} {q : Value} (z : R) (H : Sat w (blk lb (.cells #[.int .u64 ((z.1 : Nat) : Int), .int .u64 ((z.2 : Nat) : Int), q] 135) :: L)) : Sat w (lastR (.pointer (some ⟨lb, 0, none⟩)) (some z) :: L) :=
  sat_ex.2 ⟨(lb, q), sat_star.2 (sat_fact.2 ⟨rfl, H⟩)⟩
theorem getD_last {l : List Nat} {n b : Nat} (h : l.length = n) : (l ++ [b]).getD (n + 1 - 1) 0 = b := by
  subst h; simp
theorem comb_lt' {how : Int} {a b : Nat} (ha : a < 18446744073709551616) (hb : b < 18446744073709551616) : Rn.comb how a b < 18446744073709551616 := by
  unfold Rn.comb; split <;> omega
theorem last_cases (last : Option R) (how : Int) (k : Nat) : last = none ∨ (∃ z, last = some z ∧ how = 0) ∨ (∃ z, last = some z ∧ how ≠ 0 ∧ z.1 = k) ∨ (∃ z, last = some z ∧ how ≠ 0 ∧ ¬ z.1 = k) := by
  cases last with
  | none => exact .inl rfl
  | some z => by_cases h : how = 0 <;> by_cases h1 : z.1 = k <;> simp [h, h1]
theorem smerge_ct (w : World) (fr : List Res) (zb db : Nat) (temp : Nm) (fan : Nat) (how : Int) (tm : Tm) (A : Option Addr) (c : Nat) (ns : List Nm) (ok : SlOk fr 1 A ns.length c (strs ns)) (out : Nm) (d : Dk.Disk) (hc : d.files.length ≤ 4398046510000 ∧ ns.length ≤ 1099511627776) (H : Sat w (srtR zb db temp fan how tm :: diskR db d :: fr)) :
    Rt Tryz.prog 55 #[.pointer (some ⟨zb, 0, none⟩), .slice A ns.length c, str (out)] w fun v w' => v = .int .i64 (((Xs.merge how out ns d).2 : Nat) : Int) ∧ Sat w' (srtR zb db temp fan how tm :: diskR db (Xs.merge how out ns d).1 :: fr) := by
  refine en3 Tryz.func55 rfl Tryz.ntmps55 rfl fun a S => ?_
  have hdok := Sat.diskOk (pk [1, 0] 2 H)
  have hl1 := ok.le
  have hl2 := ok.cap
  simp only [maxLen] at hl2
  obtain ⟨Am1, cm2, H⟩ := Sat.openS (H)
  replace H : Sat _ (blk zb (.cells #[.pointer (some ⟨db, 0, none⟩), str (temp), .int .i64 ((fan : Nat) : Int), .int .i64 how, .int .i64 ((tm.1 : Nat) : Int), .slice Am1 tm.2.length cm2] 74) :: row 9 1 (.slice Am1 tm.2.length cm2) tm.2.length (strs tm.2) :: diskR db d :: fr) := H
  refine sr 1 S H t0 fun a w S H => ?_
  refine sb ?_
  refine r_alloc S H rfl Tryz.zeroValue132 rfl rfl rfl rfl fun a w b3 S H => ?_
  replace H : Sat _ (blk b3 (.cells #[.slice none 0 0] 132) :: blk zb (.cells #[.pointer (some ⟨db, 0, none⟩), str (temp), .int .i64 ((fan : Nat) : Int), .int .i64 how, .int .i64 ((tm.1 : Nat) : Int), .slice Am1 tm.2.length cm2] 74) :: row 9 1 (.slice Am1 tm.2.length cm2) tm.2.length (strs tm.2) :: diskR db d :: fr) := H
  refine sn ?_
  refine sb ?_
  refine r_y S H (y_makeFunc (vs := #[.pointer (some ⟨b3, 0, none⟩)]) S rfl rfl) rfl rfl rfl fun a S => ?_
  refine rs 1 S H t0 fun a w S H => ?_
  refine r_seq ?_
  refine sr 3 S H t0 fun a w S H => ?_
  refine r_block ?_
  have H := H.nilRow 135 3
  have H := Sat.noRds db H
  refine r_loop (ι := Nat × List Nat × List Rd × List Hd × Dk.Disk × Option Addr × Nat) (fun ⟨i, rbs, rds, hs, dd, Ah, ch⟩ a w => Slots a 132 [(0, .pointer (some ⟨zb, 0, none⟩)), (2, str (out)), (7, .pointer (some ⟨b3, 0, none⟩)), (8, .func (.func 77) #[] #[.pointer (some ⟨b3, 0, none⟩)]), (22, .slice A ns.length c), (23, .int .i64 ((ns.length : Nat) : Int)), (24, .int .i64 ((i : Nat) : Int)), (132, undef)] ∧ Sat w (blk b3 (.cells #[.slice Ah hs.length ch] 132) :: row 135 3 (.slice Ah hs.length ch) hs.length (sds rbs hs) :: rdrsR db rbs rds :: diskR db dd :: blk zb (.cells #[.pointer (some ⟨db, 0, none⟩), str (temp), .int .i64 ((fan : Nat) : Int), .int .i64 how, .int .i64 ((tm.1 : Nat) : Int), .slice Am1 tm.2.length cm2] 74) :: row 9 1 (.slice Am1 tm.2.length cm2) tm.2.length (strs tm.2) :: fr) ∧ (i ≤ ns.length ∧ Xs.mopen (ns.drop i) rds hs dd = (Xs.mopen ns [] [] d) ∧ rds.length = i ∧ rbs.length = i ∧ RdsOk rds ∧ HBd i hs ∧ hs.length ≤ i ∧ dd.files.length = d.files.length)) (fun ⟨i, rbs, rds, hs, dd, Ah, ch⟩ => ns.length - i) (0, [], [], [], d, none, 0) ⟨S.sub ⟨rfl, rfl, rfl, rfl, rfl, rfl, rfl, rfl, trivial⟩, pk [2, 1, 0, 5, 3, 4] 6 H, ⟨Nat.zero_le _, rfl, rfl, rfl, RdsOk.nil, HBd.nil _, Nat.le_refl _, rfl⟩⟩ (fun ⟨i, rbs, rds, hs, dd, Ah, ch⟩ a w hI => ?_)
  obtain ⟨S, H, hI⟩ := hI
  obtain ⟨hil, hT, hrl, hbl, hro, hHB, hhl, hdf⟩ := hI
  refine sr 1 S H t0 fun a w S H => ?_
  refine r_seq ?_
  refine r_test S rfl (fun h25 => ?_) (fun h25 => ?_)
  · skip
    refine wp_skip ?_
    refine x_then ?_
    refine r_seq ?_
    refine r_block ?_
    obtain ⟨gb, go, rfl⟩ := ok.addr H.drop.drop.drop.drop.drop.drop (by omega)
    refine sb ?_
    refine r_y S H (y_index S rfl rfl rfl Tryz.underlying31 Tryz.sizeOf9 (by omega) (by omega)) rfl rfl rfl fun a S => ?_
    refine r_y S H (y_loadAt S rfl rfl Tryz.isAgg9 (fun w H => ((((((ok.more _).more _).more _).more _).more _).more _).cell w H (strs_at (i := i) (by first | omega | (simp <;> omega))))) rfl rfl rfl fun a S => ?_
    refine rs 1 S H t0 fun a w S H => ?_
    have hdk2 := Sat.diskOk (pk [3, 0, 1, 2, 4, 5] 6 H)
    have hsz := Dk.size_le hdk2 (ns.getD i [])
    rcases Nat.eq_zero_or_pos (Dk.Disk.size (ns.getD i []) dd).2.2 with hz0 | hz0
    · skip
      refine sb ?_
      refine rn 5 S H t0 fun a w S H => ?_
      refine r_call (args := #[.pointer (some ⟨db, 0, none⟩), str (ns.getD i [])]) S rfl rfl Tryz.call30 (newrd_ct (H := (pk [3, 0, 1, 2, 4, 5] 6 H)) _ _ db (ns.getD i []) dd (by omega) (by omega)) rfl rfl rfl fun v a w hR S => ?_
      obtain ⟨b4, rfl, H⟩ := hR
      refine rs 5 S H t0 fun a w S H => ?_
      refine r_seq ?_
      refine sb ?_
      refine rn 1 S H t0 fun a w S H => ?_
      refine r_y S H (y_eq S rfl rfl rfl) rfl rfl rfl fun a S => ?_
      have S := S.retell (v' := .bool true) 38 rfl (by rw [decide_eq_true (by omega)])
      refine sn ?_
      refine r_condT S rfl ?_
      have H := Sat.rdsIn ((pk [0, 4, 1, 2, 3, 5, 6] 7 H))
      have hmore := sds_more (rbs := rbs) (b := b4) (l := hs) (fun x hx => by have := (hHB.bd x hx).1.2; omega)
      rw [← hmore] at H
      replace H : Sat _ (rdrsR db (rbs ++ [b4]) (rds ++ [((ns.getD i []), (Dk.Disk.size (ns.getD i []) dd).2.1, (0, [], false))]) :: diskR db (Dk.Disk.size (ns.getD i []) dd).1 :: blk b3 (.cells #[.slice Ah hs.length ch] 132) :: row 135 3 (.slice Ah hs.length ch) hs.length (sds (rbs ++ [b4]) hs) :: blk zb (.cells #[.pointer (some ⟨db, 0, none⟩), str (temp), .int .i64 ((fan : Nat) : Int), .int .i64 how, .int .i64 ((tm.1 : Nat) : Int), .slice Am1 tm.2.length cm2] 74) :: row 9 1 (.slice Am1 tm.2.length cm2) tm.2.length (strs tm.2) :: fr) := H
      have hro1 := hro.snoc (n := (ns.getD i [])) (sz := (Dk.Disk.size (ns.getD i []) dd).2.1) (by omega)
      have hcs0 := Dk.len_size dd (ns.getD i [])
      rcases Nat.eq_zero_or_pos (Xs.mpush (rds ++ [((ns.getD i []), (Dk.Disk.size (ns.getD i []) dd).2.1, (0, [], false))]) (rds.length + 1) hs (Dk.Disk.size (ns.getD i []) dd).1).2.2 with hpg | hpg
      · skip
        refine r_region ?_
        refine rn 2 S H t0 fun a w S H => ?_
        refine r_callV (args := #[.pointer (some ⟨b4, 0, none⟩)]) S rfl rfl rfl Tryz.call77 (spush_good (H := (pk [2, 3, 0, 1, 4, 5] 6 H)) _ _ b3 db b4 (rbs ++ [b4]) (rds ++ [((ns.getD i []), (Dk.Disk.size (ns.getD i []) dd).2.1, (0, [], false))]) (rds.length + 1) _ _ hs ((Dk.Disk.size (ns.getD i []) dd).1) ((by simp)) (getD_last (by omega)) hro1 ((by omega)) (by omega) hpg) rfl rfl rfl fun v a w hR S => ?_
        obtain ⟨A5, c6, rfl, H⟩ := hR
        refine rn 1 S H t0 fun a w S H => ?_
        refine r_nil ?_
        refine x_then ?_
        refine sr 2 S H t0 fun a w S H => ?_
        have S := S.retell (v' := .bool false) 43 rfl rfl
        refine r_condF S rfl ?_
        refine wp_skip ?_
        refine x_blockEnd ?_
        refine x_then ?_
        refine er 2 S H (by omega) fun a w S H => ?_
        refine x_then ?_
        have hT2 := hT
        rw [dropN (by omega), Xs.mopen_one hz0 hpg] at hT2
        have hpc := Xs.mpush_cnt (rds ++ [((ns.getD i []), (Dk.Disk.size (ns.getD i []) dd).2.1, (0, [], false))]) (rds.length + 1) hs (Dk.Disk.size (ns.getD i []) dd).1
        have hcs := Dk.len_size dd (ns.getD i [])
        obtain ⟨hb1, hb2⟩ := (hHB.more (Nat.le_succ i)).push (rds := (rds ++ [((ns.getD i []), (Dk.Disk.size (ns.getD i []) dd).2.1, (0, [], false))])) (i := rds.length + 1) (d := (Dk.Disk.size (ns.getD i []) dd).1) (by omega)
        have hro2 := hro1.push (rds.length + 1) hs (Dk.Disk.size (ns.getD i []) dd).1
        have H := H
        exact ⟨(i + 1, rbs ++ [b4], (Xs.mpush (rds ++ [((ns.getD i []), (Dk.Disk.size (ns.getD i []) dd).2.1, (0, [], false))]) (rds.length + 1) hs (Dk.Disk.size (ns.getD i []) dd).1).2.1.1, (Xs.mpush (rds ++ [((ns.getD i []), (Dk.Disk.size (ns.getD i []) dd).2.1, (0, [], false))]) (rds.length + 1) hs (Dk.Disk.size (ns.getD i []) dd).1).2.1.2, (Xs.mpush (rds ++ [((ns.getD i []), (Dk.Disk.size (ns.getD i []) dd).2.1, (0, [], false))]) (rds.length + 1) hs (Dk.Disk.size (ns.getD i []) dd).1).1, A5, c6), ⟨S.sub ⟨rfl, rfl, rfl, rfl, rfl, rfl, rfl, rfl, trivial⟩, H, ⟨by omega, hT2, by rw [Xs.mpush_rlen]; simp; omega, by simp; omega, hro2, hb1, by omega, by omega⟩⟩, by show ns.length - (i + 1) < ns.length - i; omega⟩
      have hpg : (Xs.mpush (rds ++ [((ns.getD i []), (Dk.Disk.size (ns.getD i []) dd).2.1, (0, [], false))]) (rds.length + 1) hs (Dk.Disk.size (ns.getD i []) dd).1).2.2 ≠ 0 := by omega
      refine r_region ?_
      refine rn 2 S H t0 fun a w S H => ?_
      refine r_callV (args := #[.pointer (some ⟨b4, 0, none⟩)]) S rfl rfl rfl Tryz.call77 (spush_bad (H := (pk [2, 3, 0, 1, 4, 5] 6 H)) _ _ b3 db b4 (rbs ++ [b4]) (rds ++ [((ns.getD i []), (Dk.Disk.size (ns.getD i []) dd).2.1, (0, [], false))]) (rds.length + 1) _ _ hs ((Dk.Disk.size (ns.getD i []) dd).1) ((by simp)) (getD_last (by omega)) hro1 ((by omega)) (by omega) hpg) rfl rfl rfl fun v a w hR S => ?_
      obtain ⟨rfl, H⟩ := hR
      refine rn 1 S H t0 fun a w S H => ?_
      refine r_nil ?_
      refine x_then ?_
      refine sr 2 S H t0 fun a w S H => ?_
      refine r_test S rfl (fun h43 => ?_) (fun h43 => ?_)
      · skip
        refine sr 2 S H t0 fun a w S H => ?_
        refine wp_ret ?_
        refine x_blockRet ?_
        refine x_thenRet ?_
        refine x_thenRet ?_
        refine x_blockRet ?_
        refine x_thenRet ?_
        refine r_ret1 S H Tryz.results55 (ro_tmp S rfl) ?_
        have hT2 := hT
        rw [dropN (by omega), Xs.mopen_b2 hz0 hpg] at hT2
        have hmb := Xs.merge_b1 (how := how) (out := out) (ns := ns) (d := d) (by rw [← hT2]; exact hpg)
        rw [hmb, ← hT2]
        exact ⟨rfl, Sat.shutS tm (pk [1, 2, 0] 3 H)⟩
      exfalso; omega
    refine sb ?_
    refine rn 5 S H t0 fun a w S H => ?_
    refine r_call (args := #[.pointer (some ⟨db, 0, none⟩), str (ns.getD i [])]) S rfl rfl Tryz.call30 (newrbad_ct (H := (pk [3, 0, 1, 2, 4, 5] 6 H)) _ _ db (ns.getD i []) dd (by omega) (by omega)) rfl rfl rfl fun v a w hR S => ?_
    obtain ⟨rfl, H⟩ := hR
    refine rs 5 S H t0 fun a w S H => ?_
    refine r_seq ?_
    refine sb ?_
    refine rn 1 S H t0 fun a w S H => ?_
    refine r_y S H (y_eq S rfl rfl rfl) rfl rfl rfl fun a S => ?_
    have S := S.retell (v' := .bool false) 38 rfl (by rw [decide_eq_false (by omega)])
    refine sn ?_
    refine r_condF S rfl ?_
    refine wp_skip ?_
    refine x_then ?_
    refine sr 2 S H t0 fun a w S H => ?_
    refine r_test S rfl (fun h43 => ?_) (fun h43 => ?_)
    · skip
      refine sr 2 S H t0 fun a w S H => ?_
      refine wp_ret ?_
      refine x_blockRet ?_
      refine x_thenRet ?_
      refine x_thenRet ?_
      refine x_blockRet ?_
      refine x_thenRet ?_
      refine r_ret1 S H Tryz.results55 (ro_tmp S rfl) ?_
      have hT2 := hT
      rw [dropN (by omega), Xs.mopen_b1 (by omega)] at hT2
      have hmb := Xs.merge_b1 (how := how) (out := out) (ns := ns) (d := d) (by rw [← hT2]; show (Dk.Disk.size (ns.getD i []) dd).2.2 ≠ 0; omega)
      rw [hmb, ← hT2]
      exact ⟨rfl, Sat.shutS tm (pk [4, 5, 0] 6 H)⟩
    exfalso; omega
  refine wp_exit ?_
  refine x_thenExit ?_
  refine x_thenExit ?_
  refine x_blockHere ?_
  refine x_then ?_
  have hi : i = ns.length := by omega
  rw [hi, List.drop_length] at hT
  have hM : (Xs.mopen ns [] [] d) = (dd, (rds, hs), 0) := hT.symm
  rcases Nat.eq_zero_or_pos (Dk.Disk.create out dd).2 with hcr | hcr
  · skip
    refine sb ?_
    refine rn 5 S H t0 fun a w S H => ?_
    refine r_call (args := #[.pointer (some ⟨db, 0, none⟩), str (out)]) S rfl rfl Tryz.call27 (neww_ct (H := (pk [3, 0, 1, 2, 4, 5] 6 H)) _ _ db out dd (by omega) (by omega)) rfl rfl rfl fun v a w hR S => ?_
    obtain ⟨b7, rfl, H⟩ := hR
    refine rs 5 S H t0 fun a w S H => ?_
    refine r_seq ?_
    refine sr 2 S H t0 fun a w S H => ?_
    have S := S.retell (v' := .bool false) 56 rfl rfl
    refine r_condF S rfl ?_
    refine wp_skip ?_
    refine x_then ?_
    refine sr 1 S H t0 fun a w S H => ?_
    refine r_seq ?_
    refine sb ?_
    refine r_call (args := #[.pointer (some ⟨b3, 0, none⟩)]) S rfl rfl Tryz.call79 (pop_ct (H := (pk [3, 4, 0, 1, 2, 5, 6, 7] 8 H)) _ _ rbs b3 _ _ hs (by omega)) rfl rfl rfl fun v a w hR S => ?_
    obtain ⟨A8, c9, rfl, H⟩ := hR
    refine rn 3 S H t0 fun a w S H => ?_
    refine r_alloc S H rfl Tryz.zeroValue135 rfl rfl rfl rfl fun a w b10 S H => ?_
    replace H : Sat _ (blk b10 (.cells #[.int .u64 0, .int .u64 0, .pointer none] 135) :: blk b3 (.cells #[.slice A8 ((Sn.hpop hs).length) c9] 132) :: row 135 3 (.slice A8 ((Sn.hpop hs).length) c9) ((Sn.hpop hs).length) (sds rbs (Sn.hpop hs)) :: blk b7 (.cells #[.pointer (some ⟨db, 0, none⟩), str (out), .slice none 0 0, .bool false] 95) :: row 5 1 (.slice none 0 0) 0 (u8s ([])) :: diskR db (Dk.Disk.create out dd).1 :: rdrsR db rbs rds :: blk zb (.cells #[.pointer (some ⟨db, 0, none⟩), str (temp), .int .i64 ((fan : Nat) : Int), .int .i64 how, .int .i64 ((tm.1 : Nat) : Int), .slice Am1 tm.2.length cm2] 74) :: row 9 1 (.slice Am1 tm.2.length cm2) tm.2.length (strs tm.2) :: fr) := H
    refine rs 2 S H t0 fun a w S H => ?_
    refine r_block ?_
    have H := Sat.lastNo H
    have hmg := Xs.merge_g (how := how) (out := out) (ns := ns) (d := d) (by rw [hM]) (by rw [hM]; exact hcr)
    rw [hM] at hmg
    have hcc := Dk.len_create dd out
    refine r_loop (ι := Nat × List Rd × List Hd × Option R × Value × By × Dk.Disk × Nat × Option Addr × Nat × Option Addr × Nat) (fun ⟨k, rds, hs, last, lv, t, dd, xb, Ah, ch, At, ct⟩ a w => Slots a 132 [(0, .pointer (some ⟨zb, 0, none⟩)), (7, .pointer (some ⟨b3, 0, none⟩)), (8, .func (.func 77) #[] #[.pointer (some ⟨b3, 0, none⟩)]), (13, .pointer (some ⟨b7, 0, none⟩)), (15, lv), (16, .pointer (some ⟨xb, 0, none⟩)), (17, .bool (decide (0 < hs.length))), (132, undef)] ∧ Sat w (blk b3 (.cells #[.slice Ah ((Sn.hpop hs).length) ch] 132) :: row 135 3 (.slice Ah ((Sn.hpop hs).length) ch) ((Sn.hpop hs).length) (sds rbs (Sn.hpop hs)) :: rdrsR db rbs rds :: diskR db dd :: blk b7 (.cells #[.pointer (some ⟨db, 0, none⟩), str (out), .slice At t.length ct, .bool false] 95) :: row 5 1 (.slice At t.length ct) t.length (u8s t) :: blk xb (.cells #[.int .u64 (((hs.getD 0 hd0).1.1 : Nat) : Int), .int .u64 (((hs.getD 0 hd0).1.2 : Nat) : Int), pz rbs (hs.getD 0 hd0).2] 135) :: lastR lv last :: blk zb (.cells #[.pointer (some ⟨db, 0, none⟩), str (temp), .int .i64 ((fan : Nat) : Int), .int .i64 how, .int .i64 ((tm.1 : Nat) : Int), .slice Am1 tm.2.length cm2] 74) :: row 9 1 (.slice Am1 tm.2.length cm2) tm.2.length (strs tm.2) :: fr) ∧ (Xs.mloop how out k rds hs last t dd = (Xs.merge how out ns d) ∧ Xs.mleft rds hs < k ∧ RdsOk rds ∧ HBd rds.length hs ∧ rds.length = ns.length ∧ hs.length ≤ ns.length ∧ t.length < 800 ∧ dd.files.length ≤ d.files.length + 1 ∧ ∀ z, last = some z → z.1 < 18446744073709551616 ∧ z.2 < 18446744073709551616)) (fun ⟨k, rds, hs, last, lv, t, dd, xb, Ah, ch, At, ct⟩ => Xs.mleft rds hs) (Xs.mleft rds hs + 1, rds, hs, none, .pointer none, [], (Dk.Disk.create out dd).1, b10, A8, c9, none, 0) ⟨S.sub ⟨rfl, rfl, rfl, rfl, rfl, rfl, rfl, rfl, trivial⟩, pk [2, 3, 7, 6, 4, 5, 1, 0, 8, 9] 10 H, ⟨hmg.symm, Nat.lt_succ_self _, hro, by rw [hrl]; exact hHB, by omega, by omega, by simp, by omega, fun z h => by cases h⟩⟩ (fun ⟨k, rds, hs, last, lv, t, dd, xb, Ah, ch, At, ct⟩ a w hI => ?_)
    obtain ⟨S, H, hI⟩ := hI
    obtain ⟨hT, hkf, hro, hHB, hrl, hhl, htl, hdf, hzb⟩ := hI
    obtain ⟨k, rfl⟩ : ∃ j, k = j + 1 := ⟨k - 1, by omega⟩
    refine r_seq ?_
    refine sr 1 S H t0 fun a w S H => ?_
    refine r_test S rfl (fun h62 => ?_) (fun h62 => ?_)
    · skip
      refine wp_skip ?_
      refine x_then ?_
      refine r_seq ?_
      refine r_block ?_
      refine r_seq ?_
      have hne : hs ≠ [] := List.length_pos_iff.1 h62
      have hpopf := hHB.pop hne
      have hpl0 := Sn.hpop_len hs
      have hx3 : (hs.getD 0 hd0).1.1 < 18446744073709551616 ∧ (hs.getD 0 hd0).1.2 < 18446744073709551616 := hpopf.2.2
      obtain ⟨rb, hrb⟩ : ∃ y, rbs.getD ((hs.getD 0 hd0).2 - 1) 0 = y := ⟨_, rfl⟩
      have hx1 : 1 ≤ (hs.getD 0 hd0).2 ∧ (hs.getD 0 hd0).2 ≤ rds.length := hpopf.2.1
      have hpz : pz rbs (hs.getD 0 hd0).2 = .pointer (some ⟨rb, 0, none⟩) := by have := pz_at (rbs := rbs) (i := (hs.getD 0 hd0).2 - 1) (by omega); rwa [show (hs.getD 0 hd0).2 - 1 + 1 = (hs.getD 0 hd0).2 from by omega, hrb] at this
      rcases Nat.eq_zero_or_pos (Xs.mpush rds (hs.getD 0 hd0).2 (Sn.hpop hs) dd).2.2 with hpg | hpg
      · skip
        obtain ⟨hb1, hb2⟩ := hpopf.1.push (rds := rds) (d := dd) hpopf.2.1
        replace hb2 : (Xs.mpush rds (hs.getD 0 hd0).2 (Sn.hpop hs) dd).2.1.2.length ≤ (Sn.hpop hs).length + 1 := hb2
        have hpc : (Xs.mpush rds (hs.getD 0 hd0).2 (Sn.hpop hs) dd).1.files.length = dd.files.length := Xs.mpush_cnt rds (hs.getD 0 hd0).2 (Sn.hpop hs) dd
        refine sb ?_
        refine rn 2 S H t0 fun a w S H => ?_
        refine r_y S H (y_load 6 S rfl rfl Tryz.isAgg69 rfl rfl) rfl rfl rfl fun a S => ?_
        have S := S.retell (v' := .pointer (some ⟨rb, 0, none⟩)) 69 rfl (show pz rbs (hs.getD 0 hd0).2 = _ from hpz)
        refine r_callV (args := #[.pointer (some ⟨rb, 0, none⟩)]) S rfl rfl rfl Tryz.call77 (spush_good (H := H) _ _ b3 db rb rbs rds ((hs.getD 0 hd0).2) _ _ (Sn.hpop hs) dd ((by omega)) hrb hro ((by omega)) (by omega) hpg) rfl rfl rfl fun v a w hR S => ?_
        obtain ⟨A11, c12, rfl, H⟩ := hR
        refine rs 1 S H t0 fun a w S H => ?_
        refine sr 2 S H t0 fun a w S H => ?_
        have S := S.retell (v' := .bool false) 72 rfl rfl
        refine r_condF S rfl ?_
        refine wp_skip ?_
        refine x_then ?_
        refine r_seq ?_
        rcases last_cases last how (hs.getD 0 hd0).1.1 with rfl | ⟨z, rfl, hw⟩ | ⟨z, rfl, hw, hk1⟩ | ⟨z, rfl, hw, hk1⟩
        · skip
          obtain ⟨hlv, H9⟩ := Sat.lastNone ((pk [7, 0, 1, 2, 3, 4, 5, 6, 8, 9] 10 H))
          clear H
          subst hlv
          have H := H9
          refine qr 19 S H t0 fun a w S H => ?_
          refine r_condF S rfl ?_
          refine wp_skip ?_
          refine x_then ?_
          refine r_seq ?_
          refine sr 2 S H t0 fun a w S H => ?_
          refine r_condF S rfl ?_
          refine wp_skip ?_
          refine x_then ?_
          refine er 2 S H t0 fun a w S H => ?_
          refine x_blockEnd ?_
          refine x_then ?_
          refine r_seq ?_
          refine sr 1 S H t0 fun a w S H => ?_
          refine r_region ?_
          refine r_alloc S H rfl Tryz.zeroValue135 rfl rfl rfl rfl fun a w b13 S H => ?_
          replace H : Sat _ (blk b13 (.cells #[.int .u64 0, .int .u64 0, .pointer none] 135) :: blk b3 (.cells #[.slice A11 ((Xs.mpush rds ((hs.getD 0 hd0).2) (Sn.hpop hs) dd).2.1.2.length) c12] 132) :: row 135 3 (.slice A11 ((Xs.mpush rds ((hs.getD 0 hd0).2) (Sn.hpop hs) dd).2.1.2.length) c12) ((Xs.mpush rds ((hs.getD 0 hd0).2) (Sn.hpop hs) dd).2.1.2.length) (sds rbs ((Xs.mpush rds ((hs.getD 0 hd0).2) (Sn.hpop hs) dd).2.1.2)) :: rdrsR db rbs (Xs.mpush rds ((hs.getD 0 hd0).2) (Sn.hpop hs) dd).2.1.1 :: diskR db (Xs.mpush rds ((hs.getD 0 hd0).2) (Sn.hpop hs) dd).1 :: blk b7 (.cells #[.pointer (some ⟨db, 0, none⟩), str (out), .slice At t.length ct, .bool false] 95) :: row 5 1 (.slice At t.length ct) t.length (u8s t) :: blk xb (.cells #[.int .u64 (((hs.getD 0 hd0).1.1 : Nat) : Int), .int .u64 (((hs.getD 0 hd0).1.2 : Nat) : Int), pz rbs (hs.getD 0 hd0).2] 135) :: blk zb (.cells #[.pointer (some ⟨db, 0, none⟩), str (temp), .int .i64 ((fan : Nat) : Int), .int .i64 how, .int .i64 ((tm.1 : Nat) : Int), .slice Am1 tm.2.length cm2] 74) :: row 9 1 (.slice Am1 tm.2.length cm2) tm.2.length (strs tm.2) :: fr) := H
          refine rn 1 S H t0 fun a w S H => ?_
          refine r_nil ?_
          refine x_then ?_
          refine r_region ?_
          refine r_call (args := #[.pointer (some ⟨b3, 0, none⟩)]) S rfl rfl Tryz.call79 (pop_ct (H := (pk [1, 2, 0, 3, 4, 5, 6, 7, 8, 9] 10 H)) _ _ rbs b3 _ _ ((Xs.mpush rds ((hs.getD 0 hd0).2) (Sn.hpop hs) dd).2.1.2) (by omega)) rfl rfl rfl fun v a w hR S => ?_
          obtain ⟨A14, c15, rfl, H⟩ := hR
          refine rn 5 S H t0 fun a w S H => ?_
          refine r_nil ?_
          refine x_then ?_
          have hct := hT.symm.trans (Xs.mloop_first hne hpg)
          have hlt : Xs.mleft (Xs.mpush rds (hs.getD 0 hd0).2 (Sn.hpop hs) dd).2.1.1 (Xs.mpush rds (hs.getD 0 hd0).2 (Sn.hpop hs) dd).2.1.2 < Xs.mleft rds hs := Xs.mleft_lt (d := dd) hro hHB hne
          have hro2 := hro.push (hs.getD 0 hd0).2 (Sn.hpop hs) dd
          have H := Sat.lastIn (hs.getD 0 hd0).1 (pk [7, 0, 1, 3, 4, 5, 6, 2, 8, 9] 10 H)
          have H := pk [1, 2, 3, 4, 5, 6, 7, 0, 8, 9] 10 H
          exact ⟨(k, (Xs.mpush rds (hs.getD 0 hd0).2 (Sn.hpop hs) dd).2.1.1, (Xs.mpush rds (hs.getD 0 hd0).2 (Sn.hpop hs) dd).2.1.2, some (hs.getD 0 hd0).1, _, t, (Xs.mpush rds (hs.getD 0 hd0).2 (Sn.hpop hs) dd).1, b13, A14, c15, At, ct), ⟨S.sub ⟨rfl, rfl, rfl, rfl, rfl, rfl, rfl, rfl, trivial⟩, H, ⟨hct.symm, by omega, hro2, by rw [Xs.mpush_rlen]; exact hb1, by rw [Xs.mpush_rlen]; exact hrl, by omega, htl, by omega, fun y hy => by (cases hy; exact hpopf.2.2)⟩⟩, hlt⟩
        · skip
          obtain ⟨lb16, q17, hlv, H9⟩ := Sat.lastSome ((pk [7, 0, 1, 2, 3, 4, 5, 6, 8, 9] 10 H))
          clear H
          subst hlv
          have H := H9
          have hzz := hzb z rfl
          apply qb H rfl (by kernel_rfl)
          · skip
            refine qn 7 S t0 fun a S => ?_
            refine q_y S (y_ne S rfl rfl rfl) rfl rfl rfl fun a S => ?_
            have S := S.retell (v' := .bool false) 81 rfl (by rw [decide_eq_false (by omega)])
            refine qn 11 S t0 fun a S => ?_
            exact q_nil S
          · intro a w S H
            refine r_condF S rfl ?_
            refine wp_skip ?_
            refine x_then ?_
            refine r_seq ?_
            refine sr 2 S H t0 fun a w S H => ?_
            refine r_condT S rfl ?_
            refine sb ?_
            refine rn 4 S H t0 fun a w S H => ?_
            refine r_call (args := #[.pointer (some ⟨b7, 0, none⟩), .agg #[.int .u64 ((z.1 : Nat) : Int), .int .u64 ((z.2 : Nat) : Int)]]) S rfl rfl Tryz.call28 (wput_ct (H := (pk [5, 6, 4, 0, 1, 2, 3, 7, 8, 9] 10 H)) _ _ b7 db out z _ _ t ((Xs.mpush rds ((hs.getD 0 hd0).2) (Sn.hpop hs) dd).1) (by omega) (htl) hzz) rfl rfl rfl fun v a w hR S => ?_
            obtain ⟨A18, c19, rfl, H⟩ := hR
            refine rs 1 S H t0 fun a w S H => ?_
            refine sr 2 S H t0 fun a w S H => ?_
            refine r_test S rfl (fun h116 => ?_) (fun h116 => ?_)
            · skip
              refine sr 2 S H t0 fun a w S H => ?_
              refine wp_ret ?_
              refine x_thenRet ?_
              refine x_blockRet ?_
              refine x_thenRet ?_
              refine x_thenRet ?_
              refine x_blockRet ?_
              refine x_thenRet ?_
              refine r_ret1 S H Tryz.results55 (ro_tmp S rfl) ?_
              have hct := hT.symm.trans (Xs.mloop_wbad hne hpg (fun h => h.1 hw) (show (Rn.wput out z t (Xs.mpush rds (hs.getD 0 hd0).2 (Sn.hpop hs) dd).1).2.2 ≠ 0 by omega))
              rw [hct]
              exact ⟨rfl, Sat.shutS tm (pk [8, 9, 2] 10 H)⟩
            refine wp_skip ?_
            refine x_then ?_
            have hw0 : (Rn.wput out z t (Xs.mpush rds (hs.getD 0 hd0).2 (Sn.hpop hs) dd).1).2.2 = 0 := by omega
            refine er 2 S H t0 fun a w S H => ?_
            refine x_blockEnd ?_
            refine x_then ?_
            refine r_seq ?_
            refine sr 1 S H t0 fun a w S H => ?_
            refine r_region ?_
            refine r_alloc S H rfl Tryz.zeroValue135 rfl rfl rfl rfl fun a w b20 S H => ?_
            replace H : Sat _ (blk b20 (.cells #[.int .u64 0, .int .u64 0, .pointer none] 135) :: blk b7 (.cells #[.pointer (some ⟨db, 0, none⟩), str (out), .slice A18 ((Rn.wput out z t ((Xs.mpush rds ((hs.getD 0 hd0).2) (Sn.hpop hs) dd).1)).2.1.length) c19, .bool (decide ((Rn.wput out z t ((Xs.mpush rds ((hs.getD 0 hd0).2) (Sn.hpop hs) dd).1)).2.2 ≠ 0))] 95) :: row 5 1 (.slice A18 ((Rn.wput out z t ((Xs.mpush rds ((hs.getD 0 hd0).2) (Sn.hpop hs) dd).1)).2.1.length) c19) ((Rn.wput out z t ((Xs.mpush rds ((hs.getD 0 hd0).2) (Sn.hpop hs) dd).1)).2.1.length) (u8s ((Rn.wput out z t ((Xs.mpush rds ((hs.getD 0 hd0).2) (Sn.hpop hs) dd).1)).2.1)) :: diskR db (Rn.wput out z t ((Xs.mpush rds ((hs.getD 0 hd0).2) (Sn.hpop hs) dd).1)).1 :: blk lb16 (.cells #[.int .u64 ((z.1 : Nat) : Int), .int .u64 ((z.2 : Nat) : Int), q17] 135) :: blk b3 (.cells #[.slice A11 ((Xs.mpush rds ((hs.getD 0 hd0).2) (Sn.hpop hs) dd).2.1.2.length) c12] 132) :: row 135 3 (.slice A11 ((Xs.mpush rds ((hs.getD 0 hd0).2) (Sn.hpop hs) dd).2.1.2.length) c12) ((Xs.mpush rds ((hs.getD 0 hd0).2) (Sn.hpop hs) dd).2.1.2.length) (sds rbs ((Xs.mpush rds ((hs.getD 0 hd0).2) (Sn.hpop hs) dd).2.1.2)) :: rdrsR db rbs (Xs.mpush rds ((hs.getD 0 hd0).2) (Sn.hpop hs) dd).2.1.1 :: blk xb (.cells #[.int .u64 (((hs.getD 0 hd0).1.1 : Nat) : Int), .int .u64 (((hs.getD 0 hd0).1.2 : Nat) : Int), pz rbs (hs.getD 0 hd0).2] 135) :: blk zb (.cells #[.pointer (some ⟨db, 0, none⟩), str (temp), .int .i64 ((fan : Nat) : Int), .int .i64 how, .int .i64 ((tm.1 : Nat) : Int), .slice Am1 tm.2.length cm2] 74) :: row 9 1 (.slice Am1 tm.2.length cm2) tm.2.length (strs tm.2) :: fr) := H
            refine rn 1 S H t0 fun a w S H => ?_
            refine r_nil ?_
            refine x_then ?_
            refine r_region ?_
            refine r_call (args := #[.pointer (some ⟨b3, 0, none⟩)]) S rfl rfl Tryz.call79 (pop_ct (H := (pk [5, 6, 0, 1, 2, 3, 4, 7, 8, 9, 10] 11 H)) _ _ rbs b3 _ _ ((Xs.mpush rds ((hs.getD 0 hd0).2) (Sn.hpop hs) dd).2.1.2) (by omega)) rfl rfl rfl fun v a w hR S => ?_
            obtain ⟨A21, c22, rfl, H⟩ := hR
            refine rn 5 S H t0 fun a w S H => ?_
            refine r_nil ?_
            refine x_then ?_
            have hct := hT.symm.trans (Xs.mloop_put hne hpg (fun h => h.1 hw) hw0)
            have hlt : Xs.mleft (Xs.mpush rds (hs.getD 0 hd0).2 (Sn.hpop hs) dd).2.1.1 (Xs.mpush rds (hs.getD 0 hd0).2 (Sn.hpop hs) dd).2.1.2 < Xs.mleft rds hs := Xs.mleft_lt (d := dd) hro hHB hne
            have hro2 := hro.push (hs.getD 0 hd0).2 (Sn.hpop hs) dd
            have hwc := Rn.wput_cnt out z t (Xs.mpush rds (hs.getD 0 hd0).2 (Sn.hpop hs) dd).1
            have hws := Rn.wput_small out z t (Xs.mpush rds (hs.getD 0 hd0).2 (Sn.hpop hs) dd).1
            have H := Sat.lastIn (hs.getD 0 hd0).1 (pk [8, 0, 1, 7, 5, 3, 4, 2, 9, 10] 11 H)
            have H := pk [1, 2, 3, 4, 5, 6, 7, 0, 8, 9] 10 H
            have hwb : decide ((Rn.wput out z t (Xs.mpush rds (hs.getD 0 hd0).2 (Sn.hpop hs) dd).1).2.2 ≠ 0) = false := by rw [hw0]; rfl
            rw [hwb] at H
            exact ⟨(k, (Xs.mpush rds (hs.getD 0 hd0).2 (Sn.hpop hs) dd).2.1.1, (Xs.mpush rds (hs.getD 0 hd0).2 (Sn.hpop hs) dd).2.1.2, some (hs.getD 0 hd0).1, _, (Rn.wput out z t (Xs.mpush rds (hs.getD 0 hd0).2 (Sn.hpop hs) dd).1).2.1, (Rn.wput out z t (Xs.mpush rds (hs.getD 0 hd0).2 (Sn.hpop hs) dd).1).1, b20, A21, c22, A18, c19), ⟨S.sub ⟨rfl, rfl, rfl, rfl, rfl, rfl, rfl, rfl, trivial⟩, H, ⟨hct.symm, by omega, hro2, by rw [Xs.mpush_rlen]; exact hb1, by rw [Xs.mpush_rlen]; exact hrl, by omega, hws, by omega, fun y hy => by (cases hy; exact hpopf.2.2)⟩⟩, hlt⟩
        · skip
          obtain ⟨lb23, q24, hlv, H9⟩ := Sat.lastSome ((pk [7, 0, 1, 2, 3, 4, 5, 6, 8, 9] 10 H))
          clear H
          subst hlv
          have H := H9
          have hzz := hzb z rfl
          apply qb H rfl (by kernel_rfl)
          · skip
            refine qn 7 S t0 fun a S => ?_
            refine q_y S (y_ne S rfl rfl rfl) rfl rfl rfl fun a S => ?_
            have S := S.retell (v' := .bool true) 81 rfl (by rw [decide_eq_true (by omega)])
            refine qn 9 S t0 fun a S => ?_
            refine q_y S (y_eq S rfl rfl rfl) rfl rfl rfl fun a S => ?_
            have S := S.retell (v' := .bool true) 91 rfl (by rw [decide_eq_true (by omega)])
            refine qn 1 S t0 fun a S => ?_
            exact q_nil S
          · intro a w S H
            refine r_condT S rfl ?_
            refine r_seq ?_
            refine ha [1, 2, 3, 4, 5, 6, 7, 8, 9] 10 H fun w H HS => ?_
            refine tk 0 S HS fun a S => ?_
            refine tk 1 S HS fun a S => ?_
            refine tk 2 S HS fun a S => ?_
            refine tk 3 S HS fun a S => ?_
            refine tk 4 S HS fun a S => ?_
            refine tk 5 S HS fun a S => ?_
            refine tk 6 S HS fun a S => ?_
            refine tk 7 S HS fun a S => ?_
            refine tk 9 S HS fun a S => ?_
            refine tk 10 S HS fun a S => ?_
            refine tk 11 S HS fun a S => ?_
            refine h1 8 ?_
            refine rs 1 S H t0 fun a w S H => ?_
            refine hk (pk [1, 2, 3, 4, 5, 6, 7, 8, 9] 10 H) fun HS => ?_
            refine h1 12 ?_
            refine r_call (args := #[.int .i64 how, .int .u64 ((z.2 : Nat) : Int), .int .u64 (((hs.getD 0 hd0).1.2 : Nat) : Int)]) S rfl rfl Tryz.call80 (combine_ct (H := H) _ _ how z.2 ((hs.getD 0 hd0).1.2) (by omega) (by omega)) rfl rfl rfl fun v a w hR S => ?_
            obtain ⟨rfl, H⟩ := hR
            refine sn ?_
            refine hk (pk [1, 2, 3, 4, 5, 6, 7, 8, 9] 10 H) fun HS => ?_
            refine tk 13 S HS fun a S => ?_
            refine tk 14 S HS fun a S => ?_
            refine h1 15 ?_
            refine rs 1 S H t0 fun a w S H => ?_
            refine hk (pk [1, 2, 3, 4, 5, 6, 7, 8, 9] 10 H) fun HS => ?_
            refine hz ?_
            refine x_then ?_
            refine wp_exit ?_
            refine x_thenExit ?_
            refine x_blockHere ?_
            refine x_then ?_
            refine r_seq ?_
            refine sr 1 S H t0 fun a w S H => ?_
            refine r_region ?_
            refine r_alloc S H rfl Tryz.zeroValue135 rfl rfl rfl rfl fun a w b25 S H => ?_
            replace H : Sat _ (blk b25 (.cells #[.int .u64 0, .int .u64 0, .pointer none] 135) :: blk lb23 (.cells #[.int .u64 ((z.1 : Nat) : Int), .int .u64 ((Rn.comb how z.2 ((hs.getD 0 hd0).1.2) : Nat) : Int), q24] 135) :: blk b3 (.cells #[.slice A11 ((Xs.mpush rds ((hs.getD 0 hd0).2) (Sn.hpop hs) dd).2.1.2.length) c12] 132) :: row 135 3 (.slice A11 ((Xs.mpush rds ((hs.getD 0 hd0).2) (Sn.hpop hs) dd).2.1.2.length) c12) ((Xs.mpush rds ((hs.getD 0 hd0).2) (Sn.hpop hs) dd).2.1.2.length) (sds rbs ((Xs.mpush rds ((hs.getD 0 hd0).2) (Sn.hpop hs) dd).2.1.2)) :: rdrsR db rbs (Xs.mpush rds ((hs.getD 0 hd0).2) (Sn.hpop hs) dd).2.1.1 :: diskR db (Xs.mpush rds ((hs.getD 0 hd0).2) (Sn.hpop hs) dd).1 :: blk b7 (.cells #[.pointer (some ⟨db, 0, none⟩), str (out), .slice At t.length ct, .bool false] 95) :: row 5 1 (.slice At t.length ct) t.length (u8s t) :: blk xb (.cells #[.int .u64 (((hs.getD 0 hd0).1.1 : Nat) : Int), .int .u64 (((hs.getD 0 hd0).1.2 : Nat) : Int), pz rbs (hs.getD 0 hd0).2] 135) :: blk zb (.cells #[.pointer (some ⟨db, 0, none⟩), str (temp), .int .i64 ((fan : Nat) : Int), .int .i64 how, .int .i64 ((tm.1 : Nat) : Int), .slice Am1 tm.2.length cm2] 74) :: row 9 1 (.slice Am1 tm.2.length cm2) tm.2.length (strs tm.2) :: fr) := H
            refine rn 1 S H t0 fun a w S H => ?_
            refine r_nil ?_
            refine x_then ?_
            refine r_region ?_
            refine r_call (args := #[.pointer (some ⟨b3, 0, none⟩)]) S rfl rfl Tryz.call79 (pop_ct (H := (pk [2, 3, 0, 1, 4, 5, 6, 7, 8, 9, 10] 11 H)) _ _ rbs b3 _ _ ((Xs.mpush rds ((hs.getD 0 hd0).2) (Sn.hpop hs) dd).2.1.2) (by omega)) rfl rfl rfl fun v a w hR S => ?_
            obtain ⟨A26, c27, rfl, H⟩ := hR
            refine rn 5 S H t0 fun a w S H => ?_
            refine r_nil ?_
            refine x_then ?_
            have hct := hT.symm.trans (Xs.mloop_comb hne hpg ⟨hw, hk1⟩)
            have hlt : Xs.mleft (Xs.mpush rds (hs.getD 0 hd0).2 (Sn.hpop hs) dd).2.1.1 (Xs.mpush rds (hs.getD 0 hd0).2 (Sn.hpop hs) dd).2.1.2 < Xs.mleft rds hs := Xs.mleft_lt (d := dd) hro hHB hne
            have hro2 := hro.push (hs.getD 0 hd0).2 (Sn.hpop hs) dd
            have H := Sat.lastIn (z.1, Rn.comb how z.2 (hs.getD 0 hd0).1.2) (pk [3, 0, 1, 4, 5, 6, 7, 2, 9, 10] 11 H)
            have H := pk [1, 2, 3, 4, 5, 6, 7, 0, 8, 9] 10 H
            exact ⟨(k, (Xs.mpush rds (hs.getD 0 hd0).2 (Sn.hpop hs) dd).2.1.1, (Xs.mpush rds (hs.getD 0 hd0).2 (Sn.hpop hs) dd).2.1.2, some (z.1, Rn.comb how z.2 (hs.getD 0 hd0).1.2), _, t, (Xs.mpush rds (hs.getD 0 hd0).2 (Sn.hpop hs) dd).1, b25, A26, c27, At, ct), ⟨S.sub ⟨rfl, rfl, rfl, rfl, rfl, rfl, rfl, rfl, trivial⟩, H, ⟨hct.symm, by omega, hro2, by rw [Xs.mpush_rlen]; exact hb1, by rw [Xs.mpush_rlen]; exact hrl, by omega, htl, by omega, fun y hy => by (cases hy; exact ⟨(hzb z rfl).1, comb_lt' (hzb z rfl).2 hpopf.2.2.2⟩)⟩⟩, hlt⟩
        obtain ⟨lb28, q29, hlv, H9⟩ := Sat.lastSome ((pk [7, 0, 1, 2, 3, 4, 5, 6, 8, 9] 10 H))
        clear H
        subst hlv
        have H := H9
        have hzz := hzb z rfl
        apply qb H rfl (by kernel_rfl)
        · skip
          refine qn 7 S t0 fun a S => ?_
          refine q_y S (y_ne S rfl rfl rfl) rfl rfl rfl fun a S => ?_
          have S := S.retell (v' := .bool true) 81 rfl (by rw [decide_eq_true (by omega)])
          refine qn 9 S t0 fun a S => ?_
          refine q_y S (y_eq S rfl rfl rfl) rfl rfl rfl fun a S => ?_
          have S := S.retell (v' := .bool false) 91 rfl (by rw [decide_eq_false (by omega)])
          refine qn 1 S t0 fun a S => ?_
          exact q_nil S
        · intro a w S H
          refine r_condF S rfl ?_
          refine wp_skip ?_
          refine x_then ?_
          refine r_seq ?_
          refine sr 2 S H t0 fun a w S H => ?_
          refine r_condT S rfl ?_
          refine sb ?_
          refine rn 4 S H t0 fun a w S H => ?_
          refine r_call (args := #[.pointer (some ⟨b7, 0, none⟩), .agg #[.int .u64 ((z.1 : Nat) : Int), .int .u64 ((z.2 : Nat) : Int)]]) S rfl rfl Tryz.call28 (wput_ct (H := (pk [5, 6, 4, 0, 1, 2, 3, 7, 8, 9] 10 H)) _ _ b7 db out z _ _ t ((Xs.mpush rds ((hs.getD 0 hd0).2) (Sn.hpop hs) dd).1) (by omega) (htl) hzz) rfl rfl rfl fun v a w hR S => ?_
          obtain ⟨A30, c31, rfl, H⟩ := hR
          refine rs 1 S H t0 fun a w S H => ?_
          refine sr 2 S H t0 fun a w S H => ?_
          refine r_test S rfl (fun h116 => ?_) (fun h116 => ?_)
          · skip
            refine sr 2 S H t0 fun a w S H => ?_
            refine wp_ret ?_
            refine x_thenRet ?_
            refine x_blockRet ?_
            refine x_thenRet ?_
            refine x_thenRet ?_
            refine x_blockRet ?_
            refine x_thenRet ?_
            refine r_ret1 S H Tryz.results55 (ro_tmp S rfl) ?_
            have hct := hT.symm.trans (Xs.mloop_wbad hne hpg (fun h => hk1 h.2) (show (Rn.wput out z t (Xs.mpush rds (hs.getD 0 hd0).2 (Sn.hpop hs) dd).1).2.2 ≠ 0 by omega))
            rw [hct]
            exact ⟨rfl, Sat.shutS tm (pk [8, 9, 2] 10 H)⟩
          refine wp_skip ?_
          refine x_then ?_
          have hw0 : (Rn.wput out z t (Xs.mpush rds (hs.getD 0 hd0).2 (Sn.hpop hs) dd).1).2.2 = 0 := by omega
          refine er 2 S H t0 fun a w S H => ?_
          refine x_blockEnd ?_
          refine x_then ?_
          refine r_seq ?_
          refine sr 1 S H t0 fun a w S H => ?_
          refine r_region ?_
          refine r_alloc S H rfl Tryz.zeroValue135 rfl rfl rfl rfl fun a w b32 S H => ?_
          replace H : Sat _ (blk b32 (.cells #[.int .u64 0, .int .u64 0, .pointer none] 135) :: blk b7 (.cells #[.pointer (some ⟨db, 0, none⟩), str (out), .slice A30 ((Rn.wput out z t ((Xs.mpush rds ((hs.getD 0 hd0).2) (Sn.hpop hs) dd).1)).2.1.length) c31, .bool (decide ((Rn.wput out z t ((Xs.mpush rds ((hs.getD 0 hd0).2) (Sn.hpop hs) dd).1)).2.2 ≠ 0))] 95) :: row 5 1 (.slice A30 ((Rn.wput out z t ((Xs.mpush rds ((hs.getD 0 hd0).2) (Sn.hpop hs) dd).1)).2.1.length) c31) ((Rn.wput out z t ((Xs.mpush rds ((hs.getD 0 hd0).2) (Sn.hpop hs) dd).1)).2.1.length) (u8s ((Rn.wput out z t ((Xs.mpush rds ((hs.getD 0 hd0).2) (Sn.hpop hs) dd).1)).2.1)) :: diskR db (Rn.wput out z t ((Xs.mpush rds ((hs.getD 0 hd0).2) (Sn.hpop hs) dd).1)).1 :: blk lb28 (.cells #[.int .u64 ((z.1 : Nat) : Int), .int .u64 ((z.2 : Nat) : Int), q29] 135) :: blk b3 (.cells #[.slice A11 ((Xs.mpush rds ((hs.getD 0 hd0).2) (Sn.hpop hs) dd).2.1.2.length) c12] 132) :: row 135 3 (.slice A11 ((Xs.mpush rds ((hs.getD 0 hd0).2) (Sn.hpop hs) dd).2.1.2.length) c12) ((Xs.mpush rds ((hs.getD 0 hd0).2) (Sn.hpop hs) dd).2.1.2.length) (sds rbs ((Xs.mpush rds ((hs.getD 0 hd0).2) (Sn.hpop hs) dd).2.1.2)) :: rdrsR db rbs (Xs.mpush rds ((hs.getD 0 hd0).2) (Sn.hpop hs) dd).2.1.1 :: blk xb (.cells #[.int .u64 (((hs.getD 0 hd0).1.1 : Nat) : Int), .int .u64 (((hs.getD 0 hd0).1.2 : Nat) : Int), pz rbs (hs.getD 0 hd0).2] 135) :: blk zb (.cells #[.pointer (some ⟨db, 0, none⟩), str (temp), .int .i64 ((fan : Nat) : Int), .int .i64 how, .int .i64 ((tm.1 : Nat) : Int), .slice Am1 tm.2.length cm2] 74) :: row 9 1 (.slice Am1 tm.2.length cm2) tm.2.length (strs tm.2) :: fr) := H
          refine rn 1 S H t0 fun a w S H => ?_
          refine r_nil ?_
          refine x_then ?_
          refine r_region ?_
          refine r_call (args := #[.pointer (some ⟨b3, 0, none⟩)]) S rfl rfl Tryz.call79 (pop_ct (H := (pk [5, 6, 0, 1, 2, 3, 4, 7, 8, 9, 10] 11 H)) _ _ rbs b3 _ _ ((Xs.mpush rds ((hs.getD 0 hd0).2) (Sn.hpop hs) dd).2.1.2) (by omega)) rfl rfl rfl fun v a w hR S => ?_
          obtain ⟨A33, c34, rfl, H⟩ := hR
          refine rn 5 S H t0 fun a w S H => ?_
          refine r_nil ?_
          refine x_then ?_
          have hct := hT.symm.trans (Xs.mloop_put hne hpg (fun h => hk1 h.2) hw0)
          have hlt : Xs.mleft (Xs.mpush rds (hs.getD 0 hd0).2 (Sn.hpop hs) dd).2.1.1 (Xs.mpush rds (hs.getD 0 hd0).2 (Sn.hpop hs) dd).2.1.2 < Xs.mleft rds hs := Xs.mleft_lt (d := dd) hro hHB hne
          have hro2 := hro.push (hs.getD 0 hd0).2 (Sn.hpop hs) dd
          have hwc := Rn.wput_cnt out z t (Xs.mpush rds (hs.getD 0 hd0).2 (Sn.hpop hs) dd).1
          have hws := Rn.wput_small out z t (Xs.mpush rds (hs.getD 0 hd0).2 (Sn.hpop hs) dd).1
          have H := Sat.lastIn (hs.getD 0 hd0).1 (pk [8, 0, 1, 7, 5, 3, 4, 2, 9, 10] 11 H)
          have H := pk [1, 2, 3, 4, 5, 6, 7, 0, 8, 9] 10 H
          have hwb : decide ((Rn.wput out z t (Xs.mpush rds (hs.getD 0 hd0).2 (Sn.hpop hs) dd).1).2.2 ≠ 0) = false := by rw [hw0]; rfl
          rw [hwb] at H
          exact ⟨(k, (Xs.mpush rds (hs.getD 0 hd0).2 (Sn.hpop hs) dd).2.1.1, (Xs.mpush rds (hs.getD 0 hd0).2 (Sn.hpop hs) dd).2.1.2, some (hs.getD 0 hd0).1, _, (Rn.wput out z t (Xs.mpush rds (hs.getD 0 hd0).2 (Sn.hpop hs) dd).1).2.1, (Rn.wput out z t (Xs.mpush rds (hs.getD 0 hd0).2 (Sn.hpop hs) dd).1).1, b32, A33, c34, A30, c31), ⟨S.sub ⟨rfl, rfl, rfl, rfl, rfl, rfl, rfl, rfl, trivial⟩, H, ⟨hct.symm, by omega, hro2, by rw [Xs.mpush_rlen]; exact hb1, by rw [Xs.mpush_rlen]; exact hrl, by omega, hws, by omega, fun y hy => by (cases hy; exact hpopf.2.2)⟩⟩, hlt⟩
      have hpg : (Xs.mpush rds (hs.getD 0 hd0).2 (Sn.hpop hs) dd).2.2 ≠ 0 := by omega
      refine sb ?_
      refine rn 2 S H t0 fun a w S H => ?_
      refine r_y S H (y_load 6 S rfl rfl Tryz.isAgg69 rfl rfl) rfl rfl rfl fun a S => ?_
      have S := S.retell (v' := .pointer (some ⟨rb, 0, none⟩)) 69 rfl (show pz rbs (hs.getD 0 hd0).2 = _ from hpz)
      refine r_callV (args := #[.pointer (some ⟨rb, 0, none⟩)]) S rfl rfl rfl Tryz.call77 (spush_bad (H := H) _ _ b3 db rb rbs rds ((hs.getD 0 hd0).2) _ _ (Sn.hpop hs) dd ((by omega)) hrb hro ((by omega)) (by omega) hpg) rfl rfl rfl fun v a w hR S => ?_
      obtain ⟨rfl, H⟩ := hR
      refine rs 1 S H t0 fun a w S H => ?_
      refine sr 2 S H t0 fun a w S H => ?_
      refine r_test S rfl (fun h72 => ?_) (fun h72 => ?_)
      · skip
        refine sr 2 S H t0 fun a w S H => ?_
        refine wp_ret ?_
        refine x_thenRet ?_
        refine x_blockRet ?_
        refine x_thenRet ?_
        refine x_thenRet ?_
        refine x_blockRet ?_
        refine x_thenRet ?_
        refine r_ret1 S H Tryz.results55 (ro_tmp S rfl) ?_
        have hct := hT.symm.trans (Xs.mloop_bad hne hpg)
        rw [hct]
        exact ⟨rfl, Sat.shutS tm (pk [5, 6, 0] 7 H)⟩
      exfalso; omega
    refine wp_exit ?_
    refine x_thenExit ?_
    refine x_thenExit ?_
    refine x_blockHere ?_
    refine x_then ?_
    refine r_seq ?_
    rcases last with _ | z
    · skip
      obtain ⟨hlv, H9⟩ := Sat.lastNone ((pk [7, 0, 1, 2, 3, 4, 5, 6, 8, 9] 10 H))
      clear H
      subst hlv
      have H := H9
      refine sr 2 S H t0 fun a w S H => ?_
      refine r_condF S rfl ?_
      refine wp_skip ?_
      refine x_then ?_
      have hhs : hs = [] := List.eq_nil_of_length_eq_zero (by omega)
      refine sb ?_
      refine rn 1 S H t0 fun a w S H => ?_
      refine r_call (args := #[.pointer (some ⟨b7, 0, none⟩)]) S rfl rfl Tryz.call29 (wclose_ct (H := (pk [4, 5, 3, 0, 1, 2, 6, 7, 8] 9 H)) _ _ b7 db out _ _ t dd (by omega) (by omega)) rfl rfl rfl fun v a w hR S => ?_
      obtain ⟨rfl, H⟩ := hR
      refine rs 1 S H t0 fun a w S H => ?_
      refine wp_ret ?_
      refine r_ret1 S H Tryz.results55 (ro_tmp S rfl) ?_
      have hct := hT.symm.trans (Xs.mloop_end hhs)
      rw [hct]
      exact ⟨rfl, Sat.shutS tm (pk [5, 6, 0] 7 H)⟩
    obtain ⟨lb35, q36, hlv, H9⟩ := Sat.lastSome ((pk [7, 0, 1, 2, 3, 4, 5, 6, 8, 9] 10 H))
    clear H
    subst hlv
    have H := H9
    have hzz := hzb z rfl
    refine sr 2 S H t0 fun a w S H => ?_
    refine r_condT S rfl ?_
    refine sb ?_
    refine rn 4 S H t0 fun a w S H => ?_
    refine r_call (args := #[.pointer (some ⟨b7, 0, none⟩), .agg #[.int .u64 ((z.1 : Nat) : Int), .int .u64 ((z.2 : Nat) : Int)]]) S rfl rfl Tryz.call28 (wput_ct (H := (pk [5, 6, 4, 0, 1, 2, 3, 7, 8, 9] 10 H)) _ _ b7 db out z _ _ t dd (by omega) (htl) hzz) rfl rfl rfl fun v a w hR S => ?_
    obtain ⟨A37, c38, rfl, H⟩ := hR
    refine rs 1 S H t0 fun a w S H => ?_
    refine sr 2 S H t0 fun a w S H => ?_
    refine r_test S rfl (fun h128 => ?_) (fun h128 => ?_)
    · skip
      refine sr 2 S H t0 fun a w S H => ?_
      refine wp_ret ?_
      refine x_thenRet ?_
      refine r_ret1 S H Tryz.results55 (ro_tmp S rfl) ?_
      have hct := hT.symm.trans ((Xs.mloop_end (List.eq_nil_of_length_eq_zero (by omega))).trans (if_pos (by omega)))
      rw [hct]
      exact ⟨rfl, Sat.shutS tm (pk [8, 9, 2] 10 H)⟩
    refine wp_skip ?_
    refine x_then ?_
    have hw0 : (Rn.wput out z t dd).2.2 = 0 := by omega
    have hws := Rn.wput_small out z t dd
    have hwc := Rn.wput_cnt out z t dd
    have hwb : decide ((Rn.wput out z t dd).2.2 ≠ 0) = false := by rw [hw0]; rfl
    rw [hwb] at H
    have hhs : hs = [] := List.eq_nil_of_length_eq_zero (by omega)
    refine sb ?_
    refine rn 1 S H t0 fun a w S H => ?_
    refine r_call (args := #[.pointer (some ⟨b7, 0, none⟩)]) S rfl rfl Tryz.call29 (wclose_ct (H := H) _ _ b7 db out _ _ ((Rn.wput out z t dd).2.1) ((Rn.wput out z t dd).1) (by omega) (by omega)) rfl rfl rfl fun v a w hR S => ?_
    obtain ⟨rfl, H⟩ := hR
    refine rs 1 S H t0 fun a w S H => ?_
    refine wp_ret ?_
    refine r_ret1 S H Tryz.results55 (ro_tmp S rfl) ?_
    have hct := hT.symm.trans ((Xs.mloop_end hhs).trans (if_neg (fun c => c hw0)))
    rw [hct]
    exact ⟨rfl, Sat.shutS tm (pk [6, 7, 0] 8 H)⟩
  refine sb ?_
  refine rn 5 S H t0 fun a w S H => ?_
  refine r_call (args := #[.pointer (some ⟨db, 0, none⟩), str (out)]) S rfl rfl Tryz.call27 (newwbad_ct (H := (pk [3, 0, 1, 2, 4, 5] 6 H)) _ _ db out dd (by omega) (by omega)) rfl rfl rfl fun v a w hR S => ?_
  obtain ⟨rfl, H⟩ := hR
  refine rs 5 S H t0 fun a w S H => ?_
  refine r_seq ?_
  refine sr 2 S H t0 fun a w S H => ?_
  refine r_test S rfl (fun h56 => ?_) (fun h56 => ?_)
  · skip
    refine sr 2 S H t0 fun a w S H => ?_
    refine wp_ret ?_
    refine x_thenRet ?_
    refine r_ret1 S H Tryz.results55 (ro_tmp S rfl) ?_
    have hmb := Xs.merge_b2 (how := how) (out := out) (ns := ns) (d := d) (by rw [hM]) (by rw [hM]; show (Dk.Disk.create out dd).2 ≠ 0; omega)
    rw [hmb, hM]
    exact ⟨rfl, Sat.shutS tm (pk [4, 5, 0] 6 H)⟩
  exfalso; omega

end Go.Proofs.YtgfdmhjjlajmgaaGreatDoor
namespace Go.Proofs.YtgfdmhjjlajmgaaGreatDoor
open Go.RowKit Go.Cg
set_option linter.unusedVariables false
set_option linter.unusedSimpArgs false
set_option maxRecDepth 8000
set_option synthInstance.maxHeartbeats 1000000
set_option synthInstance.maxSize 1000000
open Go.Cg.Dk (Nm)
open Go.Shelf
attribute [local go_sem] Oper.semAt_some
set_option maxRecDepth 100000 in
set_option maxHeartbeats 2000000 in
theorem chunk_iter (kb nb blk off c n : Nat) (l : List Nm) (hn : 1 ≤ n) (hn2 : n ≤ 4611686018427387904) (hlen : l.length ≤ 1099511627776) (hcap : l.length ≤ c) (m : Nat) (hm : ∀ q, q < m ↔ q * n < l.length) (Pw : World → Prop) (hPw : ∀ W, Pw W → W.cell? ⟨kb, 0, none⟩ = some (.slice (some ⟨blk, off, none⟩) l.length c) ∧ W.cell? ⟨nb, 0, none⟩ = some (.int .i64 ((n : Nat) : Int))) :
    IterS Tryz.prog 75 #[.pointer (some ⟨kb, 0, none⟩), .pointer (some ⟨nb, 0, none⟩)] (fun j : Nat => #[.slice (some ⟨blk, off + j * n, none⟩) (min n (l.length - j * n)) (min n (l.length - j * n))]) (List.range m) Pw := by
  intro l_ J T W hJP hJG hTG hY h0
  have hJD : ∀ i W, J i W → J i W.drew := fun i W h => hJG i W _ h (Hp.drew W) fun _ _ => rfl
  refine callsIn_of_wp Tryz.func75 rfl trivial ?_ rfl
  simp only [Tryz.ntmps75, List.size_toArray, List.length_cons, List.length_nil, Nat.reduceAdd, Nat.reduceSub, Array.replicate_succ, Array.replicate_zero, List.push_toArray, List.append_toArray, List.nil_append, List.cons_append]
  have hc0 := (hPw W (hJP _ _ h0)).1
  have hc00 := (hPw W (hJP _ _ h0)).2
  gi_wp2
  gi_loopw [4] (fun i wr => ∃ q : Nat, q ≤ m ∧ i = .int .i64 ((q * n : Nat) : Int) ∧ J q wr) (fun i _ => ((l.length : Int) - intOf i).toNat)
  case atStart => exact ⟨0, Nat.zero_le _, by simp, h0⟩
  case round =>
    obtain ⟨q, hq, rfl, hJs⟩ := hrel
    have hP := hPw wr (hJP _ _ hJs)
    have hcb := hP.1
    have hcn := hP.2
    by_cases hql : q * n < l.length
    · have hlt : q < m := (hm q).2 hql
      obtain ⟨Z, hZ⟩ : ∃ Z, Z = q * n := ⟨_, rfl⟩
      rw [← hZ] at hql ⊢
      gi_wp2
      gi_region
      gi_wp2
      have hE : (((q : Int) * (n : Int) + min (n : Int) ((l.length - q * n : Nat) : Int)).toNat - q * n) = min n (l.length - q * n) := by
        have e1 : (q : Int) * (n : Int) = ((q * n : Nat) : Int) := by push_cast; rfl
        rw [e1, ← hZ]; omega
      rw [hE]
      obtain ⟨fn, tmps, assign, body, hy, hR⟩ := hY q q wr.drew (List.getElem?_range hlt) (hJD _ _ hJs)
      simp only [hy]
      gi_wp2
      refine hR.mono ?_
      rintro e W3 (⟨rfl, hJ3⟩ | ⟨rfl, hT3⟩)
      · have hP3 := hPw W3 (hJP _ _ hJ3)
        have hcn3 := hP3.2
        gi_wp2
        go_roundw
        case rel => exact ⟨q + 1, by omega, by rw [show ((q : Int) * (n : Int) + (n : Int)) = (((q + 1) * n : Nat) : Int) from by push_cast; rw [Int.add_mul, Int.one_mul]], hJ3⟩
        case measure =>
          have e1 : (q : Int) * (n : Int) = (Z : Int) := by rw [hZ]; push_cast; rfl
          show ((l.length : Int) - ((q : Int) * (n : Int) + (n : Int))).toNat < ((l.length : Int) - (Z : Int)).toNat
          rw [e1]; omega
      · gi_wp2
        exact bodyPost_ret (results_none rfl _ _ _) rfl ⟨⟨_, rfl⟩, .inr hT3⟩
    · have hqm : q = m := by
        have : ¬ q < m := fun h => hql ((hm q).1 h)
        omega
      subst hqm
      gi_wp2
      go_end0
      exact ⟨⟨_, rfl⟩, .inl (by rw [List.length_range]; exact hJs)⟩
end Go.Proofs.YtgfdmhjjlajmgaaGreatDoor
namespace Go.Proofs.YtgfdmhjjlajmgaaGreatDoor
open Go.RowKit Go.Cg
set_option linter.unusedVariables false
set_option linter.unusedSimpArgs false
set_option maxRecDepth 8000
set_option synthInstance.maxHeartbeats 1000000
set_option synthInstance.maxSize 1000000
open Go.Cg.Dk (By Nm)
open Go.Cg.Rn (R Bd Rs RsOk RsFit)
open Go.Cg.Xs (Tm tname)
theorem SlOk.part {L : List Res} {g n c i f : Nat} {l pt : List Nm} (h : SlOk L 1 (some ⟨g, 0, none⟩) n c (strs l)) (hi : i < n) (hp : pt = (l.drop i).take f) : SlOk L 1 (some ⟨g, 0 + i, none⟩) pt.length pt.length (strs pt) := by
  have hn := nS h
  refine ⟨fun e => (by cases e), Nat.le_refl _, ?_, by simp, fun w H j v hj => ?_⟩
  · have := h.le; have := h.cap
    rw [hp]; simp only [List.length_take, List.length_drop]; omega
  · have hj2 : (strs l)[i + j]? = some v := by
      rw [hp] at hj
      unfold strs at hj ⊢
      rw [List.map_take, List.map_drop, List.getElem?_take] at hj
      split at hj
      · rwa [List.getElem?_drop] at hj
      · cases hj
    obtain ⟨g', o', e, hc⟩ := h.rd w H (i + j) v hj2
    cases e
    exact ⟨g, 0 + i, rfl, by rw [show 0 + i + j = 0 + (i + j) from by omega]; exact hc⟩
theorem okNilR (L : List Res) : SlOk L 2 none 0 0 (recs []) := ⟨fun _ => rfl, Nat.le_refl _, Nat.zero_le _, rfl, Rd.nil _ _⟩
theorem chunk_ct (w : World) (fr : List Res) (A : Option Addr) (n c f : Nat) (hf : 1 ≤ f) (H : Sat w (fr)) :
    Rt Tryz.prog 53 #[.slice A n c, .int .i64 ((f : Nat) : Int)] w fun v w' => ∃ kb nb, v = .func (.func 75) #[] #[.pointer (some ⟨kb, 0, none⟩), .pointer (some ⟨nb, 0, none⟩)] ∧ Sat w' (blk kb (.cells #[.slice A n c] 31) :: blk nb (.cells #[.int .i64 ((f : Nat) : Int)] 3) :: fr) := by
  refine en2 Tryz.func53 rfl Tryz.ntmps53 rfl fun a S => ?_
  refine sb ?_
  refine r_box (c := #[.slice A n c]) S H rfl rfl rfl rfl rfl rfl fun a w b1 S H => ?_
  refine r_box (c := #[.int .i64 ((f : Nat) : Int)]) S H rfl rfl rfl rfl rfl rfl fun a w b2 S H => ?_
  refine rs 1 S H t0 fun a w S H => ?_
  refine r_seq ?_
  refine sr 2 S H t0 fun a w S H => ?_
  refine r_test S rfl (fun h6 => ?_) (fun h6 => ?_)
  · skip
    exfalso; omega
  refine wp_skip ?_
  refine x_then ?_
  refine sb ?_
  refine r_y S H (y_makeFunc (vs := #[.pointer (some ⟨b1, 0, none⟩), .pointer (some ⟨b2, 0, none⟩)]) S rfl rfl) rfl rfl rfl fun a S => ?_
  refine rs 1 S H t0 fun a w S H => ?_
  refine wp_ret ?_
  refine r_ret1 S H Tryz.results53 (ro_tmp S rfl) ?_
  exact ⟨_, _, rfl, pk [1, 0] 2 H⟩

theorem sall_ct (w : World) (fr : List Res) (hl : Laid fr) (zb rb db : Nat) (temp nin out : Nm) (fan : Nat) (how : Int) (sz budget : Nat) (d : Dk.Disk) (hc : d.files.length ≤ 1000000000) (htl : temp.length ≤ 1000) (hszz : sz ≤ 17592186044416) (hb1 : 0 < budget) (hb2 : budget ≤ 9223372036854775807) (hfan : 2 ≤ fan) (hfan2 : fan ≤ 4611686018427387904) (hh : Rn.hright how = true) (H : Sat w (srtR zb db temp fan how (0, []) :: rdrR rb db nin sz (0, [], false) 0 :: diskR db d :: fr)) :
    Rt Tryz.prog 32 #[.pointer (some ⟨zb, 0, none⟩), .pointer (some ⟨rb, 0, none⟩), str (out), .int .i64 ((budget : Nat) : Int)] w fun v w' => v = .tuple #[.int .i64 (((Xs.all nin sz out temp how budget fan d).2.2.1 : Nat) : Int), .int .i64 (((Xs.all nin sz out temp how budget fan d).2.2.2 : Nat) : Int)] ∧ Sat w' (srtR zb db temp fan how (Xs.all nin sz out temp how budget fan d).2.1 :: diskR db (Xs.all nin sz out temp how budget fan d).1 :: fr) := by
  refine rt_enterM (n := 100) Tryz.func32 rfl Tryz.ntmps32 rfl fun a S => ?_
  replace S : Slots a 100 [(0, .pointer (some ⟨zb, 0, none⟩)), (1, .pointer (some ⟨rb, 0, none⟩)), (2, str (out)), (3, .int .i64 ((budget : Nat) : Int)), (100, undef)] := S
  refine sb ?_
  refine r_box (c := #[.pointer (some ⟨zb, 0, none⟩)]) S H rfl rfl rfl rfl rfl rfl fun a w b1 S H => ?_
  refine r_alloc S H rfl Tryz.zeroValue3 rfl rfl rfl rfl fun a w b2 S H => ?_
  replace H : Sat _ (blk b2 (.cells #[.int .i64 0] 3) :: blk b1 (.cells #[.pointer (some ⟨zb, 0, none⟩)] 72) :: srtR zb db temp fan how (0, []) :: rdrR rb db nin sz (0, [], false) 0 :: diskR db d :: fr) := H
  refine r_alloc S H rfl Tryz.zeroValue27 rfl rfl rfl rfl fun a w b3 S H => ?_
  replace H : Sat _ (blk b3 (.cells #[.int .i64 0] 27) :: blk b2 (.cells #[.int .i64 0] 3) :: blk b1 (.cells #[.pointer (some ⟨zb, 0, none⟩)] 72) :: srtR zb db temp fan how (0, []) :: rdrR rb db nin sz (0, [], false) 0 :: diskR db d :: fr) := H
  refine sn ?_
  refine sb ?_
  refine rn 3 S H t0 fun a w S H => ?_
  refine r_call (args := #[.pointer (some ⟨zb, 0, none⟩), .pointer (some ⟨rb, 0, none⟩), .int .i64 ((budget : Nat) : Int)]) S rfl rfl Tryz.call52 (cut_ct (H := (pk [3, 4, 5, 0, 1, 2] 6 H)) _ _ (hl.via fun _ H => H.drop.drop.drop) zb rb db temp nin fan how sz budget d (by omega) htl (by omega) hb1 hh) rfl rfl rfl fun v a w hR S => ?_
  obtain ⟨A8, c9, rfl, H⟩ := hR
  obtain ⟨d1, tm1, nm1, n1, e1, hcut⟩ : ∃ d1 tm1 nm1 n1 e1, (Xs.cut nin sz temp how budget (Rn.rleft sz (0, [], false) + 1) (0, [], false) [] [] 0 (0, []) d) = (d1, tm1, nm1, n1, e1) := ⟨_, _, _, _, _, rfl⟩
  have hcc := Xs.cut_cnt (nin := nin) (sz := sz) (temp := temp) (how := how) (budget := budget) (Rn.rleft sz (0, [], false) + 1) (0, [], false) [] [] 0 (0, []) d
  have hcf := Xs.cut_few (nin := nin) (sz := sz) (temp := temp) (how := how) (budget := budget) (Rn.rleft sz (0, [], false) + 1) (0, [], false) [] [] 0 (0, []) d (RsOk.start _) (RsFit.start _) (Nat.le_refl _)
  rw [hcut] at hcc hcf S H
  dsimp only [List.length_nil] at hcc hcf S H
  refine rs 7 S H t0 fun a w S H => ?_
  refine r_seq ?_
  refine sr 2 S H t0 fun a w S H => ?_
  refine r_test S rfl (fun h27 => ?_) (fun h27 => ?_)
  · skip
    refine r_seq ?_
    apply viaA (n := 100)
    · skip
      refine ha [0, 1, 2, 3, 4, 5] 6 H fun w H HS => ?_
      refine tk 0 S HS fun a S => ?_
      refine h1 1 ?_
      refine rs 1 S H t0 fun a w S H => ?_
      refine hk (H) fun HS => ?_
      refine h1 2 ?_
      refine rs 1 S H t0 fun a w S H => ?_
      refine hk (H) fun HS => ?_
      refine hz ?_
      refine x_then ?_
      exact ⟨S.sub (E' := [(2, str (out)), (3, .int .i64 ((budget : Nat) : Int)), (4, .pointer (some ⟨b1, 0, none⟩)), (8, .pointer (some ⟨b2, 0, none⟩)), (9, .pointer (some ⟨b3, 0, none⟩)), (10, .slice A8 (nm1.length) c9), (11, .int .i64 ((n1 : Nat) : Int)), (100, undef)]) ⟨rfl, rfl, rfl, rfl, rfl, rfl, rfl, rfl, trivial⟩, H⟩
    · intro a w S H
      refine x_then ?_
      refine wp_ret ?_
      refine x_thenRet ?_
      refine b_ret2 S H Tryz.results32 (ro_cell (i := 4) S rfl Tryz.isAgg3 rfl rfl) (ro_cell (i := 3) S rfl Tryz.isAgg27 rfl rfl) ?_
      rw [Xs.all_b1 hcut (by omega)]
      exact ⟨rfl, pk [1, 2] 6 H⟩
  have he1 : e1 = 0 := by omega
  have hcc3 := hcc.2.2 he1
  refine wp_skip ?_
  refine x_then ?_
  refine r_seq ?_
  refine r_block ?_
  replace S := S.toCode rfl
  have H := H.noMarks
  refine r_loop (ι := Nat × List Nm × Tm × Dk.Disk × Option Addr × Nat × Nat) (fun ⟨k, names, tm, dd, An, cn, C⟩ a w => Slots a 100 [(2, str (out)), (3, .int .i64 ((budget : Nat) : Int)), (4, .pointer (some ⟨b1, 0, none⟩)), (8, .pointer (some ⟨b2, 0, none⟩)), (9, .pointer (some ⟨b3, 0, none⟩)), (10, .slice An names.length cn), (11, .int .i64 ((n1 : Nat) : Int)), (C + 101, undef)] ∧ Sat w (marksR C :: blk b1 (.cells #[.pointer (some ⟨zb, 0, none⟩)] 72) :: blk b2 (.cells #[.int .i64 0] 3) :: blk b3 (.cells #[.int .i64 ((e1 : Nat) : Int)] 27) :: row 9 1 (.slice An names.length cn) names.length (strs names) :: srtR zb db temp fan how tm :: diskR db dd :: fr) ∧ (Xs.levels how temp fan k names tm dd = Xs.levels how temp fan nm1.length nm1 tm1 d1 ∧ names.length ≤ k ∧ tm.1 + 2 * names.length ≤ 3 * nm1.length ∧ tm.2.length ≤ tm.1 ∧ dd.files.length ≤ d.files.length + tm.1 ∧ names.length ≤ nm1.length)) (fun ⟨k, names, tm, dd, An, cn, C⟩ => names.length) (nm1.length, nm1, tm1, d1, A8, c9, 0) ⟨S.sub ⟨rfl, rfl, rfl, rfl, rfl, rfl, rfl, Lk.h, trivial⟩, pk [0, 6, 5, 4, 1, 2, 3] 7 H, ⟨rfl, Nat.le_refl _, by omega, by omega, by omega, Nat.le_refl _⟩⟩ (fun ⟨k, names, tm, dd, An, cn, C⟩ a w hI => ?_)
  obtain ⟨S, H, hI⟩ := hI
  obtain ⟨hV, hnk, hpot, htm, hdf0, hnm1⟩ := hI
  refine r_seq ?_
  refine sr 3 S H t0 fun a w S H => ?_
  refine r_test S rfl (fun h31 => ?_) (fun h31 => ?_)
  · skip
    refine wp_skip ?_
    refine x_then ?_
    refine r_block ?_
    refine sb ?_
    refine r_alloc S H rfl Tryz.zeroValue31 rfl rfl rfl rfl fun a w b10 S H => ?_
    replace H : Sat _ (blk b10 (.cells #[.slice none 0 0] 31) :: marksR C :: blk b1 (.cells #[.pointer (some ⟨zb, 0, none⟩)] 72) :: blk b2 (.cells #[.int .i64 0] 3) :: blk b3 (.cells #[.int .i64 ((e1 : Nat) : Int)] 27) :: row 9 1 (.slice An names.length cn) names.length (strs names) :: srtR zb db temp fan how tm :: diskR db dd :: fr) := H
    refine sn ?_
    refine r_seq ?_
    obtain ⟨k, rfl⟩ : ∃ j, k = j + 1 := ⟨k - 1, by omega⟩
    obtain ⟨gb, rfl⟩ := H.rowAt (i := 5) rfl (by omega)
    have hcap := (SlOk.ofRow (i := 5) H rfl).le
    have hcap2 := (SlOk.ofRow (i := 5) H rfl).cap
    obtain ⟨Am11, cm12, H⟩ := Sat.openS ((pk [6, 0, 1, 2, 3, 4, 5, 7] 8 H))
    replace H : Sat _ (blk zb (.cells #[.pointer (some ⟨db, 0, none⟩), str (temp), .int .i64 ((fan : Nat) : Int), .int .i64 how, .int .i64 ((tm.1 : Nat) : Int), .slice Am11 tm.2.length cm12] 74) :: row 9 1 (.slice Am11 tm.2.length cm12) tm.2.length (strs tm.2) :: blk b10 (.cells #[.slice none 0 0] 31) :: marksR C :: blk b1 (.cells #[.pointer (some ⟨zb, 0, none⟩)] 72) :: blk b2 (.cells #[.int .i64 0] 3) :: blk b3 (.cells #[.int .i64 ((e1 : Nat) : Int)] 27) :: row 9 1 (.slice (some ⟨gb, 0, none⟩) names.length cn) names.length (strs names) :: diskR db dd :: fr) := H
    refine sb ?_
    refine rn 5 S H t0 fun a w S H => ?_
    refine r_call (args := #[.slice (some ⟨gb, 0, none⟩) names.length cn, .int .i64 ((fan : Nat) : Int)]) S rfl rfl Tryz.call53 (chunk_ct (H := H) _ _ _ _ _ fan (by omega)) rfl rfl rfl fun v a w hR S => ?_
    obtain ⟨kb17, nb18, rfl, H⟩ := hR
    refine sn ?_
    refine r_block ?_
    have H := Sat.shutS tm (pk [2, 3, 0, 1, 4, 5, 6, 7, 8, 9, 10] 11 H)
    replace H : Sat _ (srtR zb db temp fan how tm :: blk kb17 (.cells #[.slice (some ⟨gb, 0, none⟩) names.length cn] 31) :: blk nb18 (.cells #[.int .i64 ((fan : Nat) : Int)] 3) :: blk b10 (.cells #[.slice none 0 0] 31) :: marksR C :: blk b1 (.cells #[.pointer (some ⟨zb, 0, none⟩)] 72) :: blk b2 (.cells #[.int .i64 0] 3) :: blk b3 (.cells #[.int .i64 ((e1 : Nat) : Int)] 27) :: row 9 1 (.slice (some ⟨gb, 0, none⟩) names.length cn) names.length (strs names) :: diskR db dd :: fr) := H
    have H := H.nilRow 9 1
    have hfw := Xs.chunk_few (f := fan) (l := names) hfan (by omega)
    obtain ⟨m, hm⟩ : ∃ y, y = (Xs.chunk fan names).length := ⟨_, rfl⟩
    have hmi : ∀ q, q < m ↔ q * fan < names.length := fun q => by rw [hm]; exact Xs.chunk_iff (by omega) names q
    replace S := S.sub (E' := [(2, str (out)), (3, .int .i64 ((budget : Nat) : Int)), (4, .pointer (some ⟨b1, 0, none⟩)), (8, .pointer (some ⟨b2, 0, none⟩)), (9, .pointer (some ⟨b3, 0, none⟩)), (10, .slice (some ⟨gb, 0, none⟩) names.length cn), (11, .int .i64 ((n1 : Nat) : Int)), (12, .pointer (some ⟨b10, 0, none⟩)), (29, .slice (some ⟨gb, 0, none⟩) names.length cn), (30, .int .i64 ((names.length : Nat) : Int)), (31, .bool (decide (1 < ((names.length : Nat) : Int)))), (32, .slice (some ⟨gb, 0, none⟩) names.length cn), (33, .pointer (some ⟨zb, 0, none⟩)), (34, .pointer (some ⟨zb, 0, none⟩)), (35, .pointer (some ⟨zb, 2, none⟩)), (36, .int .i64 ((fan : Nat) : Int)), (37, .func (.func 75) #[] #[.pointer (some ⟨kb17, 0, none⟩), .pointer (some ⟨nb18, 0, none⟩)]), (C + 101, undef)]) ⟨rfl, rfl, rfl, rfl, rfl, rfl, rfl, rfl, rfl, rfl, rfl, rfl, rfl, rfl, rfl, rfl, rfl, Lk.h, trivial⟩
    refine wp_range2 (ι := List Nm × Tm × Dk.Disk × Option Addr × Nat) (κ := Unit) (σ := Nat × Tm × Dk.Disk × List Nm) (n := 100) (fun i ⟨nq, tq, dq, Aq, cq⟩ => srtR zb db temp fan how tq :: diskR db dq :: blk b10 (.cells #[.slice Aq nq.length cq] 31) :: row 9 1 (.slice Aq nq.length cq) nq.length (strs nq) :: row 9 1 (.slice (some ⟨gb, 0, none⟩) names.length cn) names.length (strs names) :: blk b1 (.cells #[.pointer (some ⟨zb, 0, none⟩)] 72) :: blk b2 (.cells #[.int .i64 0] 3) :: blk b3 (.cells #[.int .i64 ((e1 : Nat) : Int)] 27) :: blk kb17 (.cells #[.slice (some ⟨gb, 0, none⟩) names.length cn] 31) :: blk nb18 (.cells #[.int .i64 ((fan : Nat) : Int)] 3) :: marksR C :: fr) (fun i ⟨nq, tq, dq, Aq, cq⟩ => Xs.pass how temp ((Xs.chunk fan names).drop i) nq tq dq = (Xs.pass how temp (Xs.chunk fan names) [] tm dd) ∧ nq.length = i ∧ i ≤ m ∧ tq.1 = tm.1 + i ∧ tq.2.length ≤ tq.1 ∧ dq.files.length ≤ d.files.length + tq.1) [(2, str (out)), (3, .int .i64 ((budget : Nat) : Int)), (4, .pointer (some ⟨b1, 0, none⟩)), (8, .pointer (some ⟨b2, 0, none⟩)), (9, .pointer (some ⟨b3, 0, none⟩)), (10, .slice (some ⟨gb, 0, none⟩) names.length cn), (11, .int .i64 ((n1 : Nat) : Int)), (12, .pointer (some ⟨b10, 0, none⟩)), (29, .slice (some ⟨gb, 0, none⟩) names.length cn), (30, .int .i64 ((names.length : Nat) : Int)), (31, .bool (decide (1 < ((names.length : Nat) : Int)))), (32, .slice (some ⟨gb, 0, none⟩) names.length cn), (33, .pointer (some ⟨zb, 0, none⟩)), (34, .pointer (some ⟨zb, 0, none⟩)), (35, .pointer (some ⟨zb, 2, none⟩)), (36, .int .i64 ((fan : Nat) : Int)), (37, .func (.func 75) #[] #[.pointer (some ⟨kb17, 0, none⟩), .pointer (some ⟨nb18, 0, none⟩)])] (fun x => [(38, .slice (some ⟨gb, 0 + x * fan, none⟩) (min fan (names.length - x * fan)) (min fan (names.length - x * fan)))] ++ ([(2, str (out)), (3, .int .i64 ((budget : Nat) : Int)), (4, .pointer (some ⟨b1, 0, none⟩)), (8, .pointer (some ⟨b2, 0, none⟩)), (9, .pointer (some ⟨b3, 0, none⟩)), (10, .slice (some ⟨gb, 0, none⟩) names.length cn), (11, .int .i64 ((n1 : Nat) : Int)), (12, .pointer (some ⟨b10, 0, none⟩)), (29, .slice (some ⟨gb, 0, none⟩) names.length cn), (30, .int .i64 ((names.length : Nat) : Int)), (31, .bool (decide (1 < ((names.length : Nat) : Int)))), (32, .slice (some ⟨gb, 0, none⟩) names.length cn), (33, .pointer (some ⟨zb, 0, none⟩)), (34, .pointer (some ⟨zb, 0, none⟩)), (35, .pointer (some ⟨zb, 2, none⟩)), (36, .int .i64 ((fan : Nat) : Int)), (37, .func (.func 75) #[] #[.pointer (some ⟨kb17, 0, none⟩), .pointer (some ⟨nb18, 0, none⟩)])] ++ [(100, undef)])) S ([], tm, dd, none, 0) (pk [1, 10, 4, 0, 9, 6, 7, 8, 2, 3, 5] 11 H) ⟨rfl, rfl, Nat.zero_le _, rfl, htm, hdf0⟩ rfl (enters_of Tryz.func75 (by kernel_rfl) rfl) (chunk_iter kb17 nb18 gb 0 cn fan names (by omega) (by omega) (by omega) hcap m hmi (fun W => W.cell? ⟨kb17, 0, none⟩ = some (.slice (some ⟨gb, 0, none⟩) names.length cn) ∧ W.cell? ⟨nb18, 0, none⟩ = some (.int .i64 ((fan : Nat) : Int))) (fun W h => h)) (fun ⟨e, tz, dz, nz⟩ => blk b2 (.cells #[.int .i64 0] 3) :: blk b3 (.cells #[.int .i64 ((e : Nat) : Int)] 27) :: srtR zb db temp fan how tz :: diskR db dz :: marksR C :: fr) (fun ⟨e, tz, dz, nz⟩ => (Xs.pass how temp (Xs.chunk fan names) [] tm dd) = (dz, tz, nz, e) ∧ e ≠ 0) (fun _ => rfl) ?_ (fun _ => rfl) (fun _ => rfl) (fun x _ => [(2, str (out)), (3, .int .i64 ((budget : Nat) : Int)), (4, .pointer (some ⟨b1, 0, none⟩)), (8, .pointer (some ⟨b2, 0, none⟩)), (9, .pointer (some ⟨b3, 0, none⟩)), (10, .slice (some ⟨gb, 0, none⟩) names.length cn), (11, .int .i64 ((n1 : Nat) : Int)), (12, .pointer (some ⟨b10, 0, none⟩)), (13, .slice (some ⟨gb, 0 + x * fan, none⟩) (min fan (names.length - x * fan)) (min fan (names.length - x * fan))), (29, .slice (some ⟨gb, 0, none⟩) names.length cn), (30, .int .i64 ((names.length : Nat) : Int)), (31, .bool (decide (1 < ((names.length : Nat) : Int)))), (32, .slice (some ⟨gb, 0, none⟩) names.length cn), (33, .pointer (some ⟨zb, 0, none⟩)), (34, .pointer (some ⟨zb, 0, none⟩)), (35, .pointer (some ⟨zb, 2, none⟩)), (36, .int .i64 ((fan : Nat) : Int)), (37, .func (.func 75) #[] #[.pointer (some ⟨kb17, 0, none⟩), .pointer (some ⟨nb18, 0, none⟩)]), (100, undef)]) (fun i ⟨nq, tq, dq, Aq, cq⟩ x _ => srtR zb db temp fan how tq :: diskR db dq :: blk b10 (.cells #[.slice Aq nq.length cq] 31) :: row 9 1 (.slice Aq nq.length cq) nq.length (strs nq) :: row 9 1 (.slice (some ⟨gb, 0, none⟩) names.length cn) names.length (strs names) :: blk b1 (.cells #[.pointer (some ⟨zb, 0, none⟩)] 72) :: blk b2 (.cells #[.int .i64 0] 3) :: blk b3 (.cells #[.int .i64 ((e1 : Nat) : Int)] 27) :: blk kb17 (.cells #[.slice (some ⟨gb, 0, none⟩) names.length cn] 31) :: blk nb18 (.cells #[.int .i64 ((fan : Nat) : Int)] 3) :: marksR C :: fr) ?_ ?_ C (S.mark_ C undef Lk.h) ⟨rfl, rfl, rfl, rfl, rfl, rfl, rfl, rfl, rfl, rfl, rfl, rfl, rfl, rfl, rfl, rfl, rfl, trivial⟩ rfl ?_ ?_
    · rintro i ⟨nq, tq, dq, Aq, cq⟩ W hF H
      exact ⟨by have := (H.cellOf (i := 8) rfl).1 0; simpa using this, by have := (H.cellOf (i := 9) rfl).1 0; simpa using this⟩
    · rintro l D i ⟨nq, tq, dq, Aq, cq⟩ x a w r hx hF S H
      replace S := S.sub (E' := [(2, str (out)), (3, .int .i64 ((budget : Nat) : Int)), (4, .pointer (some ⟨b1, 0, none⟩)), (8, .pointer (some ⟨b2, 0, none⟩)), (9, .pointer (some ⟨b3, 0, none⟩)), (10, .slice (some ⟨gb, 0, none⟩) names.length cn), (11, .int .i64 ((n1 : Nat) : Int)), (12, .pointer (some ⟨b10, 0, none⟩)), (29, .slice (some ⟨gb, 0, none⟩) names.length cn), (30, .int .i64 ((names.length : Nat) : Int)), (31, .bool (decide (1 < ((names.length : Nat) : Int)))), (32, .slice (some ⟨gb, 0, none⟩) names.length cn), (33, .pointer (some ⟨zb, 0, none⟩)), (34, .pointer (some ⟨zb, 0, none⟩)), (35, .pointer (some ⟨zb, 2, none⟩)), (36, .int .i64 ((fan : Nat) : Int)), (37, .func (.func 75) #[] #[.pointer (some ⟨kb17, 0, none⟩), .pointer (some ⟨nb18, 0, none⟩)]), (38, .slice (some ⟨gb, 0 + x * fan, none⟩) (min fan (names.length - x * fan)) (min fan (names.length - x * fan))), (100, undef)]) ⟨rfl, rfl, rfl, rfl, rfl, rfl, rfl, rfl, rfl, rfl, rfl, rfl, rfl, rfl, rfl, rfl, rfl, rfl, rfl, trivial⟩
      refine in_region ?_
      refine rn 1 S H t0 fun a w S H => ?_
      refine r_nil ?_
      refine x_then ?_
      exact ⟨(), S.sub ⟨rfl, rfl, rfl, rfl, rfl, rfl, rfl, rfl, rfl, rfl, rfl, rfl, rfl, rfl, rfl, rfl, rfl, rfl, rfl, trivial⟩, H⟩
    · rintro l D i ⟨nq, tq, dq, Aq, cq⟩ x _ a w r hx hF S H
      obtain ⟨hP, hnl, hile, ht1, ht2, hdf⟩ := hF
      obtain ⟨him, rfl⟩ : i < m ∧ i = x := by obtain ⟨h1, h2⟩ := List.getElem?_eq_some_iff.1 hx; rw [List.getElem_range] at h2; exact ⟨by simpa using h1, h2⟩
      have hif := (hmi i).1 him
      obtain ⟨pt, hpt⟩ : ∃ y, y = (names.drop (i * fan)).take fan := ⟨_, rfl⟩
      have hpl : min fan (names.length - i * fan) = pt.length := by rw [hpt]; simp
      rw [hpl] at S
      have hpe : (Xs.chunk fan names).drop i = pt :: (Xs.chunk fan names).drop (i + 1) := by rw [hpt]; exact Xs.chunk_drop (by omega) i names (by omega)
      rw [hpe] at hP
      have hptl : pt.length ≤ names.length := by omega
      replace S := S.sub (E' := [(4, .pointer (some ⟨b1, 0, none⟩)), (8, .pointer (some ⟨b2, 0, none⟩)), (9, .pointer (some ⟨b3, 0, none⟩)), (12, .pointer (some ⟨b10, 0, none⟩)), (13, .slice (some ⟨gb, 0 + i * fan, none⟩) pt.length pt.length), (100, undef)]) ⟨rfl, rfl, rfl, rfl, rfl, rfl, trivial⟩
      replace H : Sat _ (blk D (.deferred (some [])) :: blk l (.loop r) :: srtR zb db temp fan how tq :: diskR db dq :: blk b10 (.cells #[.slice Aq nq.length cq] 31) :: row 9 1 (.slice Aq nq.length cq) nq.length (strs nq) :: row 9 1 (.slice (some ⟨gb, 0, none⟩) names.length cn) names.length (strs names) :: blk b1 (.cells #[.pointer (some ⟨zb, 0, none⟩)] 72) :: blk b2 (.cells #[.int .i64 0] 3) :: blk b3 (.cells #[.int .i64 ((e1 : Nat) : Int)] 27) :: blk kb17 (.cells #[.slice (some ⟨gb, 0, none⟩) names.length cn] 31) :: blk nb18 (.cells #[.int .i64 ((fan : Nat) : Int)] 3) :: marksR C :: fr) := H
      refine in_block ?_
      refine in_seq ?_
      refine in_region ?_
      refine rn 1 S H t0 fun a w S H => ?_
      refine r_call (args := #[.pointer (some ⟨zb, 0, none⟩)]) S rfl rfl Tryz.call54 (sname_ct (H := (pk [2, 0, 1, 3, 4, 5, 6, 7, 8, 9, 10, 11, 12] 13 H)) _ _ (hl.via fun _ H => H.drop.drop.drop.drop.drop.drop.drop.drop.drop.drop.drop.drop) zb db temp fan how tq (by omega) (by omega)) rfl rfl rfl fun v a w hR S => ?_
      obtain ⟨rfl, H⟩ := hR
      refine rn 1 S H t0 fun a w S H => ?_
      refine r_nil ?_
      refine x_then ?_
      refine in_seq ?_
      obtain ⟨Am19, cm20, H⟩ := Sat.openS (H)
      replace H : Sat _ (blk zb (.cells #[.pointer (some ⟨db, 0, none⟩), str (temp), .int .i64 ((fan : Nat) : Int), .int .i64 how, .int .i64 (((tq.1 + 1, tq.2).1 : Nat) : Int), .slice Am19 ((tq.1 + 1, tq.2).2.length) cm20] 74) :: row 9 1 (.slice Am19 ((tq.1 + 1, tq.2).2.length) cm20) ((tq.1 + 1, tq.2).2.length) (strs ((tq.1 + 1, tq.2).2)) :: blk D (.deferred (some [])) :: blk l (.loop r) :: diskR db dq :: blk b10 (.cells #[.slice Aq nq.length cq] 31) :: row 9 1 (.slice Aq nq.length cq) nq.length (strs nq) :: row 9 1 (.slice (some ⟨gb, 0, none⟩) names.length cn) names.length (strs names) :: blk b1 (.cells #[.pointer (some ⟨zb, 0, none⟩)] 72) :: blk b2 (.cells #[.int .i64 0] 3) :: blk b3 (.cells #[.int .i64 ((e1 : Nat) : Int)] 27) :: blk kb17 (.cells #[.slice (some ⟨gb, 0, none⟩) names.length cn] 31) :: blk nb18 (.cells #[.int .i64 ((fan : Nat) : Int)] 3) :: marksR C :: fr) := H
      refine haI [2, 3, 4, 5, 6, 7, 8, 9, 10, 11, 12, 13] 14 H fun w H HS => ?_
      refine tk 0 S HS fun a S => ?_
      refine tk 1 S HS fun a S => ?_
      refine tk 2 S HS fun a S => ?_
      refine tk 3 S HS fun a S => ?_
      refine tk 5 S HS fun a S => ?_
      refine hmemo [true, true, true, true, true, true, true, false, false, false, false] 4 (fun a w => ∃ b21 : Nat, Slots a 100 [(4, .pointer (some ⟨b1, 0, none⟩)), (8, .pointer (some ⟨b2, 0, none⟩)), (9, .pointer (some ⟨b3, 0, none⟩)), (12, .pointer (some ⟨b10, 0, none⟩)), (13, .slice (some ⟨gb, 0 + i * fan, none⟩) pt.length pt.length), (14, str (tname temp (tq.1 + 1))), (39, .pointer (some ⟨zb, 0, none⟩)), (40, str (tname temp (tq.1 + 1))), (41, .pointer (some ⟨zb, 0, none⟩)), (45, .slice Am19 ((tq.1 + 1, tq.2).2.length) cm20), (47, .slice (some ⟨b21, 0, none⟩) 1 1), (100, undef)] ∧ Sat w (row 9 1 (.slice (some ⟨b21, 0, none⟩) 1 1) 1 (strs [tname temp (tq.1 + 1)]) :: blk zb (.cells #[.pointer (some ⟨db, 0, none⟩), str (temp), .int .i64 ((fan : Nat) : Int), .int .i64 how, .int .i64 (((tq.1 + 1, tq.2).1 : Nat) : Int), .slice Am19 ((tq.1 + 1, tq.2).2.length) cm20] 74) :: row 9 1 (.slice Am19 ((tq.1 + 1, tq.2).2.length) cm20) ((tq.1 + 1, tq.2).2.length) (strs ((tq.1 + 1, tq.2).2)) :: blk D (.deferred (some [])) :: blk l (.loop r) :: diskR db dq :: blk b10 (.cells #[.slice Aq nq.length cq] 31) :: row 9 1 (.slice Aq nq.length cq) nq.length (strs nq) :: row 9 1 (.slice (some ⟨gb, 0, none⟩) names.length cn) names.length (strs names) :: blk b1 (.cells #[.pointer (some ⟨zb, 0, none⟩)] 72) :: blk b2 (.cells #[.int .i64 0] 3) :: blk b3 (.cells #[.int .i64 ((e1 : Nat) : Int)] 27) :: blk kb17 (.cells #[.slice (some ⟨gb, 0, none⟩) names.length cn] 31) :: blk nb18 (.cells #[.int .i64 ((fan : Nat) : Int)] 3) :: marksR C :: fr)) ?_ fun K0 => ?_
      · rintro a w ⟨b21, S, H⟩
        have HS : Sat w _ := pk [3, 4, 5, 6, 7, 8, 9, 10, 11, 12, 13, 14] 15 H
        refine h1 7 ?_
        refine r_appendS (L' := fun A25 c26 => row 9 1 (.slice (some ⟨b21, 0, none⟩) 1 1) 1 (strs [tname temp (tq.1 + 1)]) :: blk zb (.cells #[.pointer (some ⟨db, 0, none⟩), str (temp), .int .i64 ((fan : Nat) : Int), .int .i64 how, .int .i64 (((tq.1 + 1, tq.2).1 : Nat) : Int), .slice Am19 ((tq.1 + 1, tq.2).2.length) cm20] 74) :: row 9 1 (.slice A25 ((tq.1 + 1, tq.2).2.length + 1) c26) ((tq.1 + 1, tq.2).2.length + 1) (strs (((tq.1 + 1, tq.2).2) ++ ([tname temp (tq.1 + 1)]))) :: blk D (.deferred (some [])) :: blk l (.loop r) :: diskR db dq :: blk b10 (.cells #[.slice Aq nq.length cq] 31) :: row 9 1 (.slice Aq nq.length cq) nq.length (strs nq) :: row 9 1 (.slice (some ⟨gb, 0, none⟩) names.length cn) names.length (strs names) :: blk b1 (.cells #[.pointer (some ⟨zb, 0, none⟩)] 72) :: blk b2 (.cells #[.int .i64 0] 3) :: blk b3 (.cells #[.int .i64 ((e1 : Nat) : Int)] 27) :: blk kb17 (.cells #[.slice (some ⟨gb, 0, none⟩) names.length cn] 31) :: blk nb18 (.cells #[.int .i64 ((fan : Nat) : Int)] 3) :: marksR C :: fr) (xs' := strs (((tq.1 + 1, tq.2).2) ++ ([tname temp (tq.1 + 1)]))) 2 S H rfl rfl rfl rfl el31 (SlOk.ofRow (i := 0) H rfl) (one_strs _) (by simp only [maxLen]; first | omega | (simp <;> omega)) (by first | omega | (simp <;> omega)) (strs_app ((tq.1 + 1, tq.2).2) ([tname temp (tq.1 + 1)])) (by first | omega | (simp <;> omega)) (fun _ _ => rfl) rfl rfl rfl fun a w A25 c26 hA25 S H => ?_
        refine sn ?_
        refine hk (pk [3, 4, 5, 6, 7, 8, 9, 10, 11, 12, 13, 14] 15 H) fun HS => ?_
        refine tk 8 S HS fun a S => ?_
        refine tk 9 S HS fun a S => ?_
        refine h1 10 ?_
        refine rs 1 S H t0 fun a w S H => ?_
        refine hk (pk [3, 4, 5, 6, 7, 8, 9, 10, 11, 12, 13, 14] 15 H) fun HS => ?_
        refine hz ?_
        refine x_then ?_
        refine in_seq ?_
        refine in_seq ?_
        have H := pk [1, 2, 0, 3, 4, 5, 6, 7, 8, 9, 10, 11, 12, 13, 14] 15 H
        have H := Sat.shutS (zb := zb) (db := db) (temp := temp) (fan := fan) (how := how) (A := A25) (c := c26) (tq.1 + 1, tq.2 ++ [tname temp (tq.1 + 1)]) (by rw [List.length_append]; exact H)
        replace H : Sat _ (srtR zb db temp fan how (tq.1 + 1, tq.2 ++ [tname temp (tq.1 + 1)]) :: row 9 1 (.slice (some ⟨b21, 0, none⟩) 1 1) 1 (strs [tname temp (tq.1 + 1)]) :: blk D (.deferred (some [])) :: blk l (.loop r) :: diskR db dq :: blk b10 (.cells #[.slice Aq nq.length cq] 31) :: row 9 1 (.slice Aq nq.length cq) nq.length (strs nq) :: row 9 1 (.slice (some ⟨gb, 0, none⟩) names.length cn) names.length (strs names) :: blk b1 (.cells #[.pointer (some ⟨zb, 0, none⟩)] 72) :: blk b2 (.cells #[.int .i64 0] 3) :: blk b3 (.cells #[.int .i64 ((e1 : Nat) : Int)] 27) :: blk kb17 (.cells #[.slice (some ⟨gb, 0, none⟩) names.length cn] 31) :: blk nb18 (.cells #[.int .i64 ((fan : Nat) : Int)] 3) :: marksR C :: fr) := H
        refine in_region ?_
        refine rn 3 S H t0 fun a w S H => ?_
        refine r_call (args := #[.pointer (some ⟨zb, 0, none⟩), .slice (some ⟨gb, 0 + i * fan, none⟩) pt.length pt.length, str (tname temp (tq.1 + 1))]) S rfl rfl Tryz.call55 (smerge_ct (H := (pk [0, 4, 1, 2, 3, 5, 6, 7, 8, 9, 10, 11, 12, 13] 14 H)) _ _ zb db temp fan how (tq.1 + 1, tq.2 ++ [tname temp (tq.1 + 1)]) _ _ pt (SlOk.part (SlOk.ofRow (i := 5) (pk [0, 4, 1, 2, 3, 5, 6, 7, 8, 9, 10, 11, 12, 13] 14 H).drop.drop rfl) hif hpt) (tname temp (tq.1 + 1)) dq (⟨by omega, by omega⟩)) rfl rfl rfl fun v a w hR S => ?_
        obtain ⟨rfl, H⟩ := hR
        refine rn 1 S H t0 fun a w S H => ?_
        refine r_nil ?_
        refine x_then ?_
        refine in_seq ?_
        refine in_region ?_
        refine rn 2 S H t0 fun a w S H => ?_
        refine r_nil ?_
        refine x_then ?_
        refine in_test S rfl (fun h56 => ?_) (fun h56 => ?_)
        · skip
          refine in_seq ?_
          refine in_region ?_
          refine rn 3 S H t0 fun a w S H => ?_
          refine r_nil ?_
          refine x_then ?_
          refine wpIn_ret ?_
          refine x_thenRet ?_
          refine x_blockRet ?_
          refine x_thenRet ?_
          have H := pk [3, 4, 9, 10, 0, 1, 13] 14 H
          refine left_ret ?_
          exact ⟨(((Xs.merge how (tname temp (tq.1 + 1)) pt dq).2), (tq.1 + 1, tq.2 ++ [tname temp (tq.1 + 1)]), (Xs.merge how (tname temp (tq.1 + 1)) pt dq).1, nq), H, ⟨hP.symm.trans (Xs.pass_b1 (by omega)), by omega⟩⟩
        refine wpIn_skip ?_
        refine x_then ?_
        refine in_seq ?_
        refine in_seq ?_
        refine in_region ?_
        refine rn 2 S H t0 fun a w S H => ?_
        refine r_call (args := #[.pointer (some ⟨zb, 0, none⟩), .slice (some ⟨gb, 0 + i * fan, none⟩) pt.length pt.length]) S rfl rfl Tryz.call33 (sgone_ct (H := H) _ _ zb db temp fan how (tq.1 + 1, tq.2 ++ [tname temp (tq.1 + 1)]) _ _ pt (SlOk.part (SlOk.ofRow (i := 5) (pk [0, 1, 2, 3, 4, 5, 6, 7, 8, 9, 10, 11, 12, 13] 14 H).drop.drop rfl) hif hpt) ((Xs.merge how (tname temp (tq.1 + 1)) pt dq).1) (by have := Xs.merge_cnt how (tname temp (tq.1 + 1)) pt dq; omega) (by simp; omega)) rfl rfl rfl fun v a w hR S => ?_
        obtain ⟨rfl, H⟩ := hR
        dsimp only at S H
        refine rn 1 S H t0 fun a w S H => ?_
        refine r_nil ?_
        refine x_then ?_
        refine in_seq ?_
        refine in_region ?_
        refine rn 2 S H t0 fun a w S H => ?_
        refine r_nil ?_
        refine x_then ?_
        refine in_test S rfl (fun h62 => ?_) (fun h62 => ?_)
        · skip
          refine in_seq ?_
          refine in_region ?_
          refine rn 3 S H t0 fun a w S H => ?_
          refine r_nil ?_
          refine x_then ?_
          refine wpIn_ret ?_
          refine x_thenRet ?_
          refine x_blockRet ?_
          refine x_thenRet ?_
          have H := pk [3, 4, 9, 10, 0, 1, 13] 14 H
          refine left_ret ?_
          exact ⟨(((Xs.gones pt (tq.2 ++ [tname temp (tq.1 + 1)]) ((Xs.merge how (tname temp (tq.1 + 1)) pt dq).1)).2.2), (tq.1 + 1, (Xs.gones pt (tq.2 ++ [tname temp (tq.1 + 1)]) (Xs.merge how (tname temp (tq.1 + 1)) pt dq).1).2.1), (Xs.gones pt (tq.2 ++ [tname temp (tq.1 + 1)]) ((Xs.merge how (tname temp (tq.1 + 1)) pt dq).1)).1, nq), H, ⟨hP.symm.trans (Xs.pass_b2 (by omega) (show (Xs.gones pt (tq.2 ++ [tname temp (tq.1 + 1)]) (Xs.merge how (tname temp (tq.1 + 1)) pt dq).1).2.2 ≠ 0 by omega)), by omega⟩⟩
        refine wpIn_skip ?_
        refine x_then ?_
        refine in_region ?_
        refine rn 2 S H t0 fun a w S H => ?_
        refine r_lit (vs := #[(0, str (tname temp (tq.1 + 1)))]) (cs := strs [tname temp (tq.1 + 1)]) S H rfl rfl el31 (by kernel_rfl) (by decide) (by rfl) rfl rfl rfl fun a w b27 S H => ?_
        refine r_appendS (L' := fun A28 c29 => row 9 1 (.slice (some ⟨b27, 0, none⟩) 1 1) 1 (strs [tname temp (tq.1 + 1)]) :: srtR zb db temp fan how ((tq.1 + 1), (Xs.gones pt (tq.2 ++ [tname temp (tq.1 + 1)]) ((Xs.merge how (tname temp (tq.1 + 1)) pt dq).1)).2.1) :: diskR db (Xs.gones pt (tq.2 ++ [tname temp (tq.1 + 1)]) ((Xs.merge how (tname temp (tq.1 + 1)) pt dq).1)).1 :: row 9 1 (.slice (some ⟨b21, 0, none⟩) 1 1) 1 (strs [tname temp (tq.1 + 1)]) :: blk D (.deferred (some [])) :: blk l (.loop r) :: blk b10 (.cells #[.slice Aq nq.length cq] 31) :: row 9 1 (.slice A28 (nq.length + 1) c29) (nq.length + 1) (strs (nq ++ ([tname temp (tq.1 + 1)]))) :: row 9 1 (.slice (some ⟨gb, 0, none⟩) names.length cn) names.length (strs names) :: blk b1 (.cells #[.pointer (some ⟨zb, 0, none⟩)] 72) :: blk b2 (.cells #[.int .i64 0] 3) :: blk b3 (.cells #[.int .i64 ((e1 : Nat) : Int)] 27) :: blk kb17 (.cells #[.slice (some ⟨gb, 0, none⟩) names.length cn] 31) :: blk nb18 (.cells #[.int .i64 ((fan : Nat) : Int)] 3) :: marksR C :: fr) (xs' := strs (nq ++ ([tname temp (tq.1 + 1)]))) 7 S H rfl rfl rfl rfl el31 (SlOk.ofRow (i := 0) H rfl) (one_strs _) (by simp only [maxLen]; first | omega | (simp <;> omega)) (by first | omega | (simp <;> omega)) (strs_app nq ([tname temp (tq.1 + 1)])) (by first | omega | (simp <;> omega)) (fun _ _ => rfl) rfl rfl rfl fun a w A28 c29 hA28 S H => ?_
        refine rn 1 S H t0 fun a w S H => ?_
        refine r_nil ?_
        refine x_blockEnd ?_
        refine x_then ?_
        have hpo := hP.symm.trans (Xs.pass_one (by omega) (show (Xs.gones pt (tq.2 ++ [tname temp (tq.1 + 1)]) (Xs.merge how (tname temp (tq.1 + 1)) pt dq).1).2.2 = 0 by omega))
        have hmc := Xs.merge_cnt how (tname temp (tq.1 + 1)) pt dq
        obtain ⟨hgc, hgm⟩ := Xs.gones_cnt pt (tq.2 ++ [tname temp (tq.1 + 1)]) (Xs.merge how (tname temp (tq.1 + 1)) pt dq).1
        simp only [List.length_append, List.length_cons, List.length_nil] at hgm
        have en : nq.length + 1 = (nq ++ [tname temp (tq.1 + 1)]).length := by simp
        have H := pk [4, 5, 1, 2, 6, 7, 8, 9, 10, 11, 12, 13, 14] 15 H
        rw [en] at H
        exact ⟨(nq ++ [tname temp (tq.1 + 1)], (tq.1 + 1, (Xs.gones pt (tq.2 ++ [tname temp (tq.1 + 1)]) (Xs.merge how (tname temp (tq.1 + 1)) pt dq).1).2.1), (Xs.gones pt (tq.2 ++ [tname temp (tq.1 + 1)]) (Xs.merge how (tname temp (tq.1 + 1)) pt dq).1).1, A28, c29), H, ⟨hpo.symm, by simp; omega, by omega, by show tq.1 + 1 = _; omega, by show (Xs.gones pt (tq.2 ++ [tname temp (tq.1 + 1)]) (Xs.merge how (tname temp (tq.1 + 1)) pt dq).1).2.1.length ≤ tq.1 + 1; omega, by show _ ≤ _ + (tq.1 + 1); omega⟩⟩
      refine h2 4 6 ?_ ?_
      · skip
        refine rs 1 S H t0 fun a w S H => ?_
        refine hk (pk [2, 3, 4, 5, 6, 7, 8, 9, 10, 11, 12, 13] 14 H) fun HS => ?_
        refine h1 6 ?_
        refine r_lit (vs := #[(0, str (tname temp (tq.1 + 1)))]) (cs := strs [tname temp (tq.1 + 1)]) S H rfl rfl el31 (by kernel_rfl) (by decide) (by rfl) rfl rfl rfl fun a w b30 S H => ?_
        refine sn ?_
        refine hk (pk [3, 4, 5, 6, 7, 8, 9, 10, 11, 12, 13, 14] 15 H) fun HS => ?_
        exact K0 _ _ ⟨_, S.sub ⟨rfl, rfl, rfl, rfl, rfl, rfl, rfl, rfl, rfl, rfl, rfl, rfl, trivial⟩, H⟩
      · skip
        refine r_lit (vs := #[(0, str (tname temp (tq.1 + 1)))]) (cs := strs [tname temp (tq.1 + 1)]) S H rfl rfl el31 (by kernel_rfl) (by decide) (by rfl) rfl rfl rfl fun a w b31 S H => ?_
        refine sn ?_
        refine hk (pk [3, 4, 5, 6, 7, 8, 9, 10, 11, 12, 13, 14] 15 H) fun HS => ?_
        refine h1 4 ?_
        refine rs 1 S H t0 fun a w S H => ?_
        refine hk (pk [3, 4, 5, 6, 7, 8, 9, 10, 11, 12, 13, 14] 15 H) fun HS => ?_
        exact K0 _ _ ⟨_, S.sub ⟨rfl, rfl, rfl, rfl, rfl, rfl, rfl, rfl, rfl, rfl, rfl, rfl, trivial⟩, H⟩
    · rintro D C a w ⟨e, tz, dz, nz⟩ hC S H hF
      replace S : Slots a 100 [(2, str (out)), (3, .int .i64 ((budget : Nat) : Int)), (4, .pointer (some ⟨b1, 0, none⟩)), (8, .pointer (some ⟨b2, 0, none⟩)), (9, .pointer (some ⟨b3, 0, none⟩)), (10, .slice (some ⟨gb, 0, none⟩) names.length cn), (11, .int .i64 ((n1 : Nat) : Int)), (12, .pointer (some ⟨b10, 0, none⟩)), (29, .slice (some ⟨gb, 0, none⟩) names.length cn), (30, .int .i64 ((names.length : Nat) : Int)), (31, .bool (decide (1 < ((names.length : Nat) : Int)))), (32, .slice (some ⟨gb, 0, none⟩) names.length cn), (33, .pointer (some ⟨zb, 0, none⟩)), (34, .pointer (some ⟨zb, 0, none⟩)), (35, .pointer (some ⟨zb, 2, none⟩)), (36, .int .i64 ((fan : Nat) : Int)), (37, .func (.func 75) #[] #[.pointer (some ⟨kb17, 0, none⟩), .pointer (some ⟨nb18, 0, none⟩)]), (C + 101, undef)] := S
      have H := Sat.markIn hC (pk [0, 5, 1, 2, 3, 4] 6 H)
      obtain ⟨hPe, hez⟩ := hF
      replace H : Sat _ (marksR C :: blk b2 (.cells #[.int .i64 0] 3) :: blk b3 (.cells #[.int .i64 ((e : Nat) : Int)] 27) :: srtR zb db temp fan how tz :: diskR db dz :: fr) := H
      refine x_blockRet ?_
      refine x_thenRet ?_
      refine x_blockRet ?_
      refine x_thenRet ?_
      refine x_blockRet ?_
      refine x_thenRet ?_
      refine m_ret2 101 S H Tryz.results32 (ro_cell (i := 0) S rfl Tryz.isAgg3 rfl rfl) (ro_cell (i := 1) S rfl Tryz.isAgg27 rfl rfl) fun w H => ?_
      have hlb := hV.symm.trans (Xs.levels_bad (by omega) (by rw [hPe]; exact hez))
      rw [hPe] at hlb
      rw [Xs.all_b2 hcut he1 hlb hez]
      exact ⟨rfl, pk [2, 3] 4 H⟩
    · rintro D C a w ⟨nq, tq, dq, Aq, cq⟩ hC S H hF
      replace S : Slots a 100 [(2, str (out)), (3, .int .i64 ((budget : Nat) : Int)), (4, .pointer (some ⟨b1, 0, none⟩)), (8, .pointer (some ⟨b2, 0, none⟩)), (9, .pointer (some ⟨b3, 0, none⟩)), (10, .slice (some ⟨gb, 0, none⟩) names.length cn), (11, .int .i64 ((n1 : Nat) : Int)), (12, .pointer (some ⟨b10, 0, none⟩)), (29, .slice (some ⟨gb, 0, none⟩) names.length cn), (30, .int .i64 ((names.length : Nat) : Int)), (31, .bool (decide (1 < ((names.length : Nat) : Int)))), (32, .slice (some ⟨gb, 0, none⟩) names.length cn), (33, .pointer (some ⟨zb, 0, none⟩)), (34, .pointer (some ⟨zb, 0, none⟩)), (35, .pointer (some ⟨zb, 2, none⟩)), (36, .int .i64 ((fan : Nat) : Int)), (37, .func (.func 75) #[] #[.pointer (some ⟨kb17, 0, none⟩), .pointer (some ⟨nb18, 0, none⟩)]), (C + 101, undef)] := S
      have H := Sat.markIn hC (pk [0, 11, 1, 2, 3, 4, 5, 6, 7, 8, 9, 10] 12 H)
      rw [List.length_range] at hF
      obtain ⟨hP, hnl, hile, ht1, ht2, hdf⟩ := hF
      rw [hm, List.drop_length] at hP
      replace hP : (dq, tq, nq, 0) = (Xs.pass how temp (Xs.chunk fan names) [] tm dd) := hP
      replace H : Sat _ (marksR C :: srtR zb db temp fan how tq :: diskR db dq :: blk b10 (.cells #[.slice Aq nq.length cq] 31) :: row 9 1 (.slice Aq nq.length cq) nq.length (strs nq) :: row 9 1 (.slice (some ⟨gb, 0, none⟩) names.length cn) names.length (strs names) :: blk b1 (.cells #[.pointer (some ⟨zb, 0, none⟩)] 72) :: blk b2 (.cells #[.int .i64 0] 3) :: blk b3 (.cells #[.int .i64 ((e1 : Nat) : Int)] 27) :: blk kb17 (.cells #[.slice (some ⟨gb, 0, none⟩) names.length cn] 31) :: blk nb18 (.cells #[.int .i64 ((fan : Nat) : Int)] 3) :: fr) := H
      refine x_blockEnd ?_
      refine x_then ?_
      refine er 2 S H t0 fun a w S H => ?_
      refine x_blockEnd ?_
      refine x_then ?_
      have hlg := hV.symm.trans (Xs.levels_go (by omega) (by rw [← hP]))
      rw [← hP] at hlg
      have H := pk [0, 6, 7, 8, 4, 1, 2] 11 H
      exact ⟨(k, nq, tq, dq, Aq, cq, C), ⟨S.sub ⟨rfl, rfl, rfl, rfl, rfl, rfl, rfl, Lk.h, trivial⟩, H, ⟨hlg.symm, by omega, by omega, ht2, hdf, by omega⟩⟩, by show nq.length < names.length; omega⟩
  refine wp_exit ?_
  refine x_thenExit ?_
  refine x_thenExit ?_
  refine x_blockHere ?_
  refine x_then ?_
  refine r_seq ?_
  have hle := Xs.levels_end (how := how) (temp := temp) (fan := fan) (k := k) (names := names) (tm := tm) (d := dd) (by omega)
  have hall := Xs.all_g (out := out) (fan := fan) hcut he1 (hV.symm.trans hle) rfl
  refine sr 3 S H t0 fun a w S H => ?_
  refine r_test S rfl (fun h71 => ?_) (fun h71 => ?_)
  · skip
    obtain ⟨Am32, cm33, H⟩ := Sat.openS ((pk [5, 0, 1, 2, 3, 4, 6] 7 H))
    replace H : Sat _ (blk zb (.cells #[.pointer (some ⟨db, 0, none⟩), str (temp), .int .i64 ((fan : Nat) : Int), .int .i64 how, .int .i64 ((tm.1 : Nat) : Int), .slice Am32 tm.2.length cm33] 74) :: row 9 1 (.slice Am32 tm.2.length cm33) tm.2.length (strs tm.2) :: marksR C :: blk b1 (.cells #[.pointer (some ⟨zb, 0, none⟩)] 72) :: blk b2 (.cells #[.int .i64 0] 3) :: blk b3 (.cells #[.int .i64 ((e1 : Nat) : Int)] 27) :: row 9 1 (.slice An names.length cn) names.length (strs names) :: diskR db dd :: fr) := H
    refine sb ?_
    refine rn 5 S H t0 fun a w S H => ?_
    refine r_call (args := #[.pointer (some ⟨db, 0, none⟩), str (out), .slice none 0 0]) S rfl rfl Tryz.call13 (write_ct (H := (pk [7, 0, 1, 2, 3, 4, 5, 6] 8 H)) _ _ db out dd (by omega) none 0 [] (okNilR _) (by simp) Bd.nil) rfl rfl rfl fun v a w hR S => ?_
    obtain ⟨rfl, H⟩ := hR
    refine rs 2 S H t0 fun a w S H => ?_
    refine wp_ret ?_
    refine x_thenRet ?_
    have H := pk [3, 0, 1, 2, 4, 5, 6, 7] 8 H
    refine m_ret2 101 S H Tryz.results32 (ro_cell (i := 4) S rfl Tryz.isAgg3 rfl rfl) (ro_cell (i := 5) S rfl Tryz.isAgg27 rfl rfl) fun w H => ?_
    have hn0 : names = [] := List.eq_nil_of_length_eq_zero (by omega)
    rw [hn0] at hall
    rw [hall]
    exact ⟨rfl, Sat.shutS tm (pk [1, 2, 0] 7 H)⟩
  refine wp_skip ?_
  refine x_then ?_
  refine r_seq ?_
  obtain ⟨a0, hn0⟩ : ∃ a0, names = [a0] := List.length_eq_one_iff.1 (by omega)
  obtain ⟨gb, rfl⟩ := H.rowAt (i := 4) rfl (by omega)
  have hg0 : names.getD 0 [] = a0 := by rw [hn0]; rfl
  obtain ⟨Am34, cm35, H⟩ := Sat.openS ((pk [5, 0, 1, 2, 3, 4, 6] 7 H))
  replace H : Sat _ (blk zb (.cells #[.pointer (some ⟨db, 0, none⟩), str (temp), .int .i64 ((fan : Nat) : Int), .int .i64 how, .int .i64 ((tm.1 : Nat) : Int), .slice Am34 tm.2.length cm35] 74) :: row 9 1 (.slice Am34 tm.2.length cm35) tm.2.length (strs tm.2) :: marksR C :: blk b1 (.cells #[.pointer (some ⟨zb, 0, none⟩)] 72) :: blk b2 (.cells #[.int .i64 0] 3) :: blk b3 (.cells #[.int .i64 ((e1 : Nat) : Int)] 27) :: row 9 1 (.slice (some ⟨gb, 0, none⟩) names.length cn) names.length (strs names) :: diskR db dd :: fr) := H
  refine r_seq ?_
  apply viaA (n := 100)
  · skip
    refine ha [0, 1, 2, 3, 4, 5, 6] 8 H fun w H HS => ?_
    refine tk 0 S HS fun a S => ?_
    refine tk 1 S HS fun a S => ?_
    refine tk 2 S HS fun a S => ?_
    refine tk 3 S HS fun a S => ?_
    refine tk 4 S HS fun a S => ?_
    refine tkY 5 S HS rfl (y_index S rfl rfl rfl Tryz.underlying31 Tryz.sizeOf9 (by omega) (by omega)) rfl rfl rfl fun a S => ?_
    refine tkY 6 S HS rfl (y_loadAt S rfl rfl Tryz.isAgg9 (fun w H => (SlOk.ofRow (i := 6) HS rfl).cell w H (strs_at (i := 0) (by first | omega | (simp <;> omega))))) rfl rfl rfl fun a S => ?_
    refine tk 7 S HS fun a S => ?_
    refine h1 8 ?_
    refine rs 1 S H (by omega) fun a w S H => ?_
    refine hk (pk [0, 1, 2, 3, 4, 5, 6] 8 H) fun HS => ?_
    refine tk 9 S HS fun a S => ?_
    refine hz ?_
    refine x_then ?_
    exact ⟨S.sub (E' := [(3, .int .i64 ((budget : Nat) : Int)), (4, .pointer (some ⟨b1, 0, none⟩)), (8, .pointer (some ⟨b2, 0, none⟩)), (9, .pointer (some ⟨b3, 0, none⟩)), (11, .int .i64 ((n1 : Nat) : Int)), (17, .int .i64 (((Dk.Disk.rename (names.getD 0 []) out dd).2 : Nat) : Int)), (C + 101, undef)]) ⟨rfl, rfl, rfl, rfl, rfl, rfl, Lk.h, trivial⟩, H⟩
  · intro a w S H
    refine x_then ?_
    refine sr 2 S H t0 fun a w S H => ?_
    refine r_test S rfl (fun h88 => ?_) (fun h88 => ?_)
    · skip
      refine sr 3 S H t0 fun a w S H => ?_
      refine wp_ret ?_
      refine x_thenRet ?_
      have H := pk [2, 0, 1, 3, 4, 5, 6, 7] 8 H
      refine m_ret2 101 S H Tryz.results32 (ro_cell (i := 3) S rfl Tryz.isAgg3 rfl rfl) (ro_cell (i := 4) S rfl Tryz.isAgg27 rfl rfl) fun w H => ?_
      have hre : Xs.ends out names (Xs.passes n1 budget fan) tm dd = ((dd.rename (names.getD 0 []) out).1, tm, 0, (dd.rename (names.getD 0 []) out).2) := by rw [hg0, hn0]; exact if_pos (by rw [← hg0]; omega)
      rw [hall, hre]
      exact ⟨rfl, Sat.shutS tm (pk [0, 1, 6] 7 H)⟩
    refine wp_skip ?_
    refine x_then ?_
    refine sr 4 S H t0 fun a w S H => ?_
    refine sb ?_
    refine rn 6 S H t0 fun a w S H => ?_
    refine r_call (args := #[.int .i64 ((n1 : Nat) : Int), .int .i64 ((budget : Nat) : Int), .int .i64 ((fan : Nat) : Int)]) S rfl rfl Tryz.call20 (passes_ct (H := H) _ _ ((n1 : Nat) : Int) ((budget : Nat) : Int) ((fan : Nat) : Int) (by omega) (by omega) (by omega)) rfl rfl rfl fun v a w hR S => ?_
    obtain ⟨rfl, H⟩ := hR
    refine rs 2 S H t0 fun a w S H => ?_
    refine wp_ret ?_
    have H := pk [2, 0, 1, 3, 4, 5, 6, 7] 8 H
    refine m_ret2 101 S H Tryz.results32 (ro_cell (i := 3) S rfl Tryz.isAgg3 rfl rfl) (ro_cell (i := 4) S rfl Tryz.isAgg27 rfl rfl) fun w H => ?_
    have hre : Xs.ends out names (Xs.passes n1 budget fan) tm dd = ((dd.rename (names.getD 0 []) out).1, (tm.1, []), Xs.passes n1 budget fan, 0) := by rw [hg0, hn0]; exact if_neg (by rw [← hg0]; omega)
    rw [hall, hre]
    have H := H.nilRow 9 1
    exact ⟨rfl, Sat.shutS (tm.1, []) (pk [1, 0, 7] 8 H)⟩

end Go.Proofs.YtgfdmhjjlajmgaaGreatDoor
namespace Go.Proofs.YtgfdmhjjlajmgaaGreatDoor
open Go.RowKit Go.Cg
set_option linter.unusedVariables false
set_option linter.unusedSimpArgs false
set_option maxRecDepth 8000
set_option synthInstance.maxHeartbeats 1000000
set_option synthInstance.maxSize 1000000
open Go.Cg.Dk (By Nm)
open Go.Cg.Rn (R Bd)
open Go.Cg.Xs (Tm tname)
section
variable {nin out temp : Nm} {how : Int} {d : Dk.Disk}
theorem sort_arg {budget fan : Int} (h : budget < 1 ∨ fan < 2 ∨ how < 0 ∨ 2 < how) : Xs.sortD nin out temp budget fan how d = (d, 0, 1) := if_pos h
variable {budget fan : Nat}
theorem sort_size (h : ¬ ((budget : Int) < 1 ∨ (fan : Int) < 2 ∨ how < 0 ∨ 2 < how)) (e : (d.size nin).2.2 ≠ 0) : Xs.sortD nin out temp budget fan how d = ((d.size nin).1, 0, (d.size nin).2.2) := (if_neg h).trans (if_pos e)
theorem sort_cre (h : ¬ ((budget : Int) < 1 ∨ (fan : Int) < 2 ∨ how < 0 ∨ 2 < how)) (e : (d.size nin).2.2 = 0) (e2 : ((d.size nin).1.create out).2 ≠ 0) : Xs.sortD nin out temp budget fan how d = (((d.size nin).1.create out).1, 0, ((d.size nin).1.create out).2) := ((if_neg h).trans (if_neg (fun c => c e))).trans (if_pos e2)
theorem sort_rem (h : ¬ ((budget : Int) < 1 ∨ (fan : Int) < 2 ∨ how < 0 ∨ 2 < how)) (e : (d.size nin).2.2 = 0) (e2 : ((d.size nin).1.create out).2 = 0) (e3 : (((d.size nin).1.create out).1.remove out).2 ≠ 0) : Xs.sortD nin out temp budget fan how d = ((((d.size nin).1.create out).1.remove out).1, 0, (((d.size nin).1.create out).1.remove out).2) := (((if_neg h).trans (if_neg (fun c => c e))).trans (if_neg (fun c => c e2))).trans (if_pos e3)
theorem sort_bad (h : ¬ ((budget : Int) < 1 ∨ (fan : Int) < 2 ∨ how < 0 ∨ 2 < how)) (e : (d.size nin).2.2 = 0) (e2 : ((d.size nin).1.create out).2 = 0) (e3 : (((d.size nin).1.create out).1.remove out).2 = 0) (e4 : (Xs.all nin (d.size nin).2.1 out temp how budget fan (((d.size nin).1.create out).1.remove out).1).2.2.2 ≠ 0) :
    Xs.sortD nin out temp budget fan how d = ((Xs.gones ((Xs.all nin (d.size nin).2.1 out temp how budget fan (((d.size nin).1.create out).1.remove out).1).2.1.2 ++ [out]) (Xs.all nin (d.size nin).2.1 out temp how budget fan (((d.size nin).1.create out).1.remove out).1).2.1.2 (Xs.all nin (d.size nin).2.1 out temp how budget fan (((d.size nin).1.create out).1.remove out).1).1).1, 0, (Xs.all nin (d.size nin).2.1 out temp how budget fan (((d.size nin).1.create out).1.remove out).1).2.2.2) :=
  ((((if_neg h).trans (if_neg (fun c => c e))).trans (if_neg (fun c => c e2))).trans (if_neg (fun c => c e3))).trans (if_pos e4)
theorem sort_ok (h : ¬ ((budget : Int) < 1 ∨ (fan : Int) < 2 ∨ how < 0 ∨ 2 < how)) (e : (d.size nin).2.2 = 0) (e2 : ((d.size nin).1.create out).2 = 0) (e3 : (((d.size nin).1.create out).1.remove out).2 = 0) (e4 : (Xs.all nin (d.size nin).2.1 out temp how budget fan (((d.size nin).1.create out).1.remove out).1).2.2.2 = 0) :
    Xs.sortD nin out temp budget fan how d = ((Xs.all nin (d.size nin).2.1 out temp how budget fan (((d.size nin).1.create out).1.remove out).1).1, (Xs.all nin (d.size nin).2.1 out temp how budget fan (((d.size nin).1.create out).1.remove out).1).2.2.1, 0) :=
  ((((if_neg h).trans (if_neg (fun c => c e))).trans (if_neg (fun c => c e2))).trans (if_neg (fun c => c e3))).trans (if_neg (fun c => c e4))
end
theorem sortD_ct (w : World) (fr : List Res) (hl : Laid fr) (db : Nat) (nin out temp : Nm) (b f how : Int) (d : Dk.Disk) (hc : d.files.length ≤ 1000000) (hbf : b ≤ 9223372036854775807 ∧ f ≤ 4611686018427387904) (htl : temp.length ≤ 1000) (H : Sat w (diskR db d :: fr)) :
    Rt Tryz.prog 14 #[.pointer (some ⟨db, 0, none⟩), str (nin), str (out), str (temp), .int .i64 b, .int .i64 f, .int .i64 how] w fun v w' => v = .tuple #[.int .i64 (((Xs.sortD nin out temp b f how d).2.1 : Nat) : Int), .int .i64 (((Xs.sortD nin out temp b f how d).2.2 : Nat) : Int)] ∧ Sat w' (diskR db (Xs.sortD nin out temp b f how d).1 :: fr) := by
  refine en7 Tryz.func14 rfl Tryz.ntmps14 rfl fun a S => ?_
  have hdok := H.diskOk
  have hsz := Dk.size_le hdok nin
  have hc1 := Dk.len_size d nin
  have hc2 := Dk.len_create (Dk.Disk.size nin d).1 out
  have hc3 := Dk.len_remove (Dk.Disk.create out (Dk.Disk.size nin d).1).1 out
  refine sr 2 S H t0 fun a w S H => ?_
  refine r_seq ?_
  refine sb ?_
  refine rn 3 S H t0 fun a w S H => ?_
  refine scO 1 S H (fun _ => t0) fun a w S H => ?_
  refine rn 1 S H t0 fun a w S H => ?_
  refine scO 1 S H (fun _ => t0) fun a w S H => ?_
  refine rn 1 S H t0 fun a w S H => ?_
  refine scO 1 S H (fun _ => t0) fun a w S H => ?_
  refine sn ?_
  refine r_cond S rfl (fun h35 => ?_) (fun h35 => ?_)
  · skip
    refine sr 2 S H t0 fun a w S H => ?_
    refine wp_ret ?_
    refine x_thenRet ?_
    refine r_ret2 S H Tryz.results14 (ro_tmp S rfl) (ro_tmp S rfl) ?_
    rw [sort_arg (by simp only [Bool.or_eq_true, decide_eq_true_eq] at h35; omega)]
    exact ⟨rfl, H⟩
  refine wp_skip ?_
  refine x_then ?_
  simp only [Bool.or_eq_false_iff, decide_eq_false_iff_not] at h35
  obtain ⟨budget, rfl⟩ := Int.eq_ofNat_of_zero_le (show 0 ≤ b by omega)
  obtain ⟨fan, rfl⟩ := Int.eq_ofNat_of_zero_le (show 0 ≤ f by omega)
  have ha : ¬ ((budget : Int) < 1 ∨ (fan : Int) < 2 ∨ how < 0 ∨ 2 < how) := by omega
  have hh : Rn.hright how = true := by unfold Rn.hright; rw [decide_eq_true_eq]; omega
  rcases Nat.eq_zero_or_pos (Dk.Disk.size nin d).2.2 with hz0 | hz0
  · skip
    refine sb ?_
    refine rn 2 S H t0 fun a w S H => ?_
    refine r_call (args := #[.pointer (some ⟨db, 0, none⟩), str (nin)]) S rfl rfl Tryz.call30 (newrd_ct (H := H) _ _ db nin d (by omega) (by omega)) rfl rfl rfl fun v a w hR S => ?_
    obtain ⟨b1, rfl, H⟩ := hR
    refine rs 5 S H t0 fun a w S H => ?_
    refine r_seq ?_
    refine sr 2 S H t0 fun a w S H => ?_
    have S := S.retell (v' := .bool false) 43 rfl rfl
    refine r_condF S rfl ?_
    refine wp_skip ?_
    refine x_then ?_
    refine r_seq ?_
    refine sr 4 S H (by omega) fun a w S H => ?_
    refine sr 2 S H t0 fun a w S H => ?_
    refine r_test S rfl (fun h49 => ?_) (fun h49 => ?_)
    · skip
      refine sr 3 S H t0 fun a w S H => ?_
      refine wp_ret ?_
      refine x_thenRet ?_
      refine r_ret2 S H Tryz.results14 (ro_tmp S rfl) (ro_tmp S rfl) ?_
      rw [sort_cre ha (by omega) (by omega)]
      exact ⟨rfl, pk [1] 2 H⟩
    refine wp_skip ?_
    refine x_then ?_
    refine r_seq ?_
    refine sr 4 S H (by omega) fun a w S H => ?_
    refine sr 2 S H t0 fun a w S H => ?_
    refine r_test S rfl (fun h55 => ?_) (fun h55 => ?_)
    · skip
      refine sr 3 S H t0 fun a w S H => ?_
      refine wp_ret ?_
      refine x_thenRet ?_
      refine r_ret2 S H Tryz.results14 (ro_tmp S rfl) (ro_tmp S rfl) ?_
      rw [sort_rem ha (by omega) (by omega) (by omega)]
      exact ⟨rfl, pk [1] 2 H⟩
    refine wp_skip ?_
    refine x_then ?_
    refine sb ?_
    refine rn 4 S H t0 fun a w S H => ?_
    refine r_y S H (y_build (vs := #[(0, .pointer (some ⟨db, 0, none⟩)), (1, str (temp)), (2, .int .i64 ((fan : Nat) : Int)), (3, .int .i64 how)]) (v := .agg #[.pointer (some ⟨db, 0, none⟩), str (temp), .int .i64 ((fan : Nat) : Int), .int .i64 how, .int .i64 0, .slice none 0 0]) S rfl rfl (fun w => by kernel_rfl)) rfl rfl rfl fun a S => ?_
    refine r_box (c := #[.pointer (some ⟨db, 0, none⟩), str (temp), .int .i64 ((fan : Nat) : Int), .int .i64 how, .int .i64 0, .slice none 0 0]) S H rfl rfl rfl rfl rfl rfl fun a w b2 S H => ?_
    refine rs 1 S H t0 fun a w S H => ?_
    have H := H.nilRow 9 1
    have H := Sat.shutS (0, []) (pk [1, 0, 2, 3] 4 H)
    replace H : Sat _ (srtR b2 db temp fan how (0, []) :: rdrR b1 db nin ((Dk.Disk.size nin d).2.1) (0, [], false) 0 :: diskR db (Dk.Disk.remove out ((Dk.Disk.create out ((Dk.Disk.size nin d).1)).1)).1 :: fr) := H
    have he0 : (Dk.Disk.size nin d).2.2 = 0 := by omega
    have he1 : (Dk.Disk.create out (Dk.Disk.size nin d).1).2 = 0 := by omega
    have he2 : (Dk.Disk.remove out (Dk.Disk.create out (Dk.Disk.size nin d).1).1).2 = 0 := by omega
    obtain ⟨hac, ham⟩ := Xs.all_cnt (nin := nin) (sz := (Dk.Disk.size nin d).2.1) (out := out) (temp := temp) (how := how) (budget := budget) (fan := fan) (by omega) (Dk.Disk.remove out (Dk.Disk.create out (Dk.Disk.size nin d).1).1).1
    refine sb ?_
    refine rn 4 S H t0 fun a w S H => ?_
    refine r_call (args := #[.pointer (some ⟨b2, 0, none⟩), .pointer (some ⟨b1, 0, none⟩), str (out), .int .i64 ((budget : Nat) : Int)]) S rfl rfl Tryz.call32 (sall_ct (H := H) _ _ (hl.via fun _ H => H) b2 b1 db temp nin out fan how ((Dk.Disk.size nin d).2.1) budget ((Dk.Disk.remove out ((Dk.Disk.create out ((Dk.Disk.size nin d).1)).1)).1) (by omega) (htl) (by omega) (by omega) (by omega) (by omega) (by omega) hh) rfl rfl rfl fun v a w hR S => ?_
    obtain ⟨rfl, H⟩ := hR
    refine rs 5 S H t0 fun a w S H => ?_
    refine r_seq ?_
    refine sr 2 S H t0 fun a w S H => ?_
    refine r_test S rfl (fun h72 => ?_) (fun h72 => ?_)
    · skip
      obtain ⟨Am3, cm4, H⟩ := Sat.openS (H)
      replace H : Sat _ (blk b2 (.cells #[.pointer (some ⟨db, 0, none⟩), str (temp), .int .i64 ((fan : Nat) : Int), .int .i64 how, .int .i64 (((Xs.all nin ((Dk.Disk.size nin d).2.1) out temp how budget fan ((Dk.Disk.remove out ((Dk.Disk.create out ((Dk.Disk.size nin d).1)).1)).1)).2.1.1 : Nat) : Int), .slice Am3 ((Xs.all nin ((Dk.Disk.size nin d).2.1) out temp how budget fan ((Dk.Disk.remove out ((Dk.Disk.create out ((Dk.Disk.size nin d).1)).1)).1)).2.1.2.length) cm4] 74) :: row 9 1 (.slice Am3 ((Xs.all nin ((Dk.Disk.size nin d).2.1) out temp how budget fan ((Dk.Disk.remove out ((Dk.Disk.create out ((Dk.Disk.size nin d).1)).1)).1)).2.1.2.length) cm4) ((Xs.all nin ((Dk.Disk.size nin d).2.1) out temp how budget fan ((Dk.Disk.remove out ((Dk.Disk.create out ((Dk.Disk.size nin d).1)).1)).1)).2.1.2.length) (strs ((Xs.all nin ((Dk.Disk.size nin d).2.1) out temp how budget fan ((Dk.Disk.remove out ((Dk.Disk.create out ((Dk.Disk.size nin d).1)).1)).1)).2.1.2)) :: diskR db (Xs.all nin ((Dk.Disk.size nin d).2.1) out temp how budget fan ((Dk.Disk.remove out ((Dk.Disk.create out ((Dk.Disk.size nin d).1)).1)).1)).1 :: fr) := H
      refine sb ?_
      refine rn 5 S H t0 fun a w S H => ?_
      refine r_call (args := #[.slice Am3 ((Xs.all nin ((Dk.Disk.size nin d).2.1) out temp how budget fan ((Dk.Disk.remove out ((Dk.Disk.create out ((Dk.Disk.size nin d).1)).1)).1)).2.1.2.length) cm4]) S rfl rfl Tryz.call34 (cloneS_ct (H := H) _ _ _ _ _ ((Xs.all nin ((Dk.Disk.size nin d).2.1) out temp how budget fan ((Dk.Disk.remove out ((Dk.Disk.create out ((Dk.Disk.size nin d).1)).1)).1)).2.1.2) (SlOk.ofRow (i := 1) H rfl) (by omega)) rfl rfl rfl fun v a w hR S => ?_
      obtain ⟨A5, c6, rfl, H⟩ := hR
      refine rn 1 S H t0 fun a w S H => ?_
      refine r_lit (vs := #[(0, str (out))]) (cs := strs [out]) S H rfl rfl el31 (by kernel_rfl) (by decide) (by rfl) rfl rfl rfl fun a w b7 S H => ?_
      refine r_appendS (L' := fun A8 c9 => row 9 1 (.slice (some ⟨b7, 0, none⟩) 1 1) 1 (strs [out]) :: row 9 1 (.slice A8 (((Xs.all nin ((Dk.Disk.size nin d).2.1) out temp how budget fan ((Dk.Disk.remove out ((Dk.Disk.create out ((Dk.Disk.size nin d).1)).1)).1)).2.1.2).length + 1) c9) (((Xs.all nin ((Dk.Disk.size nin d).2.1) out temp how budget fan ((Dk.Disk.remove out ((Dk.Disk.create out ((Dk.Disk.size nin d).1)).1)).1)).2.1.2).length + 1) (strs (((Xs.all nin ((Dk.Disk.size nin d).2.1) out temp how budget fan ((Dk.Disk.remove out ((Dk.Disk.create out ((Dk.Disk.size nin d).1)).1)).1)).2.1.2) ++ ([out]))) :: blk b2 (.cells #[.pointer (some ⟨db, 0, none⟩), str (temp), .int .i64 ((fan : Nat) : Int), .int .i64 how, .int .i64 (((Xs.all nin ((Dk.Disk.size nin d).2.1) out temp how budget fan ((Dk.Disk.remove out ((Dk.Disk.create out ((Dk.Disk.size nin d).1)).1)).1)).2.1.1 : Nat) : Int), .slice Am3 ((Xs.all nin ((Dk.Disk.size nin d).2.1) out temp how budget fan ((Dk.Disk.remove out ((Dk.Disk.create out ((Dk.Disk.size nin d).1)).1)).1)).2.1.2.length) cm4] 74) :: row 9 1 (.slice Am3 ((Xs.all nin ((Dk.Disk.size nin d).2.1) out temp how budget fan ((Dk.Disk.remove out ((Dk.Disk.create out ((Dk.Disk.size nin d).1)).1)).1)).2.1.2.length) cm4) ((Xs.all nin ((Dk.Disk.size nin d).2.1) out temp how budget fan ((Dk.Disk.remove out ((Dk.Disk.create out ((Dk.Disk.size nin d).1)).1)).1)).2.1.2.length) (strs ((Xs.all nin ((Dk.Disk.size nin d).2.1) out temp how budget fan ((Dk.Disk.remove out ((Dk.Disk.create out ((Dk.Disk.size nin d).1)).1)).1)).2.1.2)) :: diskR db (Xs.all nin ((Dk.Disk.size nin d).2.1) out temp how budget fan ((Dk.Disk.remove out ((Dk.Disk.create out ((Dk.Disk.size nin d).1)).1)).1)).1 :: fr) (xs' := strs (((Xs.all nin ((Dk.Disk.size nin d).2.1) out temp how budget fan ((Dk.Disk.remove out ((Dk.Disk.create out ((Dk.Disk.size nin d).1)).1)).1)).2.1.2) ++ ([out]))) 1 S H rfl rfl rfl rfl el31 (SlOk.ofRow (i := 0) H rfl) (one_strs _) (by simp only [maxLen]; first | omega | (simp <;> omega)) (by first | omega | (simp <;> omega)) (strs_app ((Xs.all nin ((Dk.Disk.size nin d).2.1) out temp how budget fan ((Dk.Disk.remove out ((Dk.Disk.create out ((Dk.Disk.size nin d).1)).1)).1)).2.1.2) ([out])) (by first | omega | (simp <;> omega)) (fun _ _ => rfl) rfl rfl rfl fun a w A8 c9 hA8 S H => ?_
      have en : ((Xs.all nin ((Dk.Disk.size nin d).2.1) out temp how budget fan ((Dk.Disk.remove out ((Dk.Disk.create out ((Dk.Disk.size nin d).1)).1)).1)).2.1.2).length + 1 = (((Xs.all nin ((Dk.Disk.size nin d).2.1) out temp how budget fan ((Dk.Disk.remove out ((Dk.Disk.create out ((Dk.Disk.size nin d).1)).1)).1)).2.1.2) ++ ([out])).length := by simp
      rw [en] at S H
      have H := Sat.shutS (Xs.all nin ((Dk.Disk.size nin d).2.1) out temp how budget fan ((Dk.Disk.remove out ((Dk.Disk.create out ((Dk.Disk.size nin d).1)).1)).1)).2.1 (pk [2, 3, 0, 1, 4] 5 H)
      replace H : Sat _ (srtR b2 db temp fan how (Xs.all nin ((Dk.Disk.size nin d).2.1) out temp how budget fan ((Dk.Disk.remove out ((Dk.Disk.create out ((Dk.Disk.size nin d).1)).1)).1)).2.1 :: row 9 1 (.slice (some ⟨b7, 0, none⟩) 1 1) 1 (strs [out]) :: row 9 1 (.slice A8 ((((Xs.all nin ((Dk.Disk.size nin d).2.1) out temp how budget fan ((Dk.Disk.remove out ((Dk.Disk.create out ((Dk.Disk.size nin d).1)).1)).1)).2.1.2) ++ ([out])).length) c9) ((((Xs.all nin ((Dk.Disk.size nin d).2.1) out temp how budget fan ((Dk.Disk.remove out ((Dk.Disk.create out ((Dk.Disk.size nin d).1)).1)).1)).2.1.2) ++ ([out])).length) (strs (((Xs.all nin ((Dk.Disk.size nin d).2.1) out temp how budget fan ((Dk.Disk.remove out ((Dk.Disk.create out ((Dk.Disk.size nin d).1)).1)).1)).2.1.2) ++ ([out]))) :: diskR db (Xs.all nin ((Dk.Disk.size nin d).2.1) out temp how budget fan ((Dk.Disk.remove out ((Dk.Disk.create out ((Dk.Disk.size nin d).1)).1)).1)).1 :: fr) := H
      refine r_call (args := #[.pointer (some ⟨b2, 0, none⟩), .slice A8 ((((Xs.all nin ((Dk.Disk.size nin d).2.1) out temp how budget fan ((Dk.Disk.remove out ((Dk.Disk.create out ((Dk.Disk.size nin d).1)).1)).1)).2.1.2) ++ ([out])).length) c9]) S rfl rfl Tryz.call33 (sgone_ct (H := (pk [0, 3, 1, 2] 4 H)) _ _ b2 db temp fan how ((Xs.all nin ((Dk.Disk.size nin d).2.1) out temp how budget fan ((Dk.Disk.remove out ((Dk.Disk.create out ((Dk.Disk.size nin d).1)).1)).1)).2.1) _ _ (((Xs.all nin ((Dk.Disk.size nin d).2.1) out temp how budget fan ((Dk.Disk.remove out ((Dk.Disk.create out ((Dk.Disk.size nin d).1)).1)).1)).2.1.2) ++ ([out])) (SlOk.ofRow (i := 1) (pk [0, 3, 1, 2] 4 H).drop.drop rfl) ((Xs.all nin ((Dk.Disk.size nin d).2.1) out temp how budget fan ((Dk.Disk.remove out ((Dk.Disk.create out ((Dk.Disk.size nin d).1)).1)).1)).1) (by omega) (by omega)) rfl rfl rfl fun v a w hR S => ?_
      obtain ⟨rfl, H⟩ := hR
      refine sn ?_
      refine sr 3 S H t0 fun a w S H => ?_
      refine wp_ret ?_
      refine x_thenRet ?_
      refine r_ret2 S H Tryz.results14 (ro_tmp S rfl) (ro_tmp S rfl) ?_
      rw [sort_bad ha he0 he1 he2 (by omega)]
      exact ⟨rfl, pk [1] 4 H⟩
    refine wp_skip ?_
    refine x_then ?_
    refine sr 3 S H t0 fun a w S H => ?_
    refine wp_ret ?_
    refine r_ret2 S H Tryz.results14 (ro_tmp S rfl) (ro_tmp S rfl) ?_
    rw [sort_ok ha he0 he1 he2 (by omega)]
    exact ⟨rfl, pk [1] 2 H⟩
  refine sb ?_
  refine rn 2 S H t0 fun a w S H => ?_
  refine r_call (args := #[.pointer (some ⟨db, 0, none⟩), str (nin)]) S rfl rfl Tryz.call30 (newrbad_ct (H := H) _ _ db nin d (by omega) (by omega)) rfl rfl rfl fun v a w hR S => ?_
  obtain ⟨rfl, H⟩ := hR
  refine rs 5 S H t0 fun a w S H => ?_
  refine r_seq ?_
  refine sr 2 S H t0 fun a w S H => ?_
  refine r_test S rfl (fun h43 => ?_) (fun h43 => ?_)
  · skip
    refine sr 3 S H t0 fun a w S H => ?_
    refine wp_ret ?_
    refine x_thenRet ?_
    refine r_ret2 S H Tryz.results14 (ro_tmp S rfl) (ro_tmp S rfl) ?_
    rw [sort_size ha (by omega)]
    exact ⟨rfl, H⟩
  exfalso; omega

end Go.Proofs.YtgfdmhjjlajmgaaGreatDoor
namespace Go.Proofs.YtgfdmhjjlajmgaaGreatDoor
open Go.RowKit Go.Cg
set_option linter.unusedVariables false
set_option linter.unusedSimpArgs false
set_option maxRecDepth 8000
set_option synthInstance.maxHeartbeats 1000000
set_option synthInstance.maxSize 1000000
open Go.Cg.Rn (R Bd Up)
theorem mid_perm (l : List R) (r : R) (k : Nat) : (l.take k ++ r :: l.drop k).Perm (r :: l) := by
  refine List.perm_middle.trans ?_
  rw [List.take_append_drop]
theorem mid_get {l : List R} {g : R} {k j : Nat} (hk : k ≤ l.length) (hj : j < k) : (l.take k ++ g :: l.drop k).getD j (0, 0) = l.getD j (0, 0) := by
  rw [List.getD_eq_getElem?_getD, List.getD_eq_getElem?_getD, List.getElem?_append_left (by simp; omega), List.getElem?_take, if_pos hj]
theorem mid_set {l : List R} {g x : R} {k : Nat} (hk : k ≤ l.length) : (l.take k ++ g :: l.drop k).set k x = l.take k ++ x :: l.drop k := by
  have e : (l.take k).length = k := by simp; omega
  rw [List.set_append, if_neg (by omega), e, Nat.sub_self]; rfl
theorem mid_step {l : List R} {x : R} {k : Nat} (hk : k ≤ l.length) (h0 : 0 < k) (hx : x = l.getD (k - 1) (0, 0)) : l.take k ++ x :: l.drop k = l.take (k - 1) ++ l.getD (k - 1) (0, 0) :: l.drop (k - 1) := by
  have e1 : l.take k = l.take (k - 1) ++ [l.getD (k - 1) (0, 0)] := by
    rw [show k = (k - 1) + 1 from by omega, List.take_add_one, List.getElem?_eq_getElem (by omega), List.getD_eq_getElem?_getD, List.getElem?_eq_getElem (by omega)]; simp
  have e2 : l.drop (k - 1) = l.getD (k - 1) (0, 0) :: l.drop k := by
    rw [List.drop_eq_getElem_cons (by omega), List.getD_eq_getElem?_getD, List.getElem?_eq_getElem (by omega), show k - 1 + 1 = k from by omega]; rfl
  rw [e1, e2, hx]; simp
theorem mid_done {l : List R} {r : R} {k : Nat} (hu : Up l) (hk : k ≤ l.length) (ha : ∀ x ∈ l.drop k, Rn.ltb r x = true) (hb : 0 < k → Rn.ltb r (l.getD (k - 1) (0, 0)) = false) : l.take k ++ r :: l.drop k = Rn.ins r l := by
  refine Rn.up_one ((mid_perm l r k).trans (Rn.ins_perm r l).symm) ?_ (Rn.ins_up r hu)
  have hu2 : Up (l.take k ++ l.drop k) := by rw [List.take_append_drop]; exact hu
  obtain ⟨h1, h2, h3⟩ := List.pairwise_append.1 hu2
  refine List.pairwise_append.2 ⟨h1, List.pairwise_cons.2 ⟨fun x hx => Rn.ltb_as (ha x hx), h2⟩, fun a hma b hb2 => ?_⟩
  rcases List.mem_cons.1 hb2 with rfl | hb2
  · have h0 : 0 < k := by
      rcases Nat.eq_zero_or_pos k with h | h
      · subst h; simp at hma
      · exact h
    have hlast := hb h0
    obtain ⟨j, hj, rfl⟩ := List.getElem_of_mem hma
    have hjk : j < k := by simp at hj; omega
    rw [List.getElem_take]
    by_cases e : j = k - 1
    · subst e; rw [List.getD_eq_getElem?_getD, List.getElem?_eq_getElem (by omega)] at hlast; exact hlast
    · have h4 := List.pairwise_iff_getElem.1 hu j (k - 1) (by omega) (by omega) (by omega)
      rw [List.getD_eq_getElem?_getD, List.getElem?_eq_getElem (by omega)] at hlast
      exact Rn.ltb_ntr hlast h4
  · exact h3 a hma b hb2
theorem fold_zero (l : List R) : Rn.fold 0 l = l := by
  have key : ∀ (l m : List R), l.foldl (Rn.fput 0) m = m ++ l := by
    intro l
    induction l with
    | nil => simp
    | cons x l ih => intro m; rw [List.foldl_cons, ih, fput_zero]; simp
  exact key l []
theorem sort_take {l : List R} {i : Nat} (h : i < l.length) : Rn.ins (l.getD i (0, 0)) (Rn.sort (l.take i)) = Rn.sort (l.take (i + 1)) := by
  rw [take_getD h, Rn.sort_app_one]
theorem put7_ct (w : World) (fr : List Res) (A : Option Addr) (c : Nat) (l : List R) (r : R) (ok : SlOk fr 2 A l.length c (recs l)) (hu : Up l) (hn : l.length ≤ 1099511627776) (H : Sat w (fr)) :
    Rt Tryz.prog 66 #[.slice A l.length c, .agg #[.int .u64 ((r.1 : Nat) : Int), .int .u64 ((r.2 : Nat) : Int)]] w fun v w' => ∃ A' c', v = .slice A' (l.length + 1) c' ∧ Sat w' (row 52 2 (.slice A' (l.length + 1) c') (l.length + 1) (recs (Rn.ins r l)) :: fr) := by
  refine en2 Tryz.func66 rfl Tryz.ntmps66 rfl fun a S => ?_
  refine sb ?_
  refine r_box (c := #[.int .u64 ((r.1 : Nat) : Int), .int .u64 ((r.2 : Nat) : Int)]) S H rfl rfl rfl rfl rfl rfl fun a w b1 S H => ?_
  refine rs 1 S H t0 fun a w S H => ?_
  refine r_seq ?_
  refine ha [0] 1 H fun w H HS => ?_
  refine tk 1 S HS fun a S => ?_
  refine tk 3 S HS fun a S => ?_
  refine hmemo [true, true, true, true, true, false, false] 2 (fun a w => ∃ A3 : Option Addr, ∃ c4 : Nat, ∃ b5 : Nat, Slots a 42 [(3, .pointer (some ⟨b1, 0, none⟩)), (4, .slice none 0 0), (9, .slice A3 l.length c4), (11, .slice (some ⟨b5, 0, none⟩) 1 1), (42, undef)] ∧ Sat w (row 52 2 (.slice (some ⟨b5, 0, none⟩) 1 1) 1 (recs [(r.1, r.2)]) :: row 52 2 (.slice A3 l.length c4) l.length (recs l) :: blk b1 (.cells #[.int .u64 ((r.1 : Nat) : Int), .int .u64 ((r.2 : Nat) : Int)] 52) :: fr)) ?_ fun K0 => ?_
  · rintro a w ⟨A3, c4, b5, S, H⟩
    have HS : Sat w _ := pk [2] 3 H
    refine h1 5 ?_
    refine r_appendS (L' := fun A13 c14 => row 52 2 (.slice (some ⟨b5, 0, none⟩) 1 1) 1 (recs [(r.1, r.2)]) :: row 52 2 (.slice A13 (l.length + 1) c14) (l.length + 1) (recs (l ++ ([(r.1, r.2)]))) :: blk b1 (.cells #[.int .u64 ((r.1 : Nat) : Int), .int .u64 ((r.2 : Nat) : Int)] 52) :: fr) (xs' := recs (l ++ ([(r.1, r.2)]))) 1 S H rfl rfl rfl rfl el22 (SlOk.ofRow (i := 0) H rfl) (one_recs _) (by simp only [maxLen]; first | omega | (simp <;> omega)) (by first | omega | (simp <;> omega)) (recs_app l ([(r.1, r.2)])) (by first | omega | (simp <;> omega)) (fun _ _ => rfl) rfl rfl rfl fun a w A13 c14 hA13 S H => ?_
    refine sn ?_
    refine hk (pk [2] 3 H) fun HS => ?_
    refine tk 6 S HS fun a S => ?_
    refine hz ?_
    refine x_then ?_
    refine sb ?_
    refine rn 2 S H t0 fun a w S H => ?_
    refine r_y S H (y_sub S rfl rfl rfl (wi64 (by omega) (by omega))) rfl rfl rfl fun a S => ?_
    have S := S.retell (v' := .int .i64 ((l.length : Nat) : Int)) 15 rfl (int_eq (by omega))
    refine rs 1 S H t0 fun a w S H => ?_
    refine r_seq ?_
    refine r_block ?_
    obtain ⟨b15, rfl⟩ := H.rowAt (i := 1) rfl (by omega)
    refine r_loop (ι := List R × Nat × R) (fun ⟨o, k, g⟩ a w => Slots a 42 [(3, .pointer (some ⟨b1, 0, none⟩)), (4, .slice none 0 0), (5, .slice (some ⟨b15, 0, none⟩) (l.length + 1) c14), (6, .int .i64 ((k : Nat) : Int)), (42, undef)] ∧ Sat w (blk b1 (.cells #[.int .u64 ((r.1 : Nat) : Int), .int .u64 ((r.2 : Nat) : Int)] 52) :: row 52 2 (.slice (some ⟨b15, 0, none⟩) (l.length + 1) c14) (l.length + 1) (recs o) :: fr) ∧ (k ≤ l.length ∧ o = l.take k ++ g :: l.drop k ∧ ∀ x ∈ l.drop k, Rn.ltb r x = true)) (fun ⟨o, k, g⟩ => k) (l ++ ([(r.1, r.2)]), l.length, r) ⟨S.sub ⟨rfl, rfl, rfl, rfl, rfl, trivial⟩, pk [2, 1] 3 H, ⟨Nat.le_refl _, by simp, by simp⟩⟩ (fun ⟨o, k, g⟩ a w hI => ?_)
    obtain ⟨S, H, hI⟩ := hI
    obtain ⟨hkl, ho, ha⟩ := hI
    have hol : o.length = l.length + 1 := by rw [ho]; simp; omega
    refine r_seq ?_
    rcases Nat.eq_zero_or_pos k with h0 | h0
    · skip
      apply qb H rfl (by kernel_rfl)
      · skip
        refine qn 1 S t0 fun a S => ?_
        refine q_y S (y_gt S rfl rfl rfl) rfl rfl rfl fun a S => ?_
        have S := S.retell (v' := .bool false) 17 rfl (by rw [decide_eq_false (by omega)])
        refine qn 9 S t0 fun a S => ?_
        exact q_nil S
      · intro a w S H
        refine r_condF S rfl ?_
        refine wp_exit ?_
        refine x_thenExit ?_
        refine x_thenExit ?_
        refine x_blockHere ?_
        refine x_then ?_
        refine sb ?_
        refine rn 3 S H t0 fun a w S H => ?_
        refine r_y S H (y_index S rfl rfl rfl Tryz.underlying22 Tryz.sizeOf52 (by omega) (by omega)) rfl rfl rfl fun a S => ?_
        refine r_setRows (vs := [.int .u64 ((r.1 : Nat) : Int), .int .u64 ((r.2 : Nat) : Int)]) (xs' := recs (o.set k (r.1, r.2))) (L' := blk b1 (.cells #[.int .u64 ((r.1 : Nat) : Int), .int .u64 ((r.2 : Nat) : Int)] 52) :: row 52 2 (.slice (some ⟨b15, 0, none⟩) (l.length + 1) c14) (l.length + 1) (recs (o.set k (r.1, r.2))) :: fr) 1 S H rfl rfl rfl rfl Tryz.sizeOf52 rfl rfl (by simp [Value.oneCell']) (by first | omega | (simp <;> omega)) (recs_put (by first | omega | (simp <;> omega))) rfl rfl rfl fun w H => ?_
        refine sn ?_
        refine sr 2 S H t0 fun a w S H => ?_
        refine wp_ret ?_
        refine r_ret1 S H Tryz.results66 (ro_tmp S rfl) ?_
        have e : o.set k r = Rn.ins r l := by rw [ho, mid_set hkl]; exact mid_done hu hkl ha (fun h => absurd h (by omega))
        have H := pk [1] 2 H
        rw [e] at H
        exact ⟨_, _, rfl, H⟩
    apply qb H rfl (by kernel_rfl)
    · skip
      refine qn 1 S t0 fun a S => ?_
      refine q_y S (y_gt S rfl rfl rfl) rfl rfl rfl fun a S => ?_
      have S := S.retell (v' := .bool true) 17 rfl (by rw [decide_eq_true (by omega)])
      refine qn 4 S t0 fun a S => ?_
      refine q_y S (y_sub S rfl rfl rfl (wi64 (by omega) (by omega))) rfl rfl rfl fun a S => ?_
      have S := S.retell (v' := .int .i64 (((k - 1) : Nat) : Int)) 22 rfl (int_eq (by omega))
      refine q_y S (y_index S rfl rfl rfl Tryz.underlying22 Tryz.sizeOf52 (by omega) (by omega)) rfl rfl rfl fun a S => ?_
      refine q_y S (y_loadAggAt [.int .u64 (((o.getD (k - 1) (0, 0)).1 : Nat) : Int), .int .u64 (((o.getD (k - 1) (0, 0)).2 : Nat) : Int)] S rfl rfl (fun w => ⟨Tryz.isAgg52 w, Tryz.sizeOf52 w⟩) rfl (fun w H => (SlOk.ofRow (i := 1) H rfl).cells w H (recs_from (i := (k - 1)) (by first | omega | (simp <;> omega))))) rfl rfl rfl fun a S => ?_
      refine q_call (args := #[.agg #[.int .u64 ((r.1 : Nat) : Int), .int .u64 ((r.2 : Nat) : Int)], .agg #[.int .u64 (((o.getD (k - 1) (0, 0)).1 : Nat) : Int), .int .u64 (((o.getD (k - 1) (0, 0)).2 : Nat) : Int)]]) S rfl rfl Tryz.call92 (fun w H => less_ct (H := H) _ _ r (o.getD (k - 1) (0, 0))) rfl rfl rfl fun a S => ?_
      refine qn 1 S t0 fun a S => ?_
      exact q_nil S
    · intro a w S H
      refine r_cond S rfl (fun h26 => ?_) (fun h26 => ?_)
      · skip
        refine wp_skip ?_
        refine x_then ?_
        refine r_block ?_
        refine sb ?_
        refine rn 4 S H t0 fun a w S H => ?_
        refine r_y S H (y_sub S rfl rfl rfl (wi64 (by omega) (by omega))) rfl rfl rfl fun a S => ?_
        have S := S.retell (v' := .int .i64 (((k - 1) : Nat) : Int)) 31 rfl (int_eq (by omega))
        refine r_y S H (y_index S rfl rfl rfl Tryz.underlying22 Tryz.sizeOf52 (by omega) (by omega)) rfl rfl rfl fun a S => ?_
        refine r_y S H (y_loadAggAt [.int .u64 (((o.getD (k - 1) (0, 0)).1 : Nat) : Int), .int .u64 (((o.getD (k - 1) (0, 0)).2 : Nat) : Int)] S rfl rfl (fun w => ⟨Tryz.isAgg52 w, Tryz.sizeOf52 w⟩) rfl (fun w H => (SlOk.ofRow (i := 1) H rfl).cells w H (recs_from (i := (k - 1)) (by first | omega | (simp <;> omega))))) rfl rfl rfl fun a S => ?_
        refine r_y S H (y_index S rfl rfl rfl Tryz.underlying22 Tryz.sizeOf52 (by omega) (by omega)) rfl rfl rfl fun a S => ?_
        refine r_setRows (vs := [.int .u64 (((o.getD (k - 1) (0, 0)).1 : Nat) : Int), .int .u64 (((o.getD (k - 1) (0, 0)).2 : Nat) : Int)]) (xs' := recs (o.set k (o.getD (k - 1) (0, 0)))) (L' := blk b1 (.cells #[.int .u64 ((r.1 : Nat) : Int), .int .u64 ((r.2 : Nat) : Int)] 52) :: row 52 2 (.slice (some ⟨b15, 0, none⟩) (l.length + 1) c14) (l.length + 1) (recs (o.set k (o.getD (k - 1) (0, 0)))) :: fr) 1 S H rfl rfl rfl rfl Tryz.sizeOf52 rfl rfl (by simp [Value.oneCell']) (by first | omega | (simp <;> omega)) (recs_put (by first | omega | (simp <;> omega))) rfl rfl rfl fun w H => ?_
        refine sn ?_
        refine r_region ?_
        refine rn 1 S H t0 fun a w S H => ?_
        refine r_y S H (y_sub S rfl rfl rfl (wi64 (by omega) (by omega))) rfl rfl rfl fun a S => ?_
        have S := S.retell (v' := .int .i64 (((k - 1) : Nat) : Int)) 36 rfl (int_eq (by omega))
        refine rn 1 S H t0 fun a w S H => ?_
        refine r_nil ?_
        refine x_blockEnd ?_
        refine x_then ?_
        have hg1 : o.getD (k - 1) (0, 0) = l.getD (k - 1) (0, 0) := by rw [ho]; exact mid_get hkl (by omega)
        exact ⟨(o.set k (o.getD (k - 1) (0, 0)), k - 1, l.getD (k - 1) (0, 0)), ⟨S.sub ⟨rfl, rfl, rfl, rfl, rfl, trivial⟩, H, ⟨by omega, by rw [hg1, ho, mid_set hkl]; exact mid_step hkl h0 rfl, fun x hx => by rw [List.drop_eq_getElem_cons (by omega)] at hx; rcases List.mem_cons.1 hx with rfl | hx; (rw [hg1, List.getD_eq_getElem?_getD, List.getElem?_eq_getElem (by omega)] at h26; exact h26); (rw [show k - 1 + 1 = k from by omega] at hx; exact ha x hx)⟩⟩, by show k - 1 < k; omega⟩
      refine wp_exit ?_
      refine x_thenExit ?_
      refine x_thenExit ?_
      refine x_blockHere ?_
      refine x_then ?_
      refine sb ?_
      refine rn 3 S H t0 fun a w S H => ?_
      refine r_y S H (y_index S rfl rfl rfl Tryz.underlying22 Tryz.sizeOf52 (by omega) (by omega)) rfl rfl rfl fun a S => ?_
      refine r_setRows (vs := [.int .u64 ((r.1 : Nat) : Int), .int .u64 ((r.2 : Nat) : Int)]) (xs' := recs (o.set k (r.1, r.2))) (L' := blk b1 (.cells #[.int .u64 ((r.1 : Nat) : Int), .int .u64 ((r.2 : Nat) : Int)] 52) :: row 52 2 (.slice (some ⟨b15, 0, none⟩) (l.length + 1) c14) (l.length + 1) (recs (o.set k (r.1, r.2))) :: fr) 1 S H rfl rfl rfl rfl Tryz.sizeOf52 rfl rfl (by simp [Value.oneCell']) (by first | omega | (simp <;> omega)) (recs_put (by first | omega | (simp <;> omega))) rfl rfl rfl fun w H => ?_
      refine sn ?_
      refine sr 2 S H t0 fun a w S H => ?_
      refine wp_ret ?_
      refine r_ret1 S H Tryz.results66 (ro_tmp S rfl) ?_
      have e : o.set k r = Rn.ins r l := by rw [ho, mid_set hkl]; exact mid_done hu hkl ha (fun _ => by rw [← mid_get (g := g) hkl (show k - 1 < k by omega), ← ho]; simpa using h26)
      have H := pk [1] 2 H
      rw [e] at H
      exact ⟨_, _, rfl, H⟩
  refine hmemo [true, true, false, true, true, false, false] 3 (fun a w => ∃ b2 : Nat, ∃ b8 : Nat, Slots a 42 [(3, .pointer (some ⟨b1, 0, none⟩)), (4, .slice none 0 0), (7, .slice (some ⟨b2, 0, none⟩) 0 0), (8, .slice A l.length c), (11, .slice (some ⟨b8, 0, none⟩) 1 1), (42, undef)] ∧ Sat w (row 52 2 (.slice (some ⟨b8, 0, none⟩) 1 1) 1 (recs [(r.1, r.2)]) :: row 52 2 (.slice (some ⟨b2, 0, none⟩) 0 0) 0 (recs []) :: blk b1 (.cells #[.int .u64 ((r.1 : Nat) : Int), .int .u64 ((r.2 : Nat) : Int)] 52) :: fr)) ?_ fun K1 => ?_
  · rintro a w ⟨b2, b8, S, H⟩
    have HS : Sat w _ := pk [2] 3 H
    refine h1 2 ?_
    refine r_appendS (L' := fun A16 c17 => row 52 2 (.slice (some ⟨b8, 0, none⟩) 1 1) 1 (recs [(r.1, r.2)]) :: row 52 2 (.slice A16 l.length c17) l.length (recs l) :: blk b1 (.cells #[.int .u64 ((r.1 : Nat) : Int), .int .u64 ((r.2 : Nat) : Int)] 52) :: fr) (xs' := recs l) 1 S H rfl rfl rfl rfl el22 (((ok.more _).more _).more _) (one_recs _) (by simp only [maxLen]; first | omega | (simp <;> omega)) (by first | omega | (simp <;> omega)) (List.nil_append _) (by first | omega | (simp <;> omega)) (fun _ _ => rfl) rfl rfl rfl fun a w A16 c17 hA16 S H => ?_
    refine sn ?_
    refine hk (pk [2] 3 H) fun HS => ?_
    exact K0 _ _ ⟨_, _, _, S.sub ⟨rfl, rfl, rfl, rfl, rfl, trivial⟩, H⟩
  refine h2 0 4 ?_ ?_
  · skip
    refine r_lit (vs := #[]) (cs := recs []) S H rfl rfl el22 (by kernel_rfl) (by decide) (by rfl) rfl rfl rfl fun a w b18 S H => ?_
    refine sn ?_
    refine hk (pk [1] 2 H) fun HS => ?_
    refine h2 2 4 ?_ ?_
    · skip
      refine r_appendS (L' := fun A19 c20 => row 52 2 (.slice A19 l.length c20) l.length (recs l) :: blk b1 (.cells #[.int .u64 ((r.1 : Nat) : Int), .int .u64 ((r.2 : Nat) : Int)] 52) :: fr) (xs' := recs l) 0 S H rfl rfl rfl rfl el22 ((ok.more _).more _) (one_recs _) (by simp only [maxLen]; first | omega | (simp <;> omega)) (by first | omega | (simp <;> omega)) (List.nil_append _) (by first | omega | (simp <;> omega)) (fun _ _ => rfl) rfl rfl rfl fun a w A19 c20 hA19 S H => ?_
      refine sn ?_
      refine hk (pk [1] 2 H) fun HS => ?_
      refine h1 4 ?_
      refine r_lit (vs := #[(0, .agg #[.int .u64 ((r.1 : Nat) : Int), .int .u64 ((r.2 : Nat) : Int)])]) (cs := recs [(r.1, r.2)]) S H rfl rfl el22 (by kernel_rfl) (by decide) (by rfl) rfl rfl rfl fun a w b21 S H => ?_
      refine sn ?_
      refine hk (pk [2] 3 H) fun HS => ?_
      exact K0 _ _ ⟨_, _, _, S.sub ⟨rfl, rfl, rfl, rfl, rfl, trivial⟩, H⟩
    · skip
      refine r_lit (vs := #[(0, .agg #[.int .u64 ((r.1 : Nat) : Int), .int .u64 ((r.2 : Nat) : Int)])]) (cs := recs [(r.1, r.2)]) S H rfl rfl el22 (by kernel_rfl) (by decide) (by rfl) rfl rfl rfl fun a w b22 S H => ?_
      refine sn ?_
      refine hk (pk [2] 3 H) fun HS => ?_
      exact K1 _ _ ⟨_, _, S.sub ⟨rfl, rfl, rfl, rfl, rfl, rfl, trivial⟩, H⟩
  · skip
    refine r_lit (vs := #[(0, .agg #[.int .u64 ((r.1 : Nat) : Int), .int .u64 ((r.2 : Nat) : Int)])]) (cs := recs [(r.1, r.2)]) S H rfl rfl el22 (by kernel_rfl) (by decide) (by rfl) rfl rfl rfl fun a w b23 S H => ?_
    refine sn ?_
    refine hk (pk [1] 2 H) fun HS => ?_
    refine h1 0 ?_
    refine r_lit (vs := #[]) (cs := recs []) S H rfl rfl el22 (by kernel_rfl) (by decide) (by rfl) rfl rfl rfl fun a w b24 S H => ?_
    refine sn ?_
    refine hk (pk [2] 3 H) fun HS => ?_
    exact K1 _ _ ⟨_, _, S.sub ⟨rfl, rfl, rfl, rfl, rfl, rfl, trivial⟩, pk [1, 0, 2] 3 H⟩

theorem sort7_ct (w : World) (fr : List Res) (A : Option Addr) (c : Nat) (l : List R) (ok : SlOk fr 2 A l.length c (recs l)) (hn : l.length ≤ 1099511627776) (H : Sat w (fr)) :
    Rt Tryz.prog 39 #[.slice A l.length c] w fun v w' => ∃ A' c', v = .slice A' l.length c' ∧ Sat w' (row 52 2 (.slice A' l.length c') l.length (recs (Rn.sort l)) :: fr) := by
  refine en1 Tryz.func39 rfl Tryz.ntmps39 rfl fun a S => ?_
  refine sr 1 S H t0 fun a w S H => ?_
  refine sb ?_
  refine r_lit (vs := #[]) (cs := recs []) S H rfl rfl el22 (by kernel_rfl) (by decide) (by rfl) rfl rfl rfl fun a w b1 S H => ?_
  refine rs 1 S H t0 fun a w S H => ?_
  refine r_seq ?_
  refine sr 1 S H t0 fun a w S H => ?_
  refine r_block ?_
  refine r_loop (ι := Nat × Option Addr × Nat) (fun ⟨i, Ao, co⟩ a w => Slots a 19 [(0, .slice A l.length c), (2, .slice none 0 0), (3, .slice Ao i co), (4, .int .i64 ((i : Nat) : Int)), (19, undef)] ∧ Sat w (row 52 2 (.slice Ao i co) i (recs (Rn.sort (l.take i))) :: fr) ∧ (i ≤ l.length)) (fun ⟨i, Ao, co⟩ => l.length - i) (0, (some ⟨b1, 0, none⟩), 0) ⟨S.sub ⟨rfl, rfl, rfl, rfl, rfl, trivial⟩, H, (Nat.zero_le _)⟩ (fun ⟨i, Ao, co⟩ a w hI => ?_)
  obtain ⟨S, H, hI⟩ := hI
  have hil := hI
  refine r_seq ?_
  refine sr 4 S H t0 fun a w S H => ?_
  refine r_test S rfl (fun h9 => ?_) (fun h9 => ?_)
  · skip
    refine wp_skip ?_
    refine x_then ?_
    refine r_seq ?_
    refine r_block ?_
    have hle : (Rn.sort (l.take i)).length = i := by simp; omega
    refine r_region ?_
    refine r_y S H (y_move S rfl rfl) rfl rfl rfl fun a S => ?_
    have S := S.retell (v' := .slice Ao ((Rn.sort (l.take i)).length) co) 12 rfl (by rw [hle])
    refine rn 2 S H t0 fun a w S H => ?_
    obtain ⟨b2, o3, rfl⟩ := (ok.more _).addr H (by first | omega | (simp <;> omega))
    refine r_y S H (y_index S rfl rfl rfl Tryz.underlying22 Tryz.sizeOf52 (by omega) (by omega)) rfl rfl rfl fun a S => ?_
    refine r_y S H (y_loadAggAt [.int .u64 (((l.getD i (0, 0)).1 : Nat) : Int), .int .u64 (((l.getD i (0, 0)).2 : Nat) : Int)] S rfl rfl (fun w => ⟨Tryz.isAgg52 w, Tryz.sizeOf52 w⟩) rfl (fun w H => (ok.more _).cells w H (recs_from (i := i) (by first | omega | (simp <;> omega))))) rfl rfl rfl fun a S => ?_
    refine r_call (args := #[.slice Ao ((Rn.sort (l.take i)).length) co, .agg #[.int .u64 (((l.getD i (0, 0)).1 : Nat) : Int), .int .u64 (((l.getD i (0, 0)).2 : Nat) : Int)]]) S rfl rfl Tryz.call66 (put7_ct (H := H) _ _ Ao co (Rn.sort (l.take i)) (l.getD i (0, 0)) (by rw [hle]; exact SlOk.ofRow (i := 0) H rfl) (Rn.sort_up _) (by omega)) rfl rfl rfl fun v a w hR S => ?_
    obtain ⟨A4, c5, rfl, H⟩ := hR
    refine rn 1 S H t0 fun a w S H => ?_
    refine r_nil ?_
    refine x_blockEnd ?_
    refine x_then ?_
    refine er 3 S H (by omega) fun a w S H => ?_
    refine x_then ?_
    have el : (Rn.sort (l.take i)).length + 1 = i + 1 := by simp; omega
    have H := pk [0] 2 H
    rw [sort_take (by omega), el] at H
    rw [el] at S
    exact ⟨(i + 1, A4, c5), ⟨S.sub ⟨rfl, rfl, rfl, rfl, rfl, trivial⟩, H, (by omega)⟩, by show l.length - (i + 1) < l.length - i; omega⟩
  refine wp_exit ?_
  refine x_thenExit ?_
  refine x_thenExit ?_
  refine x_blockHere ?_
  refine x_then ?_
  refine sr 2 S H t0 fun a w S H => ?_
  refine wp_ret ?_
  refine r_ret1 S H Tryz.results39 (ro_tmp S rfl) ?_
  have hi : i = l.length := by omega
  subst hi
  have e : l.take l.length = l := List.take_length
  rw [e] at H
  exact ⟨_, _, rfl, H⟩

theorem sorted8_ct (w : World) (fr : List Res) (A : Option Addr) (c : Nat) (l : List R) (ok : SlOk fr 2 A l.length c (recs l)) (hn : l.length ≤ 1099511627776) (hl : Bd l) (how : Int) (H : Sat w (fr)) :
    Rt Tryz.prog 19 #[.slice A l.length c, .int .i64 how] w fun v w' => ∃ A' c', v = .slice A' (Rn.fold how (Rn.sort l)).length c' ∧ Sat w' (row 52 2 (.slice A' (Rn.fold how (Rn.sort l)).length c') (Rn.fold how (Rn.sort l)).length (recs (Rn.fold how (Rn.sort l))) :: fr) := by
  refine en2 Tryz.func19 rfl Tryz.ntmps19 rfl fun a S => ?_
  refine sr 1 S H t0 fun a w S H => ?_
  refine sb ?_
  refine rn 1 S H t0 fun a w S H => ?_
  refine r_call (args := #[.slice A l.length c]) S rfl rfl Tryz.call39 (sort7_ct (H := H) _ _ A c l ok (by omega)) rfl rfl rfl fun v a w hR S => ?_
  obtain ⟨A5, c6, rfl, H⟩ := hR
  refine rs 1 S H t0 fun a w S H => ?_
  refine r_seq ?_
  refine sr 2 S H t0 fun a w S H => ?_
  refine r_test S rfl (fun h12 => ?_) (fun h12 => ?_)
  · skip
    refine sr 2 S H t0 fun a w S H => ?_
    refine wp_ret ?_
    refine x_thenRet ?_
    refine r_ret1 S H Tryz.results19 (ro_tmp S rfl) ?_
    have h0 : how = 0 := by omega
    have e : Rn.fold how (Rn.sort l) = Rn.sort l := by rw [h0]; exact fold_zero _
    rw [e]
    have en : (Rn.sort l).length = l.length := by simp
    rw [en]
    exact ⟨_, _, rfl, H⟩
  have hne : how ≠ 0 := by omega
  refine wp_skip ?_
  refine x_then ?_
  refine sb ?_
  refine r_lit (vs := #[]) (cs := recs []) S H rfl rfl el22 (by kernel_rfl) (by decide) (by rfl) rfl rfl rfl fun a w b7 S H => ?_
  refine rs 1 S H t0 fun a w S H => ?_
  refine r_seq ?_
  refine sr 1 S H t0 fun a w S H => ?_
  refine r_block ?_
  refine r_loop (ι := Nat × Option Addr × Nat) (fun ⟨i, Ao, co⟩ a w => Slots a 65 [(1, .int .i64 how), (4, .slice none 0 0), (5, .slice A5 l.length c6), (6, .slice Ao ((Rn.fold how ((Rn.sort l).take i)).length) co), (7, .int .i64 ((i : Nat) : Int)), (65, undef)] ∧ Sat w (row 52 2 (.slice A5 l.length c6) l.length (recs (Rn.sort l)) :: row 52 2 (.slice Ao ((Rn.fold how ((Rn.sort l).take i)).length) co) ((Rn.fold how ((Rn.sort l).take i)).length) (recs (Rn.fold how ((Rn.sort l).take i))) :: fr) ∧ (i ≤ l.length)) (fun ⟨i, Ao, co⟩ => l.length - i) (0, (some ⟨b7, 0, none⟩), 0) ⟨S.sub ⟨rfl, rfl, rfl, rfl, rfl, rfl, trivial⟩, pk [1, 0] 2 H, (Nat.zero_le _)⟩ (fun ⟨i, Ao, co⟩ a w hI => ?_)
  obtain ⟨S, H, hI⟩ := hI
  have hil := hI
  have hfl := Rn.fold_len how ((Rn.sort l).take i)
  have htl : ((Rn.sort l).take i).length ≤ l.length := by simp; omega
  refine r_seq ?_
  refine sr 4 S H t0 fun a w S H => ?_
  refine r_test S rfl (fun h18 => ?_) (fun h18 => ?_)
  · skip
    refine wp_skip ?_
    refine x_then ?_
    refine r_seq ?_
    refine r_block ?_
    have hgb := (Rn.Bd.sort hl).at (i := i) (by simp; omega)
    have hob := Rn.fold_bd how _ ((Rn.Bd.sort hl).take i)
    refine sr 3 S H t0 fun a w S H => ?_
    rcases fold_cases how (Rn.fold how ((Rn.sort l).take i)) ((Rn.sort l).getD i (0, 0)) with h0 | ⟨h0, hnil⟩ | ⟨h0, hpos, hkey⟩ | ⟨h0, hpos, hkey⟩
    · skip
      exact absurd h0 hne
    · skip
      obtain ⟨b8, rfl⟩ := H.rowAt (i := 0) rfl (by omega)
      apply qb H rfl (by kernel_rfl)
      · skip
        refine qn 1 S t0 fun a S => ?_
        refine q_y S (y_gt S rfl rfl rfl) rfl rfl rfl fun a S => ?_
        have S := S.retell (v' := .bool false) 24 rfl (by rw [decide_eq_false (by omega)])
        refine qn 14 S t0 fun a S => ?_
        exact q_nil S
      · intro a w S H
        refine r_condF S rfl ?_
        refine r_region ?_
        refine rn 3 S H t0 fun a w S H => ?_
        refine r_y S H (y_index S rfl rfl rfl Tryz.underlying22 Tryz.sizeOf52 (by omega) (by omega)) rfl rfl rfl fun a S => ?_
        refine r_y S H (y_loadAggAt [.int .u64 ((((Rn.sort l).getD i (0, 0)).1 : Nat) : Int), .int .u64 ((((Rn.sort l).getD i (0, 0)).2 : Nat) : Int)] S rfl rfl (fun w => ⟨Tryz.isAgg52 w, Tryz.sizeOf52 w⟩) rfl (fun w H => (SlOk.ofRow (i := 0) H rfl).cells w H (recs_from (i := i) (by first | omega | (simp <;> omega))))) rfl rfl rfl fun a S => ?_
        refine r_lit (vs := #[(0, .agg #[.int .u64 ((((Rn.sort l).getD i (0, 0)).1 : Nat) : Int), .int .u64 ((((Rn.sort l).getD i (0, 0)).2 : Nat) : Int)])]) (cs := recs [((Rn.sort l).getD i (0, 0))]) S H rfl rfl el22 (by kernel_rfl) (by decide) (by rfl) rfl rfl rfl fun a w b9 S H => ?_
        refine r_appendS (L' := fun A10 c11 => row 52 2 (.slice (some ⟨b9, 0, none⟩) 1 1) 1 (recs [((Rn.sort l).getD i (0, 0))]) :: row 52 2 (.slice (some ⟨b8, 0, none⟩) l.length c6) l.length (recs (Rn.sort l)) :: row 52 2 (.slice A10 ((Rn.fold how ((Rn.sort l).take i)).length + 1) c11) ((Rn.fold how ((Rn.sort l).take i)).length + 1) (recs ((Rn.fold how ((Rn.sort l).take i)) ++ ([((Rn.sort l).getD i (0, 0))]))) :: fr) (xs' := recs ((Rn.fold how ((Rn.sort l).take i)) ++ ([((Rn.sort l).getD i (0, 0))]))) 2 S H rfl rfl rfl rfl el22 (SlOk.ofRow (i := 0) H rfl) (one_recs _) (by simp only [maxLen]; first | omega | (simp <;> omega)) (by first | omega | (simp <;> omega)) (recs_app (Rn.fold how ((Rn.sort l).take i)) ([((Rn.sort l).getD i (0, 0))])) (by first | omega | (simp <;> omega)) (fun _ _ => rfl) rfl rfl rfl fun a w A10 c11 hA10 S H => ?_
        refine rn 1 S H t0 fun a w S H => ?_
        refine r_nil ?_
        refine x_blockEnd ?_
        refine x_then ?_
        refine er 3 S H (by omega) fun a w S H => ?_
        refine x_then ?_
        have ef : Rn.fold how ((Rn.sort l).take (i + 1)) = (Rn.fold how ((Rn.sort l).take i)) ++ ([((Rn.sort l).getD i (0, 0))]) := by rw [Rn.fold_take (by simp; omega)]; rw [List.eq_nil_of_length_eq_zero hnil]; rfl
        have en : (Rn.fold how ((Rn.sort l).take (i + 1))).length = (Rn.fold how ((Rn.sort l).take i)).length + 1 := by rw [ef]; simp
        have H := pk [1, 2] 3 H
        exact ⟨(i + 1, A10, c11), ⟨S.sub ⟨rfl, rfl, rfl, (show lk _ _ = some (.slice _ (Rn.fold how ((Rn.sort l).take (i + 1))).length _) from by rw [en]; rfl), rfl, rfl, trivial⟩, (by rw [en, ef]; exact H), (by omega)⟩, by show l.length - (i + 1) < l.length - i; omega⟩
    · skip
      obtain ⟨b12, rfl⟩ := H.rowAt (i := 0) rfl (by omega)
      obtain ⟨b13, rfl⟩ := H.rowAt (i := 1) rfl hpos
      have hzz := hob _ (getDR_mem (l := (Rn.fold how ((Rn.sort l).take i))) (i := (Rn.fold how ((Rn.sort l).take i)).length - 1) (by omega))
      apply qb H rfl (by kernel_rfl)
      · skip
        refine qn 1 S t0 fun a S => ?_
        refine q_y S (y_gt S rfl rfl rfl) rfl rfl rfl fun a S => ?_
        have S := S.retell (v' := .bool true) 24 rfl (by rw [decide_eq_true (by omega)])
        refine qn 3 S t0 fun a S => ?_
        refine q_y S (y_sub S rfl rfl rfl (wi64 (by omega) (by omega))) rfl rfl rfl fun a S => ?_
        have S := S.retell (v' := .int .i64 ((((Rn.fold how ((Rn.sort l).take i)).length - 1) : Nat) : Int)) 28 rfl (int_eq (by omega))
        refine q_y S (y_index S rfl rfl rfl Tryz.underlying22 Tryz.sizeOf52 (by omega) (by omega)) rfl rfl rfl fun a S => ?_
        refine qn 1 S t0 fun a S => ?_
        refine q_y S (y_loadAt S rfl rfl Tryz.isAgg50 (fun w H => (SlOk.ofRow (i := 1) H rfl).cell w H (recs_from (i := ((Rn.fold how ((Rn.sort l).take i)).length - 1)) (by first | omega | (simp <;> omega)) 0 _ rfl))) rfl rfl rfl fun a S => ?_
        refine qn 2 S t0 fun a S => ?_
        refine q_y S (y_index S rfl rfl rfl Tryz.underlying22 Tryz.sizeOf52 (by omega) (by omega)) rfl rfl rfl fun a S => ?_
        refine qn 1 S t0 fun a S => ?_
        refine q_y S (y_loadAt S rfl rfl Tryz.isAgg50 (fun w H => (SlOk.ofRow (i := 0) H rfl).cell w H (recs_from (i := i) (by first | omega | (simp <;> omega)) 0 _ rfl))) rfl rfl rfl fun a S => ?_
        refine q_y S (y_eq S rfl rfl rfl) rfl rfl rfl fun a S => ?_
        have S := S.retell (v' := .bool true) 37 rfl (by rw [decide_eq_true (by omega)])
        refine qn 1 S t0 fun a S => ?_
        exact q_nil S
      · intro a w S H
        refine r_condT S rfl ?_
        refine ha [0] 2 H fun w H HS => ?_
        refine tk 0 S HS fun a S => ?_
        refine tk 1 S HS fun a S => ?_
        refine tkY 2 S HS rfl (y_sub S rfl rfl rfl (wi64 (by omega) (by omega))) rfl rfl rfl fun a S => ?_
        have S := S.retell (v' := .int .i64 ((((Rn.fold how ((Rn.sort l).take i)).length - 1) : Nat) : Int)) 41 rfl (int_eq (by omega))
        refine tk 3 S HS fun a S => ?_
        refine tk 4 S HS fun a S => ?_
        refine tk 5 S HS fun a S => ?_
        refine tkY 6 S HS rfl (y_sub S rfl rfl rfl (wi64 (by omega) (by omega))) rfl rfl rfl fun a S => ?_
        have S := S.retell (v' := .int .i64 ((((Rn.fold how ((Rn.sort l).take i)).length - 1) : Nat) : Int)) 45 rfl (int_eq (by omega))
        refine tkY 7 S HS rfl (y_index S rfl rfl rfl Tryz.underlying22 Tryz.sizeOf52 (by omega) (by omega)) rfl rfl rfl fun a S => ?_
        refine tk 8 S HS fun a S => ?_
        refine tk 10 S HS fun a S => ?_
        refine tk 11 S HS fun a S => ?_
        refine tkY 12 S HS rfl (y_index S rfl rfl rfl Tryz.underlying22 Tryz.sizeOf52 (by omega) (by omega)) rfl rfl rfl fun a S => ?_
        refine tk 13 S HS fun a S => ?_
        refine tkY 14 S HS rfl (y_loadAt S rfl rfl Tryz.isAgg50 (fun w H => (SlOk.ofRow (i := 0) HS rfl).cell w H (recs_from (i := i) (by first | omega | (simp <;> omega)) 1 _ rfl))) rfl rfl rfl fun a S => ?_
        refine h1 9 ?_
        refine r_y S H (y_loadAt S rfl rfl Tryz.isAgg50 (fun w H => (SlOk.ofRow (i := 1) H rfl).cell w H (recs_from (i := ((Rn.fold how ((Rn.sort l).take i)).length - 1)) (by first | omega | (simp <;> omega)) 1 _ rfl))) rfl rfl rfl fun a S => ?_
        refine sn ?_
        refine hk (pk [0] 2 H) fun HS => ?_
        refine h1 15 ?_
        refine r_call (args := #[.int .i64 how, .int .u64 ((((Rn.fold how ((Rn.sort l).take i)).getD ((Rn.fold how ((Rn.sort l).take i)).length - 1) (0, 0)).2 : Nat) : Int), .int .u64 ((((Rn.sort l).getD i (0, 0)).2 : Nat) : Int)]) S rfl rfl Tryz.call40 (comb8_ct (H := H) _ _ how (((Rn.fold how ((Rn.sort l).take i)).getD ((Rn.fold how ((Rn.sort l).take i)).length - 1) (0, 0)).2) (((Rn.sort l).getD i (0, 0)).2) (by omega) (by omega)) rfl rfl rfl fun v a w hR S => ?_
        obtain ⟨rfl, H⟩ := hR
        refine sn ?_
        refine hk (pk [0] 2 H) fun HS => ?_
        refine tkY 16 S HS rfl (y_index S rfl rfl rfl Tryz.underlying22 Tryz.sizeOf52 (by omega) (by omega)) rfl rfl rfl fun a S => ?_
        refine tk 17 S HS fun a S => ?_
        refine h1 18 ?_
        refine r_setRowV (L' := row 52 2 (.slice (some ⟨b12, 0, none⟩) l.length c6) l.length (recs (Rn.sort l)) :: row 52 2 (.slice (some ⟨b13, 0, none⟩) ((Rn.fold how ((Rn.sort l).take i)).length) co) ((Rn.fold how ((Rn.sort l).take i)).length) (recs ((Rn.fold how ((Rn.sort l).take i)).set ((Rn.fold how ((Rn.sort l).take i)).length - 1) (((Rn.fold how ((Rn.sort l).take i)).getD ((Rn.fold how ((Rn.sort l).take i)).length - 1) (0, 0)).1, (Rn.comb how (((Rn.fold how ((Rn.sort l).take i)).getD ((Rn.fold how ((Rn.sort l).take i)).length - 1) (0, 0)).2) (((Rn.sort l).getD i (0, 0)).2))))) :: fr) 1 S H rfl rfl rfl rfl Tryz.sizeOf50 rfl rfl (by first | omega | (simp <;> omega)) (xs' := recs ((Rn.fold how ((Rn.sort l).take i)).set ((Rn.fold how ((Rn.sort l).take i)).length - 1) (((Rn.fold how ((Rn.sort l).take i)).getD ((Rn.fold how ((Rn.sort l).take i)).length - 1) (0, 0)).1, (Rn.comb how (((Rn.fold how ((Rn.sort l).take i)).getD ((Rn.fold how ((Rn.sort l).take i)).length - 1) (0, 0)).2) (((Rn.sort l).getD i (0, 0)).2))))) (recs_setA (by omega) rfl) rfl rfl rfl fun w H => ?_
        refine sn ?_
        refine hk (pk [0] 2 H) fun HS => ?_
        refine hz ?_
        refine x_blockEnd ?_
        refine x_then ?_
        refine er 3 S H (by omega) fun a w S H => ?_
        refine x_then ?_
        have ef : Rn.fold how ((Rn.sort l).take (i + 1)) = (Rn.fold how ((Rn.sort l).take i)).set ((Rn.fold how ((Rn.sort l).take i)).length - 1) (((Rn.fold how ((Rn.sort l).take i)).getD ((Rn.fold how ((Rn.sort l).take i)).length - 1) (0, 0)).1, (Rn.comb how (((Rn.fold how ((Rn.sort l).take i)).getD ((Rn.fold how ((Rn.sort l).take i)).length - 1) (0, 0)).2) (((Rn.sort l).getD i (0, 0)).2))) := by rw [Rn.fold_take (by simp; omega)]; rw [fput_last hpos, if_pos ⟨hne, hkey⟩]
        have en : (Rn.fold how ((Rn.sort l).take (i + 1))).length = (Rn.fold how ((Rn.sort l).take i)).length := by rw [ef]; simp
        have H := H
        exact ⟨(i + 1, (some ⟨b13, 0, none⟩), co), ⟨S.sub ⟨rfl, rfl, rfl, (show lk _ _ = some (.slice _ (Rn.fold how ((Rn.sort l).take (i + 1))).length _) from by rw [en]; rfl), rfl, rfl, trivial⟩, (by rw [en, ef]; exact H), (by omega)⟩, by show l.length - (i + 1) < l.length - i; omega⟩
    obtain ⟨b14, rfl⟩ := H.rowAt (i := 0) rfl (by omega)
    obtain ⟨b15, rfl⟩ := H.rowAt (i := 1) rfl hpos
    have hzz := hob _ (getDR_mem (l := (Rn.fold how ((Rn.sort l).take i))) (i := (Rn.fold how ((Rn.sort l).take i)).length - 1) (by omega))
    apply qb H rfl (by kernel_rfl)
    · skip
      refine qn 1 S t0 fun a S => ?_
      refine q_y S (y_gt S rfl rfl rfl) rfl rfl rfl fun a S => ?_
      have S := S.retell (v' := .bool true) 24 rfl (by rw [decide_eq_true (by omega)])
      refine qn 3 S t0 fun a S => ?_
      refine q_y S (y_sub S rfl rfl rfl (wi64 (by omega) (by omega))) rfl rfl rfl fun a S => ?_
      have S := S.retell (v' := .int .i64 ((((Rn.fold how ((Rn.sort l).take i)).length - 1) : Nat) : Int)) 28 rfl (int_eq (by omega))
      refine q_y S (y_index S rfl rfl rfl Tryz.underlying22 Tryz.sizeOf52 (by omega) (by omega)) rfl rfl rfl fun a S => ?_
      refine qn 1 S t0 fun a S => ?_
      refine q_y S (y_loadAt S rfl rfl Tryz.isAgg50 (fun w H => (SlOk.ofRow (i := 1) H rfl).cell w H (recs_from (i := ((Rn.fold how ((Rn.sort l).take i)).length - 1)) (by first | omega | (simp <;> omega)) 0 _ rfl))) rfl rfl rfl fun a S => ?_
      refine qn 2 S t0 fun a S => ?_
      refine q_y S (y_index S rfl rfl rfl Tryz.underlying22 Tryz.sizeOf52 (by omega) (by omega)) rfl rfl rfl fun a S => ?_
      refine qn 1 S t0 fun a S => ?_
      refine q_y S (y_loadAt S rfl rfl Tryz.isAgg50 (fun w H => (SlOk.ofRow (i := 0) H rfl).cell w H (recs_from (i := i) (by first | omega | (simp <;> omega)) 0 _ rfl))) rfl rfl rfl fun a S => ?_
      refine q_y S (y_eq S rfl rfl rfl) rfl rfl rfl fun a S => ?_
      have S := S.retell (v' := .bool false) 37 rfl (by rw [decide_eq_false (by omega)])
      refine qn 1 S t0 fun a S => ?_
      exact q_nil S
    · intro a w S H
      refine r_condF S rfl ?_
      refine r_region ?_
      refine rn 3 S H t0 fun a w S H => ?_
      refine r_y S H (y_index S rfl rfl rfl Tryz.underlying22 Tryz.sizeOf52 (by omega) (by omega)) rfl rfl rfl fun a S => ?_
      refine r_y S H (y_loadAggAt [.int .u64 ((((Rn.sort l).getD i (0, 0)).1 : Nat) : Int), .int .u64 ((((Rn.sort l).getD i (0, 0)).2 : Nat) : Int)] S rfl rfl (fun w => ⟨Tryz.isAgg52 w, Tryz.sizeOf52 w⟩) rfl (fun w H => (SlOk.ofRow (i := 0) H rfl).cells w H (recs_from (i := i) (by first | omega | (simp <;> omega))))) rfl rfl rfl fun a S => ?_
      refine r_lit (vs := #[(0, .agg #[.int .u64 ((((Rn.sort l).getD i (0, 0)).1 : Nat) : Int), .int .u64 ((((Rn.sort l).getD i (0, 0)).2 : Nat) : Int)])]) (cs := recs [((Rn.sort l).getD i (0, 0))]) S H rfl rfl el22 (by kernel_rfl) (by decide) (by rfl) rfl rfl rfl fun a w b16 S H => ?_
      refine r_appendS (L' := fun A17 c18 => row 52 2 (.slice (some ⟨b16, 0, none⟩) 1 1) 1 (recs [((Rn.sort l).getD i (0, 0))]) :: row 52 2 (.slice (some ⟨b14, 0, none⟩) l.length c6) l.length (recs (Rn.sort l)) :: row 52 2 (.slice A17 ((Rn.fold how ((Rn.sort l).take i)).length + 1) c18) ((Rn.fold how ((Rn.sort l).take i)).length + 1) (recs ((Rn.fold how ((Rn.sort l).take i)) ++ ([((Rn.sort l).getD i (0, 0))]))) :: fr) (xs' := recs ((Rn.fold how ((Rn.sort l).take i)) ++ ([((Rn.sort l).getD i (0, 0))]))) 2 S H rfl rfl rfl rfl el22 (SlOk.ofRow (i := 0) H rfl) (one_recs _) (by simp only [maxLen]; first | omega | (simp <;> omega)) (by first | omega | (simp <;> omega)) (recs_app (Rn.fold how ((Rn.sort l).take i)) ([((Rn.sort l).getD i (0, 0))])) (by first | omega | (simp <;> omega)) (fun _ _ => rfl) rfl rfl rfl fun a w A17 c18 hA17 S H => ?_
      refine rn 1 S H t0 fun a w S H => ?_
      refine r_nil ?_
      refine x_blockEnd ?_
      refine x_then ?_
      refine er 3 S H (by omega) fun a w S H => ?_
      refine x_then ?_
      have ef : Rn.fold how ((Rn.sort l).take (i + 1)) = (Rn.fold how ((Rn.sort l).take i)) ++ ([((Rn.sort l).getD i (0, 0))]) := by rw [Rn.fold_take (by simp; omega)]; rw [fput_last hpos, if_neg (fun h => hkey h.2)]
      have en : (Rn.fold how ((Rn.sort l).take (i + 1))).length = (Rn.fold how ((Rn.sort l).take i)).length + 1 := by rw [ef]; simp
      have H := pk [1, 2] 3 H
      exact ⟨(i + 1, A17, c18), ⟨S.sub ⟨rfl, rfl, rfl, (show lk _ _ = some (.slice _ (Rn.fold how ((Rn.sort l).take (i + 1))).length _) from by rw [en]; rfl), rfl, rfl, trivial⟩, (by rw [en, ef]; exact H), (by omega)⟩, by show l.length - (i + 1) < l.length - i; omega⟩
  refine wp_exit ?_
  refine x_thenExit ?_
  refine x_thenExit ?_
  refine x_blockHere ?_
  refine x_then ?_
  refine sr 2 S H t0 fun a w S H => ?_
  refine wp_ret ?_
  refine r_ret1 S H Tryz.results19 (ro_tmp S rfl) ?_
  have hi : i = l.length := by omega
  subst hi
  have e2 : (Rn.sort l).take l.length = Rn.sort l := by rw [List.take_of_length_le (by simp)]
  rw [e2] at H ⊢
  exact ⟨_, _, rfl, pk [1] 2 H⟩

end Go.Proofs.YtgfdmhjjlajmgaaGreatDoor
namespace Go.Proofs.YtgfdmhjjlajmgaaGreatDoor
open Go.RowKit Go.Cg
set_option linter.unusedVariables false
set_option linter.unusedSimpArgs false
set_option maxRecDepth 8000
set_option synthInstance.maxHeartbeats 1000000
set_option synthInstance.maxSize 1000000
open Go.Cg.Dk (By Nm)
open Go.Cg.Rn (R Bd)
open Go.Cg.Xs (Tm tname)
theorem maskL {P : Program} {t : TypeId} (k : Nat) (N M : Int) (hN : N = ((2 ^ k : Nat) : Int)) (hM : (BitVec.ofInt 64 M).toNat = 2 ^ k - 1) (hk : k ≤ 62) (n : Int) (w : World) : (binOp .and t (.int .i64 n) (.int .i64 M)).run P w = .ok (.int .i64 (n % N)) w := by
  have hp : 2 ^ k ≤ 2 ^ 62 := Nat.pow_le_pow_right (by omega) hk
  have h1 : 0 < 2 ^ k := Nat.two_pow_pos k
  have hd : (2 ^ k : Nat) ∣ 2 ^ 64 := Nat.pow_dvd_pow 2 (by omega)
  have key : (BitVec.ofInt 64 n &&& BitVec.ofInt 64 M).toNat = (n % ((2 ^ 64 : Nat) : Int)).toNat % 2 ^ k := by
    rw [BitVec.toNat_and, BitVec.toNat_ofInt, hM, Nat.and_two_pow_sub_one_eq_mod]
  generalize 2 ^ k = K at *
  subst hN
  have h : bits .and .i64 n M = n % (K : Int) := by
    show IntKind.i64.wrap ((BitVec.ofInt 64 n &&& BitVec.ofInt 64 M).toNat : Nat) = n % (K : Int)
    rw [key]
    have h0 : 0 ≤ n % ((2 ^ 64 : Nat) : Int) := Int.emod_nonneg _ (by decide)
    have e : (((n % ((2 ^ 64 : Nat) : Int)).toNat % K : Nat) : Int) = n % (K : Int) := by
      rw [Int.natCast_emod, Int.toNat_of_nonneg h0]
      exact Int.emod_emod_of_dvd n (Int.ofNat_dvd.2 hd)
    rw [e]
    have a1 : 0 ≤ n % (K : Int) := Int.emod_nonneg _ (by omega)
    have a2 : n % (K : Int) < K := Int.emod_lt_of_pos _ (by omega)
    rw [IntKind.wrap_i64]
    omega
  rw [binOp_and, intBits_and, h, Sem.run_pure]
theorem passes10_ct (w : World) (fr : List Res) (n b f : Int) (hn : n ≤ 9223372036854775807) (hb : b ≤ 9223372036854775807) (hf : f ≤ 9223372036854775807) (H : Sat w (fr)) :
    Rt Tryz.prog 17 #[.int .i64 n, .int .i64 b, .int .i64 f] w fun v w' => v = .int .i64 ((Xs.passes n b f : Nat) : Int) ∧ Sat w' fr := by
  refine en3 Tryz.func17 rfl Tryz.ntmps17 rfl fun a S => ?_
  refine sr 1 S H t0 fun a w S H => ?_
  refine r_seq ?_
  refine sb ?_
  refine rn 3 S H t0 fun a w S H => ?_
  refine scO 1 S H (fun _ => t0) fun a w S H => ?_
  refine rn 1 S H t0 fun a w S H => ?_
  refine scO 1 S H (fun _ => t0) fun a w S H => ?_
  refine sn ?_
  refine r_cond S rfl (fun h18 => ?_) (fun h18 => ?_)
  · skip
    refine sr 1 S H t0 fun a w S H => ?_
    refine wp_ret ?_
    refine x_thenRet ?_
    refine r_ret1 S H Tryz.results17 (ro_tmp S rfl) ?_
    rw [passes_bad (by simp only [Bool.or_eq_true, decide_eq_true_eq] at h18; omega)]
    exact ⟨rfl, H⟩
  refine wp_skip ?_
  refine x_then ?_
  simp only [Bool.or_eq_false_iff, decide_eq_false_iff_not] at h18
  obtain ⟨N, rfl⟩ := Int.eq_ofNat_of_zero_le (show 0 ≤ n by omega)
  obtain ⟨P, rfl⟩ := Int.eq_ofNat_of_zero_le (show 0 ≤ b by omega)
  obtain ⟨Q, rfl⟩ := Int.eq_ofNat_of_zero_le (show 0 ≤ f by omega)
  obtain ⟨D0, hD0⟩ : ∃ x, x = (N - 1) / P := ⟨_, rfl⟩
  have hdv : D0 ≤ N - 1 := by rw [hD0]; exact Nat.div_le_self _ _
  refine sb ?_
  refine rn 1 S H t0 fun a w S H => ?_
  refine r_y S H (y_sub S rfl rfl rfl (wi64 (by omega) (by omega))) rfl rfl rfl fun a S => ?_
  have S := S.retell (v' := .int .i64 (((N - 1) : Nat) : Int)) 20 rfl (int_eq (by omega))
  refine rn 1 S H t0 fun a w S H => ?_
  refine r_y S H (y_quoN S rfl rfl rfl (by omega) (by omega) (wdivi64 (by omega) (by omega) (by omega))) rfl rfl rfl fun a S => ?_
  have S := S.retell (v' := .int .i64 ((D0 : Nat) : Int)) 22 rfl (int_eq (by rw [hD0]; exact (Int.natCast_ediv _ _).symm))
  refine r_y S H (y_add S rfl rfl rfl (wi64 (by omega) (by omega))) rfl rfl rfl fun a S => ?_
  have S := S.retell (v' := .int .i64 (((D0 + 1) : Nat) : Int)) 23 rfl (int_eq (by omega))
  refine rs 1 S H t0 fun a w S H => ?_
  refine sr 1 S H t0 fun a w S H => ?_
  refine r_seq ?_
  refine r_block ?_
  refine r_loop (ι := Nat × Nat) (fun ⟨p, r⟩ a w => Slots a 34 [(2, .int .i64 ((Q : Nat) : Int)), (6, .int .i64 0), (7, .int .i64 ((r : Nat) : Int)), (8, .int .i64 ((p : Nat) : Int)), (34, undef)] ∧ Sat w (fr) ∧ (p + Xs.pgo Q r = Xs.pgo Q (D0 + 1) ∧ p + r ≤ D0 + 1 ∧ 1 ≤ r)) (fun ⟨p, r⟩ => r) (0, D0 + 1) ⟨S.sub ⟨rfl, rfl, rfl, rfl, rfl, trivial⟩, H, ⟨Nat.zero_add _, by omega, by omega⟩⟩ (fun ⟨p, r⟩ a w hI => ?_)
  obtain ⟨S, H, hI⟩ := hI
  obtain ⟨hp, hr, hr1⟩ := hI
  have hQ2 : 2 ≤ Q := by omega
  refine r_seq ?_
  refine sr 2 S H t0 fun a w S H => ?_
  refine r_test S rfl (fun h25 => ?_) (fun h25 => ?_)
  · skip
    refine wp_skip ?_
    refine x_then ?_
    refine r_block ?_
    have hr2 : 1 < r := by omega
    obtain ⟨D1, hD1⟩ : ∃ x, x = (r - 1) / Q := ⟨_, rfl⟩
    have hdl : D1 + 1 < r := by rw [hD1]; exact div_lt hr2 hQ2
    refine sb ?_
    refine rn 1 S H t0 fun a w S H => ?_
    refine r_y S H (y_sub S rfl rfl rfl (wi64 (by omega) (by omega))) rfl rfl rfl fun a S => ?_
    have S := S.retell (v' := .int .i64 (((r - 1) : Nat) : Int)) 27 rfl (int_eq (by omega))
    refine rn 1 S H t0 fun a w S H => ?_
    refine r_y S H (y_quoN S rfl rfl rfl (by omega) (by omega) (wdivi64 (by omega) (by omega) (by omega))) rfl rfl rfl fun a S => ?_
    have S := S.retell (v' := .int .i64 ((D1 : Nat) : Int)) 29 rfl (int_eq (by rw [hD1]; exact (Int.natCast_ediv _ _).symm))
    refine r_y S H (y_add S rfl rfl rfl (wi64 (by omega) (by omega))) rfl rfl rfl fun a S => ?_
    have S := S.retell (v' := .int .i64 (((D1 + 1) : Nat) : Int)) 30 rfl (int_eq (by omega))
    refine rs 1 S H t0 fun a w S H => ?_
    refine er 3 S H (by omega) fun a w S H => ?_
    refine x_blockEnd ?_
    refine x_then ?_
    have hps := pgo_step hr2 hQ2
    rw [← hD1] at hps
    exact ⟨(p + 1, D1 + 1), ⟨S.sub ⟨rfl, rfl, rfl, rfl, rfl, trivial⟩, H, ⟨by omega, by omega, by omega⟩⟩, by show D1 + 1 < r; omega⟩
  refine wp_exit ?_
  refine x_thenExit ?_
  refine x_thenExit ?_
  refine x_blockHere ?_
  refine x_then ?_
  refine sr 2 S H t0 fun a w S H => ?_
  refine wp_ret ?_
  refine r_ret1 S H Tryz.results17 (ro_tmp S rfl) ?_
  have he := pgo_end (f := Q) (r := r) (by omega)
  rw [passes_ok (by omega), ← hD0, ← hp, he]
  exact ⟨rfl, H⟩

theorem SlOk.nR {L : List Res} {A : Option Addr} {m c : Nat} {l : List R} (h : SlOk L 2 A m c (recs l)) : m = l.length := by have := h.len; simp at this; omega
theorem recs_take (l : List R) (k : Nat) : (recs l).take (k * 2) = recs (l.take k) := by
  induction k generalizing l with
  | zero => simp [recs]
  | succ k ih => cases l with
    | nil => simp [recs]
    | cons e l =>
      have e3 : ∀ l : List R, recs (e :: l) = rcell e ++ recs l := fun l => by simp [recs]
      rw [List.take_succ_cons, e3, e3, ← ih l, show (k + 1) * 2 = (rcell e).length + k * 2 from by simp [rcell]; omega, List.take_length_add_append]

theorem few_ct (w : World) (fr : List Res) (A : Option Addr) (n c : Nat) (l : List R) (ok : SlOk fr 2 A n c (recs l)) (H : Sat w (fr)) :
    Rt Tryz.prog 11 #[.slice A n c] w fun v w' => ∃ A' c', v = .slice A' (l.take 120).length c' ∧ Sat w' (row 52 2 (.slice A' (l.take 120).length c') (l.take 120).length (recs (l.take 120)) :: fr) := by
  refine en1 Tryz.func11 rfl Tryz.ntmps11 rfl fun a S => ?_
  obtain rfl := SlOk.nR ok
  have hcpl := ok.le
  have hcql := ok.cap
  simp only [maxLen] at hcql
  obtain ⟨k, hk⟩ : ∃ k : Nat, ((k : Nat) : Int) = min ((l.length : Nat) : Int) 120 := ⟨min l.length 120, by omega⟩
  have hkb : k ≤ l.length ∧ k ≤ 120 := by omega
  have etk : l.take k = l.take 120 := (Nat.lt_or_ge 120 l.length).elim (fun hx => by rw [show k = 120 from by omega]) (fun hx => by rw [List.take_of_length_le (by omega), List.take_of_length_le hx])
  refine sr 1 S H t0 fun a w S H => ?_
  refine sb ?_
  refine r_lit (vs := #[]) (cs := recs []) S H rfl rfl el22 (by kernel_rfl) (by decide) (by rfl) rfl rfl rfl fun a w b1 S H => ?_
  refine rn 3 S H t0 fun a w S H => ?_
  refine r_y S H (y_min S rfl rfl rfl) rfl rfl rfl fun a S => ?_
  have S := S.retell (v' := .int .i64 ((k : Nat) : Int)) 7 rfl (by rw [hk])
  refine r_y S H (y_sliceH (k := k) S rfl rfl rfl Tryz.underlying22 Tryz.sizeOf52 (by first | omega | (simp <;> omega)) (by first | omega | (simp <;> omega))) rfl rfl rfl fun a S => ?_
  have etk1 : (l.take k).length = k := by rw [List.length_take]; omega
  have oktk1 : SlOk fr 2 (shift A 0 (decide (c = 0))) (l.take k).length c (recs (l.take k)) := by rw [etk1]; exact recs_take l k ▸ ok.init k (by omega)
  have S := S.retell (v' := .slice (shift A 0 (decide (c = 0))) ((l.take k).length) c) 8 rfl (by rw [etk1])
  refine r_appendS (L' := fun A2 c3 => row 52 2 (.slice A2 ((l.take k).length) c3) ((l.take k).length) (recs (l.take k)) :: fr) (xs' := recs (l.take k)) 0 S H rfl rfl rfl rfl el22 (oktk1.more _) (one_recs _) (by simp only [maxLen]; first | omega | (simp <;> omega)) (by first | omega | (simp <;> omega)) (List.nil_append _) (by first | omega | (simp <;> omega)) (fun _ _ => rfl) rfl rfl rfl fun a w A2 c3 hA2 S H => ?_
  refine rs 1 S H t0 fun a w S H => ?_
  refine wp_ret ?_
  refine r_ret1 S H Tryz.results11 (ro_tmp S rfl) ?_
  have e : l.take k = l.take 120 := by rw [← etk] <;> simp
  rw [e] at H ⊢
  exact ⟨_, _, rfl, H⟩

theorem shown_ct (w : World) (fr : List Res) (hl : Laid fr) (H : Sat w (fr)) :
    Rt Tryz.prog 10 #[] w fun v w' => v = .bool true ∧ Sat w' fr := by
  refine en0 Tryz.func10 rfl Tryz.ntmps10 rfl fun a S => ?_
  obtain ⟨d1, d2, d3, d4, d5, ns, e1, e2, e3, e4, e5, e6, hns, hps, k1, k2, k3, k4⟩ := Xs.shown_plan
  refine sr 1 S H t0 fun a w S H => ?_
  refine sb ?_
  refine r_call (args := #[.int .i64 1000]) S rfl rfl Tryz.call12 (new_ct (H := H) _ _ 1000 (by omega)) rfl rfl rfl fun v a w hR S => ?_
  obtain ⟨db2, rfl, H⟩ := hR
  refine rs 1 S H t0 fun a w S H => ?_
  refine r_seq ?_
  refine sr 2 S H t0 fun a w S H => ?_
  refine r_condF S rfl ?_
  refine wp_skip ?_
  refine x_then ?_
  refine sb ?_
  refine rn 1 S H t0 fun a w S H => ?_
  refine r_y S H (y_build (vs := #[(0, .int .u64 3)]) (v := .agg #[.int .u64 3, .int .u64 0]) S rfl rfl (fun w => by kernel_rfl)) rfl rfl rfl fun a S => ?_
  refine r_y S H (y_build (vs := #[(0, .int .u64 1)]) (v := .agg #[.int .u64 1, .int .u64 0]) S rfl rfl (fun w => by kernel_rfl)) rfl rfl rfl fun a S => ?_
  refine r_y S H (y_build (vs := #[(0, .int .u64 2)]) (v := .agg #[.int .u64 2, .int .u64 0]) S rfl rfl (fun w => by kernel_rfl)) rfl rfl rfl fun a S => ?_
  refine r_lit (vs := #[(0, .agg #[.int .u64 3, .int .u64 0]), (1, .agg #[.int .u64 1, .int .u64 0]), (2, .agg #[.int .u64 2, .int .u64 0])]) (cs := recs [(3, 0), (1, 0), (2, 0)]) S H rfl rfl el22 (by kernel_rfl) (by decide) (by rfl) rfl rfl rfl fun a w b3 S H => ?_
  refine r_call (args := #[.pointer (some ⟨db2, 0, none⟩), str ([105, 110]), .slice (some ⟨b3, 0, none⟩) 3 3]) S rfl rfl Tryz.call13 (write_ct (H := (pk [1, 0] 2 H)) _ _ db2 ([105, 110]) (Dk.fresh 1000) (by show 0 + 1 ≤ _; omega) _ _ ([(3, 0), (1, 0), (2, 0)]) (SlOk.ofRow (i := 0) ((pk [1, 0] 2 H)).drop rfl) (by simp) (by intro z hz; simp at hz; rcases hz with rfl | rfl | rfl <;> decide)) rfl rfl rfl fun v a w hR S => ?_
  obtain ⟨rfl, H⟩ := hR
  rw [e1] at S H
  dsimp only at S H
  refine rs 1 S H t0 fun a w S H => ?_
  refine sb ?_
  refine rn 1 S H t0 fun a w S H => ?_
  refine r_call (args := #[.pointer (some ⟨db2, 0, none⟩), str ([105, 110]), str ([111, 117, 116]), str ([116]), .int .i64 1, .int .i64 2, .int .i64 0]) S rfl rfl Tryz.call14 (sortD_ct (H := H) _ _ (hl.via fun _ H => H.drop) db2 ([105, 110]) ([111, 117, 116]) ([116]) 1 2 0 d1 (by omega) (by decide) (by decide)) rfl rfl rfl fun v a w hR S => ?_
  obtain ⟨rfl, H⟩ := hR
  rw [e2] at S H
  dsimp only at S H
  refine rs 5 S H t0 fun a w S H => ?_
  refine sb ?_
  refine rn 1 S H t0 fun a w S H => ?_
  refine r_call (args := #[.pointer (some ⟨db2, 0, none⟩), str ([111, 117, 116])]) S rfl rfl Tryz.call16 (read_ct (H := H) _ _ db2 ([111, 117, 116]) d2 (by omega)) rfl rfl rfl fun v a w hR S => ?_
  obtain ⟨A4, c5, rfl, H⟩ := hR
  rw [e3] at S H
  dsimp only at S H
  have hl3 : ([(1, 0), (2, 0), (3, 0)] : List R).length = 3 := rfl
  rw [hl3] at S H
  refine rs 5 S H t0 fun a w S H => ?_
  refine sb ?_
  refine rn 1 S H t0 fun a w S H => ?_
  refine r_call (args := #[.pointer (some ⟨db2, 0, none⟩), str ([105, 110]), str ([111, 117, 116]), str ([116]), .int .i64 1, .int .i64 2, .int .i64 0]) S rfl rfl Tryz.call14 (sortD_ct (H := (pk [1, 0, 2] 3 H)) _ _ (hl.via fun _ H => H.drop.drop) db2 ([105, 110]) ([111, 117, 116]) ([116]) 1 2 0 d3 (by omega) (by decide) (by decide)) rfl rfl rfl fun v a w hR S => ?_
  obtain ⟨rfl, H⟩ := hR
  rw [e4] at S H
  dsimp only at S H
  refine rs 5 S H t0 fun a w S H => ?_
  refine sb ?_
  refine rn 1 S H t0 fun a w S H => ?_
  refine r_call (args := #[.pointer (some ⟨db2, 0, none⟩), str ([105, 110]), str ([120]), str ([116]), .int .i64 0, .int .i64 2, .int .i64 0]) S rfl rfl Tryz.call14 (sortD_ct (H := H) _ _ (hl.via fun _ H => H.drop.drop) db2 ([105, 110]) ([120]) ([116]) 0 2 0 d4 (by omega) (by decide) (by decide)) rfl rfl rfl fun v a w hR S => ?_
  obtain ⟨rfl, H⟩ := hR
  rw [e5] at S H
  dsimp only at S H
  refine rs 5 S H t0 fun a w S H => ?_
  refine sb ?_
  refine rn 1 S H t0 fun a w S H => ?_
  refine r_call (args := #[.pointer (some ⟨db2, 0, none⟩)]) S rfl rfl Tryz.call15 (list_ct (H := H) _ _ db2 d4 (by omega)) rfl rfl rfl fun v a w hR S => ?_
  obtain ⟨A6, c7, rfl, H⟩ := hR
  rw [e6] at S H
  dsimp only at S H
  refine rs 5 S H t0 fun a w S H => ?_
  obtain ⟨b8, ea⟩ := H.rowAt (i := 2) rfl (by decide)
  subst ea
  refine sb ?_
  refine rn 2 S H t0 fun a w S H => ?_
  have S := S.retell (v' := .bool true) 48 rfl rfl
  refine rn 3 S H t0 fun a w S H => ?_
  have S := S.retell (v' := .bool true) 51 rfl rfl
  refine rn 4 S H t0 fun a w S H => ?_
  have S := S.retell (v' := .bool true) 55 rfl rfl
  refine rn 4 S H t0 fun a w S H => ?_
  have S := S.retell (v' := .bool true) 59 rfl rfl
  refine rn 5 S H t0 fun a w S H => ?_
  have S := S.retell (v' := .bool true) 64 rfl rfl
  refine rn 3 S H t0 fun a w S H => ?_
  refine r_y S H (y_index S rfl rfl rfl Tryz.underlying22 Tryz.sizeOf52 (by omega) (by omega)) rfl rfl rfl fun a S => ?_
  refine rn 1 S H t0 fun a w S H => ?_
  refine r_y S H (y_loadAt S rfl rfl Tryz.isAgg50 (fun w H => (SlOk.ofRow (i := 2) H rfl).cell w H (recs_from (i := 0) (by first | omega | (simp <;> omega)) 0 _ rfl))) rfl rfl rfl fun a S => ?_
  have S := S.retell (v' := .int .u64 1) 70 rfl rfl
  refine rn 1 S H t0 fun a w S H => ?_
  have S := S.retell (v' := .bool true) 71 rfl rfl
  refine rn 3 S H t0 fun a w S H => ?_
  refine r_y S H (y_index S rfl rfl rfl Tryz.underlying22 Tryz.sizeOf52 (by omega) (by omega)) rfl rfl rfl fun a S => ?_
  refine rn 1 S H t0 fun a w S H => ?_
  refine r_y S H (y_loadAt S rfl rfl Tryz.isAgg50 (fun w H => (SlOk.ofRow (i := 2) H rfl).cell w H (recs_from (i := 2) (by first | omega | (simp <;> omega)) 0 _ rfl))) rfl rfl rfl fun a S => ?_
  have S := S.retell (v' := .int .u64 3) 77 rfl rfl
  refine rn 1 S H t0 fun a w S H => ?_
  have S := S.retell (v' := .bool true) 78 rfl rfl
  refine rn 4 S H t0 fun a w S H => ?_
  have S := S.retell (v' := .bool true) 82 rfl rfl
  refine rn 4 S H t0 fun a w S H => ?_
  have S := S.retell (v' := .bool true) 86 rfl rfl
  refine rn 4 S H t0 fun a w S H => ?_
  have S := S.retell (v' := .bool true) 90 rfl rfl
  refine rn 3 S H t0 fun a w S H => ?_
  refine r_y S H (y_len S rfl rfl Tryz.underlying31) rfl rfl rfl fun a S => ?_
  have S := S.retell (v' := .int .i64 2) 94 rfl (by rw [hns]; rfl)
  refine rn 1 S H t0 fun a w S H => ?_
  have S := S.retell (v' := .bool true) 95 rfl rfl
  refine rn 2 S H t0 fun a w S H => ?_
  refine r_call (args := #[.int .i64 10, .int .i64 2, .int .i64 2]) S rfl rfl Tryz.call20 (passes_ct (H := H) _ _ 10 2 2 (by decide) (by decide) (by decide)) rfl rfl rfl fun v a w hR S => ?_
  obtain ⟨rfl, H⟩ := hR
  refine r_y S H (y_eq S rfl rfl rfl) rfl rfl rfl fun a S => ?_
  have S := S.retell (v' := .bool true) 99 rfl (by rw [hps]; rfl)
  refine rs 2 S H t0 fun a w S H => ?_
  refine wp_ret ?_
  refine r_ret1 S H Tryz.results10 (ro_tmp S rfl) ?_
  exact ⟨rfl, H.drop.drop.drop.drop⟩

end Go.Proofs.YtgfdmhjjlajmgaaGreatDoor

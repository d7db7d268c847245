/- Walks of functions of the program, over slots and resources. No condition. -/
import Derived.Test.YtfmpgdhmfjllnaaW13p
namespace Go.Proofs.Ytfmpgdhmfjllnaa
open Go.RowKit Go.Cg
set_option linter.unusedVariables false
set_option linter.unusedSimpArgs false
open Go.Cg.Tr (E top right graph quiet msg comb nxt summed)
set_option maxRecDepth 4000 in
theorem rtrace_ct (w : World) (fr : List Res) (k : Int) (s : Nat) (hs : s < 4294967296) (m : Nat) (hm : m ≤ 1048576) (A : Option Addr) (c : Nat) (es : List E) (ok : SlOk fr 3 A es.length c (ecells es)) (hes : ∀ e ∈ es, e.f < 4294967296 ∧ e.t < 4294967296) (hew : ∀ e ∈ es, e.w < 4294967296) (hmay : Tr.may k s m es = true) (j : Int) (hj : -9223372036854775808 ≤ j ∧ j ≤ 9223372036854775807) (H : Sat w (fr)) :
    Rt Try.prog 35 #[.agg #[.int .i64 k, .int .u32 ((s : Nat) : Int)], .agg #[.int .i64 ((m : Nat) : Int), .slice A es.length c], .int .i64 j] w fun v w' => (∃ A1 c1 A2 c2, v = .agg #[.slice A1 (Tr.iter k es j.toNat (Tr.start k s m)).1.length c1, .slice A2 (Tr.iter k es j.toNat (Tr.start k s m)).2.length c2] ∧ Sat w' (row 25 1 (.slice A1 (Tr.iter k es j.toNat (Tr.start k s m)).1.length c1) (Tr.iter k es j.toNat (Tr.start k s m)).1.length (u64s (Tr.iter k es j.toNat (Tr.start k s m)).1) :: row 4 1 (.slice A2 (Tr.iter k es j.toNat (Tr.start k s m)).2.length c2) (Tr.iter k es j.toNat (Tr.start k s m)).2.length (bools (Tr.iter k es j.toNat (Tr.start k s m)).2) :: fr)) := by
  refine rt_enter Try.func35 rfl (n := 27) Try.ntmps35 rfl fun a S => ?_
  refine r_seq ?_
  refine r_region ?_
  refine r_box (c := #[.int .i64 k, .int .u32 ((s : Nat) : Int)]) S H rfl rfl rfl rfl rfl rfl fun a w b1 S H => ?_
  refine r_box (c := #[.int .i64 ((m : Nat) : Int), .slice A es.length c]) S H rfl rfl rfl rfl rfl rfl fun a w b2 S H => ?_
  refine r_alloc S H rfl Try.zeroValue40 rfl rfl rfl rfl fun a w b3 S H => ?_
  refine r_nil ?_
  refine x_then ?_
  refine r_seq ?_
  refine r_region ?_
  refine r_y S H (y_loadAgg [_, _] 2 S rfl rfl (fun w => ⟨Try.isAgg24 w, Try.sizeOf24 w⟩) rfl rfl ⟨rfl, rfl, trivial⟩) rfl rfl rfl fun a S => ?_
  refine r_y S H (y_loadAgg [_, _] 1 S rfl rfl (fun w => ⟨Try.isAgg35 w, Try.sizeOf35 w⟩) rfl rfl ⟨rfl, rfl, trivial⟩) rfl rfl rfl fun a S => ?_
  refine r_call (args := #[.agg #[.int .i64 k, .int .u32 ((s : Nat) : Int)], .agg #[.int .i64 ((m : Nat) : Int), .slice A es.length c]]) S rfl rfl Try.call30 (rstart_ct (H := H) _ _ k s (by omega) m (by omega) _ _ es (((ok.more _).more _).more _)) rfl rfl rfl fun v a w hR S => ?_
  obtain ⟨A4, c5, A6, c7, rfl, H⟩ := hR
  refine r_alloc S H rfl Try.zeroValue40 rfl rfl rfl rfl fun a w b8 S H => ?_
  refine r_store (vs := [.slice A4 ((Tr.start k s m).1.length) c5, .slice A6 ((Tr.start k s m).2.length) c7]) 0 S H rfl rfl rfl rfl Try.sizeOf40 rfl rfl (by simp [Value.oneCell']) rfl rfl rfl rfl rfl fun w H => ?_
  refine r_nil ?_
  refine x_then ?_
  refine r_seq ?_
  refine r_seq ?_
  refine r_region ?_
  refine r_y S H (y_assign S rfl rfl) rfl rfl rfl fun a S => ?_
  refine r_nil ?_
  refine x_then ?_
  refine r_block ?_
  refine r_loop (ι := Nat × Option Addr × Nat × Option Addr × Nat) (fun ⟨d, A1, c1, A2, c2⟩ a w => Slots a 27 [(0, .agg #[.int .i64 k, .int .u32 ((s : Nat) : Int)]), (1, .agg #[.int .i64 ((m : Nat) : Int), .slice A es.length c]), (2, .int .i64 j), (3, .pointer (some ⟨b1, 0, none⟩)), (4, .pointer (some ⟨b2, 0, none⟩)), (6, .pointer (some ⟨b3, 0, none⟩)), (7, .pointer (some ⟨b8, 0, none⟩)), (8, .int .i64 ((d : Nat) : Int)), (10, .agg #[.int .i64 k, .int .u32 ((s : Nat) : Int)]), (11, .agg #[.int .i64 ((m : Nat) : Int), .slice A es.length c]), (12, .agg #[.slice A4 ((Tr.start k s m).1.length) c5, .slice A6 ((Tr.start k s m).2.length) c7])] ∧ Sat w (row 25 1 (.slice A1 ((Tr.iter k es d (Tr.start k s m)).1.length) c1) ((Tr.iter k es d (Tr.start k s m)).1.length) (u64s (Tr.iter k es d (Tr.start k s m)).1) :: row 4 1 (.slice A2 ((Tr.iter k es d (Tr.start k s m)).2.length) c2) ((Tr.iter k es d (Tr.start k s m)).2.length) (bools (Tr.iter k es d (Tr.start k s m)).2) :: blk b8 (.cells #[.slice A1 ((Tr.iter k es d (Tr.start k s m)).1.length) c1, .slice A2 ((Tr.iter k es d (Tr.start k s m)).2.length) c2] 40) :: blk b3 (.cells #[.slice none 0 0, .slice none 0 0] 40) :: blk b2 (.cells #[.int .i64 ((m : Nat) : Int), .slice A es.length c] 35) :: blk b1 (.cells #[.int .i64 k, .int .u32 ((s : Nat) : Int)] 24) :: fr) ∧ (d ≤ j.toNat)) (fun ⟨d, A1, c1, A2, c2⟩ => j.toNat - d) (0, A4, c5, A6, c7) ⟨S.sub ⟨rfl, rfl, rfl, rfl, rfl, rfl, rfl, rfl, rfl, rfl, rfl, trivial⟩, (H.pick [1, 2, 0, 3, 4, 5] 6 rfl), Nat.zero_le _⟩ (fun ⟨d, A1, c1, A2, c2⟩ a w hI => ?_)
  obtain ⟨S, H, hI⟩ := hI
  obtain ⟨hee, hlv, hlen, hn, hel, hvt⟩ := Tr.iter_side hmay d
  refine r_seq ?_
  refine r_seq ?_
  refine r_region ?_
  refine r_y S H (y_move S rfl rfl) rfl rfl rfl fun a S => ?_
  refine r_y S H (y_move S rfl rfl) rfl rfl rfl fun a S => ?_
  refine r_y S H (y_lt S rfl rfl rfl) rfl rfl rfl fun a S => ?_
  refine r_nil ?_
  refine x_then ?_
  refine r_test S rfl (fun h15 => ?_) (fun h15 => ?_)
  · skip
    refine wp_skip ?_
    refine x_then ?_
    refine r_seq ?_
    refine r_block ?_
    refine r_seq ?_
    refine r_region ?_
    refine r_y S H (y_loadAgg [_, _] 2 S rfl rfl (fun w => ⟨Try.isAgg40 w, Try.sizeOf40 w⟩) rfl rfl ⟨rfl, rfl, trivial⟩) rfl rfl rfl fun a S => ?_
    refine r_call (args := #[.agg #[.slice A1 ((Tr.iter k es d (Tr.start k s m)).1.length) c1, .slice A2 ((Tr.iter k es d (Tr.start k s m)).2.length) c2]]) S rfl rfl Try.call32 (rquiet_ct (H := H) _ _ _ _ ((Tr.iter k es d (Tr.start k s m)).1) (SlOk.ofRow (i := 0) H rfl) _ _ ((Tr.iter k es d (Tr.start k s m)).2) (SlOk.ofRow (i := 1) H rfl)) rfl rfl rfl fun v a w hR S => ?_
    obtain ⟨rfl, H⟩ := hR
    refine r_y S H (y_assign S rfl rfl) rfl rfl rfl fun a S => ?_
    refine r_nil ?_
    refine x_then ?_
    refine r_seq ?_
    refine r_seq ?_
    refine r_region ?_
    refine r_y S H (y_move S rfl rfl) rfl rfl rfl fun a S => ?_
    refine r_nil ?_
    refine x_then ?_
    refine r_cond S rfl (fun h20 => ?_) (fun h20 => ?_)
    · skip
      refine r_seq ?_
      refine r_region ?_
      refine r_y S H (y_loadAgg [_, _] 2 S rfl rfl (fun w => ⟨Try.isAgg40 w, Try.sizeOf40 w⟩) rfl rfl ⟨rfl, rfl, trivial⟩) rfl rfl rfl fun a S => ?_
      refine r_store (vs := [.slice A1 ((Tr.iter k es d (Tr.start k s m)).1.length) c1, .slice A2 ((Tr.iter k es d (Tr.start k s m)).2.length) c2]) 3 S H rfl rfl rfl rfl Try.sizeOf40 rfl rfl (by simp [Value.oneCell']) rfl rfl rfl rfl rfl fun w H => ?_
      refine r_nil ?_
      refine x_then ?_
      refine wp_ret ?_
      refine x_thenRet ?_
      refine x_blockRet ?_
      refine x_thenRet ?_
      refine x_thenRet ?_
      refine x_blockRet ?_
      refine x_thenRet ?_
      refine r_ret1 S H Try.results35 (ro_agg [_, _] (i := 3) S rfl (fun w => ⟨Try.isAgg40 w, Try.sizeOf40 w⟩) rfl rfl ⟨rfl, rfl, trivial⟩) ?_
      have hX : Tr.iter k es j.toNat (Tr.start k s m) = Tr.iter k es d (Tr.start k s m) := by rw [show j.toNat = d + (j.toNat - d) from by omega]; exact Tr.iter_stays h20 _
      rw [hX]
      exact ⟨_, _, _, _, rfl, (H.pick [0, 1] 6 rfl)⟩
    · skip
      refine wp_skip ?_
      refine x_then ?_
      refine r_region ?_
      refine r_y S H (y_loadAgg [_, _] 5 S rfl rfl (fun w => ⟨Try.isAgg24 w, Try.sizeOf24 w⟩) rfl rfl ⟨rfl, rfl, trivial⟩) rfl rfl rfl fun a S => ?_
      refine r_y S H (y_loadAgg [_, _] 4 S rfl rfl (fun w => ⟨Try.isAgg35 w, Try.sizeOf35 w⟩) rfl rfl ⟨rfl, rfl, trivial⟩) rfl rfl rfl fun a S => ?_
      refine r_y S H (y_loadAgg [_, _] 2 S rfl rfl (fun w => ⟨Try.isAgg40 w, Try.sizeOf40 w⟩) rfl rfl ⟨rfl, rfl, trivial⟩) rfl rfl rfl fun a S => ?_
      refine r_call (args := #[.agg #[.int .i64 k, .int .u32 ((s : Nat) : Int)], .agg #[.int .i64 ((m : Nat) : Int), .slice A es.length c], .agg #[.slice A1 ((Tr.iter k es d (Tr.start k s m)).1.length) c1, .slice A2 ((Tr.iter k es d (Tr.start k s m)).2.length) c2]]) S rfl rfl Try.call31 (rstep_ct (H := H) _ _ k s (by omega) m (by omega) _ _ es ((((((ok.more _).more _).more _).more _).more _).more _) hes _ _ ((Tr.iter k es d (Tr.start k s m)).1) (SlOk.ofRow (i := 0) H rfl) _ _ ((Tr.iter k es d (Tr.start k s m)).2) (SlOk.ofRow (i := 1) H rfl) (by rw [hlen] at hee; exact hee) hew hlen (by omega) hel hvt) rfl rfl rfl fun v a w hR S => ?_
      obtain ⟨A9, c10, A11, c12, rfl, H⟩ := hR
      refine r_store (vs := [.slice A9 ((Tr.step k es ((Tr.iter k es d (Tr.start k s m)).1, (Tr.iter k es d (Tr.start k s m)).2)).1.length) c10, .slice A11 ((Tr.step k es ((Tr.iter k es d (Tr.start k s m)).1, (Tr.iter k es d (Tr.start k s m)).2)).2.length) c12]) 4 S H rfl rfl rfl rfl Try.sizeOf40 rfl rfl (by simp [Value.oneCell']) rfl rfl rfl rfl rfl fun w H => ?_
      refine r_nil ?_
      refine x_blockEnd ?_
      refine x_then ?_
      refine r_region ?_
      refine r_y S H (y_move S rfl rfl) rfl rfl rfl fun a S => ?_
      refine r_y S H (y_add S rfl rfl rfl (wi64 (by omega) (by omega))) rfl rfl rfl fun a S => ?_
      refine r_y S H (y_assign S rfl rfl) rfl rfl rfl fun a S => ?_
      refine r_nil ?_
      refine x_then ?_
      exact ⟨(d + 1, A9, c10, A11, c12), ⟨S.sub ⟨rfl, rfl, rfl, rfl, rfl, rfl, rfl, rfl, rfl, rfl, rfl, trivial⟩, (H.pick [0, 1, 4, 5, 6, 7] 8 rfl), by omega⟩, by show j.toNat - (d + 1) < j.toNat - d; omega⟩
  · skip
    refine wp_exit ?_
    refine x_thenExit ?_
    refine x_thenExit ?_
    refine x_blockHere ?_
    refine x_then ?_
    refine r_seq ?_
    refine r_region ?_
    refine r_y S H (y_loadAgg [_, _] 2 S rfl rfl (fun w => ⟨Try.isAgg40 w, Try.sizeOf40 w⟩) rfl rfl ⟨rfl, rfl, trivial⟩) rfl rfl rfl fun a S => ?_
    refine r_store (vs := [.slice A1 ((Tr.iter k es d (Tr.start k s m)).1.length) c1, .slice A2 ((Tr.iter k es d (Tr.start k s m)).2.length) c2]) 3 S H rfl rfl rfl rfl Try.sizeOf40 rfl rfl (by simp [Value.oneCell']) rfl rfl rfl rfl rfl fun w H => ?_
    refine r_nil ?_
    refine x_then ?_
    refine wp_ret ?_
    refine r_ret1 S H Try.results35 (ro_agg [_, _] (i := 3) S rfl (fun w => ⟨Try.isAgg40 w, Try.sizeOf40 w⟩) rfl rfl ⟨rfl, rfl, trivial⟩) ?_
    have hd : d = j.toNat := by omega
    subst hd
    exact ⟨_, _, _, _, rfl, (H.pick [0, 1] 6 rfl)⟩

end Go.Proofs.Ytfmpgdhmfjllnaa

/- The config of a step is there, also behind a crash, and a crash on the way leaves the one that there was, or the new one, for any two configs, step, whenever it crashes, and truths. No condition. -/
import Derived.Test.YtfndfpgmgnacgaaGreatDoorKCommitKeepsd
import Derived.Test.YtfndfpgmgnacgaaGreatDoorCards
import Derived.Test.YtfndfpgmgnacgaaGreatDoorKCommitKeepse
namespace Go.Proofs.YtfndfpgmgnacgaaGreatDoor.commitKeeps
open Go.ChangeShapes Go.WideShapes Go.ChangeAt Go.RowKit Go.Lib Go.Joins Go.Deep Go.Cg
open Go.ChangeMaps (open_string shut_string)
set_option linter.unusedVariables false
theorem own : ownKnob Tryz.prog.godebug = none := by kernel_rfl
theorem laidOut : laidOutB Tryz.prog = true := by kernel_rfl
set_option maxRecDepth 100000 in
theorem lifted (os : Os) (started : os.Started) (H : Type) (enc : TypeId × Value → H) :
    ReturnsInHanded {} Tryz.checked os 8 .any (fun w args => (Rows.commitKeepsSpec.pre enc Tryz.prog Tryz.f8 [] false w args ∧ laidMetH Tryz.prog laidL w) ∧ sizedMet enc Tryz.prog Tryz.f8 (OpenSpec.ofChange Rows.commitKeepsSpec) false w args) (Rows.commitKeepsSpec.post enc Tryz.prog Tryz.f8 false true false false) := by
  refine returnsInHanded_of_change_and (C := Tryz.checked) (X := fun w _ => laidMetH Tryz.prog laidL w) (fun _ _ _ hh h => h.of_heap hh) own started (by kernel_rfl) Tryz.func8
    (ChangeSpec.witness_shaped (enc := enc) (C := Tryz.checked) (os := os) (X := fun w _ => laidMetH Tryz.prog laidL w) false (World.doorLaid Tryz.prog 400 os) #[.agg #[.slice none 0 0, .slice none 0 0], .agg #[.slice none 0 0, .slice none 0 0], .int .i64 0, .int .i64 0, .slice none 0 0] 8 rfl (World.shaped_of_RefB (by kernel_rfl) (by kernel_rfl)) (by kernel_rfl) (by kernel_rfl) (by kernel_rfl) (door_met os _)) ?_
  intro W base args ds gs before hval0 hW _ hsz0 hL _
  have hval : ∀ (j : Nat) t v, Tryz.f8.params[j]? = some t → args[j]? = some v → Value.okWide Tryz.prog W .any base t v := hval0
  have hW' := hW
  obtain ⟨p, q, hA0, hV, rfl, hfz, hnd⟩ := hW
  have hA : DataW.TrodAll enc Tryz.prog W 0 (fun _ => true) true Tryz.f8.params.toList args.toList ds p := hA0
  have hl : Laid [old W] := laid_open hL
  rw [Tryz.params8] at hA hval
  obtain ⟨v0, vs0, d0, ds0, p0, q0, hargs, rfl, rfl, h0, r0⟩ := trodAll_cons hA
  obtain ⟨v1, vs1, d1, ds1, p1, q1, rfl, rfl, rfl, h1, r1⟩ := trodAll_cons r0
  obtain ⟨v2, vs2, d2, ds2, p2, q2, rfl, rfl, rfl, h2, r2⟩ := trodAll_cons r1
  obtain ⟨v3, vs3, d3, ds3, p3, q3, rfl, rfl, rfl, h3, r3⟩ := trodAll_cons r2
  obtain ⟨v4, vs4, d4, ds4, p4, q4, rfl, rfl, rfl, h4, r4⟩ := trodAll_cons r3
  obtain ⟨rfl, rfl, rfl⟩ := trodAll_nil r4
  obtain rfl : args = #[v0, v1, v2, v3, v4] := by cases args; simp_all
  obtain ⟨rfl, rfl⟩ := trodVars_none hV
  have k0 := h0
  have lt0 : ∀ x ∈ p0, x.block < W.heap.size := by obtain ⟨m, hm⟩ := k0; exact DataW.trod_lt m _ _ _ hm
  obtain ⟨u0_0, u0_1, y0_0, y0_1, mm0, rfl, -, -, g0_0, g0_1⟩ := open_agg2 Tryz.underlying53 (by kernel_rfl) (by kernel_rfl) (hval 0 53 v0 rfl rfl) h0
  obtain ⟨A0_0, c0_0, l0_0, rfl, ok0_0, tp0⟩ := open_u64s Tryz.underlying50 Tryz.underlying22 (by kernel_rfl) g0_0
  obtain ⟨A0_1, c0_1, l0_1, rfl, ok0_1⟩ := open_bools Tryz.underlying51 Tryz.underlying4 (by kernel_rfl) g0_1
  have k1 := h1
  have lt1 : ∀ x ∈ p1, x.block < W.heap.size := by obtain ⟨m, hm⟩ := k1; exact DataW.trod_lt m _ _ _ hm
  obtain ⟨u1_0, u1_1, y1_0, y1_1, mm1, rfl, -, -, g1_0, g1_1⟩ := open_agg2 Tryz.underlying53 (by kernel_rfl) (by kernel_rfl) (hval 1 53 v1 rfl rfl) h1
  obtain ⟨A1_0, c1_0, l1_0, rfl, ok1_0, tp1⟩ := open_u64s Tryz.underlying50 Tryz.underlying22 (by kernel_rfl) g1_0
  obtain ⟨A1_1, c1_1, l1_1, rfl, ok1_1⟩ := open_bools Tryz.underlying51 Tryz.underlying4 (by kernel_rfl) g1_1
  have k2 := h2
  have lt2 : ∀ x ∈ p2, x.block < W.heap.size := by obtain ⟨m, hm⟩ := k2; exact DataW.trod_lt m _ _ _ hm
  obtain ⟨a2, rfl, rfl, rfl, w2⟩ := open_int Tryz.underlying3 (hval 2 3 v2 rfl rfl) h2
  have b2 := wf_i64 w2
  have k3 := h3
  have lt3 : ∀ x ∈ p3, x.block < W.heap.size := by obtain ⟨m, hm⟩ := k3; exact DataW.trod_lt m _ _ _ hm
  obtain ⟨a3, rfl, rfl, rfl, w3⟩ := open_int Tryz.underlying3 (hval 3 3 v3 rfl rfl) h3
  have b3 := wf_i64 w3
  have k4 := h4
  have lt4 : ∀ x ∈ p4, x.block < W.heap.size := by obtain ⟨m, hm⟩ := k4; exact DataW.trod_lt m _ _ _ hm
  obtain ⟨f4, hf4⟩ := trod_top Tryz.underlying51 (hval 4 51 v4 rfl rfl) h4
  obtain ⟨A4, c4, l4, rfl, ok4⟩ := open_bools Tryz.underlying51 Tryz.underlying4 (by kernel_rfl) hf4
  clear hA0 hval0 hsz0
  refine Calls.mono (law_keeps W [old W] hl A0_0 _ c0_0 l0_0 ok0_0 A0_1 _ c0_1 l0_1 ok0_1 A1_0 _ c1_0 l1_0 ok1_0 A1_1 _ c1_1 l1_1 ok1_1 (fun x hx => by have := tp0 x hx; omega) (fun x hx => by have := tp1 x hx; omega) a2 a3 A4 _ c4 l4 ok4 (Sat.start W)) fun e W' hR => ?_
  obtain ⟨v, he, hv, H'⟩ := hR
  have hv1 : v = .bool true := hv
  have he1 : e = .returned v := he
  subst hv1; subst he1
  have bel := H'.below
  exact ⟨_, rfl, _, _, _, [], _, [], hW', trodAll_mk1 (shut_bool Tryz.underlying4 _), (trodAll_cons_mk (Below.trod laidOut (by kernel_rfl) (of_decide_eq_true (by kernel_rfl)) k0 bel lt0) (trodAll_cons_mk (Below.trod laidOut (by kernel_rfl) (of_decide_eq_true (by kernel_rfl)) k1 bel lt1) (trodAll_cons_mk (Below.trod laidOut (by kernel_rfl) (of_decide_eq_true (by kernel_rfl)) k2 bel lt2) (trodAll_cons_mk (Below.trod laidOut (by kernel_rfl) (of_decide_eq_true (by kernel_rfl)) k3 bel lt3) (trodAll_cons_mk (Below.trod laidOut (by kernel_rfl) (of_decide_eq_true (by kernel_rfl)) k4 bel lt4) trodAll_mk0))))), rfl, bel.frame _, fun h => by cases h⟩
theorem over : Rows.commitKeepsRow.holds Tryz.pinned (OpenSpec.ofChange Rows.commitKeepsSpec) :=
  OpenClaim.holds_of_wide 8 Tryz.f8 rfl rfl rfl rfl rfl rfl rfl ⟨rfl, rfl, rfl, rfl, rfl⟩ rfl rfl rfl rfl rfl (by kernel_rfl) Tryz.func8 (by kernel_rfl)
    (of_decide_eq_true (by kernel_rfl)) (by unfold Func.isWrapper; first | (rw [if_pos (by decide +kernel)]; kernel_rfl) | (rw [if_neg (by decide +kernel)]; exact ⟨rfl, rfl⟩))
    (fun os started H enc _ => lifted os started H enc)
theorem card : Rows.CommitKeepsCardSaid :=
  Claim7.holds_tied_plain_at .later [] [.data, .data, .data, .sentinel, .sentinel] true (true, "5fa3191dd6a63722bb0beac176e48dad58d2adc28722359b0a02bfaf61e3ef68") true
    over (fun _ h => by cases h) (by kernel_rfl) (fun _ h => by cases h) commitKeeps_row_tie rfl ⟨rfl, rfl⟩ (by kernel_rfl) rfl
    (fun f fn hf hfn => by
      obtain rfl : f = 8 := Option.some.inj ((show Tryz.prog.funcNamed "cartage/cartagelaw17.CommitKeeps" = some 8 by kernel_rfl).symm.trans hf) |>.symm
      obtain rfl : fn = Tryz.f8 := (Option.some.inj (Tryz.func8.symm.trans hfn)).symm
      exact ⟨by kernel_rfl, fun j t ht => by
        rw [Tryz.params8] at ht
        have hm : t ∈ [53, 53, 3, 3, 51] := by simpa using Array.mem_of_getElem? ht
        have hall : ([53, 53, 3, 3, 51].all fun u => !Tryz.prog.wantsStandIn u) = true := by kernel_rfl
        exact (show Tryz.prog.wantsStandIn t = false by simpa using List.all_eq_true.1 hall t hm)⟩)
    (by kernel_rfl)
end Go.Proofs.YtfndfpgmgnacgaaGreatDoor.commitKeeps
namespace Go.Proofs.YtfndfpgmgnacgaaGreatDoor
theorem commitKeeps_holds : Rows.CommitKeepsCardSaid := commitKeeps.card
#print axioms commitKeeps_holds
end Go.Proofs.YtfndfpgmgnacgaaGreatDoor

/- Walks of functions of the program, over slots and resources, and what they rest on. No condition. -/
import Derived.Test.YtfndfpgmgnacgaaGreatDoorKCommitSweepsc
import Derived.Test.YtfndfpgmgnacgaaGreatDoorCq
import Derived.Laws.StructEq
import Derived.Laws.BitsLemmas
import Derived.Test.YtfndfpgmgnacgaaGreatDoorCr
namespace Go.Proofs.YtfndfpgmgnacgaaGreatDoor
open Go.RowKit Go.Cg
set_option linter.unusedVariables false
set_option linter.unusedSimpArgs false
set_option maxRecDepth 8000
set_option synthInstance.maxHeartbeats 1000000
set_option synthInstance.maxSize 1000000
theorem el50 : Elem Tryz.prog 50 22 1 8 (.int .u64 0) := ⟨Tryz.underlying50, by kernel_rfl, rfl, by decide⟩
open Go.Cg.Dk (By Nm)
open Go.Cg.Oc (Mf)
theorem all_flat : ∀ (n : Nat) (b : By), b.length ≤ n → (Oc.all b).1.flatten.length + (Oc.all b).1.length ≤ b.length
  | 0, b, h => by have : b = [] := List.eq_nil_of_length_eq_zero (by omega); subst this; simp [Oc.all_nil]
  | n + 1, b, h => by
    by_cases hb : b = []
    · subst hb; simp [Oc.all_nil]
    · rw [Oc.all_step hb]
      split
      · simp
      · rename_i hd
        have hd0 : (Oc.dec b).2.2 = 0 := by omega
        have hf := Oc.dec_facts (b := b) (t := (Oc.dec b).1) (n := (Oc.dec b).2.1) (by rw [← hd0])
        have ih := all_flat n (b.drop (Oc.dec b).2.1) (by simp; omega)
        split
        · simp
        · simp only [List.flatten_cons, List.length_append, List.length_cons]
          simp only [List.length_drop] at ih
          omega
theorem okTailS {L : List Res} {A : Option Addr} {m c : Nat} {l : List Sl} (h : SlOk L 1 A m c (sls l)) (i : Nat) (hi : i ≤ m) : SlOk L 1 (shift A (i * 1) (decide (c = i))) (l.drop i).length (c - i) (sls (l.drop i)) := by
  have hm : m = l.length := by have := h.len; simp at this; omega
  subst hm
  have h1 := h.tail i hi
  have e : (sls l).drop (i * 1) = sls (l.drop i) := by rw [sls_drop]
  rw [e] at h1
  rw [List.length_drop]
  exact h1
theorem okPart9 {L : List Res} {blk off c i : Nat} {A : Option Addr} {b : By} (ok : SlOk L 1 A b.length c (u8s b)) (hA : A = some ⟨blk, off, none⟩) (hi : 9 * i + 9 ≤ b.length) : SlOk L 1 (some ⟨blk, off + 9 * i, none⟩) 9 9 (u8s ((b.drop (9 * i)).take 9)) := by
  subst hA
  have hle := ok.le
  have h := ok.part8 (9 * i) (9 * i + 9) (by omega) (by omega)
  rw [show 9 * i + 9 - 9 * i = 9 from by omega, decide_eq_false (by omega)] at h
  have e : shift (some (⟨blk, off, none⟩ : Addr)) (9 * i * 1) false = some ⟨blk, off + 9 * i, none⟩ := by simp [shift, Addr.add]
  rw [e] at h
  exact ⟨fun h => by simp at h, Nat.le_refl _, by decide, h.len, h.rd⟩
theorem get9 {s : By} (h : s.length = 9) : Oc.get s 0 8 = (Oc.unle (s.take 8), true) := by unfold Oc.get; rw [if_pos (by omega)]; rfl
theorem live9 (b : By) (k : Nat) : decide (((((b.drop k).take 9).getD 8 0).toNat : Int) = 1) = ((b.drop k).getD 8 0 == 1) := by
  have e : ((b.drop k).take 9).getD 8 0 = (b.drop k).getD 8 0 := by rw [List.getD_eq_getElem?_getD, List.getD_eq_getElem?_getD, List.getElem?_take_of_lt (by omega)]
  rw [e]
  generalize (b.drop k).getD 8 0 = x
  by_cases h : x = 1
  · subst h; rfl
  · rw [decide_eq_false (fun hh => h (UInt8.toNat_inj.1 (show x.toNat = 1 by omega)))]
    exact (beq_false_of_ne h).symm
theorem get16 {s : By} (h : s.length = 16) : (Oc.get s 0 8).1 = Oc.unle (s.take 8) ∧ (Oc.get s 8 8).1 = Oc.unle (s.drop 8) := by
  refine ⟨by unfold Oc.get; rw [if_pos (by omega)]; rfl, ?_⟩
  unfold Oc.get; rw [if_pos (by omega)]
  show Oc.unle ((s.drop 8).take 8) = _
  rw [List.take_of_length_le (by simp; omega)]
theorem headD_getD (l : List By) : l.headD [] = l.getD 0 [] := by cases l <;> rfl
theorem sdec_e1 {b : By} (h0 : (Oc.all b).2 = 0) (h : (Oc.all b).1.length = 0 ∨ ((Oc.all b).1.getD 0 []).length ≠ 16) : Oc.sdec b = (0, ([], []), 2) := by
  unfold Oc.sdec; simp only
  rw [if_neg (by omega), if_pos]
  rw [headD_getD]
  rcases h with h | h
  · exact .inl (List.eq_nil_of_length_eq_zero h)
  · exact .inr h
theorem sdec_go {b bd : By} {s0 n0 : Nat} (h0 : (Oc.all b).2 = 0) (h16 : ((Oc.all b).1.getD 0 []).length = 16) (hs : s0 = (Oc.get ((Oc.all b).1.getD 0 []) 0 8).1) (hn : n0 = (Oc.get ((Oc.all b).1.getD 0 []) 8 8).1) (hbd : bd = ((Oc.all b).1.drop 1).flatten) :
    Oc.sdec b = if 9223372036854775807 < s0 ∨ 1048576 < n0 ∨ bd.length ≠ n0 * 9 then (0, ([], []), 2) else
      if (Oc.senc ((s0 : Nat) : Int) ((Oc.sof n0 bd).map Prod.fst) ((Oc.sof n0 bd).map Prod.snd)).2 ≠ 0 ∨ (Oc.senc ((s0 : Nat) : Int) ((Oc.sof n0 bd).map Prod.fst) ((Oc.sof n0 bd).map Prod.snd)).1 ≠ b then (0, ([], []), 2) else ((s0 : Int), ((Oc.sof n0 bd).map Prod.fst, (Oc.sof n0 bd).map Prod.snd), 0) := by
  obtain ⟨g1, g2⟩ := get16 h16
  rw [g1] at hs
  rw [g2] at hn
  have ht : (Oc.all b).1.tail.flatten = bd := by rw [hbd, List.drop_one]
  have hu : ∀ l : List (Nat × Bool), l.unzip = (l.map Prod.fst, l.map Prod.snd) := fun l => List.unzip_eq_map
  unfold Oc.sdec; simp only
  rw [if_neg (by omega), if_neg, headD_getD, ← hs, ← hn, ht, hu]
  rw [headD_getD]
  rintro (h | h)
  · rw [h] at h16; simp at h16
  · exact h h16
theorem sof_fst (q : Nat) (b : By) : (Oc.sof (q + 1) b).map Prod.fst = (Oc.sof q b).map Prod.fst ++ [Oc.unle ((b.drop (9 * q)).take 8)] := by rw [sof_snoc]; simp
theorem sof_snd (q : Nat) (b : By) : (Oc.sof (q + 1) b).map Prod.snd = (Oc.sof q b).map Prod.snd ++ [(b.drop (9 * q)).getD 8 0 == 1] := by rw [sof_snoc]; simp
theorem sof_lt : ∀ (q : Nat) (b : By), ∀ x ∈ (Oc.sof q b).map Prod.fst, x < 18446744073709551616
  | 0, _, x, h => by simp [Oc.sof] at h
  | q + 1, b, x, h => by
    rw [Oc.sof, List.map_cons] at h
    rcases List.mem_cons.1 h with rfl | h
    · have h1 := Oc.unle_lt (b.take 8)
      have h2 : 256 ^ (b.take 8).length ≤ 256 ^ 8 := Nat.pow_le_pow_right (by omega) (by simp; omega)
      show Oc.unle (b.take 8) < _
      omega
    · exact sof_lt q _ x h
set_option maxHeartbeats 2000000 in
theorem sdecode_ct (w : World) (fr : List Res) (A : Option Addr) (n c : Nat) (b : By) (ok : SlOk fr 1 A n c (u8s b)) (hb : b.length ≤ 4398046511104) (H : Sat w (fr)) :
    Rt Tryz.prog 45 #[.slice A n c] w fun v w' => ∃ A1 c1 A2 c2, v = .tuple #[.int .i64 (Oc.sdec b).1, .agg #[.slice A1 (Oc.sdec b).2.1.1.length c1, .slice A2 (Oc.sdec b).2.1.2.length c2], .int .i64 (((Oc.sdec b).2.2 : Nat) : Int)] ∧ Sat w' (row 22 1 (.slice A1 (Oc.sdec b).2.1.1.length c1) (Oc.sdec b).2.1.1.length (u64s (Oc.sdec b).2.1.1) :: row 4 1 (.slice A2 (Oc.sdec b).2.1.2.length c2) (Oc.sdec b).2.1.2.length (bools (Oc.sdec b).2.1.2) :: fr) := by
  refine rt_enterM (n := 114) Tryz.func45 rfl Tryz.ntmps45 rfl fun a S => ?_
  replace S : Slots a 114 [(0, .slice A n c), (114, undef)] := S
  refine sb ?_
  refine rn 1 S H t0 fun a w S H => ?_
  refine r_alloc S H rfl Tryz.zeroValue53 rfl rfl rfl rfl fun a w b1 S H => ?_
  replace H : Sat _ (blk b1 (.cells #[.slice none 0 0, .slice none 0 0] 53) :: fr) := H
  refine rs 1 S H t0 fun a w S H => ?_
  refine sb ?_
  refine r_alloc S H rfl Tryz.zeroValue53 rfl rfl rfl rfl fun a w b2 S H => ?_
  replace H : Sat _ (blk b2 (.cells #[.slice none 0 0, .slice none 0 0] 53) :: blk b1 (.cells #[.slice none 0 0, .slice none 0 0] 53) :: fr) := H
  refine sn ?_
  refine sb ?_
  refine rn 1 S H t0 fun a w S H => ?_
  refine r_call (args := #[.slice A n c]) S rfl rfl Tryz.call79 (all_ct (H := H) _ _ _ _ _ b ((ok.more _).more _) (by omega)) rfl rfl rfl fun v a w hR S => ?_
  obtain ⟨l11, A12, c13, p14, rfl, H⟩ := hR
  refine rs 7 S H t0 fun a w S H => ?_
  refine r_seq ?_
  refine sr 2 S H t0 fun a w S H => ?_
  refine r_test S rfl (fun h26 => ?_) (fun h26 => ?_)
  · skip
    refine r_seq ?_
    apply viaA (n := 114)
    · skip
      refine ha [0, 1, 2, 3] 4 H fun w H HS => ?_
      refine tk 0 S HS fun a S => ?_
      refine tk 1 S HS fun a S => ?_
      refine tk 2 S HS fun a S => ?_
      refine h1 3 ?_
      refine rs 1 S H t0 fun a w S H => ?_
      refine hk (H) fun HS => ?_
      refine tk 4 S HS fun a S => ?_
      refine hz ?_
      refine x_then ?_
      exact ⟨S.sub (E' := [(0, .slice A n c), (2, .int .i64 0), (3, .pointer (some ⟨b1, 0, none⟩)), (4, .int .i64 (((Oc.all b).2 : Nat) : Int)), (5, .pointer (some ⟨b2, 0, none⟩)), (6, .slice A12 l11.length c13), (8, .int .i64 (((Oc.all b).2 : Nat) : Int)), (19, .tuple #[.slice A12 l11.length c13, .int .i64 ((p14 : Nat) : Int), .int .i64 (((Oc.all b).2 : Nat) : Int)]), (20, .slice A n c), (21, .tuple #[.slice A12 l11.length c13, .int .i64 ((p14 : Nat) : Int), .int .i64 (((Oc.all b).2 : Nat) : Int)]), (22, .slice A12 l11.length c13), (23, .int .i64 ((p14 : Nat) : Int)), (24, .int .i64 (((Oc.all b).2 : Nat) : Int)), (25, .int .i64 (((Oc.all b).2 : Nat) : Int)), (26, .bool (decide ((((Oc.all b).2 : Nat) : Int) ≠ 0))), (114, undef)]) ⟨rfl, rfl, rfl, rfl, rfl, rfl, rfl, rfl, rfl, rfl, rfl, rfl, rfl, rfl, rfl, rfl, trivial⟩, H⟩
    · intro a w S H
      refine x_then ?_
      refine wp_ret ?_
      refine x_thenRet ?_
      refine b_ret3 S H Tryz.results45 (ro_tmp S rfl) (ro_agg [_, _] (i := 3) S rfl (fun w => ⟨Tryz.isAgg53 w, Tryz.sizeOf53 w⟩) rfl rfl ⟨rfl, rfl, trivial⟩) (ro_tmp S rfl) ?_
      have e : Oc.sdec b = (0, ([], []), (Oc.all b).2) := by unfold Oc.sdec; simp only; rw [if_pos (by omega)]
      rw [e]
      exact ⟨none, 0, none, 0, rfl, (H.drop.drop.drop.drop.nilRow _ _).nilRow _ _⟩
  · skip
    refine wp_skip ?_
    refine x_then ?_
    refine r_seq ?_
    rcases Nat.eq_zero_or_pos l11.length with hl0 | hl0
    · skip
      have hll := (SlsOk.ofBlks (pk [1] 4 H)).len
      refine sb ?_
      refine rn 2 S H t0 fun a w S H => ?_
      refine r_y S H (y_eq S rfl rfl rfl) rfl rfl rfl fun a S => ?_
      have S := S.retell (v' := .bool true) 31 rfl (by rw [hl0]; rfl)
      refine rs 7 S H t0 fun a w S H => ?_
      refine r_condT S rfl ?_
      refine r_seq ?_
      apply viaA (n := 114)
      · skip
        refine ha [0, 1, 2, 3] 4 H fun w H HS => ?_
        refine tk 0 S HS fun a S => ?_
        refine tk 1 S HS fun a S => ?_
        refine h1 2 ?_
        refine rs 1 S H t0 fun a w S H => ?_
        refine hk (H) fun HS => ?_
        refine tk 3 S HS fun a S => ?_
        refine hz ?_
        refine x_then ?_
        exact ⟨S.sub (E' := [(0, .slice A n c), (2, .int .i64 0), (3, .pointer (some ⟨b1, 0, none⟩)), (4, .int .i64 2), (5, .pointer (some ⟨b2, 0, none⟩)), (6, .slice A12 l11.length c13), (8, .int .i64 (((Oc.all b).2 : Nat) : Int)), (19, .tuple #[.slice A12 l11.length c13, .int .i64 ((p14 : Nat) : Int), .int .i64 (((Oc.all b).2 : Nat) : Int)]), (20, .slice A n c), (21, .tuple #[.slice A12 l11.length c13, .int .i64 ((p14 : Nat) : Int), .int .i64 (((Oc.all b).2 : Nat) : Int)]), (22, .slice A12 l11.length c13), (23, .int .i64 ((p14 : Nat) : Int)), (24, .int .i64 (((Oc.all b).2 : Nat) : Int)), (25, .int .i64 (((Oc.all b).2 : Nat) : Int)), (26, .bool (decide ((((Oc.all b).2 : Nat) : Int) ≠ 0))), (29, .slice A12 l11.length c13), (30, .int .i64 ((l11.length : Nat) : Int)), (31, .bool true), (32, .bool true), (38, .bool true), (114, undef)]) ⟨rfl, rfl, rfl, rfl, rfl, rfl, rfl, rfl, rfl, rfl, rfl, rfl, rfl, rfl, rfl, rfl, rfl, rfl, rfl, rfl, rfl, trivial⟩, H⟩
      · intro a w S H
        refine x_then ?_
        refine wp_ret ?_
        refine x_thenRet ?_
        refine b_ret3 S H Tryz.results45 (ro_tmp S rfl) (ro_agg [_, _] (i := 3) S rfl (fun w => ⟨Tryz.isAgg53 w, Tryz.sizeOf53 w⟩) rfl rfl ⟨rfl, rfl, trivial⟩) (ro_tmp S rfl) ?_
        rw [sdec_e1 (by omega) (.inl (by omega))]
        exact ⟨none, 0, none, 0, rfl, (H.drop.drop.drop.drop.nilRow _ _).nilRow _ _⟩
    · skip
      have hso := SlsOk.ofBlks (pk [1] 4 H)
      obtain ⟨A0, c0, he0, ok0⟩ := hso.at (i := 0) hl0
      have haf := all_flat _ b (Nat.le_refl _)
      have hll : l11.length = (Oc.all b).1.length := hso.len
      refine sb ?_
      refine rn 2 S H t0 fun a w S H => ?_
      refine r_y S H (y_eq S rfl rfl rfl) rfl rfl rfl fun a S => ?_
      have S := S.retell (v' := .bool false) 31 rfl (by rw [decide_eq_false (by omega)])
      refine rn 2 S H t0 fun a w S H => ?_
      obtain ⟨b15, rfl⟩ := H.rowAt (i := 0) rfl (by first | omega | (simp <;> omega))
      refine r_y S H (y_index S rfl rfl rfl Tryz.underlying132 Tryz.sizeOf41 (by omega) (by omega)) rfl rfl rfl fun a S => ?_
      refine r_y S H (y_loadAt S rfl rfl Tryz.isAgg41 (fun w H => (SlOk.ofRow (i := 0) H rfl).cell w H (sls_at (i := 0) (by first | omega | (simp <;> omega))))) rfl rfl rfl fun a S => ?_
      refine rs 3 S H t0 fun a w S H => ?_
      refine r_test S rfl (fun h38 => ?_) (fun h38 => ?_)
      · skip
        refine r_seq ?_
        apply viaA (n := 114)
        · skip
          refine ha [0, 1, 2, 3] 4 H fun w H HS => ?_
          refine tk 0 S HS fun a S => ?_
          refine tk 1 S HS fun a S => ?_
          refine h1 2 ?_
          refine rs 1 S H t0 fun a w S H => ?_
          refine hk (H) fun HS => ?_
          refine tk 3 S HS fun a S => ?_
          refine hz ?_
          refine x_then ?_
          exact ⟨S.sub (E' := [(0, .slice A n c), (2, .int .i64 0), (3, .pointer (some ⟨b1, 0, none⟩)), (4, .int .i64 2), (5, .pointer (some ⟨b2, 0, none⟩)), (6, .slice (some ⟨b15, 0, none⟩) l11.length c13), (8, .int .i64 (((Oc.all b).2 : Nat) : Int)), (19, .tuple #[.slice (some ⟨b15, 0, none⟩) l11.length c13, .int .i64 ((p14 : Nat) : Int), .int .i64 (((Oc.all b).2 : Nat) : Int)]), (20, .slice A n c), (21, .tuple #[.slice (some ⟨b15, 0, none⟩) l11.length c13, .int .i64 ((p14 : Nat) : Int), .int .i64 (((Oc.all b).2 : Nat) : Int)]), (22, .slice (some ⟨b15, 0, none⟩) l11.length c13), (23, .int .i64 ((p14 : Nat) : Int)), (24, .int .i64 (((Oc.all b).2 : Nat) : Int)), (25, .int .i64 (((Oc.all b).2 : Nat) : Int)), (26, .bool (decide ((((Oc.all b).2 : Nat) : Int) ≠ 0))), (29, .slice (some ⟨b15, 0, none⟩) l11.length c13), (30, .int .i64 ((l11.length : Nat) : Int)), (31, .bool false), (32, .bool false), (33, .slice (some ⟨b15, 0, none⟩) l11.length c13), (34, .pointer (some ⟨b15, 0 + 0 * 1, none⟩)), (35, .slice ((l11.getD 0 sl0).1) ((l11.getD 0 sl0).2.1) ((l11.getD 0 sl0).2.2)), (36, .int .i64 (((l11.getD 0 sl0).2.1 : Nat) : Int)), (37, .bool (decide ((((l11.getD 0 sl0).2.1 : Nat) : Int) ≠ 16))), (38, .bool (decide ((((l11.getD 0 sl0).2.1 : Nat) : Int) ≠ 16))), (114, undef)]) ⟨rfl, rfl, rfl, rfl, rfl, rfl, rfl, rfl, rfl, rfl, rfl, rfl, rfl, rfl, rfl, rfl, rfl, rfl, rfl, rfl, rfl, rfl, rfl, rfl, rfl, rfl, trivial⟩, H⟩
        · intro a w S H
          refine x_then ?_
          refine wp_ret ?_
          refine x_thenRet ?_
          refine b_ret3 S H Tryz.results45 (ro_tmp S rfl) (ro_agg [_, _] (i := 3) S rfl (fun w => ⟨Tryz.isAgg53 w, Tryz.sizeOf53 w⟩) rfl rfl ⟨rfl, rfl, trivial⟩) (ro_tmp S rfl) ?_
          rw [sdec_e1 (by omega) (.inr (by rw [he0] at h38; simp [-List.getD_eq_getElem?_getD] at h38; omega))]
          exact ⟨none, 0, none, 0, rfl, (H.drop.drop.drop.drop.nilRow _ _).nilRow _ _⟩
      · skip
        have h16 : ((Oc.all b).1.getD 0 []).length = 16 := by rw [he0] at h38; simp [-List.getD_eq_getElem?_getD] at h38; omega
        refine wp_skip ?_
        refine x_then ?_
        refine sb ?_
        refine rn 1 S H t0 fun a w S H => ?_
        refine r_y S H (y_index S rfl rfl rfl Tryz.underlying132 Tryz.sizeOf41 (by omega) (by omega)) rfl rfl rfl fun a S => ?_
        refine r_y S H (y_loadAt S rfl rfl Tryz.isAgg41 (fun w H => (SlOk.ofRow (i := 0) H rfl).cell w H (sls_at (i := 0) (by first | omega | (simp <;> omega))))) rfl rfl rfl fun a S => ?_
        have S := S.retell (v' := .slice A0 (((Oc.all b).1.getD 0 []).length) c0) 43 rfl (by rw [he0])
        refine r_call (args := #[.slice A0 (((Oc.all b).1.getD 0 []).length) c0, .int .i64 0, .int .i64 8]) S rfl rfl Tryz.call73 (get_ct (H := H) _ _ _ _ _ ((Oc.all b).1.getD 0 []) (ok0.via fun _ H => pk [1] 4 H) 0 8 (by omega) (by omega) (by omega)) rfl rfl rfl fun v a w hR S => ?_
        obtain ⟨rfl, H⟩ := hR
        refine rs 5 S H t0 fun a w S H => ?_
        refine sb ?_
        refine rn 1 S H t0 fun a w S H => ?_
        refine r_y S H (y_index S rfl rfl rfl Tryz.underlying132 Tryz.sizeOf41 (by omega) (by omega)) rfl rfl rfl fun a S => ?_
        refine r_y S H (y_loadAt S rfl rfl Tryz.isAgg41 (fun w H => (SlOk.ofRow (i := 0) H rfl).cell w H (sls_at (i := 0) (by first | omega | (simp <;> omega))))) rfl rfl rfl fun a S => ?_
        have S := S.retell (v' := .slice A0 (((Oc.all b).1.getD 0 []).length) c0) 50 rfl (by rw [he0])
        refine r_call (args := #[.slice A0 (((Oc.all b).1.getD 0 []).length) c0, .int .i64 8, .int .i64 8]) S rfl rfl Tryz.call73 (get_ct (H := H) _ _ _ _ _ ((Oc.all b).1.getD 0 []) (ok0.via fun _ H => pk [1] 4 H) 8 8 (by omega) (by omega) (by omega)) rfl rfl rfl fun v a w hR S => ?_
        obtain ⟨rfl, H⟩ := hR
        refine rs 5 S H t0 fun a w S H => ?_
        obtain ⟨s0, hs0⟩ : ∃ x, x = (Oc.get ((Oc.all b).1.getD 0 []) 0 8).1 := ⟨_, rfl⟩
        have hs0l : s0 < 18446744073709551616 := by rw [hs0]; exact Oc.get_lt _ _ 8
        have S := S.retell (v' := .int .u64 ((s0 : Nat) : Int)) 9 rfl (by rw [hs0])
        obtain ⟨n0, hn0⟩ : ∃ x, x = (Oc.get ((Oc.all b).1.getD 0 []) 8 8).1 := ⟨_, rfl⟩
        have hn0l : n0 < 18446744073709551616 := by rw [hn0]; exact Oc.get_lt _ _ 8
        have S := S.retell (v' := .int .u64 ((n0 : Nat) : Int)) 11 rfl (by rw [hn0])
        have ok55 := okTailS (SlOk.ofRow (i := 0) (pk [0] 4 H) rfl) 1 (by omega)
        have hfl : ((Oc.all b).1.drop 1).flatten.length ≤ 4398046511104 := by have h1 := flat_take (ds := (Oc.all b).1) (i := 0) (by omega); have h2 : (Oc.all b).1 = (Oc.all b).1.take 1 ++ (Oc.all b).1.drop 1 := (List.take_append_drop 1 _).symm; have h3 := congrArg (fun x => (List.flatten x).length) h2; simp only [List.flatten_append, List.length_append] at h3; omega
        refine sb ?_
        refine rn 1 S H t0 fun a w S H => ?_
        refine r_y S H (y_sliceL (k := 1) S rfl rfl rfl Tryz.underlying132 Tryz.sizeOf41 (by first | omega | (simp <;> omega)) (by first | omega | (simp <;> omega))) rfl rfl rfl fun a S => ?_
        have S := S.retell (v' := .slice (shift (some ⟨b15, 0, none⟩) (1 * 1) (decide (c13 = 1))) ((l11.drop 1).length) (c13 - 1)) 55 rfl (by simp)
        refine r_call (args := #[.slice (shift (some ⟨b15, 0, none⟩) (1 * 1) (decide (c13 = 1))) ((l11.drop 1).length) (c13 - 1)]) S rfl rfl Tryz.call80 (concat_ct (H := H) _ _ _ _ (l11.drop 1) ((Oc.all b).1.drop 1) (ok55.via fun _ H => pk [0] 4 H) ((hso.drop 1).via fun _ H => pk [1] 4 H) (by omega) (by simp; omega)) rfl rfl rfl fun v a w hR S => ?_
        obtain ⟨A17, c18, rfl, H⟩ := hR
        refine rs 1 S H t0 fun a w S H => ?_
        refine r_seq ?_
        obtain ⟨bd, hbd⟩ : ∃ x, x = (((Oc.all b).1.drop 1)).flatten := ⟨_, rfl⟩
        rw [← hbd] at H S hfl
        refine sb ?_
        refine rn 3 S H t0 fun a w S H => ?_
        refine scO 1 S H (fun _ => t0) fun a w S H => ?_
        refine rn 1 S H t0 fun a w S H => ?_
        refine scO 5 S H (fun h => by simp only [Bool.or_eq_false_iff, Bool.and_eq_true, decide_eq_true_eq, decide_eq_false_iff_not] at h; omega) fun a w S H => ?_
        refine sn ?_
        refine r_cond S rfl (fun h70 => ?_) (fun h70 => ?_)
        · skip
          refine r_seq ?_
          apply viaA (n := 114)
          · skip
            refine ha [0, 1, 2, 3, 4] 5 H fun w H HS => ?_
            refine tk 0 S HS fun a S => ?_
            refine tk 1 S HS fun a S => ?_
            refine h1 2 ?_
            refine rs 1 S H t0 fun a w S H => ?_
            refine hk (H) fun HS => ?_
            refine tk 3 S HS fun a S => ?_
            refine hz ?_
            refine x_then ?_
            exact ⟨S.sub (E' := [(0, .slice A n c), (2, .int .i64 0), (3, .pointer (some ⟨b1, 0, none⟩)), (4, .int .i64 2), (5, .pointer (some ⟨b2, 0, none⟩)), (6, .slice (some ⟨b15, 0, none⟩) l11.length c13), (8, .int .i64 (((Oc.all b).2 : Nat) : Int)), (9, .int .u64 ((s0 : Nat) : Int)), (11, .int .u64 ((n0 : Nat) : Int)), (13, .slice A17 (bd.length) c18), (19, .tuple #[.slice (some ⟨b15, 0, none⟩) l11.length c13, .int .i64 ((p14 : Nat) : Int), .int .i64 (((Oc.all b).2 : Nat) : Int)]), (20, .slice A n c), (21, .tuple #[.slice (some ⟨b15, 0, none⟩) l11.length c13, .int .i64 ((p14 : Nat) : Int), .int .i64 (((Oc.all b).2 : Nat) : Int)]), (22, .slice (some ⟨b15, 0, none⟩) l11.length c13), (23, .int .i64 ((p14 : Nat) : Int)), (24, .int .i64 (((Oc.all b).2 : Nat) : Int)), (25, .int .i64 (((Oc.all b).2 : Nat) : Int)), (26, .bool (decide ((((Oc.all b).2 : Nat) : Int) ≠ 0))), (29, .slice (some ⟨b15, 0, none⟩) l11.length c13), (30, .int .i64 ((l11.length : Nat) : Int)), (31, .bool false), (32, .bool false), (33, .slice (some ⟨b15, 0, none⟩) l11.length c13), (34, .pointer (some ⟨b15, 0 + 0 * 1, none⟩)), (35, .slice ((l11.getD 0 sl0).1) ((l11.getD 0 sl0).2.1) ((l11.getD 0 sl0).2.2)), (36, .int .i64 (((l11.getD 0 sl0).2.1 : Nat) : Int)), (37, .bool (decide ((((l11.getD 0 sl0).2.1 : Nat) : Int) ≠ 16))), (38, .bool (decide ((((l11.getD 0 sl0).2.1 : Nat) : Int) ≠ 16))), (40, .tuple #[.int .u64 (((Oc.get ((Oc.all b).1.getD 0 []) 0 8).1 : Nat) : Int), .bool ((Oc.get ((Oc.all b).1.getD 0 []) 0 8).2)]), (41, .slice (some ⟨b15, 0, none⟩) l11.length c13), (42, .pointer (some ⟨b15, 0 + 0 * 1, none⟩)), (43, .slice A0 (((Oc.all b).1.getD 0 []).length) c0), (44, .tuple #[.int .u64 (((Oc.get ((Oc.all b).1.getD 0 []) 0 8).1 : Nat) : Int), .bool ((Oc.get ((Oc.all b).1.getD 0 []) 0 8).2)]), (45, .int .u64 (((Oc.get ((Oc.all b).1.getD 0 []) 0 8).1 : Nat) : Int)), (46, .bool ((Oc.get ((Oc.all b).1.getD 0 []) 0 8).2)), (47, .tuple #[.int .u64 (((Oc.get ((Oc.all b).1.getD 0 []) 8 8).1 : Nat) : Int), .bool ((Oc.get ((Oc.all b).1.getD 0 []) 8 8).2)]), (48, .slice (some ⟨b15, 0, none⟩) l11.length c13), (49, .pointer (some ⟨b15, 0 + 0 * 1, none⟩)), (50, .slice A0 (((Oc.all b).1.getD 0 []).length) c0), (51, .tuple #[.int .u64 (((Oc.get ((Oc.all b).1.getD 0 []) 8 8).1 : Nat) : Int), .bool ((Oc.get ((Oc.all b).1.getD 0 []) 8 8).2)]), (52, .int .u64 (((Oc.get ((Oc.all b).1.getD 0 []) 8 8).1 : Nat) : Int)), (53, .bool ((Oc.get ((Oc.all b).1.getD 0 []) 8 8).2)), (54, .slice (some ⟨b15, 0, none⟩) l11.length c13), (55, .slice (shift (some ⟨b15, 0, none⟩) (1 * 1) (decide (c13 = 1))) ((l11.drop 1).length) (c13 - 1)), (56, .slice A17 (bd.length) c18), (57, .int .u64 ((s0 : Nat) : Int)), (58, .bool (decide (9223372036854775807 < ((s0 : Nat) : Int)))), (59, .bool (decide (9223372036854775807 < ((s0 : Nat) : Int)))), (62, .bool ((decide (9223372036854775807 < ((s0 : Nat) : Int))) || (decide (1048576 < ((n0 : Nat) : Int))))), (63, .bool ((decide (9223372036854775807 < ((s0 : Nat) : Int))) || (decide (1048576 < ((n0 : Nat) : Int))))), (70, .bool (((decide (9223372036854775807 < ((s0 : Nat) : Int))) || (decide (1048576 < ((n0 : Nat) : Int)))) || (decide (((bd.length : Nat) : Int) ≠ ((n0 : Nat) : Int) * 9)))), (114, undef)]) ⟨rfl, rfl, rfl, rfl, rfl, rfl, rfl, rfl, rfl, rfl, rfl, rfl, rfl, rfl, rfl, rfl, rfl, rfl, rfl, rfl, rfl, rfl, rfl, rfl, rfl, rfl, rfl, rfl, rfl, rfl, rfl, rfl, rfl, rfl, rfl, rfl, rfl, rfl, rfl, rfl, rfl, rfl, rfl, rfl, rfl, rfl, rfl, rfl, rfl, rfl, rfl, rfl, trivial⟩, H⟩
          · intro a w S H
            refine x_then ?_
            refine wp_ret ?_
            refine x_thenRet ?_
            refine b_ret3 S H Tryz.results45 (ro_tmp S rfl) (ro_agg [_, _] (i := 4) S rfl (fun w => ⟨Tryz.isAgg53 w, Tryz.sizeOf53 w⟩) rfl rfl ⟨rfl, rfl, trivial⟩) (ro_tmp S rfl) ?_
            rw [sdec_go (by omega) h16 hs0 hn0 hbd, if_pos (by simp at h70; omega)]
            exact ⟨none, 0, none, 0, rfl, (H.drop.drop.drop.drop.drop.nilRow _ _).nilRow _ _⟩
        · skip
          have hs0m : s0 ≤ 9223372036854775807 := by simp at h70; omega
          have hn0m : n0 ≤ 1048576 := by simp at h70; omega
          have hbn : bd.length = n0 * 9 := by simp at h70; omega
          refine wp_skip ?_
          refine x_then ?_
          refine r_seq ?_
          refine sb ?_
          refine rn 1 S H t0 fun a w S H => ?_
          refine r_call (args := #[.slice A17 (bd.length) c18, .int .i64 9]) S rfl rfl Tryz.call81 (chunk_ct (H := H) _ _ _ _ _) rfl rfl rfl fun v a w hR S => ?_
          obtain ⟨kb23, bn24, rfl, H⟩ := hR
          refine sn ?_
          refine r_block ?_
          have hk9 : bd.length = 9 * n0 := by omega
          obtain ⟨blk_, off_, hit, hA⟩ := chunk_iter kb23 bn24 A17 c18 n0 bd hk9 _ (SlOk.ofRow (i := 2) H rfl) (by omega) _ H
          have H := H.nilRow 22 1
          have H := H.nilRow 4 1
          replace S := S.sub (E' := [(0, .slice A n c), (2, .int .i64 0), (3, .pointer (some ⟨b1, 0, none⟩)), (4, .int .i64 0), (5, .pointer (some ⟨b2, 0, none⟩)), (6, .slice (some ⟨b15, 0, none⟩) l11.length c13), (8, .int .i64 (((Oc.all b).2 : Nat) : Int)), (9, .int .u64 ((s0 : Nat) : Int)), (11, .int .u64 ((n0 : Nat) : Int)), (13, .slice A17 (bd.length) c18), (19, .tuple #[.slice (some ⟨b15, 0, none⟩) l11.length c13, .int .i64 ((p14 : Nat) : Int), .int .i64 (((Oc.all b).2 : Nat) : Int)]), (20, .slice A n c), (21, .tuple #[.slice (some ⟨b15, 0, none⟩) l11.length c13, .int .i64 ((p14 : Nat) : Int), .int .i64 (((Oc.all b).2 : Nat) : Int)]), (22, .slice (some ⟨b15, 0, none⟩) l11.length c13), (23, .int .i64 ((p14 : Nat) : Int)), (24, .int .i64 (((Oc.all b).2 : Nat) : Int)), (25, .int .i64 (((Oc.all b).2 : Nat) : Int)), (26, .bool (decide ((((Oc.all b).2 : Nat) : Int) ≠ 0))), (29, .slice (some ⟨b15, 0, none⟩) l11.length c13), (30, .int .i64 ((l11.length : Nat) : Int)), (31, .bool false), (32, .bool false), (33, .slice (some ⟨b15, 0, none⟩) l11.length c13), (34, .pointer (some ⟨b15, 0 + 0 * 1, none⟩)), (35, .slice ((l11.getD 0 sl0).1) ((l11.getD 0 sl0).2.1) ((l11.getD 0 sl0).2.2)), (36, .int .i64 (((l11.getD 0 sl0).2.1 : Nat) : Int)), (37, .bool (decide ((((l11.getD 0 sl0).2.1 : Nat) : Int) ≠ 16))), (38, .bool (decide ((((l11.getD 0 sl0).2.1 : Nat) : Int) ≠ 16))), (40, .tuple #[.int .u64 (((Oc.get ((Oc.all b).1.getD 0 []) 0 8).1 : Nat) : Int), .bool ((Oc.get ((Oc.all b).1.getD 0 []) 0 8).2)]), (41, .slice (some ⟨b15, 0, none⟩) l11.length c13), (42, .pointer (some ⟨b15, 0 + 0 * 1, none⟩)), (43, .slice A0 (((Oc.all b).1.getD 0 []).length) c0), (44, .tuple #[.int .u64 (((Oc.get ((Oc.all b).1.getD 0 []) 0 8).1 : Nat) : Int), .bool ((Oc.get ((Oc.all b).1.getD 0 []) 0 8).2)]), (45, .int .u64 (((Oc.get ((Oc.all b).1.getD 0 []) 0 8).1 : Nat) : Int)), (46, .bool ((Oc.get ((Oc.all b).1.getD 0 []) 0 8).2)), (47, .tuple #[.int .u64 (((Oc.get ((Oc.all b).1.getD 0 []) 8 8).1 : Nat) : Int), .bool ((Oc.get ((Oc.all b).1.getD 0 []) 8 8).2)]), (48, .slice (some ⟨b15, 0, none⟩) l11.length c13), (49, .pointer (some ⟨b15, 0 + 0 * 1, none⟩)), (50, .slice A0 (((Oc.all b).1.getD 0 []).length) c0), (51, .tuple #[.int .u64 (((Oc.get ((Oc.all b).1.getD 0 []) 8 8).1 : Nat) : Int), .bool ((Oc.get ((Oc.all b).1.getD 0 []) 8 8).2)]), (52, .int .u64 (((Oc.get ((Oc.all b).1.getD 0 []) 8 8).1 : Nat) : Int)), (53, .bool ((Oc.get ((Oc.all b).1.getD 0 []) 8 8).2)), (54, .slice (some ⟨b15, 0, none⟩) l11.length c13), (55, .slice (shift (some ⟨b15, 0, none⟩) (1 * 1) (decide (c13 = 1))) ((l11.drop 1).length) (c13 - 1)), (56, .slice A17 (bd.length) c18), (57, .int .u64 ((s0 : Nat) : Int)), (58, .bool (decide (9223372036854775807 < ((s0 : Nat) : Int)))), (59, .bool (decide (9223372036854775807 < ((s0 : Nat) : Int)))), (62, .bool ((decide (9223372036854775807 < ((s0 : Nat) : Int))) || (decide (1048576 < ((n0 : Nat) : Int))))), (63, .bool ((decide (9223372036854775807 < ((s0 : Nat) : Int))) || (decide (1048576 < ((n0 : Nat) : Int))))), (70, .bool (((decide (9223372036854775807 < ((s0 : Nat) : Int))) || (decide (1048576 < ((n0 : Nat) : Int)))) || (decide (((bd.length : Nat) : Int) ≠ ((n0 : Nat) : Int) * 9)))), (72, .slice A17 (bd.length) c18), (73, .func (.func 102) #[] #[.pointer (some ⟨kb23, 0, none⟩), .pointer (some ⟨bn24, 0, none⟩)]), (114, undef)]) ⟨rfl, rfl, rfl, rfl, rfl, rfl, rfl, rfl, rfl, rfl, rfl, rfl, rfl, rfl, rfl, rfl, rfl, rfl, rfl, rfl, rfl, rfl, rfl, rfl, rfl, rfl, rfl, rfl, rfl, rfl, rfl, rfl, rfl, rfl, rfl, rfl, rfl, rfl, rfl, rfl, rfl, rfl, rfl, rfl, rfl, rfl, rfl, rfl, rfl, rfl, rfl, rfl, rfl, rfl, trivial⟩
          refine wp_range (ι := Option Addr × Nat × Option Addr × Nat) (n := 114) (fun i ⟨Av, cv, Aw, cw⟩ => blk b1 (.cells #[.slice none 0 0, .slice none 0 0] 53) :: blk b2 (.cells #[.slice Av (((Oc.sof i bd).map Prod.fst).length) cv, .slice Aw (((Oc.sof i bd).map Prod.snd).length) cw] 53) :: row 22 1 (.slice Av (((Oc.sof i bd).map Prod.fst).length) cv) (((Oc.sof i bd).map Prod.fst).length) (u64s ((Oc.sof i bd).map Prod.fst)) :: row 4 1 (.slice Aw (((Oc.sof i bd).map Prod.snd).length) cw) (((Oc.sof i bd).map Prod.snd).length) (bools ((Oc.sof i bd).map Prod.snd)) :: row 5 1 (.slice A17 (bd.length) c18) (bd.length) (u8s bd) :: blk kb23 (.cells #[.slice A17 (bd.length) c18] 41) :: blk bn24 (.cells #[.int .i64 9] 3) :: fr) (fun i ⟨Av, cv, Aw, cw⟩ => True) [(0, .slice A n c), (2, .int .i64 0), (3, .pointer (some ⟨b1, 0, none⟩)), (4, .int .i64 0), (5, .pointer (some ⟨b2, 0, none⟩)), (6, .slice (some ⟨b15, 0, none⟩) l11.length c13), (8, .int .i64 (((Oc.all b).2 : Nat) : Int)), (9, .int .u64 ((s0 : Nat) : Int)), (11, .int .u64 ((n0 : Nat) : Int)), (13, .slice A17 (bd.length) c18), (19, .tuple #[.slice (some ⟨b15, 0, none⟩) l11.length c13, .int .i64 ((p14 : Nat) : Int), .int .i64 (((Oc.all b).2 : Nat) : Int)]), (20, .slice A n c), (21, .tuple #[.slice (some ⟨b15, 0, none⟩) l11.length c13, .int .i64 ((p14 : Nat) : Int), .int .i64 (((Oc.all b).2 : Nat) : Int)]), (22, .slice (some ⟨b15, 0, none⟩) l11.length c13), (23, .int .i64 ((p14 : Nat) : Int)), (24, .int .i64 (((Oc.all b).2 : Nat) : Int)), (25, .int .i64 (((Oc.all b).2 : Nat) : Int)), (26, .bool (decide ((((Oc.all b).2 : Nat) : Int) ≠ 0))), (29, .slice (some ⟨b15, 0, none⟩) l11.length c13), (30, .int .i64 ((l11.length : Nat) : Int)), (31, .bool false), (32, .bool false), (33, .slice (some ⟨b15, 0, none⟩) l11.length c13), (34, .pointer (some ⟨b15, 0 + 0 * 1, none⟩)), (35, .slice ((l11.getD 0 sl0).1) ((l11.getD 0 sl0).2.1) ((l11.getD 0 sl0).2.2)), (36, .int .i64 (((l11.getD 0 sl0).2.1 : Nat) : Int)), (37, .bool (decide ((((l11.getD 0 sl0).2.1 : Nat) : Int) ≠ 16))), (38, .bool (decide ((((l11.getD 0 sl0).2.1 : Nat) : Int) ≠ 16))), (40, .tuple #[.int .u64 (((Oc.get ((Oc.all b).1.getD 0 []) 0 8).1 : Nat) : Int), .bool ((Oc.get ((Oc.all b).1.getD 0 []) 0 8).2)]), (41, .slice (some ⟨b15, 0, none⟩) l11.length c13), (42, .pointer (some ⟨b15, 0 + 0 * 1, none⟩)), (43, .slice A0 (((Oc.all b).1.getD 0 []).length) c0), (44, .tuple #[.int .u64 (((Oc.get ((Oc.all b).1.getD 0 []) 0 8).1 : Nat) : Int), .bool ((Oc.get ((Oc.all b).1.getD 0 []) 0 8).2)]), (45, .int .u64 (((Oc.get ((Oc.all b).1.getD 0 []) 0 8).1 : Nat) : Int)), (46, .bool ((Oc.get ((Oc.all b).1.getD 0 []) 0 8).2)), (47, .tuple #[.int .u64 (((Oc.get ((Oc.all b).1.getD 0 []) 8 8).1 : Nat) : Int), .bool ((Oc.get ((Oc.all b).1.getD 0 []) 8 8).2)]), (48, .slice (some ⟨b15, 0, none⟩) l11.length c13), (49, .pointer (some ⟨b15, 0 + 0 * 1, none⟩)), (50, .slice A0 (((Oc.all b).1.getD 0 []).length) c0), (51, .tuple #[.int .u64 (((Oc.get ((Oc.all b).1.getD 0 []) 8 8).1 : Nat) : Int), .bool ((Oc.get ((Oc.all b).1.getD 0 []) 8 8).2)]), (52, .int .u64 (((Oc.get ((Oc.all b).1.getD 0 []) 8 8).1 : Nat) : Int)), (53, .bool ((Oc.get ((Oc.all b).1.getD 0 []) 8 8).2)), (54, .slice (some ⟨b15, 0, none⟩) l11.length c13), (55, .slice (shift (some ⟨b15, 0, none⟩) (1 * 1) (decide (c13 = 1))) ((l11.drop 1).length) (c13 - 1)), (56, .slice A17 (bd.length) c18), (57, .int .u64 ((s0 : Nat) : Int)), (58, .bool (decide (9223372036854775807 < ((s0 : Nat) : Int)))), (59, .bool (decide (9223372036854775807 < ((s0 : Nat) : Int)))), (62, .bool ((decide (9223372036854775807 < ((s0 : Nat) : Int))) || (decide (1048576 < ((n0 : Nat) : Int))))), (63, .bool ((decide (9223372036854775807 < ((s0 : Nat) : Int))) || (decide (1048576 < ((n0 : Nat) : Int))))), (70, .bool (((decide (9223372036854775807 < ((s0 : Nat) : Int))) || (decide (1048576 < ((n0 : Nat) : Int)))) || (decide (((bd.length : Nat) : Int) ≠ ((n0 : Nat) : Int) * 9)))), (72, .slice A17 (bd.length) c18), (73, .func (.func 102) #[] #[.pointer (some ⟨kb23, 0, none⟩), .pointer (some ⟨bn24, 0, none⟩)])] (fun x => [(74, .slice (some ⟨blk_, off_ + 9 * x, none⟩) 9 9)] ++ [(0, .slice A n c), (2, .int .i64 0), (3, .pointer (some ⟨b1, 0, none⟩)), (4, .int .i64 0), (5, .pointer (some ⟨b2, 0, none⟩)), (6, .slice (some ⟨b15, 0, none⟩) l11.length c13), (8, .int .i64 (((Oc.all b).2 : Nat) : Int)), (9, .int .u64 ((s0 : Nat) : Int)), (11, .int .u64 ((n0 : Nat) : Int)), (13, .slice A17 (bd.length) c18), (19, .tuple #[.slice (some ⟨b15, 0, none⟩) l11.length c13, .int .i64 ((p14 : Nat) : Int), .int .i64 (((Oc.all b).2 : Nat) : Int)]), (20, .slice A n c), (21, .tuple #[.slice (some ⟨b15, 0, none⟩) l11.length c13, .int .i64 ((p14 : Nat) : Int), .int .i64 (((Oc.all b).2 : Nat) : Int)]), (22, .slice (some ⟨b15, 0, none⟩) l11.length c13), (23, .int .i64 ((p14 : Nat) : Int)), (24, .int .i64 (((Oc.all b).2 : Nat) : Int)), (25, .int .i64 (((Oc.all b).2 : Nat) : Int)), (26, .bool (decide ((((Oc.all b).2 : Nat) : Int) ≠ 0))), (29, .slice (some ⟨b15, 0, none⟩) l11.length c13), (30, .int .i64 ((l11.length : Nat) : Int)), (31, .bool false), (32, .bool false), (33, .slice (some ⟨b15, 0, none⟩) l11.length c13), (34, .pointer (some ⟨b15, 0 + 0 * 1, none⟩)), (35, .slice ((l11.getD 0 sl0).1) ((l11.getD 0 sl0).2.1) ((l11.getD 0 sl0).2.2)), (36, .int .i64 (((l11.getD 0 sl0).2.1 : Nat) : Int)), (37, .bool (decide ((((l11.getD 0 sl0).2.1 : Nat) : Int) ≠ 16))), (38, .bool (decide ((((l11.getD 0 sl0).2.1 : Nat) : Int) ≠ 16))), (40, .tuple #[.int .u64 (((Oc.get ((Oc.all b).1.getD 0 []) 0 8).1 : Nat) : Int), .bool ((Oc.get ((Oc.all b).1.getD 0 []) 0 8).2)]), (41, .slice (some ⟨b15, 0, none⟩) l11.length c13), (42, .pointer (some ⟨b15, 0 + 0 * 1, none⟩)), (43, .slice A0 (((Oc.all b).1.getD 0 []).length) c0), (44, .tuple #[.int .u64 (((Oc.get ((Oc.all b).1.getD 0 []) 0 8).1 : Nat) : Int), .bool ((Oc.get ((Oc.all b).1.getD 0 []) 0 8).2)]), (45, .int .u64 (((Oc.get ((Oc.all b).1.getD 0 []) 0 8).1 : Nat) : Int)), (46, .bool ((Oc.get ((Oc.all b).1.getD 0 []) 0 8).2)), (47, .tuple #[.int .u64 (((Oc.get ((Oc.all b).1.getD 0 []) 8 8).1 : Nat) : Int), .bool ((Oc.get ((Oc.all b).1.getD 0 []) 8 8).2)]), (48, .slice (some ⟨b15, 0, none⟩) l11.length c13), (49, .pointer (some ⟨b15, 0 + 0 * 1, none⟩)), (50, .slice A0 (((Oc.all b).1.getD 0 []).length) c0), (51, .tuple #[.int .u64 (((Oc.get ((Oc.all b).1.getD 0 []) 8 8).1 : Nat) : Int), .bool ((Oc.get ((Oc.all b).1.getD 0 []) 8 8).2)]), (52, .int .u64 (((Oc.get ((Oc.all b).1.getD 0 []) 8 8).1 : Nat) : Int)), (53, .bool ((Oc.get ((Oc.all b).1.getD 0 []) 8 8).2)), (54, .slice (some ⟨b15, 0, none⟩) l11.length c13), (55, .slice (shift (some ⟨b15, 0, none⟩) (1 * 1) (decide (c13 = 1))) ((l11.drop 1).length) (c13 - 1)), (56, .slice A17 (bd.length) c18), (57, .int .u64 ((s0 : Nat) : Int)), (58, .bool (decide (9223372036854775807 < ((s0 : Nat) : Int)))), (59, .bool (decide (9223372036854775807 < ((s0 : Nat) : Int)))), (62, .bool ((decide (9223372036854775807 < ((s0 : Nat) : Int))) || (decide (1048576 < ((n0 : Nat) : Int))))), (63, .bool ((decide (9223372036854775807 < ((s0 : Nat) : Int))) || (decide (1048576 < ((n0 : Nat) : Int))))), (70, .bool (((decide (9223372036854775807 < ((s0 : Nat) : Int))) || (decide (1048576 < ((n0 : Nat) : Int)))) || (decide (((bd.length : Nat) : Int) ≠ ((n0 : Nat) : Int) * 9)))), (72, .slice A17 (bd.length) c18), (73, .func (.func 102) #[] #[.pointer (some ⟨kb23, 0, none⟩), .pointer (some ⟨bn24, 0, none⟩)]), (114, undef)]) S (none, 0, none, 0) (pk [8, 7, 1, 0, 4, 2, 3] 9 H) trivial rfl (enters_of Tryz.func102 (by kernel_rfl) rfl) (hit) (fun _ => rfl) ?_ (fun _ => rfl) (fun _ => rfl) (fun x => [(0, .slice A n c), (2, .int .i64 0), (3, .pointer (some ⟨b1, 0, none⟩)), (4, .int .i64 0), (5, .pointer (some ⟨b2, 0, none⟩)), (6, .slice (some ⟨b15, 0, none⟩) l11.length c13), (8, .int .i64 (((Oc.all b).2 : Nat) : Int)), (9, .int .u64 ((s0 : Nat) : Int)), (11, .int .u64 ((n0 : Nat) : Int)), (13, .slice A17 (bd.length) c18), (14, .slice (some ⟨blk_, off_ + 9 * x, none⟩) 9 9), (19, .tuple #[.slice (some ⟨b15, 0, none⟩) l11.length c13, .int .i64 ((p14 : Nat) : Int), .int .i64 (((Oc.all b).2 : Nat) : Int)]), (20, .slice A n c), (21, .tuple #[.slice (some ⟨b15, 0, none⟩) l11.length c13, .int .i64 ((p14 : Nat) : Int), .int .i64 (((Oc.all b).2 : Nat) : Int)]), (22, .slice (some ⟨b15, 0, none⟩) l11.length c13), (23, .int .i64 ((p14 : Nat) : Int)), (24, .int .i64 (((Oc.all b).2 : Nat) : Int)), (25, .int .i64 (((Oc.all b).2 : Nat) : Int)), (26, .bool (decide ((((Oc.all b).2 : Nat) : Int) ≠ 0))), (29, .slice (some ⟨b15, 0, none⟩) l11.length c13), (30, .int .i64 ((l11.length : Nat) : Int)), (31, .bool false), (32, .bool false), (33, .slice (some ⟨b15, 0, none⟩) l11.length c13), (34, .pointer (some ⟨b15, 0 + 0 * 1, none⟩)), (35, .slice ((l11.getD 0 sl0).1) ((l11.getD 0 sl0).2.1) ((l11.getD 0 sl0).2.2)), (36, .int .i64 (((l11.getD 0 sl0).2.1 : Nat) : Int)), (37, .bool (decide ((((l11.getD 0 sl0).2.1 : Nat) : Int) ≠ 16))), (38, .bool (decide ((((l11.getD 0 sl0).2.1 : Nat) : Int) ≠ 16))), (40, .tuple #[.int .u64 (((Oc.get ((Oc.all b).1.getD 0 []) 0 8).1 : Nat) : Int), .bool ((Oc.get ((Oc.all b).1.getD 0 []) 0 8).2)]), (41, .slice (some ⟨b15, 0, none⟩) l11.length c13), (42, .pointer (some ⟨b15, 0 + 0 * 1, none⟩)), (43, .slice A0 (((Oc.all b).1.getD 0 []).length) c0), (44, .tuple #[.int .u64 (((Oc.get ((Oc.all b).1.getD 0 []) 0 8).1 : Nat) : Int), .bool ((Oc.get ((Oc.all b).1.getD 0 []) 0 8).2)]), (45, .int .u64 (((Oc.get ((Oc.all b).1.getD 0 []) 0 8).1 : Nat) : Int)), (46, .bool ((Oc.get ((Oc.all b).1.getD 0 []) 0 8).2)), (47, .tuple #[.int .u64 (((Oc.get ((Oc.all b).1.getD 0 []) 8 8).1 : Nat) : Int), .bool ((Oc.get ((Oc.all b).1.getD 0 []) 8 8).2)]), (48, .slice (some ⟨b15, 0, none⟩) l11.length c13), (49, .pointer (some ⟨b15, 0 + 0 * 1, none⟩)), (50, .slice A0 (((Oc.all b).1.getD 0 []).length) c0), (51, .tuple #[.int .u64 (((Oc.get ((Oc.all b).1.getD 0 []) 8 8).1 : Nat) : Int), .bool ((Oc.get ((Oc.all b).1.getD 0 []) 8 8).2)]), (52, .int .u64 (((Oc.get ((Oc.all b).1.getD 0 []) 8 8).1 : Nat) : Int)), (53, .bool ((Oc.get ((Oc.all b).1.getD 0 []) 8 8).2)), (54, .slice (some ⟨b15, 0, none⟩) l11.length c13), (55, .slice (shift (some ⟨b15, 0, none⟩) (1 * 1) (decide (c13 = 1))) ((l11.drop 1).length) (c13 - 1)), (56, .slice A17 (bd.length) c18), (57, .int .u64 ((s0 : Nat) : Int)), (58, .bool (decide (9223372036854775807 < ((s0 : Nat) : Int)))), (59, .bool (decide (9223372036854775807 < ((s0 : Nat) : Int)))), (62, .bool ((decide (9223372036854775807 < ((s0 : Nat) : Int))) || (decide (1048576 < ((n0 : Nat) : Int))))), (63, .bool ((decide (9223372036854775807 < ((s0 : Nat) : Int))) || (decide (1048576 < ((n0 : Nat) : Int))))), (70, .bool (((decide (9223372036854775807 < ((s0 : Nat) : Int))) || (decide (1048576 < ((n0 : Nat) : Int)))) || (decide (((bd.length : Nat) : Int) ≠ ((n0 : Nat) : Int) * 9)))), (72, .slice A17 (bd.length) c18), (73, .func (.func 102) #[] #[.pointer (some ⟨kb23, 0, none⟩), .pointer (some ⟨bn24, 0, none⟩)]), (114, undef)]) ?_ ?_ rfl ⟨rfl, rfl, rfl, rfl, rfl, rfl, rfl, rfl, rfl, rfl, rfl, rfl, rfl, rfl, rfl, rfl, rfl, rfl, rfl, rfl, rfl, rfl, rfl, rfl, rfl, rfl, rfl, rfl, rfl, rfl, rfl, rfl, rfl, rfl, rfl, rfl, rfl, rfl, rfl, rfl, rfl, rfl, rfl, rfl, rfl, rfl, rfl, rfl, rfl, rfl, rfl, rfl, rfl, trivial⟩ rfl ?_
          · rintro i ⟨Av, cv, Aw, cw⟩ W hF H
            exact ⟨by have := (H.cellOf (i := 5) rfl).1 0; simpa using this, by have := (H.cellOf (i := 6) rfl).1 0; simpa using this⟩
          · rintro l D i ⟨Av, cv, Aw, cw⟩ x a w r hx hF S H
            replace S := S.sub (E' := [(0, .slice A n c), (2, .int .i64 0), (3, .pointer (some ⟨b1, 0, none⟩)), (4, .int .i64 0), (5, .pointer (some ⟨b2, 0, none⟩)), (6, .slice (some ⟨b15, 0, none⟩) l11.length c13), (8, .int .i64 (((Oc.all b).2 : Nat) : Int)), (9, .int .u64 ((s0 : Nat) : Int)), (11, .int .u64 ((n0 : Nat) : Int)), (13, .slice A17 (bd.length) c18), (19, .tuple #[.slice (some ⟨b15, 0, none⟩) l11.length c13, .int .i64 ((p14 : Nat) : Int), .int .i64 (((Oc.all b).2 : Nat) : Int)]), (20, .slice A n c), (21, .tuple #[.slice (some ⟨b15, 0, none⟩) l11.length c13, .int .i64 ((p14 : Nat) : Int), .int .i64 (((Oc.all b).2 : Nat) : Int)]), (22, .slice (some ⟨b15, 0, none⟩) l11.length c13), (23, .int .i64 ((p14 : Nat) : Int)), (24, .int .i64 (((Oc.all b).2 : Nat) : Int)), (25, .int .i64 (((Oc.all b).2 : Nat) : Int)), (26, .bool (decide ((((Oc.all b).2 : Nat) : Int) ≠ 0))), (29, .slice (some ⟨b15, 0, none⟩) l11.length c13), (30, .int .i64 ((l11.length : Nat) : Int)), (31, .bool false), (32, .bool false), (33, .slice (some ⟨b15, 0, none⟩) l11.length c13), (34, .pointer (some ⟨b15, 0 + 0 * 1, none⟩)), (35, .slice ((l11.getD 0 sl0).1) ((l11.getD 0 sl0).2.1) ((l11.getD 0 sl0).2.2)), (36, .int .i64 (((l11.getD 0 sl0).2.1 : Nat) : Int)), (37, .bool (decide ((((l11.getD 0 sl0).2.1 : Nat) : Int) ≠ 16))), (38, .bool (decide ((((l11.getD 0 sl0).2.1 : Nat) : Int) ≠ 16))), (40, .tuple #[.int .u64 (((Oc.get ((Oc.all b).1.getD 0 []) 0 8).1 : Nat) : Int), .bool ((Oc.get ((Oc.all b).1.getD 0 []) 0 8).2)]), (41, .slice (some ⟨b15, 0, none⟩) l11.length c13), (42, .pointer (some ⟨b15, 0 + 0 * 1, none⟩)), (43, .slice A0 (((Oc.all b).1.getD 0 []).length) c0), (44, .tuple #[.int .u64 (((Oc.get ((Oc.all b).1.getD 0 []) 0 8).1 : Nat) : Int), .bool ((Oc.get ((Oc.all b).1.getD 0 []) 0 8).2)]), (45, .int .u64 (((Oc.get ((Oc.all b).1.getD 0 []) 0 8).1 : Nat) : Int)), (46, .bool ((Oc.get ((Oc.all b).1.getD 0 []) 0 8).2)), (47, .tuple #[.int .u64 (((Oc.get ((Oc.all b).1.getD 0 []) 8 8).1 : Nat) : Int), .bool ((Oc.get ((Oc.all b).1.getD 0 []) 8 8).2)]), (48, .slice (some ⟨b15, 0, none⟩) l11.length c13), (49, .pointer (some ⟨b15, 0 + 0 * 1, none⟩)), (50, .slice A0 (((Oc.all b).1.getD 0 []).length) c0), (51, .tuple #[.int .u64 (((Oc.get ((Oc.all b).1.getD 0 []) 8 8).1 : Nat) : Int), .bool ((Oc.get ((Oc.all b).1.getD 0 []) 8 8).2)]), (52, .int .u64 (((Oc.get ((Oc.all b).1.getD 0 []) 8 8).1 : Nat) : Int)), (53, .bool ((Oc.get ((Oc.all b).1.getD 0 []) 8 8).2)), (54, .slice (some ⟨b15, 0, none⟩) l11.length c13), (55, .slice (shift (some ⟨b15, 0, none⟩) (1 * 1) (decide (c13 = 1))) ((l11.drop 1).length) (c13 - 1)), (56, .slice A17 (bd.length) c18), (57, .int .u64 ((s0 : Nat) : Int)), (58, .bool (decide (9223372036854775807 < ((s0 : Nat) : Int)))), (59, .bool (decide (9223372036854775807 < ((s0 : Nat) : Int)))), (62, .bool ((decide (9223372036854775807 < ((s0 : Nat) : Int))) || (decide (1048576 < ((n0 : Nat) : Int))))), (63, .bool ((decide (9223372036854775807 < ((s0 : Nat) : Int))) || (decide (1048576 < ((n0 : Nat) : Int))))), (70, .bool (((decide (9223372036854775807 < ((s0 : Nat) : Int))) || (decide (1048576 < ((n0 : Nat) : Int)))) || (decide (((bd.length : Nat) : Int) ≠ ((n0 : Nat) : Int) * 9)))), (72, .slice A17 (bd.length) c18), (73, .func (.func 102) #[] #[.pointer (some ⟨kb23, 0, none⟩), .pointer (some ⟨bn24, 0, none⟩)]), (74, .slice (some ⟨blk_, off_ + 9 * x, none⟩) 9 9), (114, undef)]) ⟨rfl, rfl, rfl, rfl, rfl, rfl, rfl, rfl, rfl, rfl, rfl, rfl, rfl, rfl, rfl, rfl, rfl, rfl, rfl, rfl, rfl, rfl, rfl, rfl, rfl, rfl, rfl, rfl, rfl, rfl, rfl, rfl, rfl, rfl, rfl, rfl, rfl, rfl, rfl, rfl, rfl, rfl, rfl, rfl, rfl, rfl, rfl, rfl, rfl, rfl, rfl, rfl, rfl, rfl, rfl, trivial⟩
            refine in_region ?_
            refine rn 1 S H t0 fun a w S H => ?_
            refine r_nil ?_
            refine x_then ?_
            exact ⟨S.sub ⟨rfl, rfl, rfl, rfl, rfl, rfl, rfl, rfl, rfl, rfl, rfl, rfl, rfl, rfl, rfl, rfl, rfl, rfl, rfl, rfl, rfl, rfl, rfl, rfl, rfl, rfl, rfl, rfl, rfl, rfl, rfl, rfl, rfl, rfl, rfl, rfl, rfl, rfl, rfl, rfl, rfl, rfl, rfl, rfl, rfl, rfl, rfl, rfl, rfl, rfl, rfl, rfl, rfl, rfl, rfl, trivial⟩, H⟩
          · rintro l D i ⟨Av, cv, Aw, cw⟩ x a w r hx hF S H
            have hil : i < n0 := by have := (List.getElem?_eq_some_iff.1 hx).1; simpa using this
            obtain rfl : i = x := by rw [List.getElem?_range hil] at hx; exact Option.some.inj hx
            have okp := okPart9 (SlOk.ofRow (i := 0) (pk [6] 9 H) rfl) (hA (by omega)) (i := i) (by omega)
            obtain ⟨s, hs⟩ : ∃ s : By, s = (bd.drop (9 * i)).take 9 := ⟨_, rfl⟩
            rw [← hs] at okp
            have hsl : s.length = 9 := by rw [hs]; simp; omega
            have hsfl := sof_len i bd
            replace S := S.sub (E' := [(5, .pointer (some ⟨b2, 0, none⟩)), (14, .slice (some ⟨blk_, off_ + 9 * i, none⟩) 9 9), (114, undef)]) ⟨rfl, rfl, rfl, trivial⟩
            replace H : Sat _ (blk D (.deferred (some [])) :: blk l (.loop r) :: blk b1 (.cells #[.slice none 0 0, .slice none 0 0] 53) :: blk b2 (.cells #[.slice Av (((Oc.sof i bd).map Prod.fst).length) cv, .slice Aw (((Oc.sof i bd).map Prod.snd).length) cw] 53) :: row 22 1 (.slice Av (((Oc.sof i bd).map Prod.fst).length) cv) (((Oc.sof i bd).map Prod.fst).length) (u64s ((Oc.sof i bd).map Prod.fst)) :: row 4 1 (.slice Aw (((Oc.sof i bd).map Prod.snd).length) cw) (((Oc.sof i bd).map Prod.snd).length) (bools ((Oc.sof i bd).map Prod.snd)) :: row 5 1 (.slice A17 (bd.length) c18) (bd.length) (u8s bd) :: blk kb23 (.cells #[.slice A17 (bd.length) c18] 41) :: blk bn24 (.cells #[.int .i64 9] 3) :: fr) := H
            refine in_block ?_
            refine in_seq ?_
            refine in_region ?_
            refine rn 1 S H t0 fun a w S H => ?_
            refine r_call (args := #[.slice (some ⟨blk_, off_ + 9 * i, none⟩) 9 9, .int .i64 0, .int .i64 8]) S rfl rfl Tryz.call73 (get_ct (H := H) _ _ _ _ _ s (okp.via fun _ H => pk [6] 9 H) 0 8 (by omega) (by omega) (by omega)) rfl rfl rfl fun v a w hR S => ?_
            obtain ⟨rfl, H⟩ := hR
            refine rn 5 S H t0 fun a w S H => ?_
            refine r_nil ?_
            refine x_then ?_
            refine haI [0, 1, 2, 6, 7, 8] 9 H fun w H HS => ?_
            refine tk 0 S HS fun a S => ?_
            refine tk 2 S HS fun a S => ?_
            refine tk 5 S HS fun a S => ?_
            refine tk 7 S HS fun a S => ?_
            refine tkY 8 S HS rfl (y_index S rfl rfl rfl Tryz.underlying41 Tryz.sizeOf5 (by omega) (by omega)) rfl rfl rfl fun a S => ?_
            refine tkY 9 S HS rfl (y_loadAt S rfl rfl Tryz.isAgg5 (fun w H => (okp.via fun _ H => pk [3] 6 H).cell w H (u8s_at (i := 8) (by first | omega | (simp <;> omega))))) rfl rfl rfl fun a S => ?_
            refine tk 10 S HS fun a S => ?_
            refine hmemo [true, true, true, true, true, true, true, true, true, true, true, true, true, true, false, false, false] 3 (fun a w => ∃ b25 : Nat, ∃ A26 : Option Addr, ∃ c27 : Nat, ∃ b28 : Nat, ∃ A29 : Option Addr, ∃ c30 : Nat, Slots a 114 [(5, .pointer (some ⟨b2, 0, none⟩)), (14, .slice (some ⟨blk_, off_ + 9 * i, none⟩) 9 9), (75, .tuple #[.int .u64 (((Oc.get s 0 8).1 : Nat) : Int), .bool ((Oc.get s 0 8).2)]), (76, .slice (some ⟨blk_, off_ + 9 * i, none⟩) 9 9), (77, .tuple #[.int .u64 (((Oc.get s 0 8).1 : Nat) : Int), .bool ((Oc.get s 0 8).2)]), (78, .int .u64 (((Oc.get s 0 8).1 : Nat) : Int)), (79, .bool ((Oc.get s 0 8).2)), (84, .slice A26 (((Oc.sof i bd).map Prod.fst).length + 1) c27), (92, .slice A29 (((Oc.sof i bd).map Prod.snd).length + 1) c30), (93, .pointer (some ⟨b2, 0, none⟩)), (114, undef)] ∧ Sat w (row 4 1 (.slice (some ⟨b28, 0, none⟩) 1 1) 1 (bools [decide (((s.getD 8 0).toNat : Int) = 1)]) :: row 22 1 (.slice (some ⟨b25, 0, none⟩) 1 1) 1 (u64s [((Oc.get s 0 8).1)]) :: blk D (.deferred (some [])) :: blk l (.loop r) :: blk b1 (.cells #[.slice none 0 0, .slice none 0 0] 53) :: blk b2 (.cells #[.slice Av (((Oc.sof i bd).map Prod.fst).length) cv, .slice Aw (((Oc.sof i bd).map Prod.snd).length) cw] 53) :: row 22 1 (.slice A26 (((Oc.sof i bd).map Prod.fst).length + 1) c27) (((Oc.sof i bd).map Prod.fst).length + 1) (u64s (((Oc.sof i bd).map Prod.fst) ++ ([((Oc.get s 0 8).1)]))) :: row 4 1 (.slice A29 (((Oc.sof i bd).map Prod.snd).length + 1) c30) (((Oc.sof i bd).map Prod.snd).length + 1) (bools (((Oc.sof i bd).map Prod.snd) ++ ([decide (((s.getD 8 0).toNat : Int) = 1)]))) :: row 5 1 (.slice A17 (bd.length) c18) (bd.length) (u8s bd) :: blk kb23 (.cells #[.slice A17 (bd.length) c18] 41) :: blk bn24 (.cells #[.int .i64 9] 3) :: fr)) ?_ fun K0 => ?_
            · rintro a w ⟨b25, A26, c27, b28, A29, c30, S, H⟩
              have HS : Sat w _ := pk [2, 3, 4, 8, 9, 10] 11 H
              refine h1 14 ?_
              refine rs 1 S H t0 fun a w S H => ?_
              refine hk (pk [2, 3, 4, 8, 9, 10] 11 H) fun HS => ?_
              refine tk 15 S HS fun a S => ?_
              refine h1 16 ?_
              refine rs 1 S H t0 fun a w S H => ?_
              refine hk (pk [2, 3, 4, 8, 9, 10] 11 H) fun HS => ?_
              refine hz ?_
              refine x_blockEnd ?_
              refine x_then ?_
              have e1 : ((Oc.sof i bd).map Prod.fst) ++ ([((Oc.get s 0 8).1)]) = (Oc.sof (i + 1) bd).map Prod.fst := by rw [sof_fst, get9 hsl, hs, List.take_take]; rfl
              have e2 : ((Oc.sof i bd).map Prod.snd) ++ ([decide (((s.getD 8 0).toNat : Int) = 1)]) = (Oc.sof (i + 1) bd).map Prod.snd := by rw [sof_snd, hs]; exact congrArg (_ ++ [·]) (live9 _ _)
              have n1 : ((Oc.sof i bd).map Prod.fst).length + 1 = ((Oc.sof (i + 1) bd).map Prod.fst).length := by rw [← e1]; simp
              have n2 : ((Oc.sof i bd).map Prod.snd).length + 1 = ((Oc.sof (i + 1) bd).map Prod.snd).length := by rw [← e2]; simp
              have H := pk [2, 3, 4, 5, 6, 7, 8, 9, 10] 11 H
              rw [e1, e2, n1, n2] at H
              exact ⟨(A26, c27, A29, c30), H, trivial⟩
            refine hmemo [true, true, true, true, true, true, true, true, true, true, true, true, false, false, false, false, false] 5 (fun a w => ∃ b25 : Nat, ∃ A26 : Option Addr, ∃ c27 : Nat, ∃ b31 : Nat, Slots a 114 [(5, .pointer (some ⟨b2, 0, none⟩)), (14, .slice (some ⟨blk_, off_ + 9 * i, none⟩) 9 9), (75, .tuple #[.int .u64 (((Oc.get s 0 8).1 : Nat) : Int), .bool ((Oc.get s 0 8).2)]), (76, .slice (some ⟨blk_, off_ + 9 * i, none⟩) 9 9), (77, .tuple #[.int .u64 (((Oc.get s 0 8).1 : Nat) : Int), .bool ((Oc.get s 0 8).2)]), (78, .int .u64 (((Oc.get s 0 8).1 : Nat) : Int)), (79, .bool ((Oc.get s 0 8).2)), (84, .slice A26 (((Oc.sof i bd).map Prod.fst).length + 1) c27), (86, .slice Aw (((Oc.sof i bd).map Prod.snd).length) cw), (91, .slice (some ⟨b31, 0, none⟩) 1 1), (114, undef)] ∧ Sat w (row 4 1 (.slice (some ⟨b31, 0, none⟩) 1 1) 1 (bools [decide (((s.getD 8 0).toNat : Int) = 1)]) :: row 22 1 (.slice (some ⟨b25, 0, none⟩) 1 1) 1 (u64s [((Oc.get s 0 8).1)]) :: blk D (.deferred (some [])) :: blk l (.loop r) :: blk b1 (.cells #[.slice none 0 0, .slice none 0 0] 53) :: blk b2 (.cells #[.slice Av (((Oc.sof i bd).map Prod.fst).length) cv, .slice Aw (((Oc.sof i bd).map Prod.snd).length) cw] 53) :: row 22 1 (.slice A26 (((Oc.sof i bd).map Prod.fst).length + 1) c27) (((Oc.sof i bd).map Prod.fst).length + 1) (u64s (((Oc.sof i bd).map Prod.fst) ++ ([((Oc.get s 0 8).1)]))) :: row 4 1 (.slice Aw (((Oc.sof i bd).map Prod.snd).length) cw) (((Oc.sof i bd).map Prod.snd).length) (bools ((Oc.sof i bd).map Prod.snd)) :: row 5 1 (.slice A17 (bd.length) c18) (bd.length) (u8s bd) :: blk kb23 (.cells #[.slice A17 (bd.length) c18] 41) :: blk bn24 (.cells #[.int .i64 9] 3) :: fr)) ?_ fun K1 => ?_
            · rintro a w ⟨b25, A26, c27, b31, S, H⟩
              have HS : Sat w _ := pk [2, 3, 4, 8, 9, 10] 11 H
              refine tk 13 S HS fun a S => ?_
              refine h1 12 ?_
              refine r_appendS (L' := fun A55 c56 => row 4 1 (.slice (some ⟨b31, 0, none⟩) 1 1) 1 (bools [decide (((s.getD 8 0).toNat : Int) = 1)]) :: row 22 1 (.slice (some ⟨b25, 0, none⟩) 1 1) 1 (u64s [((Oc.get s 0 8).1)]) :: blk D (.deferred (some [])) :: blk l (.loop r) :: blk b1 (.cells #[.slice none 0 0, .slice none 0 0] 53) :: blk b2 (.cells #[.slice Av (((Oc.sof i bd).map Prod.fst).length) cv, .slice Aw (((Oc.sof i bd).map Prod.snd).length) cw] 53) :: row 22 1 (.slice A26 (((Oc.sof i bd).map Prod.fst).length + 1) c27) (((Oc.sof i bd).map Prod.fst).length + 1) (u64s (((Oc.sof i bd).map Prod.fst) ++ ([((Oc.get s 0 8).1)]))) :: row 4 1 (.slice A55 (((Oc.sof i bd).map Prod.snd).length + 1) c56) (((Oc.sof i bd).map Prod.snd).length + 1) (bools (((Oc.sof i bd).map Prod.snd) ++ ([decide (((s.getD 8 0).toNat : Int) = 1)]))) :: row 5 1 (.slice A17 (bd.length) c18) (bd.length) (u8s bd) :: blk kb23 (.cells #[.slice A17 (bd.length) c18] 41) :: blk bn24 (.cells #[.int .i64 9] 3) :: fr) (xs' := bools (((Oc.sof i bd).map Prod.snd) ++ ([decide (((s.getD 8 0).toNat : Int) = 1)]))) 7 S H rfl rfl rfl rfl el51 (SlOk.ofRow (i := 0) H rfl) (one_bools _) (by simp only [maxLen]; first | omega | (simp <;> omega)) (by first | omega | (simp <;> omega)) (bools_app ((Oc.sof i bd).map Prod.snd) ([decide (((s.getD 8 0).toNat : Int) = 1)])) (by first | omega | (simp <;> omega)) (fun _ _ => rfl) rfl rfl rfl fun a w A55 c56 hA55 S H => ?_
              refine sn ?_
              refine hk (pk [2, 3, 4, 8, 9, 10] 11 H) fun HS => ?_
              exact K0 _ _ ⟨_, _, _, _, _, _, S.sub ⟨rfl, rfl, rfl, rfl, rfl, rfl, rfl, rfl, rfl, rfl, rfl, trivial⟩, H⟩
            refine hmemo [true, true, true, true, true, true, true, true, true, true, true, false, false, false, false, false, false] 6 (fun a w => ∃ b25 : Nat, ∃ A26 : Option Addr, ∃ c27 : Nat, Slots a 114 [(5, .pointer (some ⟨b2, 0, none⟩)), (14, .slice (some ⟨blk_, off_ + 9 * i, none⟩) 9 9), (75, .tuple #[.int .u64 (((Oc.get s 0 8).1 : Nat) : Int), .bool ((Oc.get s 0 8).2)]), (76, .slice (some ⟨blk_, off_ + 9 * i, none⟩) 9 9), (77, .tuple #[.int .u64 (((Oc.get s 0 8).1 : Nat) : Int), .bool ((Oc.get s 0 8).2)]), (78, .int .u64 (((Oc.get s 0 8).1 : Nat) : Int)), (79, .bool ((Oc.get s 0 8).2)), (84, .slice A26 (((Oc.sof i bd).map Prod.fst).length + 1) c27), (86, .slice Aw (((Oc.sof i bd).map Prod.snd).length) cw), (90, .bool (decide (((s.getD 8 0).toNat : Int) = 1))), (114, undef)] ∧ Sat w (row 22 1 (.slice (some ⟨b25, 0, none⟩) 1 1) 1 (u64s [((Oc.get s 0 8).1)]) :: blk D (.deferred (some [])) :: blk l (.loop r) :: blk b1 (.cells #[.slice none 0 0, .slice none 0 0] 53) :: blk b2 (.cells #[.slice Av (((Oc.sof i bd).map Prod.fst).length) cv, .slice Aw (((Oc.sof i bd).map Prod.snd).length) cw] 53) :: row 22 1 (.slice A26 (((Oc.sof i bd).map Prod.fst).length + 1) c27) (((Oc.sof i bd).map Prod.fst).length + 1) (u64s (((Oc.sof i bd).map Prod.fst) ++ ([((Oc.get s 0 8).1)]))) :: row 4 1 (.slice Aw (((Oc.sof i bd).map Prod.snd).length) cw) (((Oc.sof i bd).map Prod.snd).length) (bools ((Oc.sof i bd).map Prod.snd)) :: row 5 1 (.slice A17 (bd.length) c18) (bd.length) (u8s bd) :: blk kb23 (.cells #[.slice A17 (bd.length) c18] 41) :: blk bn24 (.cells #[.int .i64 9] 3) :: fr)) ?_ fun K2 => ?_
            · rintro a w ⟨b25, A26, c27, S, H⟩
              have HS : Sat w _ := pk [1, 2, 3, 7, 8, 9] 10 H
              refine tk 13 S HS fun a S => ?_
              refine h1 11 ?_
              refine r_lit (vs := #[(0, .bool (decide (((s.getD 8 0).toNat : Int) = 1)))]) (cs := bools [decide (((s.getD 8 0).toNat : Int) = 1)]) S H rfl rfl el51 (by kernel_rfl) (by decide) (by rfl) rfl rfl rfl fun a w b57 S H => ?_
              refine sn ?_
              refine hk (pk [2, 3, 4, 8, 9, 10] 11 H) fun HS => ?_
              refine h1 12 ?_
              refine r_appendS (L' := fun A58 c59 => row 4 1 (.slice (some ⟨b57, 0, none⟩) 1 1) 1 (bools [decide (((s.getD 8 0).toNat : Int) = 1)]) :: row 22 1 (.slice (some ⟨b25, 0, none⟩) 1 1) 1 (u64s [((Oc.get s 0 8).1)]) :: blk D (.deferred (some [])) :: blk l (.loop r) :: blk b1 (.cells #[.slice none 0 0, .slice none 0 0] 53) :: blk b2 (.cells #[.slice Av (((Oc.sof i bd).map Prod.fst).length) cv, .slice Aw (((Oc.sof i bd).map Prod.snd).length) cw] 53) :: row 22 1 (.slice A26 (((Oc.sof i bd).map Prod.fst).length + 1) c27) (((Oc.sof i bd).map Prod.fst).length + 1) (u64s (((Oc.sof i bd).map Prod.fst) ++ ([((Oc.get s 0 8).1)]))) :: row 4 1 (.slice A58 (((Oc.sof i bd).map Prod.snd).length + 1) c59) (((Oc.sof i bd).map Prod.snd).length + 1) (bools (((Oc.sof i bd).map Prod.snd) ++ ([decide (((s.getD 8 0).toNat : Int) = 1)]))) :: row 5 1 (.slice A17 (bd.length) c18) (bd.length) (u8s bd) :: blk kb23 (.cells #[.slice A17 (bd.length) c18] 41) :: blk bn24 (.cells #[.int .i64 9] 3) :: fr) (xs' := bools (((Oc.sof i bd).map Prod.snd) ++ ([decide (((s.getD 8 0).toNat : Int) = 1)]))) 7 S H rfl rfl rfl rfl el51 (SlOk.ofRow (i := 0) H rfl) (one_bools _) (by simp only [maxLen]; first | omega | (simp <;> omega)) (by first | omega | (simp <;> omega)) (bools_app ((Oc.sof i bd).map Prod.snd) ([decide (((s.getD 8 0).toNat : Int) = 1)])) (by first | omega | (simp <;> omega)) (fun _ _ => rfl) rfl rfl rfl fun a w A58 c59 hA58 S H => ?_
              refine sn ?_
              refine hk (pk [2, 3, 4, 8, 9, 10] 11 H) fun HS => ?_
              exact K0 _ _ ⟨_, _, _, _, _, _, S.sub ⟨rfl, rfl, rfl, rfl, rfl, rfl, rfl, rfl, rfl, rfl, rfl, trivial⟩, H⟩
            refine hmemo [true, true, true, true, true, true, false, true, true, true, true, true, false, false, false, false, false] 6 (fun a w => ∃ b25 : Nat, ∃ A26 : Option Addr, ∃ c27 : Nat, ∃ b31 : Nat, Slots a 114 [(5, .pointer (some ⟨b2, 0, none⟩)), (14, .slice (some ⟨blk_, off_ + 9 * i, none⟩) 9 9), (75, .tuple #[.int .u64 (((Oc.get s 0 8).1 : Nat) : Int), .bool ((Oc.get s 0 8).2)]), (76, .slice (some ⟨blk_, off_ + 9 * i, none⟩) 9 9), (77, .tuple #[.int .u64 (((Oc.get s 0 8).1 : Nat) : Int), .bool ((Oc.get s 0 8).2)]), (78, .int .u64 (((Oc.get s 0 8).1 : Nat) : Int)), (79, .bool ((Oc.get s 0 8).2)), (84, .slice A26 (((Oc.sof i bd).map Prod.fst).length + 1) c27), (85, .pointer (some ⟨b2, 1, none⟩)), (91, .slice (some ⟨b31, 0, none⟩) 1 1), (114, undef)] ∧ Sat w (row 4 1 (.slice (some ⟨b31, 0, none⟩) 1 1) 1 (bools [decide (((s.getD 8 0).toNat : Int) = 1)]) :: row 22 1 (.slice (some ⟨b25, 0, none⟩) 1 1) 1 (u64s [((Oc.get s 0 8).1)]) :: blk D (.deferred (some [])) :: blk l (.loop r) :: blk b1 (.cells #[.slice none 0 0, .slice none 0 0] 53) :: blk b2 (.cells #[.slice Av (((Oc.sof i bd).map Prod.fst).length) cv, .slice Aw (((Oc.sof i bd).map Prod.snd).length) cw] 53) :: row 22 1 (.slice A26 (((Oc.sof i bd).map Prod.fst).length + 1) c27) (((Oc.sof i bd).map Prod.fst).length + 1) (u64s (((Oc.sof i bd).map Prod.fst) ++ ([((Oc.get s 0 8).1)]))) :: row 4 1 (.slice Aw (((Oc.sof i bd).map Prod.snd).length) cw) (((Oc.sof i bd).map Prod.snd).length) (bools ((Oc.sof i bd).map Prod.snd)) :: row 5 1 (.slice A17 (bd.length) c18) (bd.length) (u8s bd) :: blk kb23 (.cells #[.slice A17 (bd.length) c18] 41) :: blk bn24 (.cells #[.int .i64 9] 3) :: fr)) ?_ fun K3 => ?_
            · rintro a w ⟨b25, A26, c27, b31, S, H⟩
              have HS : Sat w _ := pk [2, 3, 4, 8, 9, 10] 11 H
              refine h1 6 ?_
              refine rs 1 S H t0 fun a w S H => ?_
              refine hk (pk [2, 3, 4, 8, 9, 10] 11 H) fun HS => ?_
              exact K1 _ _ ⟨_, _, _, _, S.sub ⟨rfl, rfl, rfl, rfl, rfl, rfl, rfl, rfl, rfl, rfl, rfl, trivial⟩, H⟩
            refine hmemo [true, true, true, true, false, true, true, true, true, true, true, true, false, false, false, false, false] 6 (fun a w => ∃ b25 : Nat, ∃ b36 : Nat, Slots a 114 [(5, .pointer (some ⟨b2, 0, none⟩)), (14, .slice (some ⟨blk_, off_ + 9 * i, none⟩) 9 9), (75, .tuple #[.int .u64 (((Oc.get s 0 8).1 : Nat) : Int), .bool ((Oc.get s 0 8).2)]), (76, .slice (some ⟨blk_, off_ + 9 * i, none⟩) 9 9), (77, .tuple #[.int .u64 (((Oc.get s 0 8).1 : Nat) : Int), .bool ((Oc.get s 0 8).2)]), (78, .int .u64 (((Oc.get s 0 8).1 : Nat) : Int)), (79, .bool ((Oc.get s 0 8).2)), (81, .slice Av (((Oc.sof i bd).map Prod.fst).length) cv), (83, .slice (some ⟨b25, 0, none⟩) 1 1), (86, .slice Aw (((Oc.sof i bd).map Prod.snd).length) cw), (91, .slice (some ⟨b36, 0, none⟩) 1 1), (114, undef)] ∧ Sat w (row 4 1 (.slice (some ⟨b36, 0, none⟩) 1 1) 1 (bools [decide (((s.getD 8 0).toNat : Int) = 1)]) :: row 22 1 (.slice (some ⟨b25, 0, none⟩) 1 1) 1 (u64s [((Oc.get s 0 8).1)]) :: blk D (.deferred (some [])) :: blk l (.loop r) :: blk b1 (.cells #[.slice none 0 0, .slice none 0 0] 53) :: blk b2 (.cells #[.slice Av (((Oc.sof i bd).map Prod.fst).length) cv, .slice Aw (((Oc.sof i bd).map Prod.snd).length) cw] 53) :: row 22 1 (.slice Av (((Oc.sof i bd).map Prod.fst).length) cv) (((Oc.sof i bd).map Prod.fst).length) (u64s ((Oc.sof i bd).map Prod.fst)) :: row 4 1 (.slice Aw (((Oc.sof i bd).map Prod.snd).length) cw) (((Oc.sof i bd).map Prod.snd).length) (bools ((Oc.sof i bd).map Prod.snd)) :: row 5 1 (.slice A17 (bd.length) c18) (bd.length) (u8s bd) :: blk kb23 (.cells #[.slice A17 (bd.length) c18] 41) :: blk bn24 (.cells #[.int .i64 9] 3) :: fr)) ?_ fun K4 => ?_
            · rintro a w ⟨b25, b36, S, H⟩
              have HS : Sat w _ := pk [2, 3, 4, 8, 9, 10] 11 H
              refine h1 4 ?_
              refine r_appendS (L' := fun A60 c61 => row 4 1 (.slice (some ⟨b36, 0, none⟩) 1 1) 1 (bools [decide (((s.getD 8 0).toNat : Int) = 1)]) :: row 22 1 (.slice (some ⟨b25, 0, none⟩) 1 1) 1 (u64s [((Oc.get s 0 8).1)]) :: blk D (.deferred (some [])) :: blk l (.loop r) :: blk b1 (.cells #[.slice none 0 0, .slice none 0 0] 53) :: blk b2 (.cells #[.slice Av (((Oc.sof i bd).map Prod.fst).length) cv, .slice Aw (((Oc.sof i bd).map Prod.snd).length) cw] 53) :: row 22 1 (.slice A60 (((Oc.sof i bd).map Prod.fst).length + 1) c61) (((Oc.sof i bd).map Prod.fst).length + 1) (u64s (((Oc.sof i bd).map Prod.fst) ++ ([((Oc.get s 0 8).1)]))) :: row 4 1 (.slice Aw (((Oc.sof i bd).map Prod.snd).length) cw) (((Oc.sof i bd).map Prod.snd).length) (bools ((Oc.sof i bd).map Prod.snd)) :: row 5 1 (.slice A17 (bd.length) c18) (bd.length) (u8s bd) :: blk kb23 (.cells #[.slice A17 (bd.length) c18] 41) :: blk bn24 (.cells #[.int .i64 9] 3) :: fr) (xs' := u64s (((Oc.sof i bd).map Prod.fst) ++ ([((Oc.get s 0 8).1)]))) 6 S H rfl rfl rfl rfl el50 (SlOk.ofRow (i := 1) H rfl) (one_u64s _) (by simp only [maxLen]; first | omega | (simp <;> omega)) (by first | omega | (simp <;> omega)) (u64s_app ((Oc.sof i bd).map Prod.fst) ([((Oc.get s 0 8).1)])) (by first | omega | (simp <;> omega)) (fun _ _ => rfl) rfl rfl rfl fun a w A60 c61 hA60 S H => ?_
              refine sn ?_
              refine hk (pk [2, 3, 4, 8, 9, 10] 11 H) fun HS => ?_
              exact K1 _ _ ⟨_, _, _, _, S.sub ⟨rfl, rfl, rfl, rfl, rfl, rfl, rfl, rfl, rfl, rfl, rfl, trivial⟩, H⟩
            refine hmemo [true, true, true, true, false, true, true, true, true, true, true, false, false, false, false, false, false] 7 (fun a w => ∃ b25 : Nat, Slots a 114 [(5, .pointer (some ⟨b2, 0, none⟩)), (14, .slice (some ⟨blk_, off_ + 9 * i, none⟩) 9 9), (75, .tuple #[.int .u64 (((Oc.get s 0 8).1 : Nat) : Int), .bool ((Oc.get s 0 8).2)]), (76, .slice (some ⟨blk_, off_ + 9 * i, none⟩) 9 9), (77, .tuple #[.int .u64 (((Oc.get s 0 8).1 : Nat) : Int), .bool ((Oc.get s 0 8).2)]), (78, .int .u64 (((Oc.get s 0 8).1 : Nat) : Int)), (79, .bool ((Oc.get s 0 8).2)), (81, .slice Av (((Oc.sof i bd).map Prod.fst).length) cv), (83, .slice (some ⟨b25, 0, none⟩) 1 1), (86, .slice Aw (((Oc.sof i bd).map Prod.snd).length) cw), (90, .bool (decide (((s.getD 8 0).toNat : Int) = 1))), (114, undef)] ∧ Sat w (row 22 1 (.slice (some ⟨b25, 0, none⟩) 1 1) 1 (u64s [((Oc.get s 0 8).1)]) :: blk D (.deferred (some [])) :: blk l (.loop r) :: blk b1 (.cells #[.slice none 0 0, .slice none 0 0] 53) :: blk b2 (.cells #[.slice Av (((Oc.sof i bd).map Prod.fst).length) cv, .slice Aw (((Oc.sof i bd).map Prod.snd).length) cw] 53) :: row 22 1 (.slice Av (((Oc.sof i bd).map Prod.fst).length) cv) (((Oc.sof i bd).map Prod.fst).length) (u64s ((Oc.sof i bd).map Prod.fst)) :: row 4 1 (.slice Aw (((Oc.sof i bd).map Prod.snd).length) cw) (((Oc.sof i bd).map Prod.snd).length) (bools ((Oc.sof i bd).map Prod.snd)) :: row 5 1 (.slice A17 (bd.length) c18) (bd.length) (u8s bd) :: blk kb23 (.cells #[.slice A17 (bd.length) c18] 41) :: blk bn24 (.cells #[.int .i64 9] 3) :: fr)) ?_ fun K5 => ?_
            · rintro a w ⟨b25, S, H⟩
              have HS : Sat w _ := pk [1, 2, 3, 7, 8, 9] 10 H
              refine h2 4 11 ?_ ?_
              · skip
                refine r_appendS (L' := fun A62 c63 => row 22 1 (.slice (some ⟨b25, 0, none⟩) 1 1) 1 (u64s [((Oc.get s 0 8).1)]) :: blk D (.deferred (some [])) :: blk l (.loop r) :: blk b1 (.cells #[.slice none 0 0, .slice none 0 0] 53) :: blk b2 (.cells #[.slice Av (((Oc.sof i bd).map Prod.fst).length) cv, .slice Aw (((Oc.sof i bd).map Prod.snd).length) cw] 53) :: row 22 1 (.slice A62 (((Oc.sof i bd).map Prod.fst).length + 1) c63) (((Oc.sof i bd).map Prod.fst).length + 1) (u64s (((Oc.sof i bd).map Prod.fst) ++ ([((Oc.get s 0 8).1)]))) :: row 4 1 (.slice Aw (((Oc.sof i bd).map Prod.snd).length) cw) (((Oc.sof i bd).map Prod.snd).length) (bools ((Oc.sof i bd).map Prod.snd)) :: row 5 1 (.slice A17 (bd.length) c18) (bd.length) (u8s bd) :: blk kb23 (.cells #[.slice A17 (bd.length) c18] 41) :: blk bn24 (.cells #[.int .i64 9] 3) :: fr) (xs' := u64s (((Oc.sof i bd).map Prod.fst) ++ ([((Oc.get s 0 8).1)]))) 5 S H rfl rfl rfl rfl el50 (SlOk.ofRow (i := 0) H rfl) (one_u64s _) (by simp only [maxLen]; first | omega | (simp <;> omega)) (by first | omega | (simp <;> omega)) (u64s_app ((Oc.sof i bd).map Prod.fst) ([((Oc.get s 0 8).1)])) (by first | omega | (simp <;> omega)) (fun _ _ => rfl) rfl rfl rfl fun a w A62 c63 hA62 S H => ?_
                refine sn ?_
                refine hk (pk [1, 2, 3, 7, 8, 9] 10 H) fun HS => ?_
                exact K2 _ _ ⟨_, _, _, S.sub ⟨rfl, rfl, rfl, rfl, rfl, rfl, rfl, rfl, rfl, rfl, rfl, trivial⟩, H⟩
              · skip
                refine r_lit (vs := #[(0, .bool (decide (((s.getD 8 0).toNat : Int) = 1)))]) (cs := bools [decide (((s.getD 8 0).toNat : Int) = 1)]) S H rfl rfl el51 (by kernel_rfl) (by decide) (by rfl) rfl rfl rfl fun a w b64 S H => ?_
                refine sn ?_
                refine hk (pk [2, 3, 4, 8, 9, 10] 11 H) fun HS => ?_
                exact K4 _ _ ⟨_, _, S.sub ⟨rfl, rfl, rfl, rfl, rfl, rfl, rfl, rfl, rfl, rfl, rfl, rfl, trivial⟩, H⟩
            refine hmemo [true, true, true, true, false, true, false, true, true, true, true, true, false, false, false, false, false] 7 (fun a w => ∃ b25 : Nat, ∃ b39 : Nat, Slots a 114 [(5, .pointer (some ⟨b2, 0, none⟩)), (14, .slice (some ⟨blk_, off_ + 9 * i, none⟩) 9 9), (75, .tuple #[.int .u64 (((Oc.get s 0 8).1 : Nat) : Int), .bool ((Oc.get s 0 8).2)]), (76, .slice (some ⟨blk_, off_ + 9 * i, none⟩) 9 9), (77, .tuple #[.int .u64 (((Oc.get s 0 8).1 : Nat) : Int), .bool ((Oc.get s 0 8).2)]), (78, .int .u64 (((Oc.get s 0 8).1 : Nat) : Int)), (79, .bool ((Oc.get s 0 8).2)), (81, .slice Av (((Oc.sof i bd).map Prod.fst).length) cv), (83, .slice (some ⟨b25, 0, none⟩) 1 1), (85, .pointer (some ⟨b2, 1, none⟩)), (91, .slice (some ⟨b39, 0, none⟩) 1 1), (114, undef)] ∧ Sat w (row 4 1 (.slice (some ⟨b39, 0, none⟩) 1 1) 1 (bools [decide (((s.getD 8 0).toNat : Int) = 1)]) :: row 22 1 (.slice (some ⟨b25, 0, none⟩) 1 1) 1 (u64s [((Oc.get s 0 8).1)]) :: blk D (.deferred (some [])) :: blk l (.loop r) :: blk b1 (.cells #[.slice none 0 0, .slice none 0 0] 53) :: blk b2 (.cells #[.slice Av (((Oc.sof i bd).map Prod.fst).length) cv, .slice Aw (((Oc.sof i bd).map Prod.snd).length) cw] 53) :: row 22 1 (.slice Av (((Oc.sof i bd).map Prod.fst).length) cv) (((Oc.sof i bd).map Prod.fst).length) (u64s ((Oc.sof i bd).map Prod.fst)) :: row 4 1 (.slice Aw (((Oc.sof i bd).map Prod.snd).length) cw) (((Oc.sof i bd).map Prod.snd).length) (bools ((Oc.sof i bd).map Prod.snd)) :: row 5 1 (.slice A17 (bd.length) c18) (bd.length) (u8s bd) :: blk kb23 (.cells #[.slice A17 (bd.length) c18] 41) :: blk bn24 (.cells #[.int .i64 9] 3) :: fr)) ?_ fun K6 => ?_
            · rintro a w ⟨b25, b39, S, H⟩
              have HS : Sat w _ := pk [2, 3, 4, 8, 9, 10] 11 H
              refine h2 4 6 ?_ ?_
              · skip
                refine r_appendS (L' := fun A65 c66 => row 4 1 (.slice (some ⟨b39, 0, none⟩) 1 1) 1 (bools [decide (((s.getD 8 0).toNat : Int) = 1)]) :: row 22 1 (.slice (some ⟨b25, 0, none⟩) 1 1) 1 (u64s [((Oc.get s 0 8).1)]) :: blk D (.deferred (some [])) :: blk l (.loop r) :: blk b1 (.cells #[.slice none 0 0, .slice none 0 0] 53) :: blk b2 (.cells #[.slice Av (((Oc.sof i bd).map Prod.fst).length) cv, .slice Aw (((Oc.sof i bd).map Prod.snd).length) cw] 53) :: row 22 1 (.slice A65 (((Oc.sof i bd).map Prod.fst).length + 1) c66) (((Oc.sof i bd).map Prod.fst).length + 1) (u64s (((Oc.sof i bd).map Prod.fst) ++ ([((Oc.get s 0 8).1)]))) :: row 4 1 (.slice Aw (((Oc.sof i bd).map Prod.snd).length) cw) (((Oc.sof i bd).map Prod.snd).length) (bools ((Oc.sof i bd).map Prod.snd)) :: row 5 1 (.slice A17 (bd.length) c18) (bd.length) (u8s bd) :: blk kb23 (.cells #[.slice A17 (bd.length) c18] 41) :: blk bn24 (.cells #[.int .i64 9] 3) :: fr) (xs' := u64s (((Oc.sof i bd).map Prod.fst) ++ ([((Oc.get s 0 8).1)]))) 6 S H rfl rfl rfl rfl el50 (SlOk.ofRow (i := 1) H rfl) (one_u64s _) (by simp only [maxLen]; first | omega | (simp <;> omega)) (by first | omega | (simp <;> omega)) (u64s_app ((Oc.sof i bd).map Prod.fst) ([((Oc.get s 0 8).1)])) (by first | omega | (simp <;> omega)) (fun _ _ => rfl) rfl rfl rfl fun a w A65 c66 hA65 S H => ?_
                refine sn ?_
                refine hk (pk [2, 3, 4, 8, 9, 10] 11 H) fun HS => ?_
                exact K3 _ _ ⟨_, _, _, _, S.sub ⟨rfl, rfl, rfl, rfl, rfl, rfl, rfl, rfl, rfl, rfl, rfl, trivial⟩, H⟩
              · skip
                refine rs 1 S H t0 fun a w S H => ?_
                refine hk (pk [2, 3, 4, 8, 9, 10] 11 H) fun HS => ?_
                exact K4 _ _ ⟨_, _, S.sub ⟨rfl, rfl, rfl, rfl, rfl, rfl, rfl, rfl, rfl, rfl, rfl, rfl, trivial⟩, H⟩
            refine hmemo [true, true, true, false, false, true, true, true, true, true, true, true, false, false, false, false, false] 7 (fun a w => ∃ b43 : Nat, Slots a 114 [(5, .pointer (some ⟨b2, 0, none⟩)), (14, .slice (some ⟨blk_, off_ + 9 * i, none⟩) 9 9), (75, .tuple #[.int .u64 (((Oc.get s 0 8).1 : Nat) : Int), .bool ((Oc.get s 0 8).2)]), (76, .slice (some ⟨blk_, off_ + 9 * i, none⟩) 9 9), (77, .tuple #[.int .u64 (((Oc.get s 0 8).1 : Nat) : Int), .bool ((Oc.get s 0 8).2)]), (78, .int .u64 (((Oc.get s 0 8).1 : Nat) : Int)), (79, .bool ((Oc.get s 0 8).2)), (81, .slice Av (((Oc.sof i bd).map Prod.fst).length) cv), (82, .int .u64 (((Oc.get s 0 8).1 : Nat) : Int)), (86, .slice Aw (((Oc.sof i bd).map Prod.snd).length) cw), (91, .slice (some ⟨b43, 0, none⟩) 1 1), (114, undef)] ∧ Sat w (row 4 1 (.slice (some ⟨b43, 0, none⟩) 1 1) 1 (bools [decide (((s.getD 8 0).toNat : Int) = 1)]) :: blk D (.deferred (some [])) :: blk l (.loop r) :: blk b1 (.cells #[.slice none 0 0, .slice none 0 0] 53) :: blk b2 (.cells #[.slice Av (((Oc.sof i bd).map Prod.fst).length) cv, .slice Aw (((Oc.sof i bd).map Prod.snd).length) cw] 53) :: row 22 1 (.slice Av (((Oc.sof i bd).map Prod.fst).length) cv) (((Oc.sof i bd).map Prod.fst).length) (u64s ((Oc.sof i bd).map Prod.fst)) :: row 4 1 (.slice Aw (((Oc.sof i bd).map Prod.snd).length) cw) (((Oc.sof i bd).map Prod.snd).length) (bools ((Oc.sof i bd).map Prod.snd)) :: row 5 1 (.slice A17 (bd.length) c18) (bd.length) (u8s bd) :: blk kb23 (.cells #[.slice A17 (bd.length) c18] 41) :: blk bn24 (.cells #[.int .i64 9] 3) :: fr)) ?_ fun K7 => ?_
            · rintro a w ⟨b43, S, H⟩
              have HS : Sat w _ := pk [1, 2, 3, 7, 8, 9] 10 H
              refine h1 3 ?_
              refine r_lit (vs := #[(0, .int .u64 (((Oc.get s 0 8).1 : Nat) : Int))]) (cs := u64s [((Oc.get s 0 8).1)]) S H rfl rfl el50 (by kernel_rfl) (by decide) (by rfl) rfl rfl rfl fun a w b67 S H => ?_
              refine sn ?_
              refine hk (pk [2, 3, 4, 8, 9, 10] 11 H) fun HS => ?_
              exact K4 _ _ ⟨_, _, S.sub ⟨rfl, rfl, rfl, rfl, rfl, rfl, rfl, rfl, rfl, rfl, rfl, rfl, trivial⟩, pk [1, 0, 2, 3, 4, 5, 6, 7, 8, 9, 10] 11 H⟩
            refine hmemo [true, false, true, true, false, true, true, true, true, true, true, true, false, false, false, false, false] 7 (fun a w => ∃ b47 : Nat, ∃ b48 : Nat, Slots a 114 [(5, .pointer (some ⟨b2, 0, none⟩)), (14, .slice (some ⟨blk_, off_ + 9 * i, none⟩) 9 9), (75, .tuple #[.int .u64 (((Oc.get s 0 8).1 : Nat) : Int), .bool ((Oc.get s 0 8).2)]), (76, .slice (some ⟨blk_, off_ + 9 * i, none⟩) 9 9), (77, .tuple #[.int .u64 (((Oc.get s 0 8).1 : Nat) : Int), .bool ((Oc.get s 0 8).2)]), (78, .int .u64 (((Oc.get s 0 8).1 : Nat) : Int)), (79, .bool ((Oc.get s 0 8).2)), (80, .pointer (some ⟨b2, 0, none⟩)), (83, .slice (some ⟨b47, 0, none⟩) 1 1), (86, .slice Aw (((Oc.sof i bd).map Prod.snd).length) cw), (91, .slice (some ⟨b48, 0, none⟩) 1 1), (114, undef)] ∧ Sat w (row 4 1 (.slice (some ⟨b48, 0, none⟩) 1 1) 1 (bools [decide (((s.getD 8 0).toNat : Int) = 1)]) :: row 22 1 (.slice (some ⟨b47, 0, none⟩) 1 1) 1 (u64s [((Oc.get s 0 8).1)]) :: blk D (.deferred (some [])) :: blk l (.loop r) :: blk b1 (.cells #[.slice none 0 0, .slice none 0 0] 53) :: blk b2 (.cells #[.slice Av (((Oc.sof i bd).map Prod.fst).length) cv, .slice Aw (((Oc.sof i bd).map Prod.snd).length) cw] 53) :: row 22 1 (.slice Av (((Oc.sof i bd).map Prod.fst).length) cv) (((Oc.sof i bd).map Prod.fst).length) (u64s ((Oc.sof i bd).map Prod.fst)) :: row 4 1 (.slice Aw (((Oc.sof i bd).map Prod.snd).length) cw) (((Oc.sof i bd).map Prod.snd).length) (bools ((Oc.sof i bd).map Prod.snd)) :: row 5 1 (.slice A17 (bd.length) c18) (bd.length) (u8s bd) :: blk kb23 (.cells #[.slice A17 (bd.length) c18] 41) :: blk bn24 (.cells #[.int .i64 9] 3) :: fr)) ?_ fun K8 => ?_
            · rintro a w ⟨b47, b48, S, H⟩
              have HS : Sat w _ := pk [2, 3, 4, 8, 9, 10] 11 H
              refine h1 1 ?_
              refine rs 1 S H t0 fun a w S H => ?_
              refine hk (pk [2, 3, 4, 8, 9, 10] 11 H) fun HS => ?_
              exact K4 _ _ ⟨_, _, S.sub ⟨rfl, rfl, rfl, rfl, rfl, rfl, rfl, rfl, rfl, rfl, rfl, rfl, trivial⟩, H⟩
            refine hmemo [true, true, true, true, false, true, false, true, true, true, true, false, false, false, false, false, false] 8 (fun a w => ∃ b25 : Nat, Slots a 114 [(5, .pointer (some ⟨b2, 0, none⟩)), (14, .slice (some ⟨blk_, off_ + 9 * i, none⟩) 9 9), (75, .tuple #[.int .u64 (((Oc.get s 0 8).1 : Nat) : Int), .bool ((Oc.get s 0 8).2)]), (76, .slice (some ⟨blk_, off_ + 9 * i, none⟩) 9 9), (77, .tuple #[.int .u64 (((Oc.get s 0 8).1 : Nat) : Int), .bool ((Oc.get s 0 8).2)]), (78, .int .u64 (((Oc.get s 0 8).1 : Nat) : Int)), (79, .bool ((Oc.get s 0 8).2)), (81, .slice Av (((Oc.sof i bd).map Prod.fst).length) cv), (83, .slice (some ⟨b25, 0, none⟩) 1 1), (85, .pointer (some ⟨b2, 1, none⟩)), (90, .bool (decide (((s.getD 8 0).toNat : Int) = 1))), (114, undef)] ∧ Sat w (row 22 1 (.slice (some ⟨b25, 0, none⟩) 1 1) 1 (u64s [((Oc.get s 0 8).1)]) :: blk D (.deferred (some [])) :: blk l (.loop r) :: blk b1 (.cells #[.slice none 0 0, .slice none 0 0] 53) :: blk b2 (.cells #[.slice Av (((Oc.sof i bd).map Prod.fst).length) cv, .slice Aw (((Oc.sof i bd).map Prod.snd).length) cw] 53) :: row 22 1 (.slice Av (((Oc.sof i bd).map Prod.fst).length) cv) (((Oc.sof i bd).map Prod.fst).length) (u64s ((Oc.sof i bd).map Prod.fst)) :: row 4 1 (.slice Aw (((Oc.sof i bd).map Prod.snd).length) cw) (((Oc.sof i bd).map Prod.snd).length) (bools ((Oc.sof i bd).map Prod.snd)) :: row 5 1 (.slice A17 (bd.length) c18) (bd.length) (u8s bd) :: blk kb23 (.cells #[.slice A17 (bd.length) c18] 41) :: blk bn24 (.cells #[.int .i64 9] 3) :: fr)) ?_ fun K9 => ?_
            · rintro a w ⟨b25, S, H⟩
              have HS : Sat w _ := pk [1, 2, 3, 7, 8, 9] 10 H
              refine h3 4 6 11 ?_ ?_ ?_
              · skip
                refine r_appendS (L' := fun A68 c69 => row 22 1 (.slice (some ⟨b25, 0, none⟩) 1 1) 1 (u64s [((Oc.get s 0 8).1)]) :: blk D (.deferred (some [])) :: blk l (.loop r) :: blk b1 (.cells #[.slice none 0 0, .slice none 0 0] 53) :: blk b2 (.cells #[.slice Av (((Oc.sof i bd).map Prod.fst).length) cv, .slice Aw (((Oc.sof i bd).map Prod.snd).length) cw] 53) :: row 22 1 (.slice A68 (((Oc.sof i bd).map Prod.fst).length + 1) c69) (((Oc.sof i bd).map Prod.fst).length + 1) (u64s (((Oc.sof i bd).map Prod.fst) ++ ([((Oc.get s 0 8).1)]))) :: row 4 1 (.slice Aw (((Oc.sof i bd).map Prod.snd).length) cw) (((Oc.sof i bd).map Prod.snd).length) (bools ((Oc.sof i bd).map Prod.snd)) :: row 5 1 (.slice A17 (bd.length) c18) (bd.length) (u8s bd) :: blk kb23 (.cells #[.slice A17 (bd.length) c18] 41) :: blk bn24 (.cells #[.int .i64 9] 3) :: fr) (xs' := u64s (((Oc.sof i bd).map Prod.fst) ++ ([((Oc.get s 0 8).1)]))) 5 S H rfl rfl rfl rfl el50 (SlOk.ofRow (i := 0) H rfl) (one_u64s _) (by simp only [maxLen]; first | omega | (simp <;> omega)) (by first | omega | (simp <;> omega)) (u64s_app ((Oc.sof i bd).map Prod.fst) ([((Oc.get s 0 8).1)])) (by first | omega | (simp <;> omega)) (fun _ _ => rfl) rfl rfl rfl fun a w A68 c69 hA68 S H => ?_
                refine sn ?_
                refine hk (pk [1, 2, 3, 7, 8, 9] 10 H) fun HS => ?_
                refine h2 6 11 ?_ ?_
                · skip
                  refine rs 1 S H t0 fun a w S H => ?_
                  refine hk (pk [1, 2, 3, 7, 8, 9] 10 H) fun HS => ?_
                  exact K2 _ _ ⟨_, _, _, S.sub ⟨rfl, rfl, rfl, rfl, rfl, rfl, rfl, rfl, rfl, rfl, rfl, trivial⟩, H⟩
                · skip
                  refine r_lit (vs := #[(0, .bool (decide (((s.getD 8 0).toNat : Int) = 1)))]) (cs := bools [decide (((s.getD 8 0).toNat : Int) = 1)]) S H rfl rfl el51 (by kernel_rfl) (by decide) (by rfl) rfl rfl rfl fun a w b70 S H => ?_
                  refine sn ?_
                  refine hk (pk [2, 3, 4, 8, 9, 10] 11 H) fun HS => ?_
                  exact K3 _ _ ⟨_, _, _, _, S.sub ⟨rfl, rfl, rfl, rfl, rfl, rfl, rfl, rfl, rfl, rfl, rfl, trivial⟩, H⟩
              · skip
                refine rs 1 S H t0 fun a w S H => ?_
                refine hk (pk [1, 2, 3, 7, 8, 9] 10 H) fun HS => ?_
                exact K5 _ _ ⟨_, S.sub ⟨rfl, rfl, rfl, rfl, rfl, rfl, rfl, rfl, rfl, rfl, rfl, rfl, trivial⟩, H⟩
              · skip
                refine r_lit (vs := #[(0, .bool (decide (((s.getD 8 0).toNat : Int) = 1)))]) (cs := bools [decide (((s.getD 8 0).toNat : Int) = 1)]) S H rfl rfl el51 (by kernel_rfl) (by decide) (by rfl) rfl rfl rfl fun a w b71 S H => ?_
                refine sn ?_
                refine hk (pk [2, 3, 4, 8, 9, 10] 11 H) fun HS => ?_
                exact K6 _ _ ⟨_, _, S.sub ⟨rfl, rfl, rfl, rfl, rfl, rfl, rfl, rfl, rfl, rfl, rfl, rfl, trivial⟩, H⟩
            refine hmemo [true, true, true, false, false, true, true, true, true, true, true, false, false, false, false, false, false] 8 (fun a w => Slots a 114 [(5, .pointer (some ⟨b2, 0, none⟩)), (14, .slice (some ⟨blk_, off_ + 9 * i, none⟩) 9 9), (75, .tuple #[.int .u64 (((Oc.get s 0 8).1 : Nat) : Int), .bool ((Oc.get s 0 8).2)]), (76, .slice (some ⟨blk_, off_ + 9 * i, none⟩) 9 9), (77, .tuple #[.int .u64 (((Oc.get s 0 8).1 : Nat) : Int), .bool ((Oc.get s 0 8).2)]), (78, .int .u64 (((Oc.get s 0 8).1 : Nat) : Int)), (79, .bool ((Oc.get s 0 8).2)), (81, .slice Av (((Oc.sof i bd).map Prod.fst).length) cv), (82, .int .u64 (((Oc.get s 0 8).1 : Nat) : Int)), (86, .slice Aw (((Oc.sof i bd).map Prod.snd).length) cw), (90, .bool (decide (((s.getD 8 0).toNat : Int) = 1))), (114, undef)] ∧ Sat w (blk D (.deferred (some [])) :: blk l (.loop r) :: blk b1 (.cells #[.slice none 0 0, .slice none 0 0] 53) :: blk b2 (.cells #[.slice Av (((Oc.sof i bd).map Prod.fst).length) cv, .slice Aw (((Oc.sof i bd).map Prod.snd).length) cw] 53) :: row 22 1 (.slice Av (((Oc.sof i bd).map Prod.fst).length) cv) (((Oc.sof i bd).map Prod.fst).length) (u64s ((Oc.sof i bd).map Prod.fst)) :: row 4 1 (.slice Aw (((Oc.sof i bd).map Prod.snd).length) cw) (((Oc.sof i bd).map Prod.snd).length) (bools ((Oc.sof i bd).map Prod.snd)) :: row 5 1 (.slice A17 (bd.length) c18) (bd.length) (u8s bd) :: blk kb23 (.cells #[.slice A17 (bd.length) c18] 41) :: blk bn24 (.cells #[.int .i64 9] 3) :: fr)) ?_ fun K10 => ?_
            · rintro a w ⟨S, H⟩
              have HS : Sat w _ := pk [0, 1, 2, 6, 7, 8] 9 H
              refine h2 3 11 ?_ ?_
              · skip
                refine r_lit (vs := #[(0, .int .u64 (((Oc.get s 0 8).1 : Nat) : Int))]) (cs := u64s [((Oc.get s 0 8).1)]) S H rfl rfl el50 (by kernel_rfl) (by decide) (by rfl) rfl rfl rfl fun a w b72 S H => ?_
                refine sn ?_
                refine hk (pk [1, 2, 3, 7, 8, 9] 10 H) fun HS => ?_
                exact K5 _ _ ⟨_, S.sub ⟨rfl, rfl, rfl, rfl, rfl, rfl, rfl, rfl, rfl, rfl, rfl, rfl, trivial⟩, H⟩
              · skip
                refine r_lit (vs := #[(0, .bool (decide (((s.getD 8 0).toNat : Int) = 1)))]) (cs := bools [decide (((s.getD 8 0).toNat : Int) = 1)]) S H rfl rfl el51 (by kernel_rfl) (by decide) (by rfl) rfl rfl rfl fun a w b73 S H => ?_
                refine sn ?_
                refine hk (pk [1, 2, 3, 7, 8, 9] 10 H) fun HS => ?_
                exact K7 _ _ ⟨_, S.sub ⟨rfl, rfl, rfl, rfl, rfl, rfl, rfl, rfl, rfl, rfl, rfl, rfl, trivial⟩, H⟩
            refine hmemo [true, true, true, false, false, true, false, true, true, true, true, true, false, false, false, false, false] 8 (fun a w => ∃ b45 : Nat, Slots a 114 [(5, .pointer (some ⟨b2, 0, none⟩)), (14, .slice (some ⟨blk_, off_ + 9 * i, none⟩) 9 9), (75, .tuple #[.int .u64 (((Oc.get s 0 8).1 : Nat) : Int), .bool ((Oc.get s 0 8).2)]), (76, .slice (some ⟨blk_, off_ + 9 * i, none⟩) 9 9), (77, .tuple #[.int .u64 (((Oc.get s 0 8).1 : Nat) : Int), .bool ((Oc.get s 0 8).2)]), (78, .int .u64 (((Oc.get s 0 8).1 : Nat) : Int)), (79, .bool ((Oc.get s 0 8).2)), (81, .slice Av (((Oc.sof i bd).map Prod.fst).length) cv), (82, .int .u64 (((Oc.get s 0 8).1 : Nat) : Int)), (85, .pointer (some ⟨b2, 1, none⟩)), (91, .slice (some ⟨b45, 0, none⟩) 1 1), (114, undef)] ∧ Sat w (row 4 1 (.slice (some ⟨b45, 0, none⟩) 1 1) 1 (bools [decide (((s.getD 8 0).toNat : Int) = 1)]) :: blk D (.deferred (some [])) :: blk l (.loop r) :: blk b1 (.cells #[.slice none 0 0, .slice none 0 0] 53) :: blk b2 (.cells #[.slice Av (((Oc.sof i bd).map Prod.fst).length) cv, .slice Aw (((Oc.sof i bd).map Prod.snd).length) cw] 53) :: row 22 1 (.slice Av (((Oc.sof i bd).map Prod.fst).length) cv) (((Oc.sof i bd).map Prod.fst).length) (u64s ((Oc.sof i bd).map Prod.fst)) :: row 4 1 (.slice Aw (((Oc.sof i bd).map Prod.snd).length) cw) (((Oc.sof i bd).map Prod.snd).length) (bools ((Oc.sof i bd).map Prod.snd)) :: row 5 1 (.slice A17 (bd.length) c18) (bd.length) (u8s bd) :: blk kb23 (.cells #[.slice A17 (bd.length) c18] 41) :: blk bn24 (.cells #[.int .i64 9] 3) :: fr)) ?_ fun K11 => ?_
            · rintro a w ⟨b45, S, H⟩
              have HS : Sat w _ := pk [1, 2, 3, 7, 8, 9] 10 H
              refine h2 3 6 ?_ ?_
              · skip
                refine r_lit (vs := #[(0, .int .u64 (((Oc.get s 0 8).1 : Nat) : Int))]) (cs := u64s [((Oc.get s 0 8).1)]) S H rfl rfl el50 (by kernel_rfl) (by decide) (by rfl) rfl rfl rfl fun a w b74 S H => ?_
                refine sn ?_
                refine hk (pk [2, 3, 4, 8, 9, 10] 11 H) fun HS => ?_
                exact K6 _ _ ⟨_, _, S.sub ⟨rfl, rfl, rfl, rfl, rfl, rfl, rfl, rfl, rfl, rfl, rfl, rfl, trivial⟩, pk [1, 0, 2, 3, 4, 5, 6, 7, 8, 9, 10] 11 H⟩
              · skip
                refine rs 1 S H t0 fun a w S H => ?_
                refine hk (pk [1, 2, 3, 7, 8, 9] 10 H) fun HS => ?_
                exact K7 _ _ ⟨_, S.sub ⟨rfl, rfl, rfl, rfl, rfl, rfl, rfl, rfl, rfl, rfl, rfl, rfl, trivial⟩, H⟩
            refine hmemo [true, false, true, true, false, true, true, true, true, true, true, false, false, false, false, false, false] 8 (fun a w => ∃ b47 : Nat, Slots a 114 [(5, .pointer (some ⟨b2, 0, none⟩)), (14, .slice (some ⟨blk_, off_ + 9 * i, none⟩) 9 9), (75, .tuple #[.int .u64 (((Oc.get s 0 8).1 : Nat) : Int), .bool ((Oc.get s 0 8).2)]), (76, .slice (some ⟨blk_, off_ + 9 * i, none⟩) 9 9), (77, .tuple #[.int .u64 (((Oc.get s 0 8).1 : Nat) : Int), .bool ((Oc.get s 0 8).2)]), (78, .int .u64 (((Oc.get s 0 8).1 : Nat) : Int)), (79, .bool ((Oc.get s 0 8).2)), (80, .pointer (some ⟨b2, 0, none⟩)), (83, .slice (some ⟨b47, 0, none⟩) 1 1), (86, .slice Aw (((Oc.sof i bd).map Prod.snd).length) cw), (90, .bool (decide (((s.getD 8 0).toNat : Int) = 1))), (114, undef)] ∧ Sat w (row 22 1 (.slice (some ⟨b47, 0, none⟩) 1 1) 1 (u64s [((Oc.get s 0 8).1)]) :: blk D (.deferred (some [])) :: blk l (.loop r) :: blk b1 (.cells #[.slice none 0 0, .slice none 0 0] 53) :: blk b2 (.cells #[.slice Av (((Oc.sof i bd).map Prod.fst).length) cv, .slice Aw (((Oc.sof i bd).map Prod.snd).length) cw] 53) :: row 22 1 (.slice Av (((Oc.sof i bd).map Prod.fst).length) cv) (((Oc.sof i bd).map Prod.fst).length) (u64s ((Oc.sof i bd).map Prod.fst)) :: row 4 1 (.slice Aw (((Oc.sof i bd).map Prod.snd).length) cw) (((Oc.sof i bd).map Prod.snd).length) (bools ((Oc.sof i bd).map Prod.snd)) :: row 5 1 (.slice A17 (bd.length) c18) (bd.length) (u8s bd) :: blk kb23 (.cells #[.slice A17 (bd.length) c18] 41) :: blk bn24 (.cells #[.int .i64 9] 3) :: fr)) ?_ fun K12 => ?_
            · rintro a w ⟨b47, S, H⟩
              have HS : Sat w _ := pk [1, 2, 3, 7, 8, 9] 10 H
              refine h2 1 11 ?_ ?_
              · skip
                refine rs 1 S H t0 fun a w S H => ?_
                refine hk (pk [1, 2, 3, 7, 8, 9] 10 H) fun HS => ?_
                exact K5 _ _ ⟨_, S.sub ⟨rfl, rfl, rfl, rfl, rfl, rfl, rfl, rfl, rfl, rfl, rfl, rfl, trivial⟩, H⟩
              · skip
                refine r_lit (vs := #[(0, .bool (decide (((s.getD 8 0).toNat : Int) = 1)))]) (cs := bools [decide (((s.getD 8 0).toNat : Int) = 1)]) S H rfl rfl el51 (by kernel_rfl) (by decide) (by rfl) rfl rfl rfl fun a w b75 S H => ?_
                refine sn ?_
                refine hk (pk [2, 3, 4, 8, 9, 10] 11 H) fun HS => ?_
                exact K8 _ _ ⟨_, _, S.sub ⟨rfl, rfl, rfl, rfl, rfl, rfl, rfl, rfl, rfl, rfl, rfl, rfl, trivial⟩, H⟩
            refine hmemo [true, false, true, true, false, true, false, true, true, true, true, true, false, false, false, false, false] 8 (fun a w => ∃ b47 : Nat, ∃ b49 : Nat, Slots a 114 [(5, .pointer (some ⟨b2, 0, none⟩)), (14, .slice (some ⟨blk_, off_ + 9 * i, none⟩) 9 9), (75, .tuple #[.int .u64 (((Oc.get s 0 8).1 : Nat) : Int), .bool ((Oc.get s 0 8).2)]), (76, .slice (some ⟨blk_, off_ + 9 * i, none⟩) 9 9), (77, .tuple #[.int .u64 (((Oc.get s 0 8).1 : Nat) : Int), .bool ((Oc.get s 0 8).2)]), (78, .int .u64 (((Oc.get s 0 8).1 : Nat) : Int)), (79, .bool ((Oc.get s 0 8).2)), (80, .pointer (some ⟨b2, 0, none⟩)), (83, .slice (some ⟨b47, 0, none⟩) 1 1), (85, .pointer (some ⟨b2, 1, none⟩)), (91, .slice (some ⟨b49, 0, none⟩) 1 1), (114, undef)] ∧ Sat w (row 4 1 (.slice (some ⟨b49, 0, none⟩) 1 1) 1 (bools [decide (((s.getD 8 0).toNat : Int) = 1)]) :: row 22 1 (.slice (some ⟨b47, 0, none⟩) 1 1) 1 (u64s [((Oc.get s 0 8).1)]) :: blk D (.deferred (some [])) :: blk l (.loop r) :: blk b1 (.cells #[.slice none 0 0, .slice none 0 0] 53) :: blk b2 (.cells #[.slice Av (((Oc.sof i bd).map Prod.fst).length) cv, .slice Aw (((Oc.sof i bd).map Prod.snd).length) cw] 53) :: row 22 1 (.slice Av (((Oc.sof i bd).map Prod.fst).length) cv) (((Oc.sof i bd).map Prod.fst).length) (u64s ((Oc.sof i bd).map Prod.fst)) :: row 4 1 (.slice Aw (((Oc.sof i bd).map Prod.snd).length) cw) (((Oc.sof i bd).map Prod.snd).length) (bools ((Oc.sof i bd).map Prod.snd)) :: row 5 1 (.slice A17 (bd.length) c18) (bd.length) (u8s bd) :: blk kb23 (.cells #[.slice A17 (bd.length) c18] 41) :: blk bn24 (.cells #[.int .i64 9] 3) :: fr)) ?_ fun K13 => ?_
            · rintro a w ⟨b47, b49, S, H⟩
              have HS : Sat w _ := pk [2, 3, 4, 8, 9, 10] 11 H
              refine h2 1 6 ?_ ?_
              · skip
                refine rs 1 S H t0 fun a w S H => ?_
                refine hk (pk [2, 3, 4, 8, 9, 10] 11 H) fun HS => ?_
                exact K6 _ _ ⟨_, _, S.sub ⟨rfl, rfl, rfl, rfl, rfl, rfl, rfl, rfl, rfl, rfl, rfl, rfl, trivial⟩, H⟩
              · skip
                refine rs 1 S H t0 fun a w S H => ?_
                refine hk (pk [2, 3, 4, 8, 9, 10] 11 H) fun HS => ?_
                exact K8 _ _ ⟨_, _, S.sub ⟨rfl, rfl, rfl, rfl, rfl, rfl, rfl, rfl, rfl, rfl, rfl, rfl, trivial⟩, H⟩
            refine hmemo [true, false, true, false, false, true, true, true, true, true, true, true, false, false, false, false, false] 8 (fun a w => ∃ b51 : Nat, Slots a 114 [(5, .pointer (some ⟨b2, 0, none⟩)), (14, .slice (some ⟨blk_, off_ + 9 * i, none⟩) 9 9), (75, .tuple #[.int .u64 (((Oc.get s 0 8).1 : Nat) : Int), .bool ((Oc.get s 0 8).2)]), (76, .slice (some ⟨blk_, off_ + 9 * i, none⟩) 9 9), (77, .tuple #[.int .u64 (((Oc.get s 0 8).1 : Nat) : Int), .bool ((Oc.get s 0 8).2)]), (78, .int .u64 (((Oc.get s 0 8).1 : Nat) : Int)), (79, .bool ((Oc.get s 0 8).2)), (80, .pointer (some ⟨b2, 0, none⟩)), (82, .int .u64 (((Oc.get s 0 8).1 : Nat) : Int)), (86, .slice Aw (((Oc.sof i bd).map Prod.snd).length) cw), (91, .slice (some ⟨b51, 0, none⟩) 1 1), (114, undef)] ∧ Sat w (row 4 1 (.slice (some ⟨b51, 0, none⟩) 1 1) 1 (bools [decide (((s.getD 8 0).toNat : Int) = 1)]) :: blk D (.deferred (some [])) :: blk l (.loop r) :: blk b1 (.cells #[.slice none 0 0, .slice none 0 0] 53) :: blk b2 (.cells #[.slice Av (((Oc.sof i bd).map Prod.fst).length) cv, .slice Aw (((Oc.sof i bd).map Prod.snd).length) cw] 53) :: row 22 1 (.slice Av (((Oc.sof i bd).map Prod.fst).length) cv) (((Oc.sof i bd).map Prod.fst).length) (u64s ((Oc.sof i bd).map Prod.fst)) :: row 4 1 (.slice Aw (((Oc.sof i bd).map Prod.snd).length) cw) (((Oc.sof i bd).map Prod.snd).length) (bools ((Oc.sof i bd).map Prod.snd)) :: row 5 1 (.slice A17 (bd.length) c18) (bd.length) (u8s bd) :: blk kb23 (.cells #[.slice A17 (bd.length) c18] 41) :: blk bn24 (.cells #[.int .i64 9] 3) :: fr)) ?_ fun K14 => ?_
            · rintro a w ⟨b51, S, H⟩
              have HS : Sat w _ := pk [1, 2, 3, 7, 8, 9] 10 H
              refine h2 1 3 ?_ ?_
              · skip
                refine rs 1 S H t0 fun a w S H => ?_
                refine hk (pk [1, 2, 3, 7, 8, 9] 10 H) fun HS => ?_
                exact K7 _ _ ⟨_, S.sub ⟨rfl, rfl, rfl, rfl, rfl, rfl, rfl, rfl, rfl, rfl, rfl, rfl, trivial⟩, H⟩
              · skip
                refine r_lit (vs := #[(0, .int .u64 (((Oc.get s 0 8).1 : Nat) : Int))]) (cs := u64s [((Oc.get s 0 8).1)]) S H rfl rfl el50 (by kernel_rfl) (by decide) (by rfl) rfl rfl rfl fun a w b76 S H => ?_
                refine sn ?_
                refine hk (pk [2, 3, 4, 8, 9, 10] 11 H) fun HS => ?_
                exact K8 _ _ ⟨_, _, S.sub ⟨rfl, rfl, rfl, rfl, rfl, rfl, rfl, rfl, rfl, rfl, rfl, rfl, trivial⟩, pk [1, 0, 2, 3, 4, 5, 6, 7, 8, 9, 10] 11 H⟩
            refine h4 1 3 6 11 ?_ ?_ ?_ ?_
            · skip
              refine rs 1 S H t0 fun a w S H => ?_
              refine hk (pk [0, 1, 2, 6, 7, 8] 9 H) fun HS => ?_
              refine h3 3 6 11 ?_ ?_ ?_
              · skip
                refine r_lit (vs := #[(0, .int .u64 (((Oc.get s 0 8).1 : Nat) : Int))]) (cs := u64s [((Oc.get s 0 8).1)]) S H rfl rfl el50 (by kernel_rfl) (by decide) (by rfl) rfl rfl rfl fun a w b77 S H => ?_
                refine sn ?_
                refine hk (pk [1, 2, 3, 7, 8, 9] 10 H) fun HS => ?_
                exact K9 _ _ ⟨_, S.sub ⟨rfl, rfl, rfl, rfl, rfl, rfl, rfl, rfl, rfl, rfl, rfl, rfl, trivial⟩, H⟩
              · skip
                refine rs 1 S H t0 fun a w S H => ?_
                refine hk (pk [0, 1, 2, 6, 7, 8] 9 H) fun HS => ?_
                exact K10 _ _ ⟨S.sub ⟨rfl, rfl, rfl, rfl, rfl, rfl, rfl, rfl, rfl, rfl, rfl, rfl, trivial⟩, H⟩
              · skip
                refine r_lit (vs := #[(0, .bool (decide (((s.getD 8 0).toNat : Int) = 1)))]) (cs := bools [decide (((s.getD 8 0).toNat : Int) = 1)]) S H rfl rfl el51 (by kernel_rfl) (by decide) (by rfl) rfl rfl rfl fun a w b78 S H => ?_
                refine sn ?_
                refine hk (pk [1, 2, 3, 7, 8, 9] 10 H) fun HS => ?_
                exact K11 _ _ ⟨_, S.sub ⟨rfl, rfl, rfl, rfl, rfl, rfl, rfl, rfl, rfl, rfl, rfl, rfl, trivial⟩, H⟩
            · skip
              refine r_lit (vs := #[(0, .int .u64 (((Oc.get s 0 8).1 : Nat) : Int))]) (cs := u64s [((Oc.get s 0 8).1)]) S H rfl rfl el50 (by kernel_rfl) (by decide) (by rfl) rfl rfl rfl fun a w b79 S H => ?_
              refine sn ?_
              refine hk (pk [1, 2, 3, 7, 8, 9] 10 H) fun HS => ?_
              refine h3 1 6 11 ?_ ?_ ?_
              · skip
                refine rs 1 S H t0 fun a w S H => ?_
                refine hk (pk [1, 2, 3, 7, 8, 9] 10 H) fun HS => ?_
                exact K9 _ _ ⟨_, S.sub ⟨rfl, rfl, rfl, rfl, rfl, rfl, rfl, rfl, rfl, rfl, rfl, rfl, trivial⟩, H⟩
              · skip
                refine rs 1 S H t0 fun a w S H => ?_
                refine hk (pk [1, 2, 3, 7, 8, 9] 10 H) fun HS => ?_
                exact K12 _ _ ⟨_, S.sub ⟨rfl, rfl, rfl, rfl, rfl, rfl, rfl, rfl, rfl, rfl, rfl, rfl, trivial⟩, H⟩
              · skip
                refine r_lit (vs := #[(0, .bool (decide (((s.getD 8 0).toNat : Int) = 1)))]) (cs := bools [decide (((s.getD 8 0).toNat : Int) = 1)]) S H rfl rfl el51 (by kernel_rfl) (by decide) (by rfl) rfl rfl rfl fun a w b80 S H => ?_
                refine sn ?_
                refine hk (pk [2, 3, 4, 8, 9, 10] 11 H) fun HS => ?_
                exact K13 _ _ ⟨_, _, S.sub ⟨rfl, rfl, rfl, rfl, rfl, rfl, rfl, rfl, rfl, rfl, rfl, rfl, trivial⟩, H⟩
            · skip
              refine rs 1 S H t0 fun a w S H => ?_
              refine hk (pk [0, 1, 2, 6, 7, 8] 9 H) fun HS => ?_
              refine h3 1 3 11 ?_ ?_ ?_
              · skip
                refine rs 1 S H t0 fun a w S H => ?_
                refine hk (pk [0, 1, 2, 6, 7, 8] 9 H) fun HS => ?_
                exact K10 _ _ ⟨S.sub ⟨rfl, rfl, rfl, rfl, rfl, rfl, rfl, rfl, rfl, rfl, rfl, rfl, trivial⟩, H⟩
              · skip
                refine r_lit (vs := #[(0, .int .u64 (((Oc.get s 0 8).1 : Nat) : Int))]) (cs := u64s [((Oc.get s 0 8).1)]) S H rfl rfl el50 (by kernel_rfl) (by decide) (by rfl) rfl rfl rfl fun a w b81 S H => ?_
                refine sn ?_
                refine hk (pk [1, 2, 3, 7, 8, 9] 10 H) fun HS => ?_
                exact K12 _ _ ⟨_, S.sub ⟨rfl, rfl, rfl, rfl, rfl, rfl, rfl, rfl, rfl, rfl, rfl, rfl, trivial⟩, H⟩
              · skip
                refine r_lit (vs := #[(0, .bool (decide (((s.getD 8 0).toNat : Int) = 1)))]) (cs := bools [decide (((s.getD 8 0).toNat : Int) = 1)]) S H rfl rfl el51 (by kernel_rfl) (by decide) (by rfl) rfl rfl rfl fun a w b82 S H => ?_
                refine sn ?_
                refine hk (pk [1, 2, 3, 7, 8, 9] 10 H) fun HS => ?_
                exact K14 _ _ ⟨_, S.sub ⟨rfl, rfl, rfl, rfl, rfl, rfl, rfl, rfl, rfl, rfl, rfl, rfl, trivial⟩, H⟩
            · skip
              refine r_lit (vs := #[(0, .bool (decide (((s.getD 8 0).toNat : Int) = 1)))]) (cs := bools [decide (((s.getD 8 0).toNat : Int) = 1)]) S H rfl rfl el51 (by kernel_rfl) (by decide) (by rfl) rfl rfl rfl fun a w b83 S H => ?_
              refine sn ?_
              refine hk (pk [1, 2, 3, 7, 8, 9] 10 H) fun HS => ?_
              refine h3 1 3 6 ?_ ?_ ?_
              · skip
                refine rs 1 S H t0 fun a w S H => ?_
                refine hk (pk [1, 2, 3, 7, 8, 9] 10 H) fun HS => ?_
                exact K11 _ _ ⟨_, S.sub ⟨rfl, rfl, rfl, rfl, rfl, rfl, rfl, rfl, rfl, rfl, rfl, rfl, trivial⟩, H⟩
              · skip
                refine r_lit (vs := #[(0, .int .u64 (((Oc.get s 0 8).1 : Nat) : Int))]) (cs := u64s [((Oc.get s 0 8).1)]) S H rfl rfl el50 (by kernel_rfl) (by decide) (by rfl) rfl rfl rfl fun a w b84 S H => ?_
                refine sn ?_
                refine hk (pk [2, 3, 4, 8, 9, 10] 11 H) fun HS => ?_
                exact K13 _ _ ⟨_, _, S.sub ⟨rfl, rfl, rfl, rfl, rfl, rfl, rfl, rfl, rfl, rfl, rfl, rfl, trivial⟩, pk [1, 0, 2, 3, 4, 5, 6, 7, 8, 9, 10] 11 H⟩
              · skip
                refine rs 1 S H t0 fun a w S H => ?_
                refine hk (pk [1, 2, 3, 7, 8, 9] 10 H) fun HS => ?_
                exact K14 _ _ ⟨_, S.sub ⟨rfl, rfl, rfl, rfl, rfl, rfl, rfl, rfl, rfl, rfl, rfl, rfl, trivial⟩, H⟩
          · rintro D a w ⟨Av, cv, Aw, cw⟩ S H hF
            replace S : Slots a 114 [(0, .slice A n c), (2, .int .i64 0), (3, .pointer (some ⟨b1, 0, none⟩)), (4, .int .i64 0), (5, .pointer (some ⟨b2, 0, none⟩)), (6, .slice (some ⟨b15, 0, none⟩) l11.length c13), (8, .int .i64 (((Oc.all b).2 : Nat) : Int)), (9, .int .u64 ((s0 : Nat) : Int)), (11, .int .u64 ((n0 : Nat) : Int)), (13, .slice A17 (bd.length) c18), (19, .tuple #[.slice (some ⟨b15, 0, none⟩) l11.length c13, .int .i64 ((p14 : Nat) : Int), .int .i64 (((Oc.all b).2 : Nat) : Int)]), (20, .slice A n c), (21, .tuple #[.slice (some ⟨b15, 0, none⟩) l11.length c13, .int .i64 ((p14 : Nat) : Int), .int .i64 (((Oc.all b).2 : Nat) : Int)]), (22, .slice (some ⟨b15, 0, none⟩) l11.length c13), (23, .int .i64 ((p14 : Nat) : Int)), (24, .int .i64 (((Oc.all b).2 : Nat) : Int)), (25, .int .i64 (((Oc.all b).2 : Nat) : Int)), (26, .bool (decide ((((Oc.all b).2 : Nat) : Int) ≠ 0))), (29, .slice (some ⟨b15, 0, none⟩) l11.length c13), (30, .int .i64 ((l11.length : Nat) : Int)), (31, .bool false), (32, .bool false), (33, .slice (some ⟨b15, 0, none⟩) l11.length c13), (34, .pointer (some ⟨b15, 0 + 0 * 1, none⟩)), (35, .slice ((l11.getD 0 sl0).1) ((l11.getD 0 sl0).2.1) ((l11.getD 0 sl0).2.2)), (36, .int .i64 (((l11.getD 0 sl0).2.1 : Nat) : Int)), (37, .bool (decide ((((l11.getD 0 sl0).2.1 : Nat) : Int) ≠ 16))), (38, .bool (decide ((((l11.getD 0 sl0).2.1 : Nat) : Int) ≠ 16))), (40, .tuple #[.int .u64 (((Oc.get ((Oc.all b).1.getD 0 []) 0 8).1 : Nat) : Int), .bool ((Oc.get ((Oc.all b).1.getD 0 []) 0 8).2)]), (41, .slice (some ⟨b15, 0, none⟩) l11.length c13), (42, .pointer (some ⟨b15, 0 + 0 * 1, none⟩)), (43, .slice A0 (((Oc.all b).1.getD 0 []).length) c0), (44, .tuple #[.int .u64 (((Oc.get ((Oc.all b).1.getD 0 []) 0 8).1 : Nat) : Int), .bool ((Oc.get ((Oc.all b).1.getD 0 []) 0 8).2)]), (45, .int .u64 (((Oc.get ((Oc.all b).1.getD 0 []) 0 8).1 : Nat) : Int)), (46, .bool ((Oc.get ((Oc.all b).1.getD 0 []) 0 8).2)), (47, .tuple #[.int .u64 (((Oc.get ((Oc.all b).1.getD 0 []) 8 8).1 : Nat) : Int), .bool ((Oc.get ((Oc.all b).1.getD 0 []) 8 8).2)]), (48, .slice (some ⟨b15, 0, none⟩) l11.length c13), (49, .pointer (some ⟨b15, 0 + 0 * 1, none⟩)), (50, .slice A0 (((Oc.all b).1.getD 0 []).length) c0), (51, .tuple #[.int .u64 (((Oc.get ((Oc.all b).1.getD 0 []) 8 8).1 : Nat) : Int), .bool ((Oc.get ((Oc.all b).1.getD 0 []) 8 8).2)]), (52, .int .u64 (((Oc.get ((Oc.all b).1.getD 0 []) 8 8).1 : Nat) : Int)), (53, .bool ((Oc.get ((Oc.all b).1.getD 0 []) 8 8).2)), (54, .slice (some ⟨b15, 0, none⟩) l11.length c13), (55, .slice (shift (some ⟨b15, 0, none⟩) (1 * 1) (decide (c13 = 1))) ((l11.drop 1).length) (c13 - 1)), (56, .slice A17 (bd.length) c18), (57, .int .u64 ((s0 : Nat) : Int)), (58, .bool (decide (9223372036854775807 < ((s0 : Nat) : Int)))), (59, .bool (decide (9223372036854775807 < ((s0 : Nat) : Int)))), (62, .bool ((decide (9223372036854775807 < ((s0 : Nat) : Int))) || (decide (1048576 < ((n0 : Nat) : Int))))), (63, .bool ((decide (9223372036854775807 < ((s0 : Nat) : Int))) || (decide (1048576 < ((n0 : Nat) : Int))))), (70, .bool (((decide (9223372036854775807 < ((s0 : Nat) : Int))) || (decide (1048576 < ((n0 : Nat) : Int)))) || (decide (((bd.length : Nat) : Int) ≠ ((n0 : Nat) : Int) * 9)))), (72, .slice A17 (bd.length) c18), (73, .func (.func 102) #[] #[.pointer (some ⟨kb23, 0, none⟩), .pointer (some ⟨bn24, 0, none⟩)]), (D + 115, undef)] := S
            rw [List.length_range] at H
            replace H : Sat _ (blk D (.deferred (some [])) :: blk b1 (.cells #[.slice none 0 0, .slice none 0 0] 53) :: blk b2 (.cells #[.slice Av (((Oc.sof n0 bd).map Prod.fst).length) cv, .slice Aw (((Oc.sof n0 bd).map Prod.snd).length) cw] 53) :: row 22 1 (.slice Av (((Oc.sof n0 bd).map Prod.fst).length) cv) (((Oc.sof n0 bd).map Prod.fst).length) (u64s ((Oc.sof n0 bd).map Prod.fst)) :: row 4 1 (.slice Aw (((Oc.sof n0 bd).map Prod.snd).length) cw) (((Oc.sof n0 bd).map Prod.snd).length) (bools ((Oc.sof n0 bd).map Prod.snd)) :: row 5 1 (.slice A17 (bd.length) c18) (bd.length) (u8s bd) :: blk kb23 (.cells #[.slice A17 (bd.length) c18] 41) :: blk bn24 (.cells #[.int .i64 9] 3) :: fr) := H
            refine x_blockEnd ?_
            refine x_then ?_
            refine r_seq ?_
            have hv64 : ∀ x ∈ (Oc.sof n0 bd).map Prod.fst, x < 18446744073709551616 := sof_lt n0 bd
            refine sb ?_
            refine rn 3 S H (by omega) fun a w S H => ?_
            refine r_call (args := #[.int .i64 ((s0 : Nat) : Int), .agg #[.slice Av (((Oc.sof n0 bd).map Prod.fst).length) cv, .slice Aw (((Oc.sof n0 bd).map Prod.snd).length) cw]]) S rfl rfl Tryz.call44 (sencode_ct (H := H) _ _ ((s0 : Nat) : Int) (by omega) _ _ _ ((Oc.sof n0 bd).map Prod.fst) (SlOk.ofRow (i := 3) H rfl) _ _ _ ((Oc.sof n0 bd).map Prod.snd) (SlOk.ofRow (i := 4) H rfl) hv64) rfl rfl rfl fun v a w hR S => ?_
            obtain ⟨A85, c86, rfl, H⟩ := hR
            refine rs 5 S H t0 fun a w S H => ?_
            have hse : (Oc.senc ((s0 : Nat) : Int) ((Oc.sof n0 bd).map Prod.fst) ((Oc.sof n0 bd).map Prod.snd)).2 = 0 := by unfold Oc.senc; rw [if_neg (by simp [sof_len]; omega)]
            have S := S.retell (v' := .int .i64 0) 101 rfl (by rw [hse]; rfl)
            have S := S.retell (v' := .int .i64 0) 18 rfl (by rw [hse]; rfl)
            refine sb ?_
            refine rn 2 S H t0 fun a w S H => ?_
            have S := S.retell (v' := .bool false) 103 rfl rfl
            refine rn 3 S H t0 fun a w S H => ?_
            refine r_call (args := #[.slice A85 ((Oc.senc ((s0 : Nat) : Int) ((Oc.sof n0 bd).map Prod.fst) ((Oc.sof n0 bd).map Prod.snd)).1.length) c86, .slice A n c]) S rfl rfl Tryz.call74 (equal_ct (H := H) _ _ _ _ _ _ (SlOk.ofRow (i := 0) H rfl) _ _ _ _ (((((((((ok.more _).more _).more _).more _).more _).more _).more _).more _).more _)) rfl rfl rfl fun v a w hR S => ?_
            obtain ⟨rfl, H⟩ := hR
            refine rs 2 S H t0 fun a w S H => ?_
            refine r_cond S rfl (fun h109 => ?_) (fun h109 => ?_)
            · skip
              refine sb ?_
              refine r_y S H (y_build (vs := #[]) (v := .agg #[.slice none 0 0, .slice none 0 0]) S rfl rfl (fun w => by kernel_rfl)) rfl rfl rfl fun a S => ?_
              refine rs 3 S H t0 fun a w S H => ?_
              refine wp_ret ?_
              refine x_thenRet ?_
              have H := pk [1, 0, 2, 3, 4, 5, 6, 7, 8] 9 H
              refine m_ret3 115 S H Tryz.results45 (ro_tmp S rfl) (ro_agg [_, _] (i := 2) S rfl (fun w => ⟨Tryz.isAgg53 w, Tryz.sizeOf53 w⟩) rfl rfl ⟨rfl, rfl, trivial⟩) (ro_tmp S rfl) fun w H => ?_
              rw [sdec_go (by omega) h16 hs0 hn0 hbd, if_neg (by omega), if_pos (.inr (by simpa using h109))]
              exact ⟨none, 0, none, 0, rfl, (H.drop.drop.drop.drop.drop.drop.drop.drop.drop.nilRow _ _).nilRow _ _⟩
            · skip
              refine wp_skip ?_
              refine x_then ?_
              refine r_seq ?_
              apply viaA (n := 114)
              · skip
                refine ha [0, 1, 3, 4, 5, 6, 7, 8] 9 H fun w H HS => ?_
                refine tk 0 S HS fun a S => ?_
                refine tkC 1 S HS (by omega) fun a S => ?_
                refine tk 2 S HS fun a S => ?_
                refine tk 3 S HS fun a S => ?_
                refine h1 4 ?_
                refine rs 1 S H t0 fun a w S H => ?_
                refine hk (pk [0, 1, 3, 4, 5, 6, 7, 8] 9 H) fun HS => ?_
                refine tk 5 S HS fun a S => ?_
                refine hz ?_
                refine x_then ?_
                exact ⟨S.sub (E' := [(0, .slice A n c), (2, .int .i64 ((s0 : Nat) : Int)), (3, .pointer (some ⟨b1, 0, none⟩)), (4, .int .i64 0), (5, .pointer (some ⟨b2, 0, none⟩)), (6, .slice (some ⟨b15, 0, none⟩) l11.length c13), (8, .int .i64 (((Oc.all b).2 : Nat) : Int)), (9, .int .u64 ((s0 : Nat) : Int)), (11, .int .u64 ((n0 : Nat) : Int)), (13, .slice A17 (bd.length) c18), (17, .slice A85 ((Oc.senc ((s0 : Nat) : Int) ((Oc.sof n0 bd).map Prod.fst) ((Oc.sof n0 bd).map Prod.snd)).1.length) c86), (18, .int .i64 0), (20, .slice A n c), (22, .slice (some ⟨b15, 0, none⟩) l11.length c13), (23, .int .i64 ((p14 : Nat) : Int)), (24, .int .i64 (((Oc.all b).2 : Nat) : Int)), (25, .int .i64 (((Oc.all b).2 : Nat) : Int)), (26, .bool (decide ((((Oc.all b).2 : Nat) : Int) ≠ 0))), (29, .slice (some ⟨b15, 0, none⟩) l11.length c13), (30, .int .i64 ((l11.length : Nat) : Int)), (31, .bool false), (32, .bool false), (33, .slice (some ⟨b15, 0, none⟩) l11.length c13), (34, .pointer (some ⟨b15, 0 + 0 * 1, none⟩)), (35, .slice ((l11.getD 0 sl0).1) ((l11.getD 0 sl0).2.1) ((l11.getD 0 sl0).2.2)), (36, .int .i64 (((l11.getD 0 sl0).2.1 : Nat) : Int)), (37, .bool (decide ((((l11.getD 0 sl0).2.1 : Nat) : Int) ≠ 16))), (38, .bool (decide ((((l11.getD 0 sl0).2.1 : Nat) : Int) ≠ 16))), (41, .slice (some ⟨b15, 0, none⟩) l11.length c13), (42, .pointer (some ⟨b15, 0 + 0 * 1, none⟩)), (43, .slice A0 (((Oc.all b).1.getD 0 []).length) c0), (45, .int .u64 (((Oc.get ((Oc.all b).1.getD 0 []) 0 8).1 : Nat) : Int)), (46, .bool ((Oc.get ((Oc.all b).1.getD 0 []) 0 8).2)), (48, .slice (some ⟨b15, 0, none⟩) l11.length c13), (49, .pointer (some ⟨b15, 0 + 0 * 1, none⟩)), (50, .slice A0 (((Oc.all b).1.getD 0 []).length) c0), (52, .int .u64 (((Oc.get ((Oc.all b).1.getD 0 []) 8 8).1 : Nat) : Int)), (53, .bool ((Oc.get ((Oc.all b).1.getD 0 []) 8 8).2)), (54, .slice (some ⟨b15, 0, none⟩) l11.length c13), (55, .slice (shift (some ⟨b15, 0, none⟩) (1 * 1) (decide (c13 = 1))) ((l11.drop 1).length) (c13 - 1)), (56, .slice A17 (bd.length) c18), (57, .int .u64 ((s0 : Nat) : Int)), (58, .bool (decide (9223372036854775807 < ((s0 : Nat) : Int)))), (59, .bool (decide (9223372036854775807 < ((s0 : Nat) : Int)))), (62, .bool ((decide (9223372036854775807 < ((s0 : Nat) : Int))) || (decide (1048576 < ((n0 : Nat) : Int))))), (63, .bool ((decide (9223372036854775807 < ((s0 : Nat) : Int))) || (decide (1048576 < ((n0 : Nat) : Int))))), (70, .bool (((decide (9223372036854775807 < ((s0 : Nat) : Int))) || (decide (1048576 < ((n0 : Nat) : Int)))) || (decide (((bd.length : Nat) : Int) ≠ ((n0 : Nat) : Int) * 9)))), (72, .slice A17 (bd.length) c18), (73, .func (.func 102) #[] #[.pointer (some ⟨kb23, 0, none⟩), .pointer (some ⟨bn24, 0, none⟩)]), (96, .int .u64 ((s0 : Nat) : Int)), (97, .int .i64 ((s0 : Nat) : Int)), (98, .agg #[.slice Av (((Oc.sof n0 bd).map Prod.fst).length) cv, .slice Aw (((Oc.sof n0 bd).map Prod.snd).length) cw]), (100, .slice A85 ((Oc.senc ((s0 : Nat) : Int) ((Oc.sof n0 bd).map Prod.fst) ((Oc.sof n0 bd).map Prod.snd)).1.length) c86), (101, .int .i64 0), (102, .int .i64 0), (103, .bool false), (104, .bool false), (105, .slice A85 ((Oc.senc ((s0 : Nat) : Int) ((Oc.sof n0 bd).map Prod.fst) ((Oc.sof n0 bd).map Prod.snd)).1.length) c86), (106, .slice A n c), (107, .bool (decide ((Oc.senc ((s0 : Nat) : Int) ((Oc.sof n0 bd).map Prod.fst) ((Oc.sof n0 bd).map Prod.snd)).1 = b))), (108, .bool (!(decide ((Oc.senc ((s0 : Nat) : Int) ((Oc.sof n0 bd).map Prod.fst) ((Oc.sof n0 bd).map Prod.snd)).1 = b)))), (109, .bool (!(decide ((Oc.senc ((s0 : Nat) : Int) ((Oc.sof n0 bd).map Prod.fst) ((Oc.sof n0 bd).map Prod.snd)).1 = b)))), (D + 115, undef)]) ⟨rfl, rfl, rfl, rfl, rfl, rfl, rfl, rfl, rfl, rfl, rfl, rfl, rfl, rfl, rfl, rfl, rfl, rfl, rfl, rfl, rfl, rfl, rfl, rfl, rfl, rfl, rfl, rfl, rfl, rfl, rfl, rfl, rfl, rfl, rfl, rfl, rfl, rfl, rfl, rfl, rfl, rfl, rfl, rfl, rfl, rfl, rfl, rfl, rfl, rfl, rfl, rfl, rfl, rfl, rfl, rfl, rfl, rfl, rfl, rfl, rfl, rfl, Lk.h, trivial⟩, H⟩
              · intro a w S H
                refine x_then ?_
                refine wp_ret ?_
                have H := pk [1, 0, 2, 3, 4, 5, 6, 7, 8] 9 H
                refine m_ret3 115 S H Tryz.results45 (ro_tmp S rfl) (ro_agg [_, _] (i := 2) S rfl (fun w => ⟨Tryz.isAgg53 w, Tryz.sizeOf53 w⟩) rfl rfl ⟨rfl, rfl, trivial⟩) (ro_tmp S rfl) fun w H => ?_
                rw [sdec_go (by omega) h16 hs0 hn0 hbd, if_neg (by omega), if_neg (by rw [hse]; simpa using h109)]
                exact ⟨_, _, _, _, rfl, pk [4, 5] 9 H⟩

end Go.Proofs.YtfndfpgmgnacgaaGreatDoor
namespace Go.Proofs.YtfndfpgmgnacgaaGreatDoor
open Go.RowKit Go.Cg
set_option linter.unusedVariables false
set_option linter.unusedSimpArgs false
set_option maxRecDepth 8000
set_option synthInstance.maxHeartbeats 1000000
set_option synthInstance.maxSize 1000000
open Go.Cg.Dk (By Nm)
open Go.Cg.Oc (Mf)
theorem state_ct (w : World) (fr : List Res) (hl : Laid fr) (db : Nat) (d : Dk.Disk) (step : Int) (hs0 : -9223372036854775808 ≤ step) (hst : step ≤ 9223372036854775807) (hcnt : d.files.length ≤ 4398046511104) (hsz : (Cm.read (Cm.nState ++ Go.Lib.itoa step) d).2.1.length ≤ 4398046511104) (H : Sat w (diskR db d :: fr)) :
    Rt Tryz.prog 21 #[.pointer (some ⟨db, 0, none⟩), .int .i64 step] w fun v w' => ∃ A1 c1 A2 c2, v = .tuple #[.agg #[.slice A1 (Cm.state step d).2.1.1.length c1, .slice A2 (Cm.state step d).2.1.2.length c2], .int .i64 (((Cm.state step d).2.2 : Nat) : Int)] ∧ Sat w' (diskR db (Cm.state step d).1 :: row 22 1 (.slice A1 (Cm.state step d).2.1.1.length c1) (Cm.state step d).2.1.1.length (u64s (Cm.state step d).2.1.1) :: row 4 1 (.slice A2 (Cm.state step d).2.1.2.length c2) (Cm.state step d).2.1.2.length (bools (Cm.state step d).2.1.2) :: fr) := by
  refine en2 Tryz.func21 rfl Tryz.ntmps21 rfl fun a S => ?_
  have hil := itoa_le20 hs0 hst
  refine sb ?_
  refine r_alloc S H rfl Tryz.zeroValue53 rfl rfl rfl rfl fun a w b1 S H => ?_
  replace H : Sat _ (blk b1 (.cells #[.slice none 0 0, .slice none 0 0] 53) :: diskR db d :: fr) := H
  refine rs 1 S H t0 fun a w S H => ?_
  refine sb ?_
  refine rn 2 S H t0 fun a w S H => ?_
  refine r_call (args := #[.int .i64 step]) S rfl rfl Tryz.call40 (itoa_ct (H := H) _ _ (hl.via fun _ H => H.drop.drop).1 step (by omega) (by omega)) rfl rfl rfl fun v a w hR S => ?_
  obtain ⟨rfl, H⟩ := hR
  refine r_y S H (y_addS S rfl rfl rfl (by simp; omega)) rfl rfl rfl fun a S => ?_
  have S := S.retell (v' := str (Cm.nState ++ Go.Lib.itoa step)) 14 rfl rfl
  refine r_call (args := #[.pointer (some ⟨db, 0, none⟩), str (Cm.nState ++ Go.Lib.itoa step)]) S rfl rfl Tryz.call39 (read_ct (H := (pk [1, 0] 2 H)) _ _ db d (Cm.nState ++ Go.Lib.itoa step) (by omega)) rfl rfl rfl fun v a w hR S => ?_
  obtain ⟨A4, c5, rfl, H⟩ := hR
  refine rs 5 S H t0 fun a w S H => ?_
  refine r_seq ?_
  obtain ⟨D1, bs, e, hrd⟩ : ∃ D1 bs e, Cm.read (Cm.nState ++ Go.Lib.itoa step) d = (D1, bs, e) := ⟨_, _, _, rfl⟩
  have hbl : bs.length ≤ 4398046511104 := by have := hsz; rw [hrd] at this; exact this
  rw [hrd] at S H
  replace S := S.sub (E' := [(0, .pointer (some ⟨db, 0, none⟩)), (1, .int .i64 step), (4, .pointer (some ⟨b1, 0, none⟩)), (5, .int .i64 0), (6, .slice A4 (bs.length) c5), (7, .int .i64 ((e : Nat) : Int)), (10, .tuple #[.slice A4 (bs.length) c5, .int .i64 ((e : Nat) : Int)]), (11, .pointer (some ⟨db, 0, none⟩)), (12, .int .i64 step), (13, str (Go.Lib.itoa step)), (14, str (Cm.nState ++ Go.Lib.itoa step)), (15, .tuple #[.slice A4 (bs.length) c5, .int .i64 ((e : Nat) : Int)]), (16, .slice A4 (bs.length) c5), (17, .int .i64 ((e : Nat) : Int)), (39, undef)]) ⟨rfl, rfl, rfl, rfl, rfl, rfl, rfl, rfl, rfl, rfl, rfl, rfl, rfl, rfl, rfl, trivial⟩
  replace H : Sat _ (diskR db D1 :: row 5 1 (.slice A4 (bs.length) c5) (bs.length) (u8s (bs)) :: blk b1 (.cells #[.slice none 0 0, .slice none 0 0] 53) :: fr) := H
  refine sr 2 S H t0 fun a w S H => ?_
  refine r_test S rfl (fun h19 => ?_) (fun h19 => ?_)
  · skip
    refine sb ?_
    refine r_y S H (y_build (vs := #[]) (v := .agg #[.slice none 0 0, .slice none 0 0]) S rfl rfl (fun w => by kernel_rfl)) rfl rfl rfl fun a S => ?_
    refine rs 3 S H t0 fun a w S H => ?_
    refine wp_ret ?_
    refine x_thenRet ?_
    refine r_ret2 S H Tryz.results21 (ro_agg [_, _] (i := 2) S rfl (fun w => ⟨Tryz.isAgg53 w, Tryz.sizeOf53 w⟩) rfl rfl ⟨rfl, rfl, trivial⟩) (ro_tmp S rfl) ?_
    have e0 : (Cm.state step d) = (D1, ([], []), e) := by unfold Cm.state; simp only; rw [hrd]; simp only; rw [if_pos (by omega)]
    rw [e0]
    have H := pk [0] 3 H
    have H := H.nilRow 4 1
    have H := H.nilRow 22 1
    exact ⟨none, 0, none, 0, rfl, pk [2, 0, 1] 3 H⟩
  · skip
    refine wp_skip ?_
    refine x_then ?_
    refine sb ?_
    refine rn 1 S H t0 fun a w S H => ?_
    refine r_call (args := #[.slice A4 (bs.length) c5]) S rfl rfl Tryz.call45 (sdecode_ct (H := H) _ _ _ _ _ bs (SlOk.ofRow (i := 1) H rfl) (by omega)) rfl rfl rfl fun v a w hR S => ?_
    obtain ⟨A14, c15, A16, c17, rfl, H⟩ := hR
    refine rn 4 S H t0 fun a w S H => ?_
    refine r_alloc S H rfl Tryz.zeroValue53 rfl rfl rfl rfl fun a w b18 S H => ?_
    replace H : Sat _ (blk b18 (.cells #[.slice none 0 0, .slice none 0 0] 53) :: row 22 1 (.slice A14 ((Oc.sdec bs).2.1.1.length) c15) ((Oc.sdec bs).2.1.1.length) (u64s (Oc.sdec bs).2.1.1) :: row 4 1 (.slice A16 ((Oc.sdec bs).2.1.2.length) c17) ((Oc.sdec bs).2.1.2.length) (bools (Oc.sdec bs).2.1.2) :: diskR db D1 :: row 5 1 (.slice A4 (bs.length) c5) (bs.length) (u8s (bs)) :: blk b1 (.cells #[.slice none 0 0, .slice none 0 0] 53) :: fr) := H
    refine rs 3 S H t0 fun a w S H => ?_
    refine r_seq ?_
    refine r_block ?_
    refine sr 3 S H t0 fun a w S H => ?_
    refine r_test S rfl (fun h28 => ?_) (fun h28 => ?_)
    · skip
      refine sb ?_
      refine r_y S H (y_build (vs := #[]) (v := .agg #[.slice none 0 0, .slice none 0 0]) S rfl rfl (fun w => by kernel_rfl)) rfl rfl rfl fun a S => ?_
      refine rs 3 S H t0 fun a w S H => ?_
      refine wp_ret ?_
      refine x_blockRet ?_
      refine x_thenRet ?_
      refine r_ret2 S H Tryz.results21 (ro_agg [_, _] (i := 5) S rfl (fun w => ⟨Tryz.isAgg53 w, Tryz.sizeOf53 w⟩) rfl rfl ⟨rfl, rfl, trivial⟩) (ro_tmp S rfl) ?_
      have e0 : (Cm.state step d) = (D1, ([], []), (Oc.sdec bs).2.2) := by unfold Cm.state; simp only; rw [hrd]; simp only; rw [if_neg (by omega), if_pos (by omega)]
      rw [e0]
      have H := pk [3] 6 H
      have H := H.nilRow 4 1
      have H := H.nilRow 22 1
      exact ⟨none, 0, none, 0, rfl, pk [2, 0, 1] 3 H⟩
    · skip
      refine sr 4 S H t0 fun a w S H => ?_
      refine r_test S rfl (fun h33 => ?_) (fun h33 => ?_)
      · skip
        refine sb ?_
        refine r_y S H (y_build (vs := #[]) (v := .agg #[.slice none 0 0, .slice none 0 0]) S rfl rfl (fun w => by kernel_rfl)) rfl rfl rfl fun a S => ?_
        refine rs 2 S H t0 fun a w S H => ?_
        refine wp_ret ?_
        refine x_blockRet ?_
        refine x_thenRet ?_
        refine r_ret2 S H Tryz.results21 (ro_agg [_, _] (i := 5) S rfl (fun w => ⟨Tryz.isAgg53 w, Tryz.sizeOf53 w⟩) rfl rfl ⟨rfl, rfl, trivial⟩) (ro_tmp S rfl) ?_
        have e0 : (Cm.state step d) = (D1, ([], []), 2) := by unfold Cm.state; simp only; rw [hrd]; simp only; rw [if_neg (by omega), if_neg (by omega), if_pos (by omega)]
        rw [e0]
        have H := pk [3] 6 H
        have H := H.nilRow 4 1
        have H := H.nilRow 22 1
        exact ⟨none, 0, none, 0, rfl, pk [2, 0, 1] 3 H⟩
      · skip
        refine wp_skip ?_
        refine x_blockEnd ?_
        refine x_then ?_
        refine sr 3 S H t0 fun a w S H => ?_
        refine wp_ret ?_
        refine r_ret2 S H Tryz.results21 (ro_agg [_, _] (i := 5) S rfl (fun w => ⟨Tryz.isAgg53 w, Tryz.sizeOf53 w⟩) rfl rfl ⟨rfl, rfl, trivial⟩) (ro_tmp S rfl) ?_
        have e0 : (Cm.state step d) = (D1, (Oc.sdec bs).2.1, 0) := by unfold Cm.state; simp only; rw [hrd]; simp only; rw [if_neg (by omega), if_neg (by omega), if_neg (by omega)]
        rw [e0]
        exact ⟨_, _, _, _, rfl, pk [3, 1, 2] 6 H⟩

end Go.Proofs.YtfndfpgmgnacgaaGreatDoor
namespace Go.Proofs.YtfndfpgmgnacgaaGreatDoor
open Go.RowKit Go.Cg
set_option linter.unusedVariables false
set_option linter.unusedSimpArgs false
set_option maxRecDepth 8000
set_option synthInstance.maxHeartbeats 1000000
set_option synthInstance.maxSize 1000000
open Go.Cg.Dk (By Nm)
open Go.Cg.Oc (Mf)
theorem okNil (L : List Res) : SlOk L 1 none 0 0 [] := ⟨fun _ => rfl, Nat.le_refl _, Nat.zero_le _, rfl, Rd.nil _ _⟩
theorem eq27_fields (a : Nat) (n s t k : Int) (b : Nat) (w : World) : (Op.eqFields 9999 #[.int .u64 (a : Int), .int .i64 n, .int .i64 s, .int .i64 t, .int .i64 k, .int .u32 (b : Int)] #[.int .u64 (a : Int), .int .i64 n, .int .i64 s, .int .i64 t, .int .i64 k, .int .u32 (b : Int)] (Tryz.prog.fieldsOf 27).toList).run Tryz.prog w = .ok true w := by
  unfold Program.fieldsOf; rw [Tryz.underlying27]
  simp [go_sem, part, Tryz.underlying3, Tryz.underlying23, Tryz.sizeOf3, Tryz.sizeOf23, Tryz.isAgg3, Tryz.isAgg23, Tryz.sizeOf22, Tryz.isAgg22, Tryz.underlying22, Tryz.sizeOf25, Tryz.isAgg25, Tryz.underlying25]
theorem eq27 (a : Nat) (n s t k : Int) (b : Nat) (w : World) : (binOp .eql 27 (.agg #[.int .u64 (a : Int), .int .i64 n, .int .i64 s, .int .i64 t, .int .i64 k, .int .u32 (b : Int)]) (.agg #[.int .u64 (a : Int), .int .i64 n, .int .i64 s, .int .i64 t, .int .i64 k, .int .u32 (b : Int)])).run Tryz.prog w = .ok (.bool true) w := by
  rw [run_eql_struct, run_equalIn_struct _ 9999 27 _ _ (by unfold Program.fieldsOf; rw [Tryz.underlying27]) (by kernel_rfl), eq27_fields]; rfl
theorem neq27 (a : Nat) (n s t k : Int) (b : Nat) (w : World) : (binOp .neq 27 (.agg #[.int .u64 (a : Int), .int .i64 n, .int .i64 s, .int .i64 t, .int .i64 k, .int .u32 (b : Int)]) (.agg #[.int .u64 (a : Int), .int .i64 n, .int .i64 s, .int .i64 t, .int .i64 k, .int .u32 (b : Int)])).run Tryz.prog w = .ok (.bool false) w := by
  rw [run_neq_struct, run_equalIn_struct _ 9999 27 _ _ (by unfold Program.fieldsOf; rw [Tryz.underlying27]) (by kernel_rfl), eq27_fields]; rfl
theorem shown_ct (w : World) (fr : List Res) (hl : Laid fr) (H : Sat w (fr)) :
    Rt Tryz.prog 9 #[] w fun v w' => v = .bool true ∧ Sat w' fr := by
  refine en0 Tryz.func9 rfl Tryz.ntmps9 rfl fun a S => ?_
  obtain ⟨d1, d2, d3, d4, d5, d6, d7, d8, d9, d10, l, e1, e2, e3, e4, e5, e6, e7, e8, e9, hll, e10, ⟨k1, k2, k3, k4, k5, k6, k7, k8, k9⟩, z5, z6⟩ := Cl.shown_plan
  refine sr 1 S H t0 fun a w S H => ?_
  refine sb ?_
  refine r_call (args := #[.int .i64 1000]) S rfl rfl Tryz.call10 (new_ct (H := H) _ _ 1000 (by omega)) rfl rfl rfl fun v a w hR S => ?_
  obtain ⟨db2, rfl, H⟩ := hR
  have k0 : (Dk.fresh 1000).files.length ≤ 20 := by decide
  refine rs 1 S H t0 fun a w S H => ?_
  refine r_seq ?_
  refine sr 2 S H t0 fun a w S H => ?_
  refine r_condF S rfl ?_
  refine wp_skip ?_
  refine x_then ?_
  refine sb ?_
  refine r_y S H (y_build (vs := #[(0, .int .i64 5)]) (v := .agg #[.int .i64 5, .int .u32 0]) S rfl rfl (fun w => by kernel_rfl)) rfl rfl rfl fun a S => ?_
  refine r_y S H (y_build (vs := #[(0, .int .u64 3), (1, .int .i64 1), (2, .int .i64 1), (3, .int .i64 0), (4, .agg #[.int .i64 5, .int .u32 0])]) (v := .agg #[.int .u64 3, .int .i64 1, .int .i64 1, .int .i64 0, .int .i64 5, .int .u32 0]) S rfl rfl (fun w => by kernel_rfl)) rfl rfl rfl fun a S => ?_
  refine r_alloc S H rfl Tryz.zeroValue27 rfl rfl rfl rfl fun a w b3 S H => ?_
  replace H : Sat _ (blk b3 (.cells #[.int .u64 0, .int .i64 0, .int .i64 0, .int .i64 0, .int .i64 0, .int .u32 0] 27) :: diskR db2 (Dk.fresh 1000) :: fr) := H
  refine rs 1 S H t0 fun a w S H => ?_
  replace H : Sat _ (blk b3 (.cells #[.int .u64 ((Cl.ms.seq : Nat) : Int), .int .i64 Cl.ms.n, .int .i64 Cl.ms.shards, .int .i64 Cl.ms.step, .int .i64 Cl.ms.kind, .int .u32 ((Cl.ms.start : Nat) : Int)] 27) :: diskR db2 (Dk.fresh 1000) :: fr) := H
  refine sb ?_
  refine rn 1 S H t0 fun a w S H => ?_
  refine r_call (args := #[.pointer (some ⟨db2, 0, none⟩)]) S rfl rfl Tryz.call17 (load_ct (H := (pk [1, 0] 2 H)) _ _ db2 (Dk.fresh 1000) (by omega)) rfl rfl rfl fun v a w hR S => ?_
  obtain ⟨rfl, H⟩ := hR
  rw [e1] at S H
  dsimp only at S H
  refine rn 4 S H t0 fun a w S H => ?_
  refine r_alloc S H rfl Tryz.zeroValue27 rfl rfl rfl rfl fun a w b4 S H => ?_
  replace H : Sat _ (blk b4 (.cells #[.int .u64 0, .int .i64 0, .int .i64 0, .int .i64 0, .int .i64 0, .int .u32 0] 27) :: diskR db2 d1 :: blk b3 (.cells #[.int .u64 ((Cl.ms.seq : Nat) : Int), .int .i64 Cl.ms.n, .int .i64 Cl.ms.shards, .int .i64 Cl.ms.step, .int .i64 Cl.ms.kind, .int .u32 ((Cl.ms.start : Nat) : Int)] 27) :: fr) := H
  refine rs 3 S H t0 fun a w S H => ?_
  refine sb ?_
  refine rn 1 S H t0 fun a w S H => ?_
  refine r_lit (vs := #[(0, .int .u64 9)]) (cs := u64s [9]) S H rfl rfl el50 (by kernel_rfl) (by decide) (by rfl) rfl rfl rfl fun a w b5 S H => ?_
  refine r_lit (vs := #[(0, .bool false)]) (cs := bools [false]) S H rfl rfl el51 (by kernel_rfl) (by decide) (by rfl) rfl rfl rfl fun a w b6 S H => ?_
  refine r_y S H (y_build (vs := #[(0, .slice (some ⟨b5, 0, none⟩) 1 1), (1, .slice (some ⟨b6, 0, none⟩) 1 1)]) (v := .agg #[.slice (some ⟨b5, 0, none⟩) 1 1, .slice (some ⟨b6, 0, none⟩) 1 1]) S rfl rfl (fun w => by kernel_rfl)) rfl rfl rfl fun a S => ?_
  refine r_call (args := #[.pointer (some ⟨db2, 0, none⟩), .int .i64 0, .agg #[.slice (some ⟨b5, 0, none⟩) 1 1, .slice (some ⟨b6, 0, none⟩) 1 1]]) S rfl rfl Tryz.call20 (keep_ct (H := (pk [3, 0, 1, 2, 4] 5 H)) _ _ (hl.via fun _ H => H.drop.drop.drop.drop) db2 d1 0 (by omega) (by omega) _ _ _ ([9]) (SlOk.ofRow (i := 1) (Sat.drop (pk [3, 0, 1, 2, 4] 5 H)) rfl) _ _ _ ([false]) (SlOk.ofRow (i := 0) (Sat.drop (pk [3, 0, 1, 2, 4] 5 H)) rfl) (by simp) (by omega)) rfl rfl rfl fun v a w hR S => ?_
  obtain ⟨rfl, H⟩ := hR
  rw [e2] at S H
  dsimp only at S H
  refine rs 1 S H t0 fun a w S H => ?_
  refine sb ?_
  refine rn 2 S H t0 fun a w S H => ?_
  refine r_call (args := #[.pointer (some ⟨db2, 0, none⟩), .agg #[.int .u64 ((Cl.ms.seq : Nat) : Int), .int .i64 Cl.ms.n, .int .i64 Cl.ms.shards, .int .i64 Cl.ms.step, .int .i64 Cl.ms.kind, .int .u32 ((Cl.ms.start : Nat) : Int)]]) S rfl rfl Tryz.call12 (save_ct (H := H) _ _ db2 d2 Cl.ms (by decide) (by decide) (by omega)) rfl rfl rfl fun v a w hR S => ?_
  obtain ⟨rfl, H⟩ := hR
  rw [e3] at S H
  dsimp only at S H
  refine rs 1 S H t0 fun a w S H => ?_
  refine sb ?_
  refine rn 1 S H t0 fun a w S H => ?_
  refine r_call (args := #[.pointer (some ⟨db2, 0, none⟩)]) S rfl rfl Tryz.call17 (load_ct (H := H) _ _ db2 d3 (by omega)) rfl rfl rfl fun v a w hR S => ?_
  obtain ⟨rfl, H⟩ := hR
  rw [e4] at S H
  dsimp only at S H
  refine rn 4 S H t0 fun a w S H => ?_
  refine r_alloc S H rfl Tryz.zeroValue27 rfl rfl rfl rfl fun a w b7 S H => ?_
  replace H : Sat _ (blk b7 (.cells #[.int .u64 0, .int .i64 0, .int .i64 0, .int .i64 0, .int .i64 0, .int .u32 0] 27) :: diskR db2 d4 :: row 4 1 (.slice (some ⟨b6, 0, none⟩) 1 1) 1 (bools [false]) :: row 22 1 (.slice (some ⟨b5, 0, none⟩) 1 1) 1 (u64s [9]) :: blk b4 (.cells #[.int .u64 ((Oc.mf0.seq : Nat) : Int), .int .i64 (Oc.mf0.n), .int .i64 (Oc.mf0.shards), .int .i64 (Oc.mf0.step), .int .i64 (Oc.mf0.kind), .int .u32 ((Oc.mf0.start : Nat) : Int)] 27) :: blk b3 (.cells #[.int .u64 ((Cl.ms.seq : Nat) : Int), .int .i64 Cl.ms.n, .int .i64 Cl.ms.shards, .int .i64 Cl.ms.step, .int .i64 Cl.ms.kind, .int .u32 ((Cl.ms.start : Nat) : Int)] 27) :: fr) := H
  refine rs 3 S H t0 fun a w S H => ?_
  refine sb ?_
  refine rn 1 S H t0 fun a w S H => ?_
  refine r_call (args := #[.pointer (some ⟨db2, 0, none⟩), .int .i64 0]) S rfl rfl Tryz.call21 (state_ct (H := (pk [1, 0, 2, 3, 4, 5] 6 H)) _ _ (hl.via fun _ H => H.drop.drop.drop.drop.drop) db2 d4 0 (by omega) (by omega) (by omega) (z5)) rfl rfl rfl fun v a w hR S => ?_
  obtain ⟨A8, c9, A10, c11, rfl, H⟩ := hR
  rw [e5] at S H
  dsimp only at S H
  simp only [List.length_cons, List.length_nil, Nat.zero_add] at S H
  refine rn 3 S H t0 fun a w S H => ?_
  refine r_alloc S H rfl Tryz.zeroValue53 rfl rfl rfl rfl fun a w b12 S H => ?_
  replace H : Sat _ (blk b12 (.cells #[.slice none 0 0, .slice none 0 0] 53) :: diskR db2 d5 :: row 22 1 (.slice A8 (1) c9) (1) (u64s [9]) :: row 4 1 (.slice A10 (1) c11) (1) (bools [false]) :: blk b7 (.cells #[.int .u64 ((Cl.ms.seq : Nat) : Int), .int .i64 (Cl.ms.n), .int .i64 (Cl.ms.shards), .int .i64 (Cl.ms.step), .int .i64 (Cl.ms.kind), .int .u32 ((Cl.ms.start : Nat) : Int)] 27) :: row 4 1 (.slice (some ⟨b6, 0, none⟩) 1 1) 1 (bools [false]) :: row 22 1 (.slice (some ⟨b5, 0, none⟩) 1 1) 1 (u64s [9]) :: blk b4 (.cells #[.int .u64 ((Oc.mf0.seq : Nat) : Int), .int .i64 (Oc.mf0.n), .int .i64 (Oc.mf0.shards), .int .i64 (Oc.mf0.step), .int .i64 (Oc.mf0.kind), .int .u32 ((Oc.mf0.start : Nat) : Int)] 27) :: blk b3 (.cells #[.int .u64 ((Cl.ms.seq : Nat) : Int), .int .i64 Cl.ms.n, .int .i64 Cl.ms.shards, .int .i64 Cl.ms.step, .int .i64 Cl.ms.kind, .int .u32 ((Cl.ms.start : Nat) : Int)] 27) :: fr) := H
  refine rs 2 S H t0 fun a w S H => ?_
  refine sb ?_
  refine rn 1 S H t0 fun a w S H => ?_
  refine r_call (args := #[.pointer (some ⟨db2, 0, none⟩), .int .i64 1]) S rfl rfl Tryz.call21 (state_ct (H := (pk [1, 0, 2, 3, 4, 5, 6, 7, 8] 9 H)) _ _ (hl.via fun _ H => H.drop.drop.drop.drop.drop.drop.drop.drop) db2 d5 1 (by omega) (by omega) (by omega) (z6)) rfl rfl rfl fun v a w hR S => ?_
  obtain ⟨A13, c14, A15, c16, rfl, H⟩ := hR
  rw [e6] at S H
  dsimp only at S H
  refine rn 3 S H t0 fun a w S H => ?_
  refine r_alloc S H rfl Tryz.zeroValue53 rfl rfl rfl rfl fun a w b17 S H => ?_
  replace H : Sat _ (blk b17 (.cells #[.slice none 0 0, .slice none 0 0] 53) :: diskR db2 d6 :: row 22 1 (.slice A13 ([].length) c14) ([].length) (u64s []) :: row 4 1 (.slice A15 ([].length) c16) ([].length) (bools []) :: blk b12 (.cells #[.slice A8 (1) c9, .slice A10 (1) c11] 53) :: row 22 1 (.slice A8 (1) c9) (1) (u64s [9]) :: row 4 1 (.slice A10 (1) c11) (1) (bools [false]) :: blk b7 (.cells #[.int .u64 ((Cl.ms.seq : Nat) : Int), .int .i64 (Cl.ms.n), .int .i64 (Cl.ms.shards), .int .i64 (Cl.ms.step), .int .i64 (Cl.ms.kind), .int .u32 ((Cl.ms.start : Nat) : Int)] 27) :: row 4 1 (.slice (some ⟨b6, 0, none⟩) 1 1) 1 (bools [false]) :: row 22 1 (.slice (some ⟨b5, 0, none⟩) 1 1) 1 (u64s [9]) :: blk b4 (.cells #[.int .u64 ((Oc.mf0.seq : Nat) : Int), .int .i64 (Oc.mf0.n), .int .i64 (Oc.mf0.shards), .int .i64 (Oc.mf0.step), .int .i64 (Oc.mf0.kind), .int .u32 ((Oc.mf0.start : Nat) : Int)] 27) :: blk b3 (.cells #[.int .u64 ((Cl.ms.seq : Nat) : Int), .int .i64 Cl.ms.n, .int .i64 Cl.ms.shards, .int .i64 Cl.ms.step, .int .i64 Cl.ms.kind, .int .u32 ((Cl.ms.start : Nat) : Int)] 27) :: fr) := H
  refine rs 2 S H t0 fun a w S H => ?_
  refine sr 2 S H (by omega) fun a w S H => ?_
  have e7' : Dk.Disk.create [103, 97, 114, 98, 97, 103, 101] d6 = (d7, 0) := e7
  rw [e7'] at S H
  dsimp only at S H
  refine sb ?_
  refine rn 1 S H t0 fun a w S H => ?_
  refine r_call (args := #[.pointer (some ⟨db2, 0, none⟩)]) S rfl rfl Tryz.call14 (sweep_ct (H := (pk [1, 0, 2, 3, 4, 5, 6, 7, 8, 9, 10, 11] 12 H)) _ _ (hl.via fun _ H => H.drop.drop.drop.drop.drop.drop.drop.drop.drop.drop.drop) db2 d7 (by omega)) rfl rfl rfl fun v a w hR S => ?_
  obtain ⟨rfl, H⟩ := hR
  rw [e8] at S H
  dsimp only at S H
  refine rs 1 S H t0 fun a w S H => ?_
  refine sb ?_
  refine rn 1 S H t0 fun a w S H => ?_
  refine r_call (args := #[.pointer (some ⟨db2, 0, none⟩)]) S rfl rfl Tryz.call15 (list_ct (H := H) _ _ db2 d8 (by omega)) rfl rfl rfl fun v a w hR S => ?_
  obtain ⟨A22, c23, rfl, H⟩ := hR
  rw [e9] at S H
  dsimp only at S H
  refine rs 5 S H t0 fun a w S H => ?_
  refine sb ?_
  refine rn 2 S H (by omega) fun a w S H => ?_
  have e10' := e10
  rw [Cl.slot_1] at e10'
  rw [e10'] at S H
  dsimp only at S H
  refine rs 5 S H t0 fun a w S H => ?_
  refine sb ?_
  try dsimp only [List.append]
  refine rn 1 S H t0 fun a w S H => ?_
  refine r_y S H (y_not S rfl rfl) rfl rfl rfl fun a S => ?_
  have S := S.retell (v' := .bool true) 70 rfl rfl
  refine rn 3 S H t0 fun a w S H => ?_
  have S := S.retell (v' := .bool true) 73 rfl rfl
  refine rn 4 S H t0 fun a w S H => ?_
  have S := S.retell (v' := .bool true) 77 rfl rfl
  refine rn 4 S H t0 fun a w S H => ?_
  have S := S.retell (v' := .bool true) 81 rfl rfl
  refine rn 4 S H t0 fun a w S H => ?_
  refine r_y S H (yl_bin S rfl rfl rfl (fun w => run_eqGuard_agg w _ _ _ _ _ _ (by kernel_rfl)) fun w _ => eq27 _ _ _ _ _ _ w) rfl rfl rfl fun a S => ?_
  refine rn 7 S H t0 fun a w S H => ?_
  have S := S.retell (v' := .bool true) 93 rfl rfl
  refine rn 4 S H t0 fun a w S H => ?_
  have S := S.retell (v' := .bool true) 97 rfl rfl
  refine rn 6 S H t0 fun a w S H => ?_
  have S := S.retell (v' := .bool true) 103 rfl rfl
  refine rn 4 S H t0 fun a w S H => ?_
  obtain ⟨b24, rfl⟩ := H.rowAt (i := 6) rfl (by first | omega | (simp <;> omega))
  refine r_y S H (y_index S rfl rfl rfl Tryz.underlying50 Tryz.sizeOf22 (by omega) (by omega)) rfl rfl rfl fun a S => ?_
  refine r_y S H (y_loadAt S rfl rfl Tryz.isAgg22 (fun w H => (SlOk.ofRow (i := 6) H rfl).cell w H (u64s_at (l := [9]) (i := 0) (by decide)))) rfl rfl rfl fun a S => ?_
  have S := S.retell (v' := .int .u64 9) 109 rfl rfl
  refine rn 1 S H t0 fun a w S H => ?_
  have S := S.retell (v' := .bool true) 110 rfl rfl
  refine rn 4 S H t0 fun a w S H => ?_
  have S := S.retell (v' := .bool true) 114 rfl rfl
  refine rn 4 S H t0 fun a w S H => ?_
  have S := S.retell (v' := .bool true) 118 rfl rfl
  refine rn 4 S H t0 fun a w S H => ?_
  have S := S.retell (v' := .bool true) 122 rfl rfl
  refine rn 3 S H t0 fun a w S H => ?_
  refine r_y S H (y_len S rfl rfl Tryz.underlying35) rfl rfl rfl fun a S => ?_
  have S := S.retell (v' := .int .i64 2) 126 rfl (by rw [hll]; rfl)
  refine rn 1 S H t0 fun a w S H => ?_
  have S := S.retell (v' := .bool true) 127 rfl rfl
  refine rn 4 S H t0 fun a w S H => ?_
  have S := S.retell (v' := .bool true) 131 rfl rfl
  refine rn 4 S H t0 fun a w S H => ?_
  have S := S.retell (v' := .bool true) 135 rfl rfl
  refine rs 2 S H t0 fun a w S H => ?_
  refine wp_ret ?_
  refine r_ret1 S H Tryz.results9 (ro_tmp S rfl) ?_
  exact ⟨rfl, H.drop.drop.drop.drop.drop.drop.drop.drop.drop.drop.drop.drop.drop⟩

end Go.Proofs.YtfndfpgmgnacgaaGreatDoor
namespace Go.Proofs.YtfndfpgmgnacgaaGreatDoor
open Go.RowKit Go.Cg
set_option linter.unusedVariables false
set_option linter.unusedSimpArgs false
set_option maxRecDepth 8000
set_option synthInstance.maxHeartbeats 1000000
set_option synthInstance.maxSize 1000000
open Go.Cg.Dk (By Nm)
open Go.Cg.Oc (Mf)
theorem maskL {P : Program} {t : TypeId} (k : Nat) (N M : Int) (hN : N = ((2 ^ k : Nat) : Int)) (hM : (BitVec.ofInt 64 M).toNat = 2 ^ k - 1) (hk : k ≤ 62) (n : Int) (w : World) : (binOp .and t (.int .i64 n) (.int .i64 M)).run P w = .ok (.int .i64 (n % N)) w := by
  have hp : 2 ^ k ≤ 2 ^ 62 := Nat.pow_le_pow_right (by omega) hk
  have h1 : 0 < 2 ^ k := Nat.two_pow_pos k
  have hd : (2 ^ k : Nat) ∣ 2 ^ 64 := Nat.pow_dvd_pow 2 (by omega)
  have key : (BitVec.ofInt 64 n &&& BitVec.ofInt 64 M).toNat = (n % ((2 ^ 64 : Nat) : Int)).toNat % 2 ^ k := by
    rw [BitVec.toNat_and, BitVec.toNat_ofInt, hM, Nat.and_two_pow_sub_one_eq_mod]
  generalize 2 ^ k = K at *
  subst hN
  have h : bits .and .i64 n M = n % (K : Int) := by
    show IntKind.i64.wrap ((BitVec.ofInt 64 n &&& BitVec.ofInt 64 M).toNat : Nat) = n % (K : Int)
    rw [key]
    have h0 : 0 ≤ n % ((2 ^ 64 : Nat) : Int) := Int.emod_nonneg _ (by decide)
    have e : (((n % ((2 ^ 64 : Nat) : Int)).toNat % K : Nat) : Int) = n % (K : Int) := by
      rw [Int.natCast_emod, Int.toNat_of_nonneg h0]
      exact Int.emod_emod_of_dvd n (Int.ofNat_dvd.2 hd)
    rw [e]
    have a1 : 0 ≤ n % (K : Int) := Int.emod_nonneg _ (by omega)
    have a2 : n % (K : Int) < K := Int.emod_lt_of_pos _ (by omega)
    rw [IntKind.wrap_i64]
    omega
  rw [binOp_and, intBits_and, h, Sem.run_pure]
theorem save_bad {m : Mf} (hr : Oc.mright m = false) (d : Dk.Disk) : Cm.save m d = (d, 1) := by
  unfold Cm.save; rw [Oc.menc_no hr, if_pos (by simp)]
theorem errors_plan {x : Int} {n : Nat} (hx : x < 0) (hx2 : -65536 ≤ x) (hn : 0 < n) : ∃ d2 d3, Cm.keep x [] [] (Dk.fresh 100) = (Dk.fresh 100, 1) ∧ Cm.keep 0 (List.replicate n 0) [] (Dk.fresh 100) = (Dk.fresh 100, 1) ∧ Cm.state x (Dk.fresh 100) = (d2, ([], []), 4) ∧ d2.list = (d3, [], 0) ∧
    (Cm.read (Cm.nState ++ Go.Lib.itoa x) (Dk.fresh 100)).2.1.length ≤ 4398046511104 ∧ (Dk.fresh 100).files.length ≤ 10 ∧ d2.files.length ≤ 10 := by
  have q0 : Cl.Q (Dk.fresh 100) := Cl.fresh_q (by decide)
  obtain ⟨o1, h1⟩ := Cl.state_none q0 (step := x) rfl
  obtain ⟨o2, h2⟩ := Cl.list_q (q0.same o1)
  refine ⟨_, _, ?_, ?_, h1, h2, ?_, by decide, Nat.zero_le _⟩
  · have e : Oc.senc x [] [] = ([], 1) := by unfold Oc.senc; rw [if_pos (Or.inl hx)]
    unfold Cm.keep; rw [e, if_pos (by simp)]
  · have e : Oc.senc 0 (List.replicate n 0) [] = ([], 1) := by unfold Oc.senc; rw [if_pos (Or.inr (Or.inl (by simp; omega)))]
    unfold Cm.keep; rw [e, if_pos (by simp)]
  · rw [Cl.read_len q0, Cl.cont_none (by rfl)]; decide
theorem law_errors (w : World) (fr : List Res) (hl : Laid fr) (m : Mf) (hs : m.seq < 18446744073709551616) (hst : m.start < 4294967296) (a1 a2 : Int) (H : Sat w (fr)) :
    Rt Tryz.prog 5 #[.agg #[.int .u64 ((m.seq : Nat) : Int), .int .i64 m.n, .int .i64 m.shards, .int .i64 m.step, .int .i64 m.kind, .int .u32 ((m.start : Nat) : Int)], .int .i64 a1, .int .i64 a2] w fun v w' => v = .bool true ∧ Sat w' fr := by
  refine en3 Tryz.func5 rfl Tryz.ntmps5 rfl fun a S => ?_
  refine sb ?_
  refine r_box (c := #[.int .u64 ((m.seq : Nat) : Int), .int .i64 m.n, .int .i64 m.shards, .int .i64 m.step, .int .i64 m.kind, .int .u32 ((m.start : Nat) : Int)]) S H rfl rfl rfl rfl rfl rfl fun a w b1 S H => ?_
  refine rs 1 S H t0 fun a w S H => ?_
  refine sb ?_
  refine r_call (args := #[]) S rfl rfl Tryz.call9 (shown_ct (H := H) _ _ (hl.via fun _ H => H.drop)) rfl rfl rfl fun v a w hR S => ?_
  obtain ⟨rfl, H⟩ := hR
  refine rs 1 S H t0 fun a w S H => ?_
  refine sb ?_
  refine r_call (args := #[.int .i64 100]) S rfl rfl Tryz.call10 (new_ct (H := H) _ _ 100 (by omega)) rfl rfl rfl fun v a w hR S => ?_
  obtain ⟨db3, rfl, H⟩ := hR
  refine rs 1 S H t0 fun a w S H => ?_
  refine r_seq ?_
  refine sr 2 S H t0 fun a w S H => ?_
  refine r_condF S rfl ?_
  refine wp_skip ?_
  refine x_then ?_
  refine r_seq ?_
  have k00 : (Dk.fresh 100).files.length ≤ 10 := by decide
  rcases hr : Oc.mright m with _ | _
  · skip
    refine sb ?_
    refine rn 2 S H (by omega) fun a w S H => ?_
    rw [hr] at S
    refine r_y S H (y_not S rfl rfl) rfl rfl rfl fun a S => ?_
    have S := S.retell (v' := .bool true) 21 rfl rfl
    refine rn 3 S H t0 fun a w S H => ?_
    refine r_call (args := #[.pointer (some ⟨db3, 0, none⟩), .agg #[.int .u64 ((m.seq : Nat) : Int), .int .i64 m.n, .int .i64 m.shards, .int .i64 m.step, .int .i64 m.kind, .int .u32 ((m.start : Nat) : Int)]]) S rfl rfl Tryz.call12 (save_ct (H := H) _ _ db3 (Dk.fresh 100) m (by omega) (by omega) (by omega)) rfl rfl rfl fun v a w hR S => ?_
    obtain ⟨rfl, H⟩ := hR
    have e1 := save_bad hr (Dk.fresh 100)
    rw [e1] at S H
    dsimp only at S H
    refine rn 1 S H t0 fun a w S H => ?_
    have S := S.retell (v' := .bool false) 26 rfl rfl
    refine rs 1 S H t0 fun a w S H => ?_
    refine r_condF S rfl ?_
    refine wp_skip ?_
    refine x_then ?_
    have hm1 : 0 ≤ a1 % 65536 ∧ a1 % 65536 < 65536 := by omega
    have hm2 : 0 ≤ a2 % 16 ∧ a2 % 16 < 16 := by omega
    refine sb ?_
    refine rn 1 S H t0 fun a w S H => ?_
    refine r_y S H (y_bitop S rfl rfl rfl (fun w => maskL 16 65536 65535 (by decide) (by decide) (by decide) a1 w)) rfl rfl rfl fun a S => ?_
    refine rs 2 S H (by omega) fun a w S H => ?_
    refine sb ?_
    refine rn 1 S H t0 fun a w S H => ?_
    refine r_y S H (y_bitop S rfl rfl rfl (fun w => maskL 4 16 15 (by decide) (by decide) (by decide) a2 w)) rfl rfl rfl fun a S => ?_
    refine rs 2 S H (by omega) fun a w S H => ?_
    obtain ⟨xs, hxs⟩ : ∃ x, x = -1 - a1 % 65536 := ⟨_, rfl⟩
    obtain ⟨N, hN⟩ : ∃ N : Nat, (N : Int) = 1 + a2 % 16 := ⟨(1 + a2 % 16).toNat, by omega⟩
    obtain ⟨d2, d3, e2, e3, e4, e5, z4, k0, k2⟩ := errors_plan (x := xs) (n := N) (by omega) (by omega) (by omega)
    have S := S.retell (v' := .int .i64 xs) 1 rfl (by rw [hxs])
    have S := S.retell (v' := .int .i64 ((N : Nat) : Int)) 2 rfl (by rw [hN])
    refine sb ?_
    refine rn 2 S H t0 fun a w S H => ?_
    refine r_y S H (y_build (vs := #[]) (v := .agg #[.slice none 0 0, .slice none 0 0]) S rfl rfl (fun w => by kernel_rfl)) rfl rfl rfl fun a S => ?_
    refine r_call (args := #[.pointer (some ⟨db3, 0, none⟩), .int .i64 xs, .agg #[.slice none 0 0, .slice none 0 0]]) S rfl rfl Tryz.call20 (keep_ct (H := H) _ _ (hl.via fun _ H => H.drop) db3 (Dk.fresh 100) xs (by omega) (by omega) _ _ _ ([]) (okNil _) _ _ _ ([]) (okNil _) (by simp) (by omega)) rfl rfl rfl fun v a w hR S => ?_
    obtain ⟨rfl, H⟩ := hR
    rw [e2] at S H
    dsimp only at S H
    refine rs 1 S H t0 fun a w S H => ?_
    refine sb ?_
    refine rn 2 S H t0 fun a w S H => ?_
    refine r_make (len := N) S H rfl rfl rfl el50 (by simp only [maxLen]; omega) (by omega) rfl rfl rfl fun a w b4 S H => ?_
    rw [made_u64s] at H
    refine r_y S H (y_build (vs := #[(0, .slice (some ⟨b4, 0, none⟩) N N)]) (v := .agg #[.slice (some ⟨b4, 0, none⟩) N N, .slice none 0 0]) S rfl rfl (fun w => by kernel_rfl)) rfl rfl rfl fun a S => ?_
    refine r_call (args := #[.pointer (some ⟨db3, 0, none⟩), .int .i64 0, .agg #[.slice (some ⟨b4, 0, none⟩) N N, .slice none 0 0]]) S rfl rfl Tryz.call20 (keep_ct (H := (pk [1, 0, 2] 3 H)) _ _ (hl.via fun _ H => H.drop.drop) db3 (Dk.fresh 100) 0 (by omega) (by omega) _ _ _ (List.replicate N 0) (SlOk.ofRow (i := 0) (Sat.drop (pk [1, 0, 2] 3 H)) rfl) _ _ _ ([]) (okNil _) (by simp) (by omega)) rfl rfl rfl fun v a w hR S => ?_
    obtain ⟨rfl, H⟩ := hR
    rw [e3] at S H
    dsimp only at S H
    refine rs 1 S H t0 fun a w S H => ?_
    refine sb ?_
    refine rn 2 S H t0 fun a w S H => ?_
    refine r_call (args := #[.pointer (some ⟨db3, 0, none⟩), .int .i64 xs]) S rfl rfl Tryz.call21 (state_ct (H := H) _ _ (hl.via fun _ H => H.drop.drop) db3 (Dk.fresh 100) xs (by omega) (by omega) (by omega) (z4)) rfl rfl rfl fun v a w hR S => ?_
    obtain ⟨A5, c6, A7, c8, rfl, H⟩ := hR
    rw [e4] at S H
    dsimp only at S H
    refine rn 3 S H t0 fun a w S H => ?_
    refine r_alloc S H rfl Tryz.zeroValue53 rfl rfl rfl rfl fun a w b9 S H => ?_
    replace H : Sat _ (blk b9 (.cells #[.slice none 0 0, .slice none 0 0] 53) :: diskR db3 d2 :: row 22 1 (.slice A5 ([].length) c6) ([].length) (u64s []) :: row 4 1 (.slice A7 ([].length) c8) ([].length) (bools []) :: row 22 1 (.slice (some ⟨b4, 0, none⟩) N N) N (u64s (List.replicate N 0)) :: blk b1 (.cells #[.int .u64 ((m.seq : Nat) : Int), .int .i64 m.n, .int .i64 m.shards, .int .i64 m.step, .int .i64 m.kind, .int .u32 ((m.start : Nat) : Int)] 27) :: fr) := H
    refine rs 2 S H t0 fun a w S H => ?_
    refine sb ?_
    refine rn 1 S H t0 fun a w S H => ?_
    refine r_call (args := #[.pointer (some ⟨db3, 0, none⟩)]) S rfl rfl Tryz.call15 (list_ct (H := (pk [1, 0, 2, 3, 4, 5] 6 H)) _ _ db3 d2 (by omega)) rfl rfl rfl fun v a w hR S => ?_
    obtain ⟨A14, c15, rfl, H⟩ := hR
    rw [e5] at S H
    dsimp only at S H
    refine rs 5 S H t0 fun a w S H => ?_
    refine sb ?_
    refine rn 4 S H t0 fun a w S H => ?_
    have S := S.retell (v' := .bool true) 57 rfl rfl
    refine rn 4 S H t0 fun a w S H => ?_
    have S := S.retell (v' := .bool true) 61 rfl rfl
    refine rn 4 S H t0 fun a w S H => ?_
    have S := S.retell (v' := .bool true) 65 rfl rfl
    refine rn 4 S H t0 fun a w S H => ?_
    have S := S.retell (v' := .bool true) 69 rfl rfl
    refine rs 7 S H t0 fun a w S H => ?_
    refine wp_ret ?_
    refine r_ret1 S H Tryz.results5 (ro_tmp S rfl) ?_
    exact ⟨rfl, H.drop.drop.drop.drop.drop.drop.drop⟩
  · skip
    refine sb ?_
    refine rn 2 S H (by omega) fun a w S H => ?_
    rw [hr] at S
    refine r_y S H (y_not S rfl rfl) rfl rfl rfl fun a S => ?_
    have S := S.retell (v' := .bool false) 21 rfl rfl
    refine rs 6 S H t0 fun a w S H => ?_
    refine r_condF S rfl ?_
    refine wp_skip ?_
    refine x_then ?_
    have hm1 : 0 ≤ a1 % 65536 ∧ a1 % 65536 < 65536 := by omega
    have hm2 : 0 ≤ a2 % 16 ∧ a2 % 16 < 16 := by omega
    refine sb ?_
    refine rn 1 S H t0 fun a w S H => ?_
    refine r_y S H (y_bitop S rfl rfl rfl (fun w => maskL 16 65536 65535 (by decide) (by decide) (by decide) a1 w)) rfl rfl rfl fun a S => ?_
    refine rs 2 S H (by omega) fun a w S H => ?_
    refine sb ?_
    refine rn 1 S H t0 fun a w S H => ?_
    refine r_y S H (y_bitop S rfl rfl rfl (fun w => maskL 4 16 15 (by decide) (by decide) (by decide) a2 w)) rfl rfl rfl fun a S => ?_
    refine rs 2 S H (by omega) fun a w S H => ?_
    obtain ⟨xs, hxs⟩ : ∃ x, x = -1 - a1 % 65536 := ⟨_, rfl⟩
    obtain ⟨N, hN⟩ : ∃ N : Nat, (N : Int) = 1 + a2 % 16 := ⟨(1 + a2 % 16).toNat, by omega⟩
    obtain ⟨d2, d3, e2, e3, e4, e5, z4, k0, k2⟩ := errors_plan (x := xs) (n := N) (by omega) (by omega) (by omega)
    have S := S.retell (v' := .int .i64 xs) 1 rfl (by rw [hxs])
    have S := S.retell (v' := .int .i64 ((N : Nat) : Int)) 2 rfl (by rw [hN])
    refine sb ?_
    refine rn 2 S H t0 fun a w S H => ?_
    refine r_y S H (y_build (vs := #[]) (v := .agg #[.slice none 0 0, .slice none 0 0]) S rfl rfl (fun w => by kernel_rfl)) rfl rfl rfl fun a S => ?_
    refine r_call (args := #[.pointer (some ⟨db3, 0, none⟩), .int .i64 xs, .agg #[.slice none 0 0, .slice none 0 0]]) S rfl rfl Tryz.call20 (keep_ct (H := H) _ _ (hl.via fun _ H => H.drop) db3 (Dk.fresh 100) xs (by omega) (by omega) _ _ _ ([]) (okNil _) _ _ _ ([]) (okNil _) (by simp) (by omega)) rfl rfl rfl fun v a w hR S => ?_
    obtain ⟨rfl, H⟩ := hR
    rw [e2] at S H
    dsimp only at S H
    refine rs 1 S H t0 fun a w S H => ?_
    refine sb ?_
    refine rn 2 S H t0 fun a w S H => ?_
    refine r_make (len := N) S H rfl rfl rfl el50 (by simp only [maxLen]; omega) (by omega) rfl rfl rfl fun a w b16 S H => ?_
    rw [made_u64s] at H
    refine r_y S H (y_build (vs := #[(0, .slice (some ⟨b16, 0, none⟩) N N)]) (v := .agg #[.slice (some ⟨b16, 0, none⟩) N N, .slice none 0 0]) S rfl rfl (fun w => by kernel_rfl)) rfl rfl rfl fun a S => ?_
    refine r_call (args := #[.pointer (some ⟨db3, 0, none⟩), .int .i64 0, .agg #[.slice (some ⟨b16, 0, none⟩) N N, .slice none 0 0]]) S rfl rfl Tryz.call20 (keep_ct (H := (pk [1, 0, 2] 3 H)) _ _ (hl.via fun _ H => H.drop.drop) db3 (Dk.fresh 100) 0 (by omega) (by omega) _ _ _ (List.replicate N 0) (SlOk.ofRow (i := 0) (Sat.drop (pk [1, 0, 2] 3 H)) rfl) _ _ _ ([]) (okNil _) (by simp) (by omega)) rfl rfl rfl fun v a w hR S => ?_
    obtain ⟨rfl, H⟩ := hR
    rw [e3] at S H
    dsimp only at S H
    refine rs 1 S H t0 fun a w S H => ?_
    refine sb ?_
    refine rn 2 S H t0 fun a w S H => ?_
    refine r_call (args := #[.pointer (some ⟨db3, 0, none⟩), .int .i64 xs]) S rfl rfl Tryz.call21 (state_ct (H := H) _ _ (hl.via fun _ H => H.drop.drop) db3 (Dk.fresh 100) xs (by omega) (by omega) (by omega) (z4)) rfl rfl rfl fun v a w hR S => ?_
    obtain ⟨A17, c18, A19, c20, rfl, H⟩ := hR
    rw [e4] at S H
    dsimp only at S H
    refine rn 3 S H t0 fun a w S H => ?_
    refine r_alloc S H rfl Tryz.zeroValue53 rfl rfl rfl rfl fun a w b21 S H => ?_
    replace H : Sat _ (blk b21 (.cells #[.slice none 0 0, .slice none 0 0] 53) :: diskR db3 d2 :: row 22 1 (.slice A17 ([].length) c18) ([].length) (u64s []) :: row 4 1 (.slice A19 ([].length) c20) ([].length) (bools []) :: row 22 1 (.slice (some ⟨b16, 0, none⟩) N N) N (u64s (List.replicate N 0)) :: blk b1 (.cells #[.int .u64 ((m.seq : Nat) : Int), .int .i64 m.n, .int .i64 m.shards, .int .i64 m.step, .int .i64 m.kind, .int .u32 ((m.start : Nat) : Int)] 27) :: fr) := H
    refine rs 2 S H t0 fun a w S H => ?_
    refine sb ?_
    refine rn 1 S H t0 fun a w S H => ?_
    refine r_call (args := #[.pointer (some ⟨db3, 0, none⟩)]) S rfl rfl Tryz.call15 (list_ct (H := (pk [1, 0, 2, 3, 4, 5] 6 H)) _ _ db3 d2 (by omega)) rfl rfl rfl fun v a w hR S => ?_
    obtain ⟨A26, c27, rfl, H⟩ := hR
    rw [e5] at S H
    dsimp only at S H
    refine rs 5 S H t0 fun a w S H => ?_
    refine sb ?_
    refine rn 4 S H t0 fun a w S H => ?_
    have S := S.retell (v' := .bool true) 57 rfl rfl
    refine rn 4 S H t0 fun a w S H => ?_
    have S := S.retell (v' := .bool true) 61 rfl rfl
    refine rn 4 S H t0 fun a w S H => ?_
    have S := S.retell (v' := .bool true) 65 rfl rfl
    refine rn 4 S H t0 fun a w S H => ?_
    have S := S.retell (v' := .bool true) 69 rfl rfl
    refine rs 7 S H t0 fun a w S H => ?_
    refine wp_ret ?_
    refine r_ret1 S H Tryz.results5 (ro_tmp S rfl) ?_
    exact ⟨rfl, H.drop.drop.drop.drop.drop.drop.drop⟩

end Go.Proofs.YtfndfpgmgnacgaaGreatDoor
namespace Go.Proofs.YtfndfpgmgnacgaaGreatDoor
open Go.RowKit Go.Cg
set_option linter.unusedVariables false
set_option linter.unusedSimpArgs false
set_option maxRecDepth 8000
set_option synthInstance.maxHeartbeats 1000000
set_option synthInstance.maxSize 1000000
open Go.Cg.Dk (By Nm)
open Go.Cg.Oc (Mf)
def mfv (m : Mf) : List Value := [.int .u64 ((m.seq : Nat) : Int), .int .i64 m.n, .int .i64 m.shards, .int .i64 m.step, .int .i64 m.kind, .int .u32 ((m.start : Nat) : Int)]
def mfs (l : List Mf) : List Value := l.flatMap mfv
theorem mfs_from : ∀ {l : List Mf} {i : Nat}, i < l.length → ∀ k v, (mfv (l.getD i Oc.mf0))[k]? = some v → (mfs l)[i * 6 + k]? = some v
  | e :: l, 0, _, k, v, h => by
    have hk : k < (mfv e).length := (List.getElem?_eq_some_iff.1 h).1
    simp only [mfs, List.flatMap_cons, Nat.zero_mul, Nat.zero_add]
    rw [List.getElem?_append_left hk]; exact h
  | e :: l, i + 1, hi, k, v, h => by
    have := mfs_from (l := l) (i := i) (by simpa using hi) k v (by simpa using h)
    simp only [mfs, List.flatMap_cons] at this ⊢
    rw [List.getElem?_append_right (by simp [mfv]; omega)]
    rw [show (i + 1) * 6 + k - (mfv e).length = i * 6 + k from by simp [mfv]; omega]
    exact this
theorem law_bytes (w : World) (fr : List Res) (hl : Laid fr) (A : Option Addr) (n c : Nat) (x0 : By) (ok0 : SlOk fr 1 A n c (u8s x0)) (B : Option Addr) (m e : Nat) (x1 : By) (ok1 : SlOk fr 1 B m e (u8s x1)) (H : Sat w (fr)) :
    Rt Tryz.prog 4 #[.slice A n c, .slice B m e] w fun v w' => v = .bool true ∧ Sat w' fr := by
  refine en2 Tryz.func4 rfl Tryz.ntmps4 rfl fun a S => ?_
  obtain rfl := ok0.n8
  obtain rfl := ok1.n8
  have hc0 := ok0.le
  have hc1 := ok0.cap
  have hc2 := ok1.le
  have hc3 := ok1.cap
  refine sr 1 S H t0 fun a w S H => ?_
  refine sb ?_
  refine r_call (args := #[]) S rfl rfl Tryz.call9 (shown_ct (H := H) _ _ (hl.via fun _ H => H)) rfl rfl rfl fun v a w hR S => ?_
  obtain ⟨rfl, H⟩ := hR
  refine rs 1 S H t0 fun a w S H => ?_
  refine sb ?_
  refine rn 3 S H t0 fun a w S H => ?_
  refine r_y S H (y_min S rfl rfl rfl) rfl rfl rfl fun a S => ?_
  obtain ⟨Kxa, hKxa⟩ : ∃ K : Nat, ((K : Nat) : Int) = min ((x0.length : Nat) : Int) 200 := ⟨min x0.length 200, by omega⟩
  have S := S.retell (v' := .int .i64 ((Kxa : Nat) : Int)) 17 rfl (by rw [hKxa])
  refine r_y S H (y_sliceH (k := Kxa) S rfl rfl rfl Tryz.underlying41 Tryz.sizeOf5 (by first | omega | (simp <;> omega)) (by first | omega | (simp <;> omega))) rfl rfl rfl fun a S => ?_
  have hcapxa := ok0.le
  obtain ⟨xa, hxa⟩ : ∃ x, x = x0.take Kxa := ⟨_, rfl⟩
  have hlxa : xa.length = Kxa := by rw [hxa]; simp; omega
  have okxa : SlOk fr 1 (shift A 0 (decide (c = 0))) xa.length c (u8s xa) := by rw [hlxa, hxa]; exact u8s_take x0 Kxa ▸ ok0.init Kxa (by omega)
  have S := S.retell (v' := .slice (shift A 0 (decide (c = 0))) xa.length c) 18 rfl (by rw [hlxa])
  refine rs 1 S H t0 fun a w S H => ?_
  refine sb ?_
  refine rn 3 S H t0 fun a w S H => ?_
  refine r_y S H (y_min S rfl rfl rfl) rfl rfl rfl fun a S => ?_
  obtain ⟨Kxb, hKxb⟩ : ∃ K : Nat, ((K : Nat) : Int) = min ((x1.length : Nat) : Int) 200 := ⟨min x1.length 200, by omega⟩
  have S := S.retell (v' := .int .i64 ((Kxb : Nat) : Int)) 22 rfl (by rw [hKxb])
  refine r_y S H (y_sliceH (k := Kxb) S rfl rfl rfl Tryz.underlying41 Tryz.sizeOf5 (by first | omega | (simp <;> omega)) (by first | omega | (simp <;> omega))) rfl rfl rfl fun a S => ?_
  have hcapxb := ok1.le
  obtain ⟨xb, hxb⟩ : ∃ x, x = x1.take Kxb := ⟨_, rfl⟩
  have hlxb : xb.length = Kxb := by rw [hxb]; simp; omega
  have okxb : SlOk fr 1 (shift B 0 (decide (e = 0))) xb.length e (u8s xb) := by rw [hlxb, hxb]; exact u8s_take x1 Kxb ▸ ok1.init Kxb (by omega)
  have S := S.retell (v' := .slice (shift B 0 (decide (e = 0))) xb.length e) 23 rfl (by rw [hlxb])
  refine rs 1 S H t0 fun a w S H => ?_
  refine sb ?_
  refine r_call (args := #[.int .i64 100]) S rfl rfl Tryz.call10 (new_ct (H := H) _ _ 100 (by omega)) rfl rfl rfl fun v a w hR S => ?_
  obtain ⟨db2, rfl, H⟩ := hR
  obtain ⟨d1, d2, d3, d4, d5, e1, e2, e3, e4, e5, k1, k2, k3, k4⟩ := Cl.bytes_plan xa xb (by omega) (by omega)
  have k0 : (Dk.fresh 100).files.length ≤ 20 := by decide
  refine rs 1 S H t0 fun a w S H => ?_
  refine r_seq ?_
  refine sb ?_
  refine rn 5 S H (by omega) fun a w S H => ?_
  rw [e1] at S H
  dsimp only at S H
  refine rn 1 S H t0 fun a w S H => ?_
  have S := S.retell (v' := .bool false) 30 rfl rfl
  refine rn 4 S H t0 fun a w S H => ?_
  refine r_call (args := #[.pointer (some ⟨db2, 0, none⟩), str ([115, 108, 111, 116, 46, 48]), .slice (shift A 0 (decide (c = 0))) xa.length c]) S rfl rfl Tryz.call16 (append_ct (H := H) _ _ db2 d1 ([115, 108, 111, 116, 46, 48]) (by omega) _ _ xa okxa (by omega)) rfl rfl rfl fun v a w hR S => ?_
  obtain ⟨rfl, H⟩ := hR
  rw [e2] at S H
  dsimp only at S H
  refine rn 1 S H t0 fun a w S H => ?_
  have S := S.retell (v' := .bool false) 36 rfl rfl
  refine rn 4 S H (by omega) fun a w S H => ?_
  rw [e3] at S H
  dsimp only at S H
  refine rn 1 S H t0 fun a w S H => ?_
  have S := S.retell (v' := .bool false) 41 rfl rfl
  refine rn 4 S H t0 fun a w S H => ?_
  refine r_call (args := #[.pointer (some ⟨db2, 0, none⟩), str ([115, 108, 111, 116, 46, 49]), .slice (shift B 0 (decide (e = 0))) xb.length e]) S rfl rfl Tryz.call16 (append_ct (H := H) _ _ db2 d3 ([115, 108, 111, 116, 46, 49]) (by omega) _ _ xb okxb (by omega)) rfl rfl rfl fun v a w hR S => ?_
  obtain ⟨rfl, H⟩ := hR
  rw [e4] at S H
  dsimp only at S H
  refine rn 1 S H t0 fun a w S H => ?_
  have S := S.retell (v' := .bool false) 47 rfl rfl
  refine rs 1 S H t0 fun a w S H => ?_
  refine r_condF S rfl ?_
  refine wp_skip ?_
  refine x_then ?_
  refine sb ?_
  refine rn 1 S H t0 fun a w S H => ?_
  refine r_call (args := #[.pointer (some ⟨db2, 0, none⟩)]) S rfl rfl Tryz.call17 (load_ct (H := H) _ _ db2 d4 (by omega)) rfl rfl rfl fun v a w hR S => ?_
  obtain ⟨rfl, H⟩ := hR
  rw [e5] at S H
  dsimp only at S H
  refine rn 4 S H t0 fun a w S H => ?_
  refine r_alloc S H rfl Tryz.zeroValue27 rfl rfl rfl rfl fun a w b3 S H => ?_
  replace H : Sat _ (blk b3 (.cells #[.int .u64 0, .int .i64 0, .int .i64 0, .int .i64 0, .int .i64 0, .int .u32 0] 27) :: diskR db2 d5 :: fr) := H
  refine rs 3 S H t0 fun a w S H => ?_
  refine sb ?_
  refine rn 2 S H t0 fun a w S H => ?_
  refine r_call (args := #[.slice (shift A 0 (decide (c = 0))) xa.length c, .slice (shift B 0 (decide (e = 0))) xb.length e]) S rfl rfl Tryz.call18 (mchoose_ct (H := H) _ _ _ _ _ xa ((okxa.more _).more _) _ _ _ xb ((okxb.more _).more _) (by omega) (by omega)) rfl rfl rfl fun v a w hR S => ?_
  obtain ⟨rfl, H⟩ := hR
  refine rn 4 S H t0 fun a w S H => ?_
  refine r_alloc S H rfl Tryz.zeroValue27 rfl rfl rfl rfl fun a w b4 S H => ?_
  replace H : Sat _ (blk b4 (.cells #[.int .u64 0, .int .i64 0, .int .i64 0, .int .i64 0, .int .i64 0, .int .u32 0] 27) :: blk b3 (.cells #[.int .u64 (((Oc.choose xa xb).1.seq : Nat) : Int), .int .i64 ((Oc.choose xa xb).1.n), .int .i64 ((Oc.choose xa xb).1.shards), .int .i64 ((Oc.choose xa xb).1.step), .int .i64 ((Oc.choose xa xb).1.kind), .int .u32 (((Oc.choose xa xb).1.start : Nat) : Int)] 27) :: diskR db2 d5 :: fr) := H
  refine rs 3 S H t0 fun a w S H => ?_
  refine sb ?_
  refine rn 4 S H t0 fun a w S H => ?_
  have S := S.retell (v' := .bool true) 65 rfl rfl
  refine rn 4 S H t0 fun a w S H => ?_
  refine r_y S H (yl_bin S rfl rfl rfl (fun w => run_eqGuard_agg w _ _ _ _ _ _ (by kernel_rfl)) fun w _ => eq27 _ _ _ _ _ _ w) rfl rfl rfl fun a S => ?_
  refine rn 4 S H t0 fun a w S H => ?_
  refine r_y S H (y_eqB S rfl rfl rfl Tryz.underlying4) rfl rfl rfl fun a S => ?_
  have S := S.retell (v' := .bool true) 75 rfl (by simp)
  refine rs 2 S H t0 fun a w S H => ?_
  refine wp_ret ?_
  refine r_ret1 S H Tryz.results4 (ro_tmp S rfl) ?_
  exact ⟨rfl, H.drop.drop.drop⟩

end Go.Proofs.YtfndfpgmgnacgaaGreatDoor
namespace Go.Proofs.YtfndfpgmgnacgaaGreatDoor
open Go.RowKit Go.Cg
set_option linter.unusedVariables false
set_option linter.unusedSimpArgs false
set_option maxRecDepth 8000
set_option synthInstance.maxHeartbeats 1000000
set_option synthInstance.maxSize 1000000
open Go.Cg.Dk (By Nm)
open Go.Cg.Oc (Mf)
theorem right_pos {m : Mf} {q : Nat} (h : 0 ≤ m.step) : Cl.right m q = ⟨q, m.n % 65536 % 50, 1 + m.shards % 65536 % 9, m.step % 65536, 2 + 2 * (m.kind % 2), 0⟩ := if_pos h
theorem right_neg {m : Mf} {q : Nat} (h : ¬ 0 ≤ m.step) : Cl.right m q = ⟨q, m.n % 65536 % 50, 1 + m.shards % 65536 % 9, -1, 0, 0⟩ := if_neg h
theorem right_ct (w : World) (fr : List Res) (m : Mf) (q : Nat) (H : Sat w (fr)) :
    Rt Tryz.prog 11 #[.agg #[.int .u64 ((m.seq : Nat) : Int), .int .i64 m.n, .int .i64 m.shards, .int .i64 m.step, .int .i64 m.kind, .int .u32 ((m.start : Nat) : Int)], .int .u64 ((q : Nat) : Int)] w fun v w' => v = .agg #[.int .u64 (((Cl.right m q).seq : Nat) : Int), .int .i64 ((Cl.right m q).n), .int .i64 ((Cl.right m q).shards), .int .i64 ((Cl.right m q).step), .int .i64 ((Cl.right m q).kind), .int .u32 (((Cl.right m q).start : Nat) : Int)] ∧ Sat w' fr := by
  refine en2 Tryz.func11 rfl Tryz.ntmps11 rfl fun a S => ?_
  refine sb ?_
  refine r_box (c := #[.int .u64 ((m.seq : Nat) : Int), .int .i64 m.n, .int .i64 m.shards, .int .i64 m.step, .int .i64 m.kind, .int .u32 ((m.start : Nat) : Int)]) S H rfl rfl rfl rfl rfl rfl fun a w b1 S H => ?_
  refine r_alloc S H rfl Tryz.zeroValue27 rfl rfl rfl rfl fun a w b2 S H => ?_
  replace H : Sat _ (blk b2 (.cells #[.int .u64 0, .int .i64 0, .int .i64 0, .int .i64 0, .int .i64 0, .int .u32 0] 27) :: blk b1 (.cells #[.int .u64 ((m.seq : Nat) : Int), .int .i64 m.n, .int .i64 m.shards, .int .i64 m.step, .int .i64 m.kind, .int .u32 ((m.start : Nat) : Int)] 27) :: fr) := H
  refine sn ?_
  refine sb ?_
  refine rn 3 S H t0 fun a w S H => ?_
  refine r_y S H (y_bitop S rfl rfl rfl (fun w => maskL 16 65536 65535 (by decide) (by decide) (by decide) m.n w)) rfl rfl rfl fun a S => ?_
  refine r_y S H (y_remN S rfl rfl rfl (by omega) (by omega)) rfl rfl rfl fun a S => ?_
  refine rn 2 S H t0 fun a w S H => ?_
  refine r_y S H (y_bitop S rfl rfl rfl (fun w => maskL 16 65536 65535 (by decide) (by decide) (by decide) m.shards w)) rfl rfl rfl fun a S => ?_
  refine r_y S H (y_remN S rfl rfl rfl (by omega) (by omega)) rfl rfl rfl fun a S => ?_
  refine rn 1 S H (by omega) fun a w S H => ?_
  refine r_y S H (y_build (vs := #[(0, .int .u64 ((q : Nat) : Int)), (1, .int .i64 ((m.n % 65536) % 50)), (2, .int .i64 (1 + ((m.shards % 65536) % 9))), (3, .int .i64 (-1))]) (v := .agg #[.int .u64 ((q : Nat) : Int), .int .i64 ((m.n % 65536) % 50), .int .i64 (1 + ((m.shards % 65536) % 9)), .int .i64 (-1), .int .i64 0, .int .u32 0]) S rfl rfl (fun w => by kernel_rfl)) rfl rfl rfl fun a S => ?_
  refine r_alloc S H rfl Tryz.zeroValue27 rfl rfl rfl rfl fun a w b3 S H => ?_
  replace H : Sat _ (blk b3 (.cells #[.int .u64 0, .int .i64 0, .int .i64 0, .int .i64 0, .int .i64 0, .int .u32 0] 27) :: blk b2 (.cells #[.int .u64 0, .int .i64 0, .int .i64 0, .int .i64 0, .int .i64 0, .int .u32 0] 27) :: blk b1 (.cells #[.int .u64 ((m.seq : Nat) : Int), .int .i64 m.n, .int .i64 m.shards, .int .i64 m.step, .int .i64 m.kind, .int .u32 ((m.start : Nat) : Int)] 27) :: fr) := H
  refine rs 1 S H t0 fun a w S H => ?_
  refine r_seq ?_
  rcases Int.lt_or_le m.step 0 with hs | hs
  · skip
    refine sb ?_
    refine rn 2 S H t0 fun a w S H => ?_
    refine r_y S H (y_ge S rfl rfl rfl) rfl rfl rfl fun a S => ?_
    have S := S.retell (v' := .bool false) 19 rfl (by rw [decide_eq_false (by omega)])
    refine sn ?_
    refine r_condF S rfl ?_
    refine wp_skip ?_
    refine x_then ?_
    refine sr 2 S H t0 fun a w S H => ?_
    refine wp_ret ?_
    refine r_ret1 S H Tryz.results11 (ro_agg [_, _, _, _, _, _] (i := 1) S rfl (fun w => ⟨Tryz.isAgg27 w, Tryz.sizeOf27 w⟩) rfl rfl ⟨rfl, rfl, rfl, rfl, rfl, rfl, trivial⟩) ?_
    rw [right_neg (by omega)]
    exact ⟨rfl, H.drop.drop.drop⟩
  · skip
    refine sb ?_
    refine rn 2 S H t0 fun a w S H => ?_
    refine r_y S H (y_ge S rfl rfl rfl) rfl rfl rfl fun a S => ?_
    have S := S.retell (v' := .bool true) 19 rfl (by rw [decide_eq_true (by omega)])
    refine sn ?_
    refine r_condT S rfl ?_
    refine sb ?_
    refine rn 2 S H t0 fun a w S H => ?_
    refine r_y S H (y_bitop S rfl rfl rfl (fun w => maskL 16 65536 65535 (by decide) (by decide) (by decide) m.step w)) rfl rfl rfl fun a S => ?_
    refine rs 2 S H t0 fun a w S H => ?_
    refine r_region ?_
    refine rn 3 S H t0 fun a w S H => ?_
    refine r_y S H (y_bitop S rfl rfl rfl (fun w => maskL 1 2 1 (by decide) (by decide) (by decide) m.kind w)) rfl rfl rfl fun a S => ?_
    refine rn 2 S H (by omega) fun a w S H => ?_
    refine r_y S H (y_build (vs := #[(0, .int .i64 (2 + (2 * (m.kind % 2))))]) (v := .agg #[.int .i64 (2 + (2 * (m.kind % 2))), .int .u32 0]) S rfl rfl (fun w => by kernel_rfl)) rfl rfl rfl fun a S => ?_
    refine rn 2 S H t0 fun a w S H => ?_
    refine r_nil ?_
    refine x_then ?_
    refine sr 2 S H t0 fun a w S H => ?_
    refine wp_ret ?_
    refine r_ret1 S H Tryz.results11 (ro_agg [_, _, _, _, _, _] (i := 1) S rfl (fun w => ⟨Tryz.isAgg27 w, Tryz.sizeOf27 w⟩) rfl rfl ⟨rfl, rfl, rfl, rfl, rfl, rfl, trivial⟩) ?_
    rw [right_pos (by omega)]
    exact ⟨rfl, H.drop.drop.drop⟩

end Go.Proofs.YtfndfpgmgnacgaaGreatDoor

/- The disk as a resource: its struct, its table of files, each file's rows. No condition. -/
import Derived.Test.YtgfdmhjjlajmgaaGreatDoorKUTc
import Derived.Test.YtgfdmhjjlajmgaaGreatDoorKUCm
namespace Go.Cg
set_option linter.unusedVariables false
set_option linter.unusedSimpArgs false
open Go.RowKit

/-! ### resources made of resources -/
section
variable {w : World}
theorem SatIn.app : ∀ (M : List Res) {L : List Res} {A F : Nat → Prop}, (∀ k, F k → A k) → SatIn w F M → SatIn w (fun k => A k ∧ ¬ F k) L → SatIn w A (M ++ L)
  | [], _, _, _, _, _, h => SatIn.mono (fun _ hk => hk.1) h
  | P :: M, L, A, F, hF, ⟨G, h1, h2, h3⟩, h => by
    refine ⟨G, fun k hk => hF k (h1 k hk), h2, SatIn.app M (F := fun k => F k ∧ ¬ G k) (fun k hk => ⟨hF k hk.1, hk.2⟩) h3 ?_⟩
    refine SatIn.mono (fun k hk => ?_) h
    exact ⟨⟨hk.1, fun hg => hk.2 (h1 k hg)⟩, fun hk' => hk.2 hk'.1⟩
theorem SatIn.split : ∀ (M : List Res) {L : List Res} {A : Nat → Prop}, SatIn w A (M ++ L) → ∃ F, (∀ k, F k → A k) ∧ SatIn w F M ∧ SatIn w (fun k => A k ∧ ¬ F k) L
  | [], _, _, h => ⟨fun _ => False, fun _ h => h.elim, trivial, SatIn.mono (fun _ hk => ⟨hk, id⟩) h⟩
  | P :: M, L, A, ⟨G, h1, h2, h3⟩ => by
    obtain ⟨F, g1, g2, g3⟩ := SatIn.split M h3
    refine ⟨fun k => G k ∨ F k, fun k hk => hk.elim (h1 k) fun hf => (g1 k hf).1, ⟨G, fun k hk => .inl hk, h2, SatIn.mono (fun k hk => ⟨.inr hk, (g1 k hk).2⟩) g2⟩, SatIn.mono (fun k hk => ?_) g3⟩
    exact ⟨hk.1.1, fun hgf => hgf.elim hk.1.2 hk.2⟩
def star (M : List Res) : Res where
  own w F := SatIn w F M
  stable hh h h' := SatIn.keep hh h h'
def ex {ι : Type} (R : ι → Res) : Res where
  own w F := ∃ i, (R i).own w F
  stable hh h h' := h'.elim fun i hi => ⟨i, (R i).stable hh h hi⟩
def fact (p : Prop) : Res where
  own _ F := p ∧ ∀ k, ¬ F k
  stable _ _ h' := h'
variable {L : List Res}
theorem sat_star {M : List Res} : Sat w (star M :: L) ↔ Sat w (M ++ L) :=
  ⟨fun ⟨_, h1, h2, h3⟩ => SatIn.app M h1 h2 h3, fun h => by
    obtain ⟨F, h1, h2, h3⟩ := SatIn.split M h
    exact ⟨F, h1, h2, h3⟩⟩
theorem sat_ex {ι : Type} {R : ι → Res} : Sat w (ex R :: L) ↔ ∃ i, Sat w (R i :: L) :=
  ⟨fun ⟨F, h1, ⟨i, h2⟩, h3⟩ => ⟨i, F, h1, h2, h3⟩, fun ⟨i, F, h1, h2, h3⟩ => ⟨F, h1, ⟨i, h2⟩, h3⟩⟩
theorem sat_fact {p : Prop} : Sat w (fact p :: L) ↔ p ∧ Sat w L :=
  ⟨fun ⟨_, _, h2, h3⟩ => ⟨h2.1, SatIn.mono (fun _ hk => hk.1) h3⟩, fun h => ⟨fun _ => False, fun _ h => h.elim, ⟨h.1, fun _ h => h⟩, SatIn.mono (fun _ hk => ⟨hk, id⟩) h.2⟩⟩
end

/-! ### strings and bytes -/
abbrev nms (n : List UInt8) : Value := .string ⟨n.toArray⟩
theorem str_inj {a b : List UInt8} : (⟨a.toArray⟩ : ByteArray) = ⟨b.toArray⟩ ↔ a = b := by
  constructor
  · intro h; injection h with h; simpa using h
  · intro h; rw [h]
theorem KeyOk.nm {P : Program} {t k e : TypeId} (hm : P.underlying t = some (.map k e)) (hk : P.underlying k = some .string) : KeyOk P t k e nms where
  mt := hm
  same := ⟨_, hk, fun a b => by
    simp only [nms, Instr.sameNow, Option.some.injEq, ba_beq]
    rw [decide_eq_decide]; exact str_inj⟩
  check b a w := check_lit hk (by intro x h; cases h) (by intro x y h; cases h) (by intro x h; cases h) b _ w 9999
  bits a := by simp [nms, Instr.sameBits, ba_beq]
def u8s (l : List UInt8) : List Value := l.map fun x => .int .u8 (x.toNat : Int)
@[simp] theorem len_u8s (l : List UInt8) : (u8s l).length = l.length := by simp [u8s]
@[simp] theorem u8s_nil : u8s [] = [] := rfl
theorem u8s_app (l l' : List UInt8) : u8s l ++ u8s l' = u8s (l ++ l') := by simp [u8s]
theorem one_u8s (l : List UInt8) : ∀ u ∈ u8s l, u.oneCell' = true := by intro u hu; simp only [u8s, List.mem_map] at hu; obtain ⟨x, _, rfl⟩ := hu; rfl
theorem u8s_take (l : List UInt8) (k : Nat) : (u8s l).take (k * 1) = u8s (l.take k) := by simp [u8s, List.map_take]
theorem u8s_drop (l : List UInt8) (k : Nat) : (u8s l).drop (k * 1) = u8s (l.drop k) := by simp [u8s, List.map_drop]
theorem u8s_at {l : List UInt8} {i : Nat} (h : i < l.length) : (u8s l)[i * 1]? = some (.int .u8 ((l.getD i 0).toNat : Int)) := by
  rw [Nat.mul_one, u8s, List.getElem?_map, List.getD_eq_getElem?_getD, List.getElem?_eq_getElem h]; rfl

/-! ### the disk -/
open Dk (Nm By Fl Fs fget fput fdel rising)
def mkP (o : Option Nat) : Value := .pointer (o.map fun b => ⟨b, 0, none⟩)
abbrev Tbl := List (Nm × Nat)
def tdel (t : Tbl) (n : Nm) : Tbl := t.filter fun p => p.1 ≠ n
def tmap (t : Tbl) : List (Nm × Option Nat) := t.map fun p => (p.1, some p.2)
def fl0 : Fl := ⟨[], []⟩
abbrev byR (A : Option Addr) (c : Nat) (l : By) : Res := row 5 1 (.slice A l.length c) l.length (u8s l)
abbrev fiB (fb : Nat) (f : Fl) (A : Option Addr) (c : Nat) (B : Option Addr) (e : Nat) : Res := blk fb (.cells #[.slice A f.now.length c, .slice B f.syn.length e] 90)
def fileR (fb : Nat) (f : Fl) : Res := ex fun g : Option Addr × Nat × Option Addr × Nat => star [fiB fb f g.1 g.2.1 g.2.2.1 g.2.2.2, byR g.1 g.2.1 f.now, byR g.2.2.1 g.2.2.2 f.syn]
def filesL (t : Tbl) (fs : Fs) : List Res := t.map fun p => fileR p.2 ((fget fs p.1).getD fl0)
def filesR (t : Tbl) (fs : Fs) : Res := star (filesL t fs)
def dnI (b : Bool) : Int := if b then 1 else 0
abbrev dkB (db mb : Nat) (d : Dk.Disk) (kA : Option Addr) (kc : Nat) : Res :=
  blk db (.cells #[.map (some mb), .int .i64 (d.room : Int), .int .i64 (d.used : Int), .int .i64 d.ops, .int .i64 (d.armed : Int), .slice kA d.keep.length kc, .int .u32 (dnI d.down)] 63)
abbrev kpR (kA : Option Addr) (kc : Nat) (k : List Bool) : Res := row 4 1 (.slice kA k.length kc) k.length (bools k)
abbrev tbR (mb : Nat) (t : Tbl) : Res := mp nms mkP mb (tmap t)
/-- the names of a table are the files' -/
def Tied (t : Tbl) (fs : Fs) : Prop := (fs.map (·.1)).Perm (t.map (·.1))
def diskR (db : Nat) (d : Dk.Disk) : Res := ex fun g : Nat × Tbl × Option Addr × Nat => star [fact (d.Ok ∧ Tied g.2.1 d.files), dkB db g.1 d g.2.2.1 g.2.2.2, tbR g.1 g.2.1, filesR g.2.1 d.files, kpR g.2.2.1 g.2.2.2 d.keep]
section
variable {w : World} {L : List Res}
theorem Sat.openDisk {db : Nat} {d : Dk.Disk} (H : Sat w (diskR db d :: L)) : ∃ mb t kA kc, d.Ok ∧ Tied t d.files ∧ Sat w (dkB db mb d kA kc :: tbR mb t :: filesR t d.files :: kpR kA kc d.keep :: L) := by
  obtain ⟨⟨mb, t, kA, kc⟩, H⟩ := sat_ex.1 H
  obtain ⟨h, H⟩ := sat_fact.1 (sat_star.1 H)
  exact ⟨mb, t, kA, kc, h.1, h.2, H⟩
theorem Sat.shutDisk {db mb : Nat} {t : Tbl} {kA : Option Addr} {kc : Nat} (d : Dk.Disk) (h1 : d.Ok) (h2 : Tied t d.files) (H : Sat w (dkB db mb d kA kc :: tbR mb t :: filesR t d.files :: kpR kA kc d.keep :: L)) : Sat w (diskR db d :: L) :=
  sat_ex.2 ⟨(mb, t, kA, kc), sat_star.2 (sat_fact.2 ⟨⟨h1, h2⟩, H⟩)⟩
theorem Sat.shutU {db mb : Nat} {t : Tbl} {kA : Option Addr} {kc : Nat} (d : Dk.Disk) (h1 : d.Ok) (h2 : Tied t d.files) {u : Nat} (hu : u = d.used) (H : Sat w (blk db (.cells #[.map (some mb), .int .i64 (d.room : Int), .int .i64 (u : Int), .int .i64 d.ops, .int .i64 (d.armed : Int), .slice kA d.keep.length kc, .int .u32 (dnI d.down)] 63) :: tbR mb t :: filesR t d.files :: kpR kA kc d.keep :: L)) : Sat w (diskR db d :: L) := by
  subst hu; exact H.shutDisk d h1 h2
theorem Sat.diskOk {db : Nat} {d : Dk.Disk} (H : Sat w (diskR db d :: L)) : d.Ok := by
  obtain ⟨_, _, _, _, h, _⟩ := H.openDisk; exact h
theorem tlook_mem {t : Tbl} {n : Nm} {fb : Nat} (h : tlook t n = some fb) : (n, fb) ∈ t := by
  induction t with
  | nil => simp [tlook] at h
  | cons p r ih =>
    unfold tlook at h
    split at h
    · rename_i e; simp only [Option.some.injEq] at h; rw [← h, e]; exact List.mem_cons_self
    · exact List.mem_cons_of_mem _ (ih h)
theorem tlook_none {t : Tbl} {n : Nm} (h : tlook t n = none) : ∀ p ∈ t, p.1 ≠ n := by
  induction t with
  | nil => exact fun p hp => (List.not_mem_nil hp).elim
  | cons q r ih =>
    unfold tlook at h
    split at h
    · cases h
    · rename_i e
      intro p hp
      rcases List.mem_cons.1 hp with rfl | hp
      · exact fun e' => e e'.symm
      · exact ih h p hp
theorem Tied.nodup {t : Tbl} {fs : Fs} (h : Tied t fs) (hr : rising fs) : (t.map (·.1)).Nodup := by
  refine (List.Perm.nodup_iff h).1 ?_
  have : (fs.map (·.1)).Pairwise (· < ·) := by rw [List.pairwise_map]; exact hr
  refine List.Pairwise.imp ?_ this
  intro a b hab e; subst e; exact Dk.lt_irrefl _ hab
theorem Tied.look {t : Tbl} {fs : Fs} (h : Tied t fs) {n : Nm} {f : Fl} (hf : fget fs n = some f) : ∃ fb, tlook t n = some fb := by
  cases ht : tlook t n with
  | some fb => exact ⟨fb, rfl⟩
  | none =>
    exfalso
    have h1 : n ∈ t.map (·.1) := h.mem_iff.1 (List.mem_map.2 ⟨_, Dk.mem_of_fget hf, rfl⟩)
    obtain ⟨p, hp, e⟩ := List.mem_map.1 h1
    exact tlook_none ht p hp e
theorem Tied.lookN {t : Tbl} {fs : Fs} (h : Tied t fs) {n : Nm} (hf : fget fs n = none) : tlook t n = none := by
  cases ht : tlook t n with
  | none => rfl
  | some fb =>
    exfalso
    have h1 : n ∈ fs.map (·.1) := h.mem_iff.2 (List.mem_map.2 ⟨_, tlook_mem ht, rfl⟩)
    obtain ⟨p, hp, e⟩ := List.mem_map.1 h1
    exact Dk.fget_none hf p hp e
theorem tlook_tmap (n : Nm) : ∀ t : Tbl, tlook (tmap t) n = (tlook t n).map some
  | [] => rfl
  | p :: r => by
    have ih := tlook_tmap n r
    show (if n = p.1 then some (some p.2) else tlook (tmap r) n) = (if n = p.1 then some p.2 else tlook r n).map some
    rw [ih]
    split <;> rfl
theorem tdel_perm {t : Tbl} {n : Nm} {fb : Nat} (hn : (t.map (·.1)).Nodup) (h : tlook t n = some fb) : t.Perm ((n, fb) :: tdel t n) := by
  induction t with
  | nil => simp [tlook] at h
  | cons p r ih =>
    simp only [List.map_cons, List.nodup_cons] at hn
    unfold tlook at h
    split at h
    · rename_i e
      simp only [Option.some.injEq] at h
      have hr : tdel r n = r := by
        unfold tdel; rw [List.filter_eq_self]
        intro q hq
        simp only [decide_eq_true_eq]
        intro e'
        exact hn.1 (by rw [← e, ← e']; exact List.mem_map.2 ⟨q, hq, rfl⟩)
      have : tdel (p :: r) n = r := by
        show List.filter _ _ = _
        rw [List.filter_cons, if_neg (by simp [e])]; exact hr
      rw [this, ← h, e]
    · rename_i e
      have : tdel (p :: r) n = p :: tdel r n := by
        show List.filter _ _ = _
        rw [List.filter_cons, if_pos (by simpa using fun e' => e e'.symm)]; rfl
      rw [this]
      exact ((ih hn.2 h).cons p).trans (List.Perm.swap _ _ _)
theorem tdel_none {t : Tbl} {n : Nm} (h : tlook t n = none) : tdel t n = t := by
  unfold tdel; rw [List.filter_eq_self]
  intro p hp
  have := tlook_none h p hp
  simpa using this
theorem filesL_same {t : Tbl} {fs fs' : Fs} (h : ∀ p ∈ t, fget fs p.1 = fget fs' p.1) : filesL t fs = filesL t fs' := by
  unfold filesL
  exact List.map_congr_left fun p hp => by rw [h p hp]
theorem sat_files_perm {t t' : Tbl} {fs : Fs} (h : t.Perm t') (H : Sat w (filesR t fs :: L)) : Sat w (filesR t' fs :: L) :=
  sat_star.2 ((sat_star.1 H).perm ((h.map _).append_right L))
theorem sat_files_cons {p : Nm × Nat} {t : Tbl} {fs : Fs} : Sat w (filesR (p :: t) fs :: L) ↔ Sat w (fileR p.2 ((fget fs p.1).getD fl0) :: filesR t fs :: L) := by
  unfold filesR
  rw [sat_star]
  show Sat w (fileR p.2 ((fget fs p.1).getD fl0) :: (filesL t fs ++ L)) ↔ _
  constructor
  · rintro ⟨F, h1, h2, h3⟩
    obtain ⟨G, g1, g2, g3⟩ := SatIn.split _ h3
    exact ⟨F, h1, h2, G, g1, g2, g3⟩
  · rintro ⟨F, h1, h2, G, g1, g2, g3⟩
    exact ⟨F, h1, h2, SatIn.app _ g1 g2 g3⟩
theorem Sat.openFile {fb : Nat} {f : Fl} (H : Sat w (fileR fb f :: L)) : ∃ A c B e, Sat w (fiB fb f A c B e :: byR A c f.now :: byR B e f.syn :: L) := by
  obtain ⟨⟨A, c, B, e⟩, H⟩ := sat_ex.1 H
  exact ⟨A, c, B, e, sat_star.1 H⟩
theorem Sat.shutFile {fb : Nat} {A B : Option Addr} {c e : Nat} (f : Fl) (H : Sat w (fiB fb f A c B e :: byR A c f.now :: byR B e f.syn :: L)) : Sat w (fileR fb f :: L) :=
  sat_ex.2 ⟨(A, c, B, e), sat_star.2 H⟩
/-- a file is taken out -/
theorem Sat.fileOut {t : Tbl} {fs : Fs} {n : Nm} {f : Fl} {fb : Nat} (hn : (t.map (·.1)).Nodup) (hf : fget fs n = some f) (ht : tlook t n = some fb) (H : Sat w (filesR t fs :: L)) : Sat w (fileR fb f :: filesR (tdel t n) fs :: L) := by
  have H1 := sat_files_cons.1 (sat_files_perm (tdel_perm hn ht) H)
  simpa [hf] using H1
theorem tdel_ne {t : Tbl} {n : Nm} : ∀ p ∈ tdel t n, p.1 ≠ n := fun p hp => by
  have := (List.mem_filter.1 hp).2; simpa using this
/-- .. and put in -/
theorem Sat.fileIn {t : Tbl} {fs : Fs} {n : Nm} {f : Fl} {fb : Nat} (hn : (t.map (·.1)).Nodup) (ht : tlook t n = some fb) (H : Sat w (fileR fb f :: filesR (tdel t n) fs :: L)) : Sat w (filesR t (fput fs n f) :: L) := by
  refine sat_files_perm (tdel_perm hn ht).symm (sat_files_cons.2 ?_)
  have e1 : fget (fput fs n f) n = some f := by rw [Dk.fget_fput, if_pos rfl]
  have e2 : filesR (tdel t n) (fput fs n f) = filesR (tdel t n) fs := congrArg star (filesL_same fun p hp => by rw [Dk.fget_fput, if_neg (tdel_ne p hp)])
  simp only [e1, e2, Option.getD_some]
  exact H
/-- .. and left out -/
theorem Sat.fileGone {t : Tbl} {fs : Fs} {n : Nm} (H : Sat w (filesR (tdel t n) fs :: L)) : Sat w (filesR (tdel t n) (fdel fs n) :: L) := by
  have e2 : filesR (tdel t n) (fdel fs n) = filesR (tdel t n) fs := congrArg star (filesL_same fun p hp => by rw [Dk.fget_fdel, if_neg (tdel_ne p hp)])
  rw [e2]; exact H
/-- a new one -/
theorem Sat.fileNew {t : Tbl} {fs : Fs} {n : Nm} {f : Fl} {fb : Nat} (ht : tlook t n = none) (H : Sat w (fileR fb f :: filesR t fs :: L)) : Sat w (filesR (t ++ [(n, fb)]) (fput fs n f) :: L) := by
  refine sat_files_perm (List.perm_append_comm (l₁ := [(n, fb)])) (sat_files_cons (p := (n, fb)) (t := t).2 ?_)
  have e1 : fget (fput fs n f) n = some f := by rw [Dk.fget_fput, if_pos rfl]
  have e2 : filesR t (fput fs n f) = filesR t fs := congrArg star (filesL_same fun p hp => by rw [Dk.fget_fput, if_neg (tlook_none ht p hp)])
  simp only [e1, e2, Option.getD_some]
  exact H
theorem Tied.put {t : Tbl} {fs : Fs} (h : Tied t fs) (hr : rising fs) {n : Nm} {f g : Fl} (hf : fget fs n = some f) : Tied t (fput fs n g) := by
  have e : (fput fs n g).map (·.1) = fs.map (·.1) := by
    have h1 : ((fput fs n g).map (·.1)).Perm (fs.map (·.1)) := by
      refine ((Dk.perm_fins n g _).map _).trans ?_
      refine (List.perm_ext_iff_of_nodup ?_ ?_).2 fun m => ?_
      · simp only [List.map_cons, List.nodup_cons]
        refine ⟨fun hm => ?_, ?_⟩
        · obtain ⟨p, hp, e⟩ := List.mem_map.1 hm
          exact Dk.fdel_ne p hp e
        · have : ((fdel fs n).map (·.1)).Pairwise (· < ·) := by rw [List.pairwise_map]; exact Dk.rising_fdel hr n
          exact List.Pairwise.imp (fun {a b} hab e => by subst e; exact Dk.lt_irrefl _ hab) this
      · have : (fs.map (·.1)).Pairwise (· < ·) := by rw [List.pairwise_map]; exact hr
        exact List.Pairwise.imp (fun {a b} hab e => by subst e; exact Dk.lt_irrefl _ hab) this
      · simp only [List.map_cons, List.mem_cons, List.mem_map]
        constructor
        · rintro (rfl | ⟨p, hp, rfl⟩)
          · exact ⟨_, Dk.mem_of_fget hf, rfl⟩
          · exact ⟨p, (List.mem_filter.1 hp).1, rfl⟩
        · rintro ⟨p, hp, rfl⟩
          by_cases e : p.1 = n
          · exact .inl e
          · exact .inr ⟨p, List.mem_filter.2 ⟨hp, by simpa using e⟩, rfl⟩
    have p1 : ((fput fs n g).map (·.1)).Pairwise (· < ·) := by rw [List.pairwise_map]; exact Dk.rising_fput hr n g
    have p2 : (fs.map (·.1)).Pairwise (· < ·) := by rw [List.pairwise_map]; exact hr
    exact h1.eq_of_pairwise (fun a b _ _ hab hba => absurd (Dk.lt_trans hab hba) (Dk.lt_irrefl _)) p1 p2
  unfold Tied; rw [e]; exact h
theorem Tied.new {t : Tbl} {fs : Fs} (h : Tied t fs) {n : Nm} {g : Fl} {fb : Nat} (hf : fget fs n = none) : Tied (t ++ [(n, fb)]) (fput fs n g) := by
  unfold Tied
  refine ((Dk.perm_fins n g _).map _).trans ?_
  rw [Dk.fdel_none hf, List.map_append]
  simp only [List.map_cons, List.map_nil]
  exact (h.cons n).trans (List.perm_append_comm (l₁ := [n]))
theorem Tied.del {t : Tbl} {fs : Fs} (h : Tied t fs) (n : Nm) : Tied (tdel t n) (fdel fs n) := by
  unfold Tied tdel fdel
  have e1 : (fs.filter fun p => decide (p.1 ≠ n)).map (·.1) = (fs.map (·.1)).filter fun m => decide (m ≠ n) := by rw [List.filter_map]; rfl
  have e2 : (t.filter fun p => decide (p.1 ≠ n)).map (·.1) = (t.map (·.1)).filter fun m => decide (m ≠ n) := by rw [List.filter_map]; rfl
  rw [e1, e2]; exact h.filter _
end

/-- what the look for a file says -/
def OnSays (d : Dk.Disk) (n : Nm) (t : Tbl) (p : Option Nat) (e : Nat) : Prop :=
  (d.down = true ∧ p = none ∧ e = 7) ∨ (d.down = false ∧ fget d.files n = none ∧ tlook t n = none ∧ p = none ∧ e = 4) ∨ (d.down = false ∧ ∃ f fb, fget d.files n = some f ∧ tlook t n = some fb ∧ p = some fb ∧ e = 0)
theorem tlook_getD (t : Tbl) (n : Nm) : (tlook (tmap t) n).getD none = tlook t n := by
  rw [tlook_tmap]; cases tlook t n <;> rfl
theorem nodup_tmap {t : Tbl} (h : (t.map (·.1)).Nodup) : ((tmap t).map (·.1)).Nodup := by
  unfold tmap; rw [List.map_map]; exact h
theorem tmap_del (t : Tbl) (n : Nm) : ((tmap t).filter fun p => decide (p.1 ≠ n)) = tmap (tdel t n) := by
  unfold tmap tdel; rw [List.filter_map]; rfl
theorem tupd_tmap {t : Tbl} {n : Nm} (h : tlook t n = none) (fb : Nat) : tupd (tmap t) n (some fb) = tmap (t ++ [(n, fb)]) := by
  have h1 : posn (tmap t) n = none := by
    have e := tlook_posn n (tmap t)
    rw [tlook_tmap, h] at e
    cases hp : posn (tmap t) n with
    | none => rfl
    | some q => rw [hp] at e; cases e
  rw [tupd_none _ _ _ h1]; simp [tmap]
theorem tlook_tdel (t : Tbl) (n m : Nm) : tlook (tdel t n) m = if m = n then none else tlook t m := by
  induction t with
  | nil => simp [tdel, tlook]
  | cons p r ih =>
    unfold tdel at ih ⊢
    rw [List.filter_cons]
    split
    · rename_i h
      simp only [decide_eq_true_eq] at h
      unfold tlook
      split
      · rename_i e; rw [if_neg (by rw [e]; exact h)]
      · exact ih
    · rename_i h
      simp only [decide_eq_true_eq, Decidable.not_not] at h
      rw [ih]
      split
      · rfl
      · rename_i e
        conv => rhs; unfold tlook
        rw [if_neg (by rw [h]; exact e)]
/-- a disk among the resources -/
class FdD (L : List Res) (db : Nat) (d : outParam Dk.Disk) (i : outParam Nat) : Prop where
  h : L[i]? = some (diskR db d)
instance (priority := 1100) FdD.hit (db : Nat) (d : Dk.Disk) (L : List Res) : FdD (diskR db d :: L) db d 0 := ⟨rfl⟩
instance FdD.skip (R : Res) (L : List Res) (db : Nat) (d : Dk.Disk) (i : Nat) [h : FdD L db d i] : FdD (R :: L) db d (i + 1) := ⟨by simpa using h.h⟩
theorem disk_at {P : Program} {f : FuncId} {args : Array Value} {w : World} {v : Value} {L L' : List Res} {db i : Nat} {d d' : Dk.Disk} [hf : FdD L db d i] [hs : St L i (diskR db d') L']
    (K : ∀ fr, Sat w (diskR db d :: fr) → Rt P f args w fun u w' => u = v ∧ Sat w' (diskR db d' :: fr)) (H : Sat w L) : Rt P f args w fun u w' => u = v ∧ Sat w' L' := by
  have hl := hf.h
  refine (K _ (H.fetch hl)).mono ?_
  rintro u w' ⟨rfl, H'⟩
  refine ⟨rfl, ?_⟩
  have := H'.back (lt_of_at hl)
  rwa [hs.h.2] at this
end Go.Cg

/- Resources with footprints of their own: what a call knows of memory, as a list; a contract takes some of them and leaves the rest as they were. No condition. -/
import Derived.WalkKit
import Derived.Laws.OwnMore
import Derived.Laws.MakeOwn
import Derived.Below
namespace Go.Cg
set_option linter.unusedVariables false
set_option linter.unusedSimpArgs false
open Go.RowKit

/-- only memory has grown or turned -/
structure Hp (w w' : World) : Prop where
  os : w'.os = w.os
  tape : w'.tape = w.tape
  output : w'.output = w.output
  size : w.heap.size ≤ w'.heap.size

theorem Hp.refl (w : World) : Hp w w := ⟨rfl, rfl, rfl, Nat.le_refl _⟩
theorem Hp.trans {a b c : World} (h : Hp a b) (k : Hp b c) : Hp a c := ⟨k.os.trans h.os, k.tape.trans h.tape, k.output.trans h.output, Nat.le_trans h.size k.size⟩

structure Res where
  own : World → (Nat → Prop) → Prop
  stable : ∀ {w w' : World} {F : Nat → Prop}, Hp w w' → (∀ k, F k → w'.heap[k]? = w.heap[k]?) → own w F → own w' F
  /-- what the walk may read off it -/
  says : World → Prop := fun _ => True
  tells : ∀ {w : World} {F : Nat → Prop}, own w F → says w := by intros; trivial

def SatIn (w : World) : (Nat → Prop) → List Res → Prop
  | _, [] => True
  | A, P :: L => ∃ F, (∀ k, F k → A k) ∧ P.own w F ∧ SatIn w (fun k => A k ∧ ¬ F k) L

theorem SatIn.mono {w : World} : ∀ {L : List Res} {A B : Nat → Prop}, (∀ k, A k → B k) → SatIn w A L → SatIn w B L
  | [], _, _, _, _ => trivial
  | _ :: _, _, _, h, ⟨F, h1, h2, h3⟩ => ⟨F, fun k hk => h k (h1 k hk), h2, SatIn.mono (fun k hk => ⟨h k hk.1, hk.2⟩) h3⟩

theorem SatIn.swap {w : World} {A : Nat → Prop} {P Q : Res} {L : List Res} (h : SatIn w A (P :: Q :: L)) : SatIn w A (Q :: P :: L) := by
  obtain ⟨F, h1, h2, G, g1, g2, g3⟩ := h
  exact ⟨G, fun k hk => (g1 k hk).1, g2, F, fun k hk => ⟨h1 k hk, fun hg => (g1 k hg).2 hk⟩, h2, SatIn.mono (fun k hk => ⟨⟨hk.1.1, hk.2⟩, hk.1.2⟩) g3⟩

theorem SatIn.perm {w : World} {L L' : List Res} (h : L.Perm L') : ∀ {A : Nat → Prop}, SatIn w A L → SatIn w A L' := by
  induction h with
  | nil => exact fun h => h
  | cons x _ ih => exact fun ⟨F, h1, h2, h3⟩ => ⟨F, h1, h2, ih h3⟩
  | swap x y l => exact SatIn.swap
  | trans _ _ ih1 ih2 => exact fun h => ih2 (ih1 h)

theorem SatIn.keep {w w' : World} (hh : Hp w w') : ∀ {L : List Res} {A : Nat → Prop}, (∀ k, A k → w'.heap[k]? = w.heap[k]?) → SatIn w A L → SatIn w' A L
  | [], _, _, _ => trivial
  | P :: _, _, h, ⟨F, h1, h2, h3⟩ => ⟨F, h1, P.stable hh (fun k hk => h k (h1 k hk)) h2, SatIn.keep hh (fun k hk => h k hk.1) h3⟩

def Sat (w : World) (L : List Res) : Prop := SatIn w (fun k => k < w.heap.size) L

theorem Sat.perm {w : World} {L L' : List Res} (H : Sat w L) (h : L.Perm L') : Sat w L' := SatIn.perm h H

theorem Sat.grow {w w' : World} {L : List Res} (H : Sat w L) (hh : Hp w w') (h : ∀ k, k < w.heap.size → w'.heap[k]? = w.heap[k]?) : Sat w' L :=
  SatIn.mono (fun _ hk => Nat.lt_of_lt_of_le hk hh.size) (SatIn.keep hh h H)

/-- one resource turns; the others stay -/
theorem Sat.turn {w w' : World} {P P' : Res} {L : List Res} (H : Sat w (P :: L)) (hh : Hp w w')
    (h : ∀ F, (∀ k, F k → k < w.heap.size) → P.own w F → ∃ F', (∀ k, F' k → k < w'.heap.size ∧ (F k ∨ w.heap.size ≤ k)) ∧ P'.own w' F' ∧ ∀ k, k < w.heap.size → ¬ F k → w'.heap[k]? = w.heap[k]?) : Sat w' (P' :: L) := by
  obtain ⟨F, h1, h2, h3⟩ := H
  obtain ⟨F', g1, g2, g3⟩ := h F h1 h2
  exact ⟨F', fun k hk => (g1 k hk).1, g2, SatIn.mono (fun k hk => ⟨Nat.lt_of_lt_of_le hk.1 hh.size, fun hf => ((g1 k hf).2.elim hk.2 fun hge => absurd hk.1 (Nat.not_lt.2 hge))⟩)
    (SatIn.keep hh (fun k hk => g3 k hk.1 hk.2) h3)⟩

/-- a new resource in new blocks -/
theorem Sat.add {w w' : World} {P : Res} {L : List Res} (H : Sat w L) (hh : Hp w w') (h : ∀ k, k < w.heap.size → w'.heap[k]? = w.heap[k]?)
    (F : Nat → Prop) (hF : ∀ k, F k → w.heap.size ≤ k ∧ k < w'.heap.size) (hP : P.own w' F) : Sat w' (P :: L) :=
  ⟨F, fun k hk => (hF k hk).2, hP, SatIn.mono (fun _ hk => ⟨Nat.lt_of_lt_of_le hk hh.size, fun hf => absurd hk (Nat.not_lt.2 (hF _ hf).1)⟩) (SatIn.keep hh h H)⟩

theorem Sat.drop {w : World} {P : Res} {L : List Res} (H : Sat w (P :: L)) : Sat w L := by
  obtain ⟨F, _, _, h⟩ := H
  exact SatIn.mono (fun _ hk => hk.1) h

theorem Sat.head {w : World} {P : Res} {L : List Res} (H : Sat w (P :: L)) : ∃ F, (∀ k, F k → k < w.heap.size) ∧ P.own w F := by
  obtain ⟨F, h1, h2, _⟩ := H
  exact ⟨F, h1, h2⟩

theorem Sat.nil (w : World) : Sat w [] := trivial

/-- a resource may be told in other words -/
theorem Sat.weaken {w : World} {P P' : Res} {L : List Res} (H : Sat w (P :: L)) (h : ∀ F, P.own w F → P'.own w F) : Sat w (P' :: L) := by
  obtain ⟨F, h1, h2, h3⟩ := H
  exact ⟨F, h1, h F h2, h3⟩

/-! ### the resources -/
def emp : Res := { own := fun _ F => ∀ k, ¬ F k, stable := fun _ _ h => h }

/-- what is read off a block's object -/
def objSays (w : World) (b : Nat) : Obj → Prop
  | .cells c _ fr => (∀ j, w.cell? ⟨b, j, none⟩ = c[j]?) ∧ (fr = (0, 0) → ∀ j, w.frozen? ⟨b, j, none⟩ = false)
  | o => w.heap[b]? = some o

/-- a block -/
def blk (b : Nat) (o : Obj) : Res where
  own w F := w.heap[b]? = some o ∧ ∀ k, F k ↔ k = b
  stable _ h h' := ⟨(h _ ((h'.2 _).2 rfl)).trans h'.1, h'.2⟩
  says w := objSays w b o
  tells {w F} h := by
    have hb := h.1
    unfold objSays
    split
    · exact ⟨fun j => by simp [World.cell?, hb], fun e j => by subst e; simp [World.frozen?, hb]⟩
    · exact hb

/-- a row that is owned: a slice's value, how many elements, their cells -/
def row (e : TypeId) (size : Nat) (v : Value) (n : Nat) (xs : List Value) : Res :=
  { own := fun w F => w.ownsRow 0 e size v n xs ∧ ∀ k, F k ↔ v.ownBlock = some k
    stable := fun {w w' F} hh h h' => ⟨by
      refine ⟨h'.1.1, ?_⟩
      rcases h'.1.2 with hn | ⟨g, cap, cur, hv, h0, hg, r⟩
      · exact .inl hn
      · exact .inr ⟨g, cap, cur, hv, h0, (h g ((h'.2 g).2 (by rw [hv]; rfl))).trans hg, r⟩, h'.2⟩ }

/-- what was there when the call began -/
def old (W : World) : Res :=
  { own := fun w F => Hp W w ∧ (∀ k, F k ↔ k < W.heap.size) ∧ ∀ k, k < W.heap.size → w.heap[k]? = W.heap[k]?
    stable := fun hh h h' => ⟨h'.1.trans hh, h'.2.1, fun k hk => (h k ((h'.2.1 k).2 hk)).trans (h'.2.2 k hk)⟩
    says := fun w => (∀ b j, b < W.heap.size → w.cell? ⟨b, j, none⟩ = W.cell? ⟨b, j, none⟩) ∧ ∀ b j, b < W.heap.size → w.frozen? ⟨b, j, none⟩ = W.frozen? ⟨b, j, none⟩
    tells := fun h => ⟨fun b _ hb => World.cell?_of_block (h.2.2 b hb), fun b _ hb => World.frozen?_of_block (h.2.2 b hb)⟩ }

theorem Sat.start (W : World) : Sat W [old W] := ⟨fun k => k < W.heap.size, fun _ h => h, ⟨Hp.refl _, fun _ => Iff.rfl, fun _ _ => rfl⟩, trivial⟩

theorem Sat.below {W w : World} {L : List Res} (H : Sat w (old W :: L)) : Below W.heap.size W w := by
  obtain ⟨_, _, h, _, g⟩ := H.head
  exact ⟨h.os, h.tape, h.output, h.size, g⟩

/-! ### fetching one out of the list -/
theorem perm_front : ∀ (L : List Res) (i : Nat), i < L.length → L.Perm (L.getD i emp :: L.eraseIdx i)
  | _ :: _, 0, _ => List.Perm.refl _
  | x :: L, i + 1, h => ((perm_front L i (by simpa using h)).cons x).trans (List.Perm.swap _ _ _)

theorem lt_of_at {L : List Res} {i : Nat} {P : Res} (h : L[i]? = some P) : i < L.length := (List.getElem?_eq_some_iff.1 h).1
theorem Sat.fetch {w : World} {L : List Res} (H : Sat w L) {i : Nat} {P : Res} (h : L[i]? = some P) : Sat w (P :: L.eraseIdx i) := by
  have hp := perm_front L i (lt_of_at h)
  rw [show L.getD i emp = P from by simp [h]] at hp
  exact H.perm hp
theorem perm_back : ∀ (L : List Res) (i : Nat) (P : Res), i < L.length → (P :: L.eraseIdx i).Perm (L.set i P)
  | _ :: _, 0, _, _ => List.Perm.refl _
  | x :: L, i + 1, P, h => (List.Perm.swap x P (L.eraseIdx i)).trans ((perm_back L i P (by simpa using h)).cons x)

/-- the first goes to place i -/
theorem Sat.back {w : World} {L : List Res} {i : Nat} {P : Res} (H : Sat w (P :: L.eraseIdx i)) (h : i < L.length) : Sat w (L.set i P) := H.perm (perm_back L i P h)

/-! ### worlds -/
theorem Hp.alloc (w : World) (o : Obj) : Hp w (w.alloc o) := ⟨rfl, rfl, rfl, by simp⟩
theorem Hp.drew (w : World) : Hp w w.drew := ⟨rfl, rfl, rfl, Nat.le_refl _⟩
theorem Hp.setCell (w : World) (a : Addr) (v : Value) : Hp w (w.setCell a v) := ⟨rfl, rfl, rfl, by simp [World.setCell]⟩
theorem Hp.grown {w w' : World} {r : Option Nat} (h : w.grownBy w' r) : Hp w w' := ⟨h.os, h.tape, h.output, h.size⟩

theorem Sat.alloc {w : World} {L : List Res} (H : Sat w L) (o : Obj) : Sat (w.alloc o) (blk w.heap.size o :: L) :=
  H.add (Hp.alloc w o) (fun k hk => Below.heap_alloc w o k hk) (fun k => k = w.heap.size) (fun k hk => by subst hk; simp) ⟨heap_alloc_new w o, fun _ => Iff.rfl⟩

theorem Sat.blk_lt {w : World} {b : Nat} {o : Obj} {L : List Res} (H : Sat w (blk b o :: L)) : w.heap[b]? = some o := by
  obtain ⟨_, _, h, _⟩ := H.head
  exact h

theorem Sat.setBlk {w w' : World} {b : Nat} {o o' : Obj} {L : List Res} (H : Sat w (blk b o :: L)) (hh : Hp w w') (hb : w'.heap[b]? = some o') (h : ∀ k, k ≠ b → k < w.heap.size → w'.heap[k]? = w.heap[k]?) :
    Sat w' (blk b o' :: L) :=
  H.turn hh fun F hF hP => ⟨F, fun k hk => ⟨Nat.lt_of_lt_of_le (hF k hk) hh.size, .inl hk⟩, ⟨hb, hP.2⟩, fun k hk hf => h k (fun e => hf ((hP.2 k).2 e)) hk⟩

/-- a store into a block of one's own -/
theorem Sat.setCell {w : World} {b i : Nat} {c : Array Value} {t : TypeId} {fr : Nat × Nat} {L : List Res} (H : Sat w (blk b (.cells c t fr) :: L)) (v : Value) :
    Sat (w.setCell ⟨b, i, none⟩ v) (blk b (.cells (c.setIfInBounds i v) t fr) :: L) := by
  have hb := H.blk_lt
  refine H.setBlk (Hp.setCell _ _ _) ?_ fun k hk _ => Below.heap_setCell _ _ _ _ hk
  simp only [World.setCell, Array.getElem?_modify]
  simp [hb]

theorem Sat.cellAt {w : World} {b : Nat} {c : Array Value} {t : TypeId} {fr : Nat × Nat} {L : List Res} (H : Sat w (blk b (.cells c t fr) :: L)) (i : Nat) : w.cell? ⟨b, i, none⟩ = c[i]? := by
  have hb := H.blk_lt
  simp [World.cell?, hb]

theorem Sat.thawed {w : World} {b : Nat} {c : Array Value} {t : TypeId} {L : List Res} (H : Sat w (blk b (.cells c t) :: L)) (i : Nat) : w.frozen? ⟨b, i, none⟩ = false := by
  have hb := H.blk_lt
  simp [World.frozen?, hb]

/-! ### what the walk leaves is taken in -/
/-- what a block of the list has -/
theorem Sat.cellOf {w : World} {L : List Res} {i b : Nat} {c : Array Value} {t : TypeId} (H : Sat w L) (hL : L[i]? = some (blk b (.cells c t))) : (∀ j, w.cell? ⟨b, j, none⟩ = c[j]?) ∧ ∀ j, w.frozen? ⟨b, j, none⟩ = false :=
  ⟨(H.fetch hL).cellAt, (H.fetch hL).thawed⟩

end Go.Cg

/- The rules of a walk over slots and resources: how code goes on: entering, branches, loops, calls, regions in open order, results. No condition. -/
import Derived.Test.YtgfdmhjjlajmgaaGreatDoorKURl
namespace Go.Cg
set_option linter.unusedVariables false
set_option linter.unusedSimpArgs false
open Go.RowKit

/-- the call returns, with this -/
def Rt (P : Program) (f : FuncId) (args : Array Value) (w : World) (R : Value → World → Prop) : Prop := Calls P f args w fun e w' => ∃ v, e = .returned v ∧ R v w'
theorem Rt.mono {P : Program} {f : FuncId} {args : Array Value} {w : World} {R R' : Value → World → Prop} (h : Rt P f args w R) (hr : ∀ v w', R v w' → R' v w') : Rt P f args w R' :=
  Calls.mono h fun _ _ ⟨v, e, r⟩ => ⟨v, e, hr v _ r⟩

def idx : Nat → List Value → List (Nat × Value)
  | _, [] => []
  | i, v :: vs => (i, v) :: idx (i + 1) vs
theorem lk_idx : ∀ (vs : List Value) (i d : Nat) (v : Value), lk (idx i vs) d = some v → i ≤ d ∧ vs[d - i]? = some v
  | x :: vs, i, d, v, h => by
    unfold idx lk at h
    cases hb : Nat.beq i d with
    | true => rw [hb] at h; have e := Nat.eq_of_beq_eq_true hb; subst e; simp only [Option.some.injEq] at h; subst h; simp
    | false =>
      rw [hb] at h
      have hne := Nat.ne_of_beq_eq_false hb
      obtain ⟨h1, h2⟩ := lk_idx vs (i + 1) d v h
      refine ⟨by omega, ?_⟩
      rw [show d - i = (d - (i + 1)) + 1 from by omega]
      simpa using h2
theorem Slots.init (args : Array Value) (n : Nat) (h : args.size ≤ n) : Slots { tmps := args ++ Array.replicate (n - args.size) undef, defers := [] } n (idx 0 args.toList ++ [(n, undef)]) := by
  have key : ∀ (E : List (Nat × Value)) (d : Nat) (v : Value), lk (E ++ [(n, undef)]) d = some v → lk E d = some v ∨ (d = n ∧ v = undef) := by
    intro E
    induction E with
    | nil =>
      intro d v h
      by_cases e : n = d
      · subst e; rw [List.nil_append, lk_on] at h; cases h; exact .inr ⟨rfl, rfl⟩
      · rw [List.nil_append, lk_off e] at h; cases h
    | cons p r ih =>
      intro d v h
      obtain ⟨i, u⟩ := p
      rw [List.cons_append] at h
      by_cases e : i = d
      · subst e; rw [lk_on] at h ⊢; exact .inl h
      · rw [lk_off e] at h ⊢; exact ih d v h
  refine ⟨by simp; omega, fun _ _ => rfl, fun D v hd => ?_, fun d v hd => ?_⟩
  · rcases key _ _ _ hd with h | ⟨h, _⟩
    · obtain ⟨_, h2⟩ := lk_idx _ _ _ _ h
      simp only [Nat.sub_zero, Array.getElem?_toList] at h2
      have hlt := (Array.getElem?_eq_some_iff.1 h2).1
      omega
    · omega
  rcases key _ _ _ hd with hd | ⟨rfl, rfl⟩
  · obtain ⟨_, h2⟩ := lk_idx _ _ _ _ hd
    simp only [Nat.sub_zero, Array.getElem?_toList] at h2
    have hlt := (Array.getElem?_eq_some_iff.1 h2).1
    rw [Array.getD_eq_getD_getElem?, Array.getElem?_append_left hlt, h2]; rfl
  · rw [Array.getD_eq_getD_getElem?, Array.getElem?_eq_none (by simp; omega)]; rfl

section
variable {P : Program} {ops : Array Oper} {Q : Exit → Act → World → Prop} {a : Act} {w : World} {rest : List Oper} {o : Oper} {L : List Res} {n : Nat} {E : List (Nat × Value)}

theorem rt_enter {f : FuncId} {fn : Func} {c : Code} {args : Array Value} {R : Value → World → Prop} (hf : P.funcs[f]? = some fn) (hb : fn.body = some c) (hn : fn.ntmps = n) (ha : Nat.ble args.size n = true)
    (K : ∀ a, Slots a n (idx 0 args.toList ++ [(n, undef)]) → c.wp P (bodyPost P fn fun e w' => ∃ v, e = .returned v ∧ R v w') a w) : Rt P f args w R := by
  subst hn
  exact calls_of_wp hf hb (K _ (Slots.init args _ (by simpa [Nat.ble_eq] using ha)))

/-! ### control -/
theorem r_seq {x y : Code} (h : x.wp P (Exit.then (y.wp P Q) Q) a w) : (Code.seq x y).wp P Q a w := wp_seq h
theorem r_block {id : Nat} {c : Code} (h : c.wp P (Exit.inBlock id Q) a w) : (Code.block id c).wp P Q a w := wp_block h
theorem r_region {id : Nat} {l : List Oper} (h : wpList P l.toArray Q l a w) : (Code.region id l.toArray false).wp P Q a w := wp_region_lit h
theorem r_nil (h : Q .normal a w) : wpList P ops Q [] a w := h
theorem x_then {next : Act → World → Prop} (h : next a w) : Exit.then next Q .normal a w := h
theorem x_thenExit {next : Act → World → Prop} {id : Nat} (h : Q (.exit id) a w) : Exit.then next Q (.exit id) a w := h
theorem x_thenRet {next : Act → World → Prop} (h : Q .ret a w) : Exit.then next Q .ret a w := h
theorem x_blockEnd {id : Nat} (h : Q .normal a w) : Exit.inBlock id Q .normal a w := h
theorem x_blockRet {id : Nat} (h : Q .ret a w) : Exit.inBlock id Q .ret a w := h
theorem x_blockHere {id : Nat} (h : Q .normal a w) : Exit.inBlock id Q (.exit id) a w := by simp only [Exit.inBlock, if_true]; exact h
theorem r_cond {c : Operand} {x y : Code} {b : Bool} (S : Slots a n E) (hc : ev E c = some (.bool b)) (ht : b = true → x.wp P Q a w) (hf : b = false → y.wp P Q a w) : (Code.cond c x y).wp P Q a w := wp_cond_split (S.eval hc) ht hf
theorem r_condT {c : Operand} {x y : Code} (S : Slots a n E) (hc : ev E c = some (.bool true)) (h : x.wp P Q a w) : (Code.cond c x y).wp P Q a w := wp_cond_true (S.eval hc) h
theorem r_condF {c : Operand} {x y : Code} (S : Slots a n E) (hc : ev E c = some (.bool false)) (h : y.wp P Q a w) : (Code.cond c x y).wp P Q a w := wp_cond_false (S.eval hc) h
/-- a test of two numbers -/
theorem r_test {c : Operand} {x y : Code} {p : Prop} [Decidable p] (S : Slots a n E) (hc : ev E c = some (.bool (decide p))) (ht : p → x.wp P Q a w) (hf : ¬ p → y.wp P Q a w) : (Code.cond c x y).wp P Q a w :=
  r_cond S hc (fun h => ht (of_decide_eq_true h)) (fun h => hf (of_decide_eq_false h))

theorem r_loop {ι : Type} {c : Code} (I : ι → Act → World → Prop) (μ : ι → Nat) (i0 : ι) (h0 : I i0 a w)
    (round : ∀ i a w, I i a w → c.wp P (Exit.then (fun a' w' => ∃ i', I i' a' w' ∧ μ i' < μ i) Q) a w) : (Code.loop c).wp P Q a w := by
  intro b k cs
  have key : ∀ m i a w, μ i = m → I i a w → ∃ e a' w', Q e a' w' ∧ Arrives P (lone (b.at a (.code c :: .inLoop c :: k)) cs w) b k cs e a' w' := by
    intro m
    induction m using Nat.strongRecOn with
    | _ m ih =>
      intro i a w hm hI
      obtain ⟨e, a₁, w₁, hq, harr⟩ := round i a w hI b (.inLoop c :: k) cs
      cases e with
      | normal =>
        obtain ⟨i', hI₁, hlt⟩ := hq
        obtain ⟨e₂, a₂, w₂, hq₂, harr₂⟩ := ih (μ i') (hm ▸ hlt) i' a₁ w₁ rfl hI₁
        exact ⟨e₂, a₂, w₂, hq₂, .of_steps (Steps.trans harr (.one step_inLoop)) harr₂⟩
      | exit id => exact ⟨_, a₁, w₁, hq, .pass (x := .inLoop c) rfl (fun _ _ => .inl (by simp)) harr⟩
      | goto l => exact ⟨_, a₁, w₁, hq, .pass (x := .inLoop c) rfl (fun _ _ => .inl (by simp)) harr⟩
      | ret => exact ⟨_, a₁, w₁, hq, .pass (x := .inLoop c) rfl (fun _ _ => .inl (by simp)) harr⟩
      | panic ch => exact ⟨_, a₁, w₁, hq, .pass (x := .inLoop c) rfl (fun _ _ => .inl (by simp)) harr⟩
      | outgrown => exact ⟨_, a₁, w₁, hq, .pass (x := .inLoop c) rfl (fun _ _ => .inl (by simp)) harr⟩
  obtain ⟨e, a', w', hq, harr⟩ := key _ i0 a w rfl h0
  exact ⟨e, a', w', hq, .of_steps (.one step_loop) harr⟩

/-- a piece of code comes to this, whatever way it takes; then the rest -/
theorem r_mid {x y : Code} (J : Act → World → Prop) (h : x.wp P (Exit.then J (fun _ _ _ => False)) a w) (K : ∀ a w, J a w → y.wp P Q a w) : (Code.seq x y).wp P Q a w :=
  wp_seq (Code.wp_mono (fun e a w h => by cases e <;> first | exact K a w h | exact h.elim) h)
end
end Go.Cg

/- More rules: values of several cells stored into rows; interfaces, and calls of their methods; rows cut. No condition. -/
import Derived.Test.YtgfdmhjjlajmgaaGreatDoorKURv
namespace Go.Cg
set_option linter.unusedVariables false
set_option linter.unusedSimpArgs false
open Go.RowKit
/-- cells put into a row, from a place on -/
def putL : List Value → Nat → List Value → List Value
  | xs, _, [] => xs
  | xs, j, v :: vs => putL (xs.set j v) (j + 1) vs
@[simp] theorem putL_len : ∀ (vs xs : List Value) (j : Nat), (putL xs j vs).length = xs.length
  | [], _, _ => rfl
  | v :: vs, xs, j => by rw [putL, putL_len vs]; simp
section
variable {P : Program} {ops : Array Oper} {Q : Exit → Act → World → Prop} {a : Act} {w : World} {rest : List Oper} {o : Oper} {L : List Res} {n : Nat} {E : List (Nat × Value)}
theorem sat_storesRow {e : TypeId} {sz g len cap : Nat} (j : Nat) : ∀ (vs xs : List Value) (i : Nat) (w : World), Sat w (row e sz (.slice (some ⟨g, 0, none⟩) len cap) len xs :: L) → j + i + vs.length ≤ len * sz → (∀ u ∈ vs, u.oneCell' = true) →
    ∃ w', (storeCells ⟨g, j, none⟩ vs i).run P w = .ok () w' ∧ Sat w' (row e sz (.slice (some ⟨g, 0, none⟩) len cap) len (putL xs (j + i) vs) :: L)
  | [], xs, i, w, H, _, _ => ⟨w, by simp [storeCells], H⟩
  | v :: vs, xs, i, w, H, h, h1 => by
    have hadd : (⟨g, j, none⟩ : Addr).add i = ⟨g, j + i, none⟩ := by unfold Addr.add; split <;> simp_all
    obtain ⟨hr, H'⟩ := sat_setRow (P := P) H (k := j + i) (by simp only [List.length_cons] at h; omega) v (h1 v (by simp))
    obtain ⟨w', hr2, H2⟩ := sat_storesRow j vs _ (i + 1) _ H' (by simp only [List.length_cons] at h; omega) (fun u hu => h1 u (by simp [hu]))
    refine ⟨w', ?_, by rw [putL, Nat.add_assoc]; exact H2⟩
    rw [storeCells, hadd]
    simp only [Sem.run_bind, hr, Result.andThen_ok]
    exact hr2
theorem r_setRows {ty e : TypeId} {ad x : Operand} {g j sz len cap s : Nat} {v : Value} {vs xs xs' : List Value} {L' : List Res} (i : Nat) (S : Slots a n E) (H : Sat w L) (ho : o.op = .store ty ad x) (ha : ev E ad = some (.pointer (some ⟨g, j, none⟩))) (hx : ev E x = some v)
    (hL : L[i]? = some (row e sz (.slice (some ⟨g, 0, none⟩) len cap) len xs)) (hs : SizeOf P ty s) (hvs : v.cells.toList = vs) (hl : vs.length = s) (h1 : ∀ u ∈ vs, u.oneCell' = true) (hj : j + s ≤ len * sz) (hxs : putL xs j vs = xs') (hL' : L.set i (row e sz (.slice (some ⟨g, 0, none⟩) len cap) len xs') = L') (hd : o.dst = none) (hw : Wt ops E o = some true)
    (K : ∀ w', Sat w' L' → wpList P ops Q rest a w') : wpList P ops Q (o :: rest) a w := by
  obtain ⟨w', hr, H'⟩ := sat_storesRow (P := P) j vs xs 0 w (H.fetch hL) (by omega) h1
  refine r_act S ?_ hd hw (K w' (by subst hL'; subst hxs; exact H'.back (lt_of_at hL)))
  have hn : v.cells.size = s := by rw [← hl, ← hvs]; simp
  simp [execOp, ho, S.eval ha, S.eval hx, Instr.storeAt, Instr.sureAddr, storeVar, hs w, hn, hvs, hr]
/-- a value as an interface -/
theorem y_iface {t : TypeId} {x : Operand} {v : Value} {d : TypeDesc} (S : Slots a n E) (ho : o.op = .makeInterface t x) (hx : ev E x = some v) (hu : P.underlying t = some d) (hn : ∀ ms, d ≠ .interface ms) : Yl P L o a (.iface t v) :=
  yl_val (s := Instr.makeInterface t (a.eval x)) (by simp only [execOp, ho]) fun w _ => by
    rw [S.eval hx]
    unfold Instr.makeInterface
    simp only [Sem.run_bind, run_underlying hu, Result.andThen_ok]
    cases d <;> first | rfl | exact absurd rfl (hn _)
/-- which function a method of an interface is -/
def Meth (P : Program) (t : TypeId) (v : Value) (name : String) (f : FuncId) : Prop := ∀ w, (method (P.types.size + Made.depth) t v name).run P w = .ok (f, v) w
theorem run_callM {recv : Operand} {name : String} {xs : Array Operand} {ats : Array TypeId} {args : Array Value} {t : TypeId} {v : Value} {f : FuncId} (S : Slots a n E) (ho : o.op = .call { callee := .invoke recv name, args := xs, argTypes := ats }) (hr : ev E recv = some (.iface t v)) (hargs : xs.toList.map (ev E) = args.toList.map some) (hm : Meth P t v name f) (w : World) :
    (execOp a.eval o).run P w = (callFunc f (#[v] ++ args)).run P w := by
  have he := map_eval S hargs
  have hp : Sem.run P program w = .ok P w := rfl
  simp only [execOp, ho, resolve, he, S.eval hr, Sem.run_bind, Sem.run_pure, Result.andThen_ok, invoke]
  have e1 : (#[Value.iface t v] ++ args)[0]? = some (.iface t v) := by rw [Array.getElem?_append_left (by simp)]; rfl
  have e2 : (#[Value.iface t v] ++ args).extract 1 (#[Value.iface t v] ++ args).size = args := by
    apply Array.ext'
    simp
  simp only [e1, e2, callMethod, Sem.run_bind, hp, Result.andThen_ok, hm w]
theorem q_callM {Q : Act → Prop} {recv : Operand} {name : String} {xs : Array Operand} {ats : Array TypeId} {args args' : Array Value} {t : TypeId} {u v : Value} {f : FuncId} {d : Nat} (S : Slots a n E) (ho : o.op = .call { callee := .invoke recv name, args := xs, argTypes := ats }) (hr : ev E recv = some (.iface t u)) (hargs : xs.toList.map (ev E) = args.toList.map some) (hm : Meth P t u name f) (hf : Enters P f) (he : #[u] ++ args = args')
    (hc : ∀ w, Sat w L → Rt P f args' w fun x w' => x = v ∧ Sat w' L) (hd : o.dst = some d) (hn : Nat.blt d n = true) (hw : Wt ops E o = some true) (K : ∀ a', Slots a' n ((d, v) :: E) → wpQuiet P ops (fun w => Sat w L) Q rest a') : wpQuiet P ops (fun w => Sat w L) Q (o :: rest) a := by
  unfold wpQuiet
  rw [S.wanted hw, if_pos rfl]
  refine ⟨v, fun w H => ?_, by rw [hd]; exact K _ (S.put hn v)⟩
  unfold Oper.quietAt
  rw [run_callM S ho hr hargs hm w, hf _ w, he]
  exact ⟨rfl, Calls.mono (hc w H) fun e w' ⟨x, he, hx, H'⟩ => ⟨by rw [he, hx], H'⟩⟩
/-- a row of which the last ones are let go -/
theorem Sat.short {e sz m c k : Nat} {A : Option Addr} {xs : List Value} (H : Sat w (row e sz (.slice A m c) m xs :: L)) (hk : k ≤ m) : Sat w (row e sz (.slice A k c) k (xs.take (k * sz)) :: L) := by
  refine H.weaken fun F hP => ⟨?_, ?_⟩
  · have hks : k * sz ≤ m * sz := Nat.mul_le_mul_right _ hk
    refine ⟨by rw [List.length_take, hP.1.1]; omega, ?_⟩
    rcases hP.1.2 with ⟨h1, h2⟩ | ⟨g, cap, cur, h1, h3, h4, h5, h6, h7, h8⟩
    · cases h1
      have : k = 0 := by omega
      subst this; exact .inl ⟨rfl, rfl⟩
    · cases h1
      exact .inr ⟨g, _, cur, rfl, h3, h4, Nat.le_trans hk h5, h6, h7, by rw [← h8, List.take_take, Nat.min_eq_left hks]⟩
  · exact fun k => (hP.2 k).trans (by cases A <;> simp [Value.ownBlock])
end
end Go.Cg

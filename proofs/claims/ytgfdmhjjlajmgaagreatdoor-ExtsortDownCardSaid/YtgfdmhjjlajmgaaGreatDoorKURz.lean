/- More rules: a part of a row is cleared. No condition. -/
import Derived.Test.YtgfdmhjjlajmgaaGreatDoorKURs
namespace Go.Cg
set_option linter.unusedVariables false
set_option linter.unusedSimpArgs false
open Go.RowKit
section
variable {P : Program} {ops : Array Oper} {Q : Exit → Act → World → Prop} {a : Act} {w : World} {rest : List Oper} {o : Oper} {L : List Res} {n : Nat} {E : List (Nat × Value)}
theorem r_clearS {t e : TypeId} {x : Operand} {X : Option Addr} {g j m c len cap bytes : Nat} {z : Value} {xs : List Value} {L' : List Res} (i : Nat) (S : Slots a n E) (H : Sat w L) (ho : o.op = .call { callee := .builtin .clear, args := #[x], argTypes := #[t] }) (hx : ev E x = some (.slice X m c)) (hX : m = 0 ∨ X = some ⟨g, j, none⟩)
    (hL : L[i]? = some (row e 1 (.slice (some ⟨g, 0, none⟩) len cap) len xs)) (El : Elem P t e 1 bytes z) (hz1 : z.cells = #[z]) (hone : z.oneCell' = true) (hj : j + m ≤ len) (hL' : L.set i (row e 1 (.slice (some ⟨g, 0, none⟩) len cap) len (putL xs j (List.replicate m z))) = L') (hd : o.dst = none) (hw : Wt ops E o = some true)
    (K : ∀ w', Sat w' L' → wpList P ops Q rest a w') : wpList P ops Q (o :: rest) a w := by
  obtain ⟨d, hi, hz, hs, _⟩ := El.parts
  have ht := El.sl
  have hze : (zeroValue e).run P w = .ok z w := by simp [zeroValue, typeInfo, hi, hz]
  obtain ⟨w', hr, H'⟩ := sat_storesRow (P := P) j (List.replicate m z) xs 0 w (H.fetch hL) (by simp; omega) (fun u hu => by rw [(List.mem_replicate.1 hu).2]; exact hone)
  rcases Nat.eq_zero_or_pos m with h0 | h0
  · subst h0
    have hx' : (execOp a.eval o).run P w = .ok (.value (.tuple #[])) w := by
      cases X <;> simp [execOp, ho, resolve, invoke, builtin, S.eval hx, Builtin.clear_, run_underlying ht]
    refine wpList_wanted (S.wanted hw) ?_
    unfold Oper.wp
    rw [hx']
    simp only [Oper.upon, hd]
    have e0 : w' = w := by simpa [storeCells] using hr.symm
    subst e0
    exact K _ (by subst hL'; exact H'.back (lt_of_at hL))
  · have hX : X = some ⟨g, j, none⟩ := hX.resolve_left (by omega)
    subst hX
    obtain ⟨k, rfl⟩ : ∃ k, m = k + 1 := ⟨m - 1, by omega⟩
    have hx' : (execOp a.eval o).run P w = .ok (.value (.tuple #[])) w' := by
      simp [execOp, ho, resolve, invoke, builtin, S.eval hx, Builtin.clear_, run_underlying ht, hze, hz1, zeroCells_one, hr]
    refine wpList_wanted (S.wanted hw) ?_
    unfold Oper.wp
    rw [hx']
    simp only [Oper.upon, hd]
    exact K _ (by subst hL'; exact H'.back (lt_of_at hL))
end
theorem putL_take : ∀ (vs xs : List Value) (j k : Nat), k ≤ j → (putL xs j vs).take k = xs.take k
  | [], _, _, _, _ => rfl
  | v :: vs, xs, j, k, h => by
    rw [putL, putL_take vs _ (j + 1) k (by omega), List.take_set_of_le h]
end Go.Cg

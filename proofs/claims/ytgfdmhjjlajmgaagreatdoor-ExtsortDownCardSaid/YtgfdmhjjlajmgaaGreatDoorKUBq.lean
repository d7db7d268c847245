/- Plain laws of files of few records, on a disk that is up. No condition. -/
import Derived.Test.YtgfdmhjjlajmgaaGreatDoorKUBx
import Derived.Test.YtgfdmhjjlajmgaaGreatDoorKUCl
namespace Go.Cg.Rn
set_option linter.unusedVariables false
set_option linter.unusedSimpArgs false
open Go.Cg.Dk Go.Cg.Oc Go.Cg.Cl

/-! ### one block -/
theorem rtext_cons (r : R) (l : List R) : rtext (r :: l) = rb r ++ rtext l := by simp [rtext]
theorem rtext_app (l m : List R) : rtext (l ++ m) = rtext l ++ rtext m := by simp [rtext]
@[simp] theorem rtext_len : ∀ l : List R, (rtext l).length = 16 * l.length
  | [] => rfl
  | r :: l => by rw [rtext_cons, List.length_append, rtext_len l, rb_len]; simp; omega
theorem recOf_rb {r : R} (h : r.1 < 18446744073709551616 ∧ r.2 < 18446744073709551616) (t : By) : recOf (rb r ++ t) = r := by
  unfold recOf rb
  rw [List.append_assoc, unle_take_le 8 r.1 _ h.1, List.drop_left' (le_len 8 r.1), unle_take_le 8 r.2 _ h.2]
theorem drop_rb (r : R) (t : By) : (rb r ++ t).drop 16 = t := List.drop_left' (rb_len r)
/-- a file of records that fill no more than one block -/
def F1 (l : List R) : By := (enc (rtext l)).1
theorem F1_len {l : List R} (h : l.length ≤ 50) : (F1 l).length = 16 * l.length + 6 := by
  unfold F1; rw [enc_len (by rw [rtext_len]; omega), rtext_len]
section
variable {d : Disk} (hu : d.down = false) (o : Int) (a : Nat) (fs : Fs)
include hu
end
/-! ### read again -/
end Go.Cg.Rn

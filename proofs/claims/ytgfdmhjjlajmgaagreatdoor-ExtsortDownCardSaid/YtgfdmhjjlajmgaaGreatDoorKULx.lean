/- What is laid, and rows of records, as they come in. No condition. -/
import Derived.Test.YtgfdmhjjlajmgaaGreatDoorRows
import Derived.Test.YtgfdmhjjlajmgaaGreatDoorTie
import Derived.Test.YtgfdmhjjlajmgaaGreatDoorKUOp
import Derived.Test.YtgfdmhjjlajmgaaGreatDoorKUd
import Derived.Lib.LaidTab
import Derived.Stop.LaidErr
import Derived.LaidMore
import Derived.Stop.Joined
namespace Go.Proofs.YtgfdmhjjlajmgaaGreatDoor
set_option linter.unusedVariables false
set_option linter.unusedSimpArgs false
open Go.ChangeShapes Go.WideShapes Go.ChangeAt Go.RowKit Go.Lib Go.Joins Go.Deep Go.Cg Go.Cg.Oc
set_option linter.unusedVariables false
open Go.Cg.Rn (R Bd)
abbrev laidL : List (String × DataW Unit) := [("math/bits.deBruijn32tab", Rows.laid_math_bits_deBruijn32tab), ("math/bits.deBruijn64tab", Rows.laid_math_bits_deBruijn64tab), ("internal/strconv.uint64pow10", Rows.laid_internal_strconv_uint64pow10)]
theorem old_var {w W : World} {n : String} {cs : Array Value} {g : Nat} (hg : Tryz.prog.globalNamed n = some g) (H : Sat w [old W]) (h : W.var? Tryz.prog n = some cs) : w.var? Tryz.prog n = some cs := by
  obtain ⟨F, _, hown⟩ := H.head
  unfold World.var? at h ⊢
  rw [hg] at h ⊢
  simp only [Option.bind_some] at h ⊢
  have hlt : g < W.heap.size := by
    cases hb : W.heap[g]? with
    | none => rw [hb] at h; simp at h
    | some _ => exact (Array.getElem?_eq_some_iff.1 hb).1
  rw [hown.2.2 g hlt]; exact h
theorem laid_open {W : World} (h : laidMetH Tryz.prog laidL W) : Laid [old W] := by
  rw [MakeChecks.laidMetH_plain _ _ _ (by kernel_rfl)] at h
  have h3 := h.tail.tail
  have hT : TabIs Tryz.prog W "internal/strconv.uint64pow10" .u64 pow10Tab := tabIs_of_head (g := 0) (by kernel_rfl) (t := 209) (by kernel_rfl) Tryz.underlying209 Tryz.underlying50 (by kernel_rfl) (by kernel_rfl) h3
  exact fun w H => old_var (g := 0) (by kernel_rfl) H hT
theorem door_met (os : Os) (args : Array Value) : laidMetH Tryz.prog laidL ((World.doorLaid Tryz.prog 400 os).forCall (fun _ _ => 0) ⟨#[], args, []⟩).memory :=
  laidMetH_of_parts3 (fuel := 8) (laidMet_of_run' 8 (by kernel_rfl) (by kernel_rfl)) (by kernel_rfl) (by kernel_rfl)
/-! ### slices -/
section
variable {H : Type} {enc : TypeId × Value → H} {P : Program} {W : World} {base : Nat} {spare : Nat → Bool} {held : Bool}
theorem slice_cells {t e : TypeId} {b0 : Nat} {v : Value} (ht : P.underlying t = some (.slice e)) (hv : Value.okWide P W .any b0 t v) : v.cells.toList = [v] := by
  cases v <;> first | rfl | simp [Value.okWide, ht, Cell.okWide, Cell.ok] at hv
theorem trod_top {t e : TypeId} {b0 : Nat} {v : Value} {d : DataW H} {p : List MemPlace} (ht : P.underlying t = some (.slice e)) (hv : Value.okWide P W .any b0 t v) (h : DataW.Trod enc P W base spare held t v d p) : ∃ fuel, DataW.trod enc P W base spare held fuel t [v] = some (d, p) := by
  obtain ⟨fuel, hf⟩ := h
  exact ⟨fuel, by rw [slice_cells ht hv] at hf; exact hf⟩
theorem fm_from {α : Type} {mk : α → List Value} {sz : Nat} (hmk : ∀ a, (mk a).length = sz) : ∀ {l : List α} {i : Nat} {a : α}, l[i]? = some a → ∀ k, k < sz → (l.flatMap mk)[i * sz + k]? = (mk a)[k]?
  | e :: l, 0, a, h, k, hk => by
    simp only [List.getElem?_cons_zero, Option.some.injEq] at h
    subst h
    simp only [List.flatMap_cons, Nat.zero_mul, Nat.zero_add]
    rw [List.getElem?_append_left (by rw [hmk]; exact hk)]
  | e :: l, i + 1, a, h, k, hk => by
    have := fm_from hmk (l := l) (i := i) (by simpa using h) k hk
    simp only [List.flatMap_cons]
    rw [List.getElem?_append_right (by rw [hmk, Nat.succ_mul]; omega), hmk, show (i + 1) * sz + k - sz = i * sz + k from by rw [Nat.succ_mul]; omega]
    exact this
theorem len_fm {α : Type} {mk : α → List Value} {sz : Nat} (hmk : ∀ a, (mk a).length = sz) : ∀ l : List α, (l.flatMap mk).length = l.length * sz
  | [] => by simp
  | e :: l => by have := len_fm hmk l; simp only [List.flatMap_cons, List.length_append, List.length_cons, hmk, this, Nat.succ_mul]; omega
/-- elements of several cells -/
theorem open_rowK {t e : TypeId} {fuel : Nat} {v : Value} {x : DataW H × List MemPlace} {α : Type} {R : α → Prop} {mk : α → List Value} {sz : Nat} (hsz : 0 < sz) (hmk : ∀ a, (mk a).length = sz) (ht : P.underlying t = some (.slice e)) (hc : P.cellsOf e = sz)
    (he : ∀ n cs y, DataW.trod enc P W base spare held n e cs = some y → ∃ a, cs = mk a ∧ R a) (h : DataW.trod enc P W base spare held fuel t [v] = some x) :
    ∃ (A : Option Addr) (c : Nat) (l : List α), v = .slice A l.length c ∧ SlOk [old W] sz A l.length c (l.flatMap mk) ∧ ∀ a ∈ l, R a := by
  rcases open_slice ht h with ⟨hcs, _⟩ | ⟨a, len, cap, m, n, D, Pl, hcs, _, hl, hm, hmm, _, hx⟩
  · simp only [List.cons.injEq, and_true] at hcs
    subst hcs
    exact ⟨none, 0, [], rfl, ⟨fun _ => rfl, Nat.le_refl _, Nat.zero_le _, by simp, Rd.nil _ _⟩, fun a h => by cases h⟩
  · simp only [List.cons.injEq, and_true] at hcs
    subst hcs
    have hlm : len ≤ m := by rw [hmm]; split <;> omega
    rw [hc] at hx
    obtain ⟨l, hll, hlp⟩ := choose_list (p := fun i (z : α) => (∀ k v, (mk z)[k]? = some v → W.cell? ((a.add (i * sz)).add k) = some v) ∧ R z) len fun i hi => by
      obtain ⟨cs', hcs, htr⟩ := hx i (by omega)
      obtain ⟨_, hlen, hcells⟩ := World.cells?_some hcs
      obtain ⟨z, rfl, hR⟩ := he _ _ _ htr
      exact ⟨z, fun k v hk => by rw [hcells k (by have := (List.getElem?_eq_some_iff.1 hk).1; rw [hmk] at this; exact this)]; exact hk, hR⟩
    refine ⟨some a, cap, l, by rw [hll], ⟨fun h => (by cases h), by omega, hm, len_fm hmk l, ?_⟩, fun z hz => ?_⟩
    · intro w Hs j v hj
      have hjl : j < l.length * sz := by have := (List.getElem?_eq_some_iff.1 hj).1; rw [len_fm hmk] at this; exact this
      have hi : j / sz < l.length := (Nat.div_lt_iff_lt_mul hsz).2 hjl
      have hji : j / sz * sz + j % sz = j := by rw [Nat.mul_comm]; exact Nat.div_add_mod j sz
      have hk : j % sz < sz := Nat.mod_lt _ hsz
      obtain ⟨z, hz⟩ : ∃ z, l[j / sz]? = some z := ⟨_, List.getElem?_eq_getElem hi⟩
      have hv : (mk z)[j % sz]? = some v := by
        have := fm_from hmk hz (j % sz) hk
        rw [hji, hj] at this
        exact this.symm
      have hcell := (hlp _ _ hz).1 (j % sz) v hv
      have hadd : (a.add (j / sz * sz)).add (j % sz) = a.add j := by
        have key : ∀ p q, (a.add p).add q = a.add (p + q) := by
          intro p q
          unfold Addr.add
          by_cases hp : p = 0
          · subst hp; simp
          · by_cases hq : q = 0
            · subst hq; simp [hp]
            · have : ¬ p + q = 0 := by omega
              simp [hp, hq, Nat.add_assoc]
        rw [key, hji]
      rw [hadd] at hcell
      obtain ⟨z0, hz0⟩ : ∃ z, l[0]? = some z := ⟨_, List.getElem?_eq_getElem (Nat.lt_of_le_of_lt (Nat.zero_le _) hi)⟩
      obtain ⟨u0, hu0⟩ : ∃ u, (mk z0)[0]? = some u := ⟨_, List.getElem?_eq_getElem (by rw [hmk]; exact hsz)⟩
      have h0 := (hlp 0 _ hz0).1 0 _ hu0
      have ha0 : (a.add (0 * sz)).add 0 = a := by rw [Nat.zero_mul]; rfl
      rw [ha0] at h0
      have hsp : a.spot = none := (old_cell Hs h0).1
      obtain ⟨b, o, sp⟩ := a
      simp at hsp; subst hsp
      refine ⟨b, o, rfl, ?_⟩
      have := (old_cell Hs hcell).2
      rwa [add_lit] at this
    · obtain ⟨i, hi⟩ := List.getElem?_of_mem hz
      exact (hlp i z hi).2
end
/-! ### records -/
section
variable {H : Type} {enc : TypeId × Value → H} {W : World} {base : Nat} {spare : Nat → Bool} {held : Bool}
set_option maxRecDepth 100000 in
theorem open_rec {fuel : Nat} {cs : List Value} {x : DataW H × List MemPlace} (h : DataW.trod enc Tryz.prog W base spare held fuel 52 cs = some x) : ∃ r : R, cs = rcell r ∧ (r.1 < 18446744073709551616 ∧ r.2 < 18446744073709551616) := by
  obtain ⟨y0, y1, n, _, hl, h0, h1⟩ := trod_struct2 Tryz.underlying52 h
  have hl2 : cs.length = 2 := hl.trans (by kernel_rfl)
  have k1 : Tryz.prog.cellsOf 50 = 1 := by kernel_rfl
  clear hl
  match cs, hl2 with
  | [c0, c1], _ =>
    dsimp only at h0 h1
    rw [k1] at h0 h1
    obtain ⟨a0, e0, _, w0⟩ := DataW.trod_int Tryz.underlying50 h0
    obtain ⟨a1, e1, _, w1⟩ := DataW.trod_int Tryz.underlying50 h1
    obtain ⟨s, rfl, b0⟩ := wf_u64 w0
    obtain ⟨z, rfl, b1⟩ := wf_u64 w1
    simp at e0 e1
    subst e0 e1
    exact ⟨(s, z), rfl, b0, b1⟩
theorem open_recs {t : TypeId} {fuel : Nat} {v : Value} {x : DataW H × List MemPlace} (ht : Tryz.prog.underlying t = some (.slice 52)) (h : DataW.trod enc Tryz.prog W base spare held fuel t [v] = some x) :
    ∃ (A : Option Addr) (c : Nat) (l : List R), v = .slice A l.length c ∧ SlOk [old W] 2 A l.length c (recs l) ∧ Bd l :=
  open_rowK (sz := 2) (by decide) (fun _ => rfl) ht (by kernel_rfl) (fun n cs y hy => open_rec hy) h
end
end Go.Proofs.YtgfdmhjjlajmgaaGreatDoor

/- The rules of a walk over slots and resources: operations that act; calls; regions in open order; results. No condition. -/
import Derived.Test.YtgfdmhjjlajmgaaGreatDoorKURc
namespace Go.Cg
set_option linter.unusedVariables false
set_option linter.unusedSimpArgs false
open Go.RowKit
section
variable {P : Program} {ops : Array Oper} {Q : Exit → Act → World → Prop} {a : Act} {w : World} {rest : List Oper} {o : Oper} {L : List Res} {n : Nat} {E : List (Nat × Value)}

theorem r_val {d : Nat} {v : Value} {w' : World} (S : Slots a n E) (hr : (execOp a.eval o).run P w = .ok (.value v) w') (hd : o.dst = some d) (hn : Nat.blt d n = true) (hw : Wt ops E o = some true)
    (K : ∀ a', Slots a' n ((d, v) :: E) → wpList P ops Q rest a' w') : wpList P ops Q (o :: rest) a w :=
  wpList_wanted (S.wanted hw) (by unfold Oper.wp; rw [hr]; simp only [Oper.upon, hd]; exact K _ (S.put hn v))
theorem r_act {w' : World} (S : Slots a n E) (hr : (execOp a.eval o).run P w = .ok .skip w') (hd : o.dst = none) (hw : Wt ops E o = some true) (K : wpList P ops Q rest a w') : wpList P ops Q (o :: rest) a w :=
  wpList_wanted (S.wanted hw) (by unfold Oper.wp; rw [hr]; simp only [Oper.upon, hd]; exact K)

def Zero (P : Program) (t : TypeId) (z : Value) : Prop := ∀ w, (zeroValue t).run P w = .ok z w

theorem r_box {d : Nat} {t : TypeId} {x : Operand} {v : Value} {c : Array Value} (S : Slots a n E) (H : Sat w L) (ho : o.op = .box t x) (hx : ev E x = some v) (hc : v.cells = c) (hd : o.dst = some d) (hn : Nat.blt d n = true) (hw : Wt ops E o = some true)
    (K : ∀ a' w' b, Slots a' n ((d, .pointer (some ⟨b, 0, none⟩)) :: E) → Sat w' (blk b (.cells c t) :: L) → wpList P ops Q rest a' w') : wpList P ops Q (o :: rest) a w := by
  subst hc
  exact r_val S (by simp only [execOp, ho, Sem.run_bind, S.eval hx, run_box, Result.andThen_ok, Sem.run_pure]) hd hn hw fun a' S' => K a' _ _ S' (H.alloc _)
theorem r_alloc {d : Nat} {t : TypeId} {z : Value} {c : Array Value} (S : Slots a n E) (H : Sat w L) (ho : o.op = .alloc t) (hz : Zero P t z) (hc : z.cells = c) (hd : o.dst = some d) (hn : Nat.blt d n = true) (hw : Wt ops E o = some true)
    (K : ∀ a' w' b, Slots a' n ((d, .pointer (some ⟨b, 0, none⟩)) :: E) → Sat w' (blk b (.cells c t) :: L) → wpList P ops Q rest a' w') : wpList P ops Q (o :: rest) a w := by
  subst hc
  exact r_val S (by simp only [execOp, ho, Instr.alloc, Sem.run_bind, hz w, Result.andThen_ok]; simp [go_sem]) hd hn hw fun a' S' => K a' _ _ S' (H.alloc _)

theorem run_store (w : World) (i : Nat) {b j s : Nat} {c c' : Array Value} {t ty : TypeId} {v : Value} {vs : List Value} (H : Sat w L) (hL : L[i]? = some (blk b (.cells c t))) (hvs : v.cells.toList = vs) (hs : SizeOf P ty s) (hl : vs.length = s) (h1 : ∀ u ∈ vs, u.oneCell' = true) (hfit : Nat.ble (j + s) c.size = true) (hc' : putAt c j vs = c') :
    ∃ w', (Instr.storeAt ty (.pointer (some ⟨b, j, none⟩)) v).run P w = .ok () w' ∧ Sat w' (L.set i (blk b (.cells c' t))) := by
  have h := H.fetch hL
  have hfit' : j + s ≤ c.size := by simpa [Nat.ble_eq] using hfit
  obtain ⟨w', hr, H'⟩ := sat_storeCells (P := P) j vs c 0 w h (by omega) h1
  refine ⟨w', ?_, by rw [← hc']; simpa using H'.back (lt_of_at hL)⟩
  have hn : v.cells.size = s := by rw [← hl, ← hvs]; simp
  simp [Instr.storeAt, Instr.sureAddr, storeVar, hs w, hn, hvs, hr]
/-- a store into a row -/
theorem sat_setRow {e : TypeId} {sz g len cap k : Nat} {xs : List Value} (H : Sat w (row e sz (.slice (some ⟨g, 0, none⟩) len cap) len xs :: L)) (hk : k < len * sz) (v : Value) (h1 : v.oneCell' = true) :
    (store ⟨g, k, none⟩ v).run P w = .ok () (w.setCell ⟨g, k, none⟩ v) ∧ Sat (w.setCell ⟨g, k, none⟩ v) (row e sz (.slice (some ⟨g, 0, none⟩) len cap) len (xs.set k v) :: L) := by
  obtain ⟨F, hF, hown, hFk⟩ := H.head
  have hc := hown.cellAt k hk
  have hlen : k < xs.length := by rw [hown.1]; exact hk
  rw [List.getElem?_eq_getElem hlen] at hc
  have hf := hown.frozenAt k
  constructor
  · cases v <;> first | (simp [store, Sem.run, hc, hf]; done) | (simp [Value.oneCell'] at h1)
  · have hst := hown.stored k v
    exact H.turn (Hp.setCell _ _ _) fun G hG hP => ⟨G, fun k hk => ⟨Nat.lt_of_lt_of_le (hG k hk) (Hp.setCell _ _ _).size, .inl hk⟩, ⟨hst.1, hP.2⟩, fun k' hk' hnf => Below.heap_setCell _ _ _ _ (fun e' => hnf ((hP.2 k').2 (by rw [e']; rfl)))⟩
theorem r_setRow {ty e : TypeId} {ad x : Operand} {g j sz len cap : Nat} {v : Value} {xs : List Value} {L' : List Res} (i : Nat) (S : Slots a n E) (H : Sat w L) (ho : o.op = .store ty ad x) (ha : ev E ad = some (.pointer (some ⟨g, j, none⟩))) (hx : ev E x = some v)
    (hL : L[i]? = some (row e sz (.slice (some ⟨g, 0, none⟩) len cap) len xs)) (hs : SizeOf P ty 1) (hvs : v.cells = #[v]) (h1 : v.oneCell' = true) (hj : j < len * sz) (hL' : L.set i (row e sz (.slice (some ⟨g, 0, none⟩) len cap) len (xs.set j v)) = L') (hd : o.dst = none) (hw : Wt ops E o = some true)
    (K : ∀ w', Sat w' L' → wpList P ops Q rest a w') : wpList P ops Q (o :: rest) a w := by
  obtain ⟨hr, H'⟩ := sat_setRow (P := P) (H.fetch hL) hj v h1
  refine r_act S ?_ hd hw (K _ (hL' ▸ H'.back (lt_of_at hL)))
  have hr0 : (storeCells ⟨g, j, none⟩ [v]).run P w = .ok () (w.setCell ⟨g, j, none⟩ v) := by simp [storeCells, Addr.add, hr]
  simp [execOp, ho, S.eval ha, S.eval hx, Instr.storeAt, Instr.sureAddr, storeVar, hs w, hvs, hr0]

theorem r_append {e t : TypeId} {sz m k c bytes d km : Nat} {s x : Operand} {v : Value} {xs news : List Value} {A : Option Addr} {z : Value} {xs' : List Value} (i : Nat) (S : Slots a n E) (H : Sat w L) (ho : o.op = .call { callee := .builtin .append, args := #[s, x], argTypes := #[t, t] })
    (hs : ev E s = some v) (hx : ev E x = some (.slice A m c)) (hL : L[i]? = some (row e sz v k xs)) (El : Elem P t e sz bytes z) (hl : news.length = m * sz) (hrd : Rd L A news) (h1 : ∀ u ∈ news, u.oneCell' = true) (hA : A = none → c = 0) (h63 : k + m ≤ maxLen) (hbytes : (k + m) * bytes ≤ 140737488355328)
    (hxs : xs ++ news = xs') (hkm : k + m = km) (hd : o.dst = some d) (hn : Nat.blt d n = true) (hw : Wt ops E o = some true)
    (K : ∀ a' w' A' c', (A' = none → c' = 0) → Slots a' n ((d, .slice A' km c') :: E) → Sat w' (L.set i (row e sz (.slice A' km c') km xs')) → wpList P ops Q rest a' w') : wpList P ops Q (o :: rest) a w := by
  subst hxs; subst hkm
  have h := H.fetch hL
  obtain ⟨F, _, hP⟩ := h.head
  obtain ⟨v', w', hr, ho', hgr, hb, hnil⟩ := run_append_own' (P := P) w t o.type e sz bytes z El v k xs hP.1 A m c news hl (hrd w H) h1 hA h63 hbytes
  have hform : ∃ A' c', v' = .slice A' (k + m) c' ∧ (A' = none → c' = 0) := by
    rcases ho'.2 with ⟨h1, h2⟩ | ⟨g, cap, cur, h1, _⟩
    · exact ⟨none, 0, by rw [h1, h2], fun _ => rfl⟩
    · exact ⟨_, cap, h1, fun h => by cases h⟩
  obtain ⟨A', c', rfl, hA'⟩ := hform
  refine r_val S ?_ hd hn hw fun a' S' => K a' w' A' c' hA' S' ((h.turnRow ho' hgr hb).back (lt_of_at hL))
  unfold execOp
  simp only [ho, resolve, invoke, builtin, Sem.run_bind, Sem.run_pure, Result.andThen_ok, List.map_toArray, List.map_cons, List.map_nil, S.eval hs, S.eval hx, hr]

theorem map_pairs {xs : Array (Nat × Operand)} {vs : Array (Nat × Value)} (S : Slots a n E) (h : xs.toList.map (fun p => (p.1, ev E p.2)) = vs.toList.map (fun p => (p.1, some p.2))) : xs.map (fun p => (p.1, a.eval p.2)) = vs := by
  apply Array.ext'
  rw [Array.toList_map]
  have key : ∀ (l : List (Nat × Operand)) (m : List (Nat × Value)), l.map (fun p => (p.1, ev E p.2)) = m.map (fun p => (p.1, some p.2)) → l.map (fun p => (p.1, a.eval p.2)) = m := by
    intro l
    induction l with
    | nil => intro m h; cases m with
      | nil => rfl
      | cons _ _ => simp at h
    | cons p l ih => intro m h; cases m with
      | nil => simp at h
      | cons q m =>
        simp only [List.map_cons, List.cons.injEq, Prod.mk.injEq] at h ⊢
        exact ⟨Prod.ext h.1.1 (S.eval h.1.2), ih m h.2⟩
  exact key _ _ h
theorem r_lit {t e : TypeId} {len sz bytes d : Nat} {ps : Array (Nat × Operand)} {vs : Array (Nat × Value)} {z : Value} {cs : List Value} (S : Slots a n E) (H : Sat w L) (ho : o.op = .buildSlice t len ps) (hps : ps.toList.map (fun p => (p.1, ev E p.2)) = vs.toList.map (fun p => (p.1, some p.2))) (El : Elem P t e sz bytes z)
    (hf : Instr.fill (fun i => some (i * sz, sz)) (madeCells (if len * sz = 0 then #[] else z.cells) (len * sz)) vs.toList = some cs.toArray) (hsm : len * sz ≤ 2 ^ 24) (hcs : cs.length = len * sz) (hd : o.dst = some d) (hn : Nat.blt d n = true) (hw : Wt ops E o = some true)
    (K : ∀ a' w' b, Slots a' n ((d, .slice (some ⟨b, 0, none⟩) len len) :: E) → Sat w' (row e sz (.slice (some ⟨b, 0, none⟩) len len) len cs :: L) → wpList P ops Q rest a' w') : wpList P ops Q (o :: rest) a w := by
  have hps' : (ps.map fun (i, x) => (i, a.eval x)) = vs := map_pairs S hps
  obtain ⟨i, hi, hz, hs, hby⟩ := El.parts
  have h63 : len ≤ maxLen := by
    have hp := El.pos
    have h1 : len * 1 ≤ len * sz := Nat.mul_le_mul_left _ hp
    have h2 : (2 : Nat) ^ 24 ≤ maxLen := by decide
    omega
  have hsz : ∀ w, (sizeOf e).run P w = .ok sz w := fun w => by simp [sizeOf, typeInfo, hi, hs]
  have hze : ∀ w, (zeroValue e).run P w = .ok z w := fun w => by simp [zeroValue, typeInfo, hi, hz]
  have hr : (Instr.buildSlice t len vs).run P w = .ok (.slice (some ⟨w.heap.size, 0, none⟩) len len) (w.alloc (.cells cs.toArray e)) := by
    have hsm' : ¬ len * sz > 2 ^ 24 := by omega
    simp only [Instr.buildSlice, Sem.run_bind, run_underlying El.sl, Result.andThen_ok, hsz, hsm', if_false, Sem.run_pure]
    by_cases h0 : len * sz = 0
    · rw [if_pos h0] at hf ⊢
      rw [Sem.run_bind, Sem.run_pure, Result.andThen_ok]
      unfold madeCells at hf
      rw [hf]
      simp [newRow]
    · rw [if_neg h0] at hf
      simp only [h0, if_false, Sem.run_bind, hze, Sem.run_pure, Result.andThen_ok]
      unfold madeCells at hf
      rw [hf]
      simp [newRow]
  exact r_val (w' := w.alloc (.cells cs.toArray e)) (v := .slice (some ⟨w.heap.size, 0, none⟩) len len) S (by simp only [execOp, ho, Sem.run_bind, hps', hr, Result.andThen_ok, Sem.run_pure]) hd hn hw fun a' S' => K a' _ _ S' (by
    have := H.newRow (World.ownsRow_lit w cs.toArray len (Nat.le_refl _) h63 (by simpa using hcs)) (World.grownBy_alloc w (.cells cs.toArray e) none)
    simpa using this)

/-! ### calls -/
theorem map_eval {xs : Array Operand} {vs : Array Value} (S : Slots a n E) (h : xs.toList.map (ev E) = vs.toList.map some) : xs.map a.eval = vs := by
  apply Array.ext'
  rw [Array.toList_map]
  have key : ∀ (l : List Operand) (m : List Value), l.map (ev E) = m.map some → l.map a.eval = m := by
    intro l
    induction l with
    | nil => intro m h; cases m with
      | nil => rfl
      | cons _ _ => simp at h
    | cons p l ih => intro m h; cases m with
      | nil => simp at h
      | cons q m => simp only [List.map_cons, List.cons.injEq] at h ⊢; exact ⟨S.eval h.1, ih m h.2⟩
  exact key _ _ h

theorem r_enters {f : FuncId} {args : Array Value} {R : Value → World → Prop} {d : Nat} (S : Slots a n E) (hr : (execOp a.eval o).run P w = .ok (.enter f args) w) (hc : Rt P f args w R) (hd : o.dst = some d) (hn : Nat.blt d n = true) (hw : Wt ops E o = some true)
    (K : ∀ v a' w', R v w' → Slots a' n ((d, v) :: E) → wpList P ops Q rest a' w') : wpList P ops Q (o :: rest) a w := by
  refine wpList_wanted (S.wanted hw) ?_
  unfold Oper.wp
  rw [hr]
  simp only [Oper.upon]
  refine Calls.mono hc fun e w' ⟨v, he, hR⟩ => ?_
  subst he
  simp only [hd]
  exact K v _ w' hR (S.put hn v)
def Enters (P : Program) (f : FuncId) : Prop := ∀ (args : Array Value) (w : World), (callFunc f args).run P w = .ok (.enter f args) w

theorem run_callF {f : FuncId} {xs : Array Operand} {ats : Array TypeId} {args : Array Value} (S : Slots a n E) (ho : o.op = .call { callee := .value (.func f), args := xs, argTypes := ats }) (hargs : xs.toList.map (ev E) = args.toList.map some) (w : World) : (execOp a.eval o).run P w = (callFunc f args).run P w := by
  have he := map_eval S hargs
  simp only [execOp, ho, resolve, he, Act.eval, Deferred.ofValue, Sem.run_bind, Sem.run_pure, Result.andThen_ok, invoke]
  simp
/-- a call of a closure -/
theorem run_callV {f : FuncId} {x : Operand} {xs : Array Operand} {ats : Array TypeId} {args caps : Array Value} (S : Slots a n E) (ho : o.op = .call { callee := .value x, args := xs, argTypes := ats }) (hx : ev E x = some (.func (.func f) #[] caps)) (hargs : xs.toList.map (ev E) = args.toList.map some) (w : World) :
    (execOp a.eval o).run P w = (callFunc f (args ++ caps)).run P w := by
  have he := map_eval S hargs
  simp only [execOp, ho, resolve, he, S.eval hx, Deferred.ofValue, Sem.run_bind, Sem.run_pure, Result.andThen_ok, invoke]
  simp

theorem r_call {f : FuncId} {xs : Array Operand} {ats : Array TypeId} {args : Array Value} {R : Value → World → Prop} {d : Nat} (S : Slots a n E) (ho : o.op = .call { callee := .value (.func f), args := xs, argTypes := ats }) (hargs : xs.toList.map (ev E) = args.toList.map some) (hf : Enters P f) (hc : Rt P f args w R) (hd : o.dst = some d) (hn : Nat.blt d n = true) (hw : Wt ops E o = some true)
    (K : ∀ v a' w', R v w' → Slots a' n ((d, v) :: E) → wpList P ops Q rest a' w') : wpList P ops Q (o :: rest) a w :=
  r_enters S (by rw [run_callF S ho hargs w]; exact hf args w) hc hd hn hw K
theorem r_callV {f : FuncId} {x : Operand} {xs : Array Operand} {ats : Array TypeId} {args caps : Array Value} {R : Value → World → Prop} {d : Nat} (S : Slots a n E) (ho : o.op = .call { callee := .value x, args := xs, argTypes := ats }) (hx : ev E x = some (.func (.func f) #[] caps)) (hargs : xs.toList.map (ev E) = args.toList.map some) (hf : Enters P f) (hc : Rt P f (args ++ caps) w R) (hd : o.dst = some d) (hn : Nat.blt d n = true) (hw : Wt ops E o = some true)
    (K : ∀ v a' w', R v w' → Slots a' n ((d, v) :: E) → wpList P ops Q rest a' w') : wpList P ops Q (o :: rest) a w :=
  r_enters S (by rw [run_callV S ho hx hargs w]; exact hf _ w) hc hd hn hw K
/-! ### regions in open order that only read -/
theorem r_quiet {id : Nat} {l : List Oper} {E' : List (Nat × Value)} (H : Sat w L) (hm : P.follows .mixedOrders = true) (hB : Region.lexB .any l.toArray = true)
    (h : wpQuiet P l.toArray (fun w => Sat w L) (fun a' => Slots a' n E') l a) (K : ∀ a' w', Slots a' n E' → Sat w' L → Q .normal a' w') : (Code.region id l.toArray true).wp P Q a w := by
  refine wp_region_quiet (C := fun w => Sat w L) hm hB (H.grow ⟨rfl, rfl, rfl, Nat.le_refl _⟩ fun _ _ => rfl) ?_
  have mono : ∀ (l' : List Oper) (a : Act), wpQuiet P l.toArray (fun w => Sat w L) (fun a' => Slots a' n E') l' a → wpQuiet P l.toArray (fun w => Sat w L) (fun a' => ∀ w', Sat w' L → Q .normal a' w') l' a := by
    intro l'
    induction l' with
    | nil => exact fun a h w' H' => K a w' h H'
    | cons o l' ih =>
      intro a h
      unfold wpQuiet at h ⊢
      split
      · rename_i hw; rw [if_pos hw] at h; obtain ⟨v, h1, h2⟩ := h; exact ⟨v, h1, ih _ h2⟩
      · rename_i hw; rw [if_neg hw] at h; exact ih _ h
  simpa using mono _ _ h
theorem q_y {Q : Act → Prop} {d : Nat} {v : Value} (S : Slots a n E) (hy : Yl P L o a v) (hd : o.dst = some d) (hn : Nat.blt d n = true) (hw : Wt ops E o = some true) (K : ∀ a', Slots a' n ((d, v) :: E) → wpQuiet P ops (fun w => Sat w L) Q rest a') : wpQuiet P ops (fun w => Sat w L) Q (o :: rest) a := by
  unfold wpQuiet
  rw [S.wanted hw, if_pos rfl]
  exact ⟨v, fun w H => by unfold Oper.quietAt; rw [hy w H]; exact ⟨rfl, rfl⟩, by rw [hd]; exact K _ (S.put hn v)⟩
theorem q_skip {Q : Act → Prop} {d : Nat} (S : Slots a n E) (hd : o.dst = some d) (hn : Nat.blt d n = true) (hw : Wt ops E o = some false) (K : ∀ a', Slots a' n ((d, undef) :: E) → wpQuiet P ops (fun w => Sat w L) Q rest a') : wpQuiet P ops (fun w => Sat w L) Q (o :: rest) a := by
  unfold wpQuiet
  rw [S.wanted hw, if_neg (by simp), hd]
  exact K _ (S.put hn undef)
theorem q_call {Q : Act → Prop} {f : FuncId} {xs : Array Operand} {ats : Array TypeId} {args : Array Value} {v : Value} {d : Nat} (S : Slots a n E) (ho : o.op = .call { callee := .value (.func f), args := xs, argTypes := ats }) (hargs : xs.toList.map (ev E) = args.toList.map some) (hf : Enters P f)
    (hc : ∀ w, Sat w L → Rt P f args w fun u w' => u = v ∧ Sat w' L) (hd : o.dst = some d) (hn : Nat.blt d n = true) (hw : Wt ops E o = some true) (K : ∀ a', Slots a' n ((d, v) :: E) → wpQuiet P ops (fun w => Sat w L) Q rest a') : wpQuiet P ops (fun w => Sat w L) Q (o :: rest) a := by
  unfold wpQuiet
  rw [S.wanted hw, if_pos rfl]
  refine ⟨v, fun w H => ?_, by rw [hd]; exact K _ (S.put hn v)⟩
  unfold Oper.quietAt
  rw [run_callF S ho hargs w, hf args w]
  exact ⟨rfl, Calls.mono (hc w H) fun e w' ⟨u, he, hu, H'⟩ => ⟨by rw [he, hu], H'⟩⟩
theorem q_nil {Q : Act → Prop} {C : World → Prop} (h : Q a) : wpQuiet P ops C Q [] a := h

/-! ### results -/
def resOf (P : Program) (tmps : Array Value) : ResultVar → Sem Value
  | .tmp t => pure (tmps.getD t undef)
  | .cell ad t => do loadVar t (← asAddr (tmps.getD ad undef))
theorem ro_tmp {t : Nat} {v : Value} (S : Slots a n E) (h : lk E t = some v) : ∀ w, Sat w L → (resOf P a.tmps (.tmp t)).run P w = .ok v w := fun w _ => by simp [resOf, S.has t v h]
theorem ro_cell {t ad b j i : Nat} {v : Value} {c : Array Value} {ty : TypeId} (S : Slots a n E) (h : lk E ad = some (.pointer (some ⟨b, j, none⟩))) (hp : Plain P t) (hL : L[i]? = some (blk b (.cells c ty))) (hc : c[j]? = some v) : ∀ w, Sat w L → (resOf P a.tmps (.cell ad t)).run P w = .ok v w := fun w H => by
  have hcell : w.cell? ⟨b, j, none⟩ = some v := by rw [(H.cellOf hL).1, hc]
  simp only [resOf, S.has ad _ h, asAddr, loadVar, Sem.run_bind, Sem.run_pure, Result.andThen_ok, hp w, Bool.false_eq_true, if_false, run_load hcell]
theorem ro_agg {t ad b j i s : Nat} (vs : List Value) {c : Array Value} {ty : TypeId} (S : Slots a n E) (h : lk E ad = some (.pointer (some ⟨b, j, none⟩))) (hp : Agg P t s) (hL : L[i]? = some (blk b (.cells c ty))) (hs : vs.length = s) (hc : From c j vs) : ∀ w, Sat w L → (resOf P a.tmps (.cell ad t)).run P w = .ok (.agg vs.toArray) w := fun w H => by
  have h3 := run_loadAgg (P := P) (w := w) (b := b) (j := j) hp vs hs fun k v hk => by rw [(H.cellOf hL).1]; exact hc.get k v hk
  simp only [Instr.loadAt, Instr.sureAddr, Sem.run_bind, Sem.run_pure, Result.andThen_ok] at h3
  simp [resOf, S.has ad _ h, asAddr, h3]

theorem run_results {fn : Func} {tmps : Array Value} (w : World) : (results fn tmps).run P w = (do let vs ← fn.results.mapM (resOf P tmps); pure (if h : vs.size = 1 then vs[0] else .tuple vs)).run P w := by
  have : (fun r : ResultVar => match r with | .tmp t => pure (tmps.getD t undef) | .cell a t => do loadVar t (← asAddr (tmps.getD a undef))) = resOf P tmps := by
    funext r; cases r <;> rfl
  unfold results
  rw [← this]
  rfl

theorem r_ret0 {fn : Func} {R : Value → World → Prop} (S : Slots a n E) (hres : fn.results = #[]) (hR : R (.tuple #[]) w) (hm : lk E n = some undef := by rfl) : bodyPost P fn (fun e w' => ∃ v, e = .returned v ∧ R v w') .ret a w :=
  ⟨S.none_ undef hm, .tuple #[], results_none hres _ _ _, _, rfl, hR⟩
theorem r_end0 {fn : Func} {R : Value → World → Prop} (S : Slots a n E) (hres : fn.results = #[]) (hR : R (.tuple #[]) w) (hm : lk E n = some undef := by rfl) : bodyPost P fn (fun e w' => ∃ v, e = .returned v ∧ R v w') .normal a w :=
  ⟨S.none_ undef hm, .tuple #[], results_none hres _ _ _, _, rfl, hR⟩
theorem r_ret1 {fn : Func} {R : Value → World → Prop} {r : ResultVar} {v : Value} (S : Slots a n E) (H : Sat w L) (hres : fn.results = #[r]) (h : ∀ w, Sat w L → (resOf P a.tmps r).run P w = .ok v w) (hR : R v w) (hm : lk E n = some undef := by rfl) : bodyPost P fn (fun e w' => ∃ v, e = .returned v ∧ R v w') .ret a w :=
  ⟨S.none_ undef hm, v, by rw [run_results, hres]; simp [h w H], _, rfl, hR⟩
theorem r_ret2 {fn : Func} {R : Value → World → Prop} {r r' : ResultVar} {v v' : Value} (S : Slots a n E) (H : Sat w L) (hres : fn.results = #[r, r']) (h : ∀ w, Sat w L → (resOf P a.tmps r).run P w = .ok v w) (h' : ∀ w, Sat w L → (resOf P a.tmps r').run P w = .ok v' w) (hR : R (.tuple #[v, v']) w) (hm : lk E n = some undef := by rfl) : bodyPost P fn (fun e w' => ∃ v, e = .returned v ∧ R v w') .ret a w :=
  ⟨S.none_ undef hm, .tuple #[v, v'], by rw [run_results, hres]; simp [h w H, h' w H], _, rfl, hR⟩
theorem r_ret3 {fn : Func} {R : Value → World → Prop} {r r' r'' : ResultVar} {v v' v'' : Value} (S : Slots a n E) (H : Sat w L) (hres : fn.results = #[r, r', r'']) (h : ∀ w, Sat w L → (resOf P a.tmps r).run P w = .ok v w) (h' : ∀ w, Sat w L → (resOf P a.tmps r').run P w = .ok v' w) (h'' : ∀ w, Sat w L → (resOf P a.tmps r'').run P w = .ok v'' w) (hR : R (.tuple #[v, v', v'']) w) (hm : lk E n = some undef := by rfl) : bodyPost P fn (fun e w' => ∃ v, e = .returned v ∧ R v w') .ret a w :=
  ⟨S.none_ undef hm, .tuple #[v, v', v''], by rw [run_results, hres]; simp [h w H, h' w H, h'' w H], _, rfl, hR⟩
end
end Go.Cg

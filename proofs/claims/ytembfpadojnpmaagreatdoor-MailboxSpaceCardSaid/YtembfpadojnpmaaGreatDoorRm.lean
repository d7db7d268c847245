/- The rules of a walk: how many a map has, a map cleared, a map ranged over. No condition. -/
import Derived.Test.YtembfpadojnpmaaGreatDoorRs
import Derived.Laws.IdiomRangeMap
namespace Go.Cg
set_option linter.unusedVariables false
set_option linter.unusedSimpArgs false
open Go.RowKit
section
variable {κ ν : Type} {mk : κ → Value} {mkv : ν → Value}
/-- a map that is ranged over: what it has, what was handed out; the iterator's block is r -/
def mit (mk : κ → Value) (mkv : ν → Value) (b r : Nat) (l got : List (κ × ν)) : Res where
  own w F := (∃ es clock since seen c0, w.heap[b]? = some (.map es clock) ∧ es.toList.map (fun e => (e.key, e.val)) = l.map (fun p => (mk p.1, mkv p.2)) ∧ Go.MapKept.Stamped es clock ∧ w.heap[r]? = some (.mapIter (some b) since seen c0) ∧ (∀ x ∈ es.toList, x.born < since) ∧ (since ≤ c0 ∧ since ≤ clock) ∧
      (∃ lf : List (κ × ν), (leftOf es seen).toList.map (fun e => (e.key, e.val)) = lf.map (fun p => (mk p.1, mkv p.2)) ∧ (got ++ lf).Perm l) ∧
      (∀ q, got.getLast? = some q → c0 = clock ∧ ∃ e ∈ es.toList, seen.back? = some e.born ∧ e.key = mk q.1 ∧ e.val = mkv q.2)) ∧ b ≠ r ∧ ∀ k, F k ↔ k = b ∨ k = r
  stable := fun {w w' F} _ h h' => by
    obtain ⟨⟨es, clock, since, seen, c0, hb, h1, h2, hr, h3⟩, hne, hF⟩ := h'
    exact ⟨⟨es, clock, since, seen, c0, (h _ ((hF _).2 (.inl rfl))).trans hb, h1, h2, (h _ ((hF _).2 (.inr rfl))).trans hr, h3⟩, hne, hF⟩
variable {w : World} {L : List Res} {b r : Nat} {l got : List (κ × ν)}
theorem Sat.itDone (H : Sat w (mit mk mkv b r l got :: L)) : Sat w (mp mk mkv b l :: L) := by
  refine H.turn (Hp.refl w) fun F hF hP => ⟨fun k => k = b, fun k hk => ?_, ?_, fun k _ _ => rfl⟩
  · subst hk; exact ⟨hF _ ((hP.2.2 _).2 (.inl rfl)), .inl ((hP.2.2 _).2 (.inl rfl))⟩
  · obtain ⟨⟨es, clock, since, seen, c0, hb, h1, h2, _⟩, _⟩ := hP
    exact ⟨⟨es, clock, hb, h1, h2⟩, fun _ => Iff.rfl⟩
theorem eraseIdx_map {α β : Type} (f : α → β) (i : Nat) (l : List α) : (l.eraseIdx i).map f = (l.map f).eraseIdx i := by
  rw [List.eraseIdx_eq_take_drop_succ, List.eraseIdx_eq_take_drop_succ, List.map_append, List.map_take, List.map_drop]
theorem filter_erase : ∀ {Z : List MapEntry}, (Z.map (·.born)).Nodup → ∀ {j : Nat} (hj : j < Z.length), Z.filter (fun e => !(e.born == Z[j].born)) = Z.eraseIdx j
  | [], _, j, hj => absurd hj (Nat.not_lt_zero _)
  | z :: Z, hn, 0, _ => by
    rw [List.map_cons, List.nodup_cons] at hn
    simp only [List.getElem_cons_zero]
    rw [List.filter_cons, if_neg (by simp), List.eraseIdx_cons_zero]
    refine List.filter_eq_self.2 fun y hy => ?_
    simp only [Bool.not_eq_true', beq_eq_false_iff_ne, ne_eq]
    intro e; exact hn.1 (e ▸ List.mem_map.2 ⟨y, hy, rfl⟩)
  | z :: Z, hn, j + 1, hj => by
    rw [List.map_cons, List.nodup_cons] at hn
    simp only [List.getElem_cons_succ]
    have hjz : j < Z.length := by simpa using hj
    have hzx : z.born ≠ Z[j].born := fun e => hn.1 (e ▸ List.mem_map.2 ⟨Z[j], List.getElem_mem hjz, rfl⟩)
    rw [List.filter_cons, if_pos (by simpa using hzx), List.eraseIdx_cons_succ, filter_erase hn.2 hjz]
/-- what is left when one more is handed out -/
theorem left_push {es : Array MapEntry} (hn : (es.toList.map (·.born)).Nodup) {seen : Array Nat} {j : Nat} (hj : j < (leftOf es seen).size) : (leftOf es (seen.push (leftOf es seen)[j].born)).toList = (leftOf es seen).toList.eraseIdx j := by
  have e1 : ∀ s : Array Nat, (leftOf es s).toList = es.toList.filter fun e => !s.contains e.born := fun s => by unfold leftOf; rw [Array.toList_filter]
  have hnl : ((leftOf es seen).toList.map (·.born)).Nodup := by
    rw [e1]; exact List.Nodup.sublist (List.Sublist.map _ List.filter_sublist) hn
  have h2 := filter_erase hnl (j := j) (by simpa using hj)
  have hx : (leftOf es seen).toList[j]'(by simpa using hj) = (leftOf es seen)[j] := by simp
  rw [hx] at h2
  rw [← h2, e1, e1, List.filter_filter]
  congr 1; funext y
  rw [contains_push]
  cases seen.contains y.born <;> cases (y.born == (leftOf es seen)[j].born) <;> rfl
variable {P : Program}
theorem run_nextM (w : World) (ty : TypeId) (b r since c0 : Nat) (seen : Array Nat) (es : Array MapEntry) (clock : Nat) (hb : w.heap[b]? = some (.map es clock)) (hr : w.heap[r]? = some (.mapIter (some b) since seen c0)) (hold : ∀ x ∈ es.toList, x.born < since) (hsc : since ≤ c0) :
    ((leftOf es seen).size = 0 ∧ (Instr.next (.pointer (some ⟨r, 0, none⟩)) false ty).run P w = .ok (.tuple #[.bool false]) w) ∨
    ∃ (j : Nat) (hj : j < (leftOf es seen).size) (w1 : World), (w1 = w ∨ w1 = w.drew) ∧ (Instr.next (.pointer (some ⟨r, 0, none⟩)) false ty).run P w = .ok (.tuple #[.bool true, (leftOf es seen)[j].key, (leftOf es seen)[j].val]) { w1 with heap := w1.heap.setIfInBounds r (.mapIter (some b) since (seen.push (leftOf es seen)[j].born) clock) } := by
  simp only [Instr.next, getObj, Sem.run_bind, Sem.run, hr, hb, Result.andThen, next_test_false seen es since c0 hold hsc, Bool.false_eq_true, if_false]
  have hmem : ∀ x ∈ (leftOf es seen).toList, x.born < since := fun x hx => hold x (mem_left hx).1
  have e0 : Array.filter (fun e => !seen.contains e.born) es = leftOf es seen := rfl
  rw [e0]
  generalize leftOf es seen = Z at hmem ⊢
  have e1 : Z.filter (fun x => decide (x.born < since)) = Z := Array.filter_eq_self.2 (fun x hx => by simpa using hmem x (by simpa using hx))
  have e2 : Z.filter (fun x => decide (x.born ≥ since)) = #[] := by
    rw [Array.filter_eq_empty_iff]
    intro x hx
    have := hmem x (by simpa using hx)
    simp
    omega
  simp only [e1, e2, Array.append_empty]
  by_cases h0 : Z.size = 0
  · left
    have : Z = #[] := Array.eq_empty_of_size_eq_zero h0
    subst this
    refine ⟨rfl, ?_⟩
    simp [choose, Sem.run, Question.forced]
  · right
    have hne : Z.isEmpty = false := by simp [Array.isEmpty, h0]
    simp only [hne, Bool.false_eq_true, if_false, Array.empty_append, Array.size_map]
    have hch : ∃ (j : Nat) (w1 : World), j < Z.size ∧ (w1 = w ∨ w1 = w.drew) ∧ (choose (Question.mapNext Z.size)).run P w = .ok j w1 := by
      by_cases hf : Z.size ≤ 1
      · exact ⟨0, w, by omega, .inl rfl, by simp [choose, Sem.run, Question.forced, hf]⟩
      · exact ⟨_, w.drew, Nat.mod_lt _ (by omega), .inr rfl, by
          simp only [choose, Sem.run, Question.forced, decide_eq_true_eq, hf, if_false, Question.cut]
          rfl⟩
    obtain ⟨j, w1, hj, hal, hrun⟩ := hch
    refine ⟨j, hj, w1, hal, ?_⟩
    have hr1 : w1.heap[r]? = some (.mapIter (some b) since seen c0) := by rcases hal with rfl | rfl <;> exact hr
    have hset : ∀ o' : Obj, (setObj r o').run P w1 = .ok () { w1 with heap := w1.heap.setIfInBounds r o' } := fun o' => by
      simp only [setObj, Sem.run, hr1]
    simp only [hrun, Array.getElem?_map, Array.getElem?_eq_getElem hj, Option.map_some, Sem.run_bind, hset, Result.andThen]
    rfl
variable {ops : Array Oper} {Q : Exit → Act → World → Prop} {a : Act} {rest : List Oper} {o : Oper} {n : Nat} {E : List (Nat × Value)}
theorem r_rangeM {d : Nat} {t kt e : TypeId} {m : Operand} (i : Nat) (S : Slots a n E) (H : Sat w L) (ho : o.op = .range t m) (hm : ev E m = some (.map (some b))) (ht : P.underlying t = some (.map kt e)) (hL : L[i]? = some (mp mk mkv b l)) (hd : o.dst = some d) (hn : Nat.blt d n = true) (hw : Wt ops E o = some true)
    (K : ∀ a' w' r, Slots a' n ((d, .pointer (some ⟨r, 0, none⟩)) :: E) → Sat w' (L.set i (mit mk mkv b r l [])) → wpList P ops Q rest a' w') : wpList P ops Q (o :: rest) a w := by
  obtain ⟨es, clock, hb, he, hst⟩ := (H.fetch hL).map
  have hblt : b < w.heap.size := (Array.getElem?_eq_some_iff.1 hb).1
  refine r_val (w' := w.alloc (.mapIter (some b) clock #[] clock)) (v := .pointer (some ⟨w.heap.size, 0, none⟩)) S (by simp only [execOp, ho, S.eval hm, Sem.run_bind, run_range_map w t kt e b es clock ht hb, Result.andThen_ok, Sem.run_pure]) hd hn hw fun a' S' => K a' _ _ S' ?_
  refine Sat.back ((H.fetch hL).turn (Hp.alloc w _) fun F hF hP => ⟨fun k => F k ∨ k = w.heap.size, fun k hk => ?_, ⟨⟨es, clock, clock, #[], clock, (heap_alloc_old w _ hblt).trans hb, he, hst, heap_alloc_new w _, hst.1, ⟨Nat.le_refl _, Nat.le_refl _⟩, ⟨l, ?_, List.Perm.refl _⟩, fun q hq => by simp at hq⟩, by omega, fun k => ?_⟩, fun k hk hnf => heap_alloc_old w _ hk⟩) (lt_of_at hL)
  · rcases hk with hk | rfl
    · exact ⟨Nat.lt_of_lt_of_le (hF k hk) (Hp.alloc w _).size, .inl hk⟩
    · exact ⟨by simp, .inr (Nat.le_refl _)⟩
  · have : (leftOf es #[]).toList = es.toList := by unfold leftOf; rw [Array.toList_filter]; exact List.filter_eq_self.2 fun x _ => by simp
    rw [this]; exact he
  · constructor
    · rintro (h | h)
      · exact .inl ((hP.2 k).1 h)
      · exact .inr h
    · rintro (h | h)
      · exact .inl ((hP.2 k).2 h)
      · exact .inr h
theorem Sat.mitE (H : Sat w (mit mk mkv b r l got :: L)) : ∃ es clock since seen c0, w.heap[b]? = some (.map es clock) ∧ es.toList.map (fun e => (e.key, e.val)) = l.map (fun p => (mk p.1, mkv p.2)) ∧ Go.MapKept.Stamped es clock ∧ w.heap[r]? = some (.mapIter (some b) since seen c0) ∧ (∀ x ∈ es.toList, x.born < since) ∧ (since ≤ c0 ∧ since ≤ clock) ∧
      (∃ lf : List (κ × ν), (leftOf es seen).toList.map (fun e => (e.key, e.val)) = lf.map (fun p => (mk p.1, mkv p.2)) ∧ (got ++ lf).Perm l) ∧
      (∀ q, got.getLast? = some q → c0 = clock ∧ ∃ e ∈ es.toList, seen.back? = some e.born ∧ e.key = mk q.1 ∧ e.val = mkv q.2) := by
  obtain ⟨F, _, h, _⟩ := H.head; exact h
theorem r_nextM {d : Nat} {it : Operand} (i : Nat) (S : Slots a n E) (H : Sat w L) (ho : o.op = .next it false) (hx : ev E it = some (.pointer (some ⟨r, 0, none⟩))) (hL : L[i]? = some (mit mk mkv b r l got)) (hd : o.dst = some d) (hn : Nat.blt d n = true) (hw : Wt ops E o = some true)
    (K0 : ∀ a' w', got.Perm l → Slots a' n ((d, .tuple #[.bool false]) :: E) → Sat w' L → wpList P ops Q rest a' w')
    (K1 : ∀ a' w' p, (∃ lf, (got ++ [p] ++ lf).Perm l) → Slots a' n ((d, .tuple #[.bool true, mk p.1, mkv p.2]) :: E) → Sat w' (L.set i (mit mk mkv b r l (got ++ [p]))) → wpList P ops Q rest a' w') : wpList P ops Q (o :: rest) a w := by
  obtain ⟨es, clock, since, seen, c0, hb, he, hst, hr, hold, hsc, ⟨lf, hlf, hp⟩, hlast⟩ := (H.fetch hL).mitE
  rcases run_nextM (P := P) w o.type b r since c0 seen es clock hb hr hold hsc.1 with ⟨h0, hrun⟩ | ⟨j, hj, w1, hw1, hrun⟩
  · have hlf0 : lf = [] := by
      have := congrArg List.length hlf
      simp only [List.length_map, Array.length_toList, h0] at this
      exact List.eq_nil_of_length_eq_zero this.symm
    exact r_val (w' := w) S (by simp only [execOp, ho, S.eval hx, Sem.run_bind, hrun, Result.andThen_ok, Sem.run_pure]) hd hn hw fun a' S' => K0 a' w (by rw [hlf0, List.append_nil] at hp; exact hp) S' H
  · have hjl : j < lf.length := by
      have := congrArg List.length hlf
      simp only [List.length_map, Array.length_toList] at this
      omega
    have hjz : j < (leftOf es seen).toList.length := by simpa using hj
    have hz : (leftOf es seen).toList[j] = (leftOf es seen)[j] := by simp
    have hat : (leftOf es seen)[j].key = mk lf[j].1 ∧ (leftOf es seen)[j].val = mkv lf[j].2 := by
      have h1 := congrArg (fun q => q[j]?) hlf
      simp only [List.getElem?_map, List.getElem?_eq_getElem hjz, List.getElem?_eq_getElem hjl, Option.map_some, Option.some.injEq, Prod.mk.injEq, hz] at h1
      exact h1
    have hmem : (leftOf es seen)[j] ∈ es.toList := (mem_left (show (leftOf es seen)[j] ∈ (leftOf es seen).toList by rw [← hz]; exact List.getElem_mem hjz)).1
    have hperm : (got ++ [lf[j]] ++ lf.eraseIdx j).Perm l := by
      refine List.Perm.trans ?_ hp
      rw [List.append_assoc]
      refine List.Perm.append_left _ ?_
      have e1 : lf = lf.take j ++ lf[j] :: lf.drop (j + 1) := by rw [← List.drop_eq_getElem_cons hjl, List.take_append_drop]
      conv => rhs; rw [e1]
      rw [List.eraseIdx_eq_take_drop_succ]
      rw [List.singleton_append]; exact List.perm_middle.symm
    have hh : w1.heap = w.heap := by rcases hw1 with rfl | rfl <;> rfl
    have hrlt : r < w.heap.size := (Array.getElem?_eq_some_iff.1 hr).1
    refine r_val S (by simp only [execOp, ho, S.eval hx, Sem.run_bind, hrun, Result.andThen_ok, Sem.run_pure]; rfl) hd hn hw fun a' S' => K1 a' _ lf[j] ⟨_, hperm⟩ (by rw [hat.1, hat.2] at S'; exact S') ?_
    have hhp : Hp w { w1 with heap := w1.heap.setIfInBounds r (.mapIter (some b) since (seen.push (leftOf es seen)[j].born) clock) } := by
      rcases hw1 with rfl | rfl
      · exact ⟨rfl, rfl, rfl, by simp⟩
      · exact ⟨rfl, rfl, rfl, by show w.heap.size ≤ (w.heap.setIfInBounds r _).size; simp⟩
    refine Sat.back ((H.fetch hL).turn hhp fun F hF hP => ⟨F, fun k hk => ⟨Nat.lt_of_lt_of_le (hF k hk) hhp.size, .inl hk⟩, ⟨⟨es, clock, since, seen.push (leftOf es seen)[j].born, clock, ?_, he, hst, ?_, hold, ?_, ⟨lf.eraseIdx j, ?_, hperm⟩, fun q hq => ?_⟩, hP.2⟩, fun k hk hnf => ?_⟩) (lt_of_at hL)
    · show (w1.heap.setIfInBounds r _)[b]? = _
      rw [hh, Array.getElem?_setIfInBounds_ne (fun e => hP.2.1 e.symm)]; exact hb
    · show (w1.heap.setIfInBounds r _)[r]? = _
      rw [hh]; simp [hrlt]
    · exact ⟨hsc.2, hsc.2⟩
    · rw [left_push hst.2.1 hj, eraseIdx_map, hlf, eraseIdx_map]
    · simp only [List.getLast?_append, List.getLast?_singleton, Option.some_or, Option.some.injEq] at hq
      subst hq
      exact ⟨rfl, _, hmem, by simp, hat.1, hat.2⟩
    · show (w1.heap.setIfInBounds r _)[k]? = _
      rw [hh, Array.getElem?_setIfInBounds_ne (fun e => hnf ((hP.2.2 k).2 (.inr e.symm)))]
theorem y_entryM {it : Operand} {p : κ × ν} (i : Nat) (S : Slots a n E) (ho : o.op = .entry it) (hx : ev E it = some (.pointer (some ⟨r, 0, none⟩))) (hL : L[i]? = some (mit mk mkv b r l (got ++ [p]))) : Yl P L o a (.tuple #[mk p.1, mkv p.2]) := fun w H => by
  obtain ⟨es, clock, since, seen, c0, hb, he, hst, hr, hold, hsc, _, hlast⟩ := (H.fetch hL).mitE
  obtain ⟨hc, x, hx1, hx2, hx3, hx4⟩ := hlast p (by simp)
  have hf : es.find? (·.born == x.born) = some x := by rw [← Array.find?_toList]; exact find_born x es.toList hst.2.1 hx1
  subst hc
  simp only [execOp, ho, S.eval hx, Instr.entry, getObj, Sem.run_bind, Sem.run, hr, hb, Result.andThen, hx2, bne_self_eq_false, Bool.false_eq_true, if_false, hf, hx3, hx4]
  rfl
theorem y_lenM {t kt e : TypeId} {x : Operand} (i : Nat) (S : Slots a n E) (ho : o.op = .call { callee := .builtin .len, args := #[x], argTypes := #[t] }) (hx : ev E x = some (.map (some b))) (ht : P.underlying t = some (.map kt e)) (hL : L[i]? = some (mp mk mkv b l)) : Yl P L o a (.int .i64 ((l.length : Nat) : Int)) := fun w H => by
  obtain ⟨es, clock, hb, he, hst⟩ := (H.fetch hL).map
  have hl : es.size = l.length := by have := congrArg List.length he; simpa using this
  have hg : (getObj b).run P w = .ok (.map es clock) w := by simp [getObj, Sem.run, hb]
  simp [execOp, ho, resolve, invoke, builtin, S.eval hx, Builtin.len_, run_underlying ht, hg, goInt, hl]
theorem r_clearM {t kt e : TypeId} {x : Operand} {L' : List Res} (i : Nat) (S : Slots a n E) (H : Sat w L) (ho : o.op = .call { callee := .builtin .clear, args := #[x], argTypes := #[t] }) (hx : ev E x = some (.map (some b))) (ht : P.underlying t = some (.map kt e)) (hL : L[i]? = some (mp mk mkv b l)) (hL' : L.set i (mp mk mkv b []) = L') (hd : o.dst = none) (hw : Wt ops E o = some true)
    (K : ∀ w', Sat w' L' → wpList P ops Q rest a w') : wpList P ops Q (o :: rest) a w := by
  subst hL'
  obtain ⟨es, clock, hb, he, hst⟩ := (H.fetch hL).map
  have hblt : b < w.heap.size := (Array.getElem?_eq_some_iff.1 hb).1
  have hg : (getObj b).run P w = .ok (.map es clock) w := by simp [getObj, Sem.run, hb]
  have hset : ∀ o' : Obj, (setObj b o').run P w = .ok () { w with heap := w.heap.setIfInBounds b o' } := by
    intro o'
    simp only [setObj, Sem.run, hb]
  refine wpList_wanted (S.wanted hw) ?_
  have hx' : (execOp a.eval o).run P w = .ok (.value (.tuple #[])) { w with heap := w.heap.setIfInBounds b (.map #[] clock) } := by
    simp [execOp, ho, resolve, invoke, builtin, S.eval hx, Builtin.clear_, run_underlying ht, hg, hset]
  unfold Oper.wp
  rw [hx']
  simp only [Oper.upon, hd]
  refine K _ (Sat.back ((H.fetch hL).turn ⟨rfl, rfl, rfl, by simp⟩ fun F hF hP => ⟨F, fun k' hk' => ⟨by simpa using hF k' hk', .inl hk'⟩, ⟨⟨#[], clock, by simp [hblt], rfl, Go.MapKept.stamped_empty clock⟩, hP.2⟩, fun k' hk' hnf => ?_⟩) (lt_of_at hL))
  have hne : b ≠ k' := fun e => hnf ((hP.2 k').2 e.symm)
  simp [Array.getElem?_setIfInBounds_ne hne]
end
end Go.Cg

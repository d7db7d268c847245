/- Rows of which the first ones are let go, and that grow at their end. No condition. -/
import Derived.Test.YtembfpadojnpmaaGreatDoorRm
namespace Go.Cg
set_option linter.unusedVariables false
set_option linter.unusedSimpArgs false
open Go.RowKit
theorem add_at (g o j : Nat) : (⟨g, o, none⟩ : Addr).add j = ⟨g, o + j, none⟩ := by unfold Addr.add; split <;> simp_all
theorem add_block (a : Addr) (j : Nat) : (a.add j).block = a.block := by unfold Addr.add; split <;> rfl
/-- elements of one cell, from some place of a block on -/
def que (e : TypeId) (A : Option Addr) (n c : Nat) (xs : List Value) : Res where
  own w F := (xs.length = n ∧ ((A = none ∧ n = 0 ∧ c = 0) ∨ ∃ g o cur, A = some ⟨g, o, none⟩ ∧ w.heap[g]? = some (.cells cur e (0, 0)) ∧ n ≤ c ∧ c ≤ maxLen ∧ o + c ≤ cur.size ∧ (cur.toList.drop o).take n = xs)) ∧ ∀ k, F k ↔ A.map (·.block) = some k
  stable := fun {w w' F} _ h h' => by
    obtain ⟨⟨h1, h2⟩, hF⟩ := h'
    refine ⟨⟨h1, ?_⟩, hF⟩
    rcases h2 with h2 | ⟨g, o, cur, rfl, hg, h3⟩
    · exact .inl h2
    · exact .inr ⟨g, o, cur, rfl, (h g ((hF g).2 rfl)).trans hg, h3⟩
section
variable {w : World} {L : List Res} {e n c : Nat} {A : Option Addr} {xs : List Value}
theorem Sat.toQue (H : Sat w (row e 1 (.slice A n c) n xs :: L)) : Sat w (que e A n c xs :: L) := by
  refine H.weaken fun F hP => ⟨⟨by have := hP.1.1; omega, ?_⟩, fun k => (hP.2 k).trans (by cases A <;> simp [Value.ownBlock])⟩
  rcases hP.1.2 with ⟨h1, h2⟩ | ⟨g, cap, cur, h1, h3, h4, h5, h6, h7, h8⟩
  · cases h1; exact .inl ⟨rfl, rfl, rfl⟩
  · cases h1; exact .inr ⟨g, 0, cur, rfl, h4, h5, h6, by omega, by rw [List.drop_zero, ← h8, Nat.mul_one]⟩
theorem Sat.queNil (H : Sat w L) (e : TypeId) : Sat w (que e none 0 0 [] :: L) := (H.nilRow e 1).toQue
theorem Sat.queE (H : Sat w (que e A n c xs :: L)) : xs.length = n ∧ ((A = none ∧ n = 0 ∧ c = 0) ∨ ∃ g o cur, A = some ⟨g, o, none⟩ ∧ w.heap[g]? = some (.cells cur e (0, 0)) ∧ n ≤ c ∧ c ≤ maxLen ∧ o + c ≤ cur.size ∧ (cur.toList.drop o).take n = xs) := by
  obtain ⟨F, _, h, _⟩ := H.head; exact h
theorem que_cell {cur : Array Value} {o n : Nat} {xs : List Value} (h : (cur.toList.drop o).take n = xs) {j : Nat} {v : Value} (hj : xs[j]? = some v) : cur[o + j]? = some v := by
  rw [← h, List.getElem?_take] at hj
  split at hj
  · rw [List.getElem?_drop, Array.getElem?_toList] at hj; exact hj
  · cases hj
theorem SlOk.ofQue {i : Nat} (H : Sat w L) (hL : L[i]? = some (que e A n c xs)) : SlOk L 1 A n c xs := by
  have rd : Rd L A xs := fun w' H' j v hj => by
    obtain ⟨h1, h2⟩ := (H'.fetch hL).queE
    rcases h2 with ⟨_, h0, _⟩ | ⟨g, o, cur, rfl, hg, _, _, _, h8⟩
    · have : xs = [] := List.eq_nil_of_length_eq_zero (by omega)
      rw [this] at hj; simp at hj
    · exact ⟨g, o, rfl, by simp only [World.cell?, hg, id]; exact que_cell h8 hj⟩
  obtain ⟨h1, h2⟩ := (H.fetch hL).queE
  rcases h2 with ⟨rfl, rfl, rfl⟩ | ⟨g, o, cur, rfl, hg, h5, h6, _, _⟩
  · exact ⟨fun _ => rfl, Nat.le_refl _, Nat.zero_le _, by rw [h1], rd⟩
  · exact ⟨(fun h => by cases h), h5, h6, by omega, rd⟩
theorem Sat.queTail (H : Sat w (que e A n c xs :: L)) (k : Nat) (hk : k ≤ n) : Sat w (que e (shift A (k * 1) (decide (c = k))) (n - k) (c - k) (xs.drop k) :: L) := by
  refine H.weaken fun F hP => ?_
  obtain ⟨⟨h1, h2⟩, hF⟩ := hP
  refine ⟨⟨by rw [List.length_drop, h1], ?_⟩, fun j => (hF j).trans ?_⟩
  · rcases h2 with ⟨rfl, rfl, rfl⟩ | ⟨g, o, cur, rfl, hg, h5, h6, h7, h8⟩
    · have : k = 0 := by omega
      subst this; exact .inl ⟨by simp [shift], rfl, rfl⟩
    · by_cases hc : c = k
      · subst hc
        refine .inr ⟨g, o, cur, by simp [shift], hg, by omega, by omega, by omega, ?_⟩
        have : n = c := by omega
        subst this
        rw [Nat.sub_self, List.take_zero, List.drop_eq_nil_of_le (show xs.length ≤ n by omega)]
      · refine .inr ⟨g, o + k, cur, by simp [shift, hc, add_at], hg, by omega, by omega, by omega, ?_⟩
        rw [← h8, List.drop_take, List.drop_drop]
  · cases A with
    | none => simp [shift]
    | some a => by_cases hc : c = k <;> simp [shift, hc, add_block]
end
section
variable {P : Program} {ops : Array Oper} {Q : Exit → Act → World → Prop} {a : Act} {w : World} {rest : List Oper} {o : Oper} {L : List Res} {n : Nat} {E : List (Nat × Value)}
theorem turnQue {w w' : World} {L : List Res} {e n c n' c' : Nat} {A A' : Option Addr} {xs xs' : List Value} (H : Sat w (que e A n c xs :: L)) (hh : Hp w w')
    (h : xs'.length = n' ∧ ((A' = none ∧ n' = 0 ∧ c' = 0) ∨ ∃ g o cur, A' = some ⟨g, o, none⟩ ∧ w'.heap[g]? = some (.cells cur e (0, 0)) ∧ n' ≤ c' ∧ c' ≤ maxLen ∧ o + c' ≤ cur.size ∧ (cur.toList.drop o).take n' = xs'))
    (hb : A'.map (·.block) = A.map (·.block) ∨ ∀ k, A'.map (·.block) = some k → w.heap.size ≤ k) (ho : ∀ k, k < w.heap.size → A.map (·.block) ≠ some k → w'.heap[k]? = w.heap[k]?) : Sat w' (que e A' n' c' xs' :: L) := by
  refine H.turn hh fun F hF hP => ⟨fun k => A'.map (·.block) = some k, fun k hk => ⟨?_, hb.elim (fun e => .inl ((hP.2 k).2 (e ▸ hk))) fun e => .inr (e k hk)⟩, ⟨h, fun _ => Iff.rfl⟩, fun k hk hf => ho k hk fun e => hf ((hP.2 k).2 e)⟩
  rcases h.2 with ⟨rfl, _, _⟩ | ⟨g, o, cur, rfl, hg, _⟩
  · simp at hk
  · simp only [Option.map_some, Option.some.injEq] at hk
    subst hk
    exact (Array.getElem?_eq_some_iff.1 hg).1
theorem r_appendQ {e t : TypeId} {k c bytes d m mc : Nat} {s x : Operand} {A : Option Addr} {xs news : List Value} {z : Value} {xs' : List Value} {km : Nat} {L' : Option Addr → Nat → List Res} (i : Nat) (S : Slots a n E) (H : Sat w L) (ho : o.op = .call { callee := .builtin .append, args := #[s, x], argTypes := #[t, t] })
    (hs : ev E s = some (.slice A k c)) (hx : ev E x = some (.slice (some ⟨mc, 0, none⟩) m m)) (hL : L[i]? = some (que e A k c xs)) (El : Elem P t e 1 bytes z) (ok : SlOk L 1 (some ⟨mc, 0, none⟩) m m news) (hm : 0 < m) (h1 : ∀ u ∈ news, u.oneCell' = true) (h63 : k + m ≤ maxLen) (hbytes : (k + m) * bytes ≤ 140737488355328)
    (hxs : xs ++ news = xs') (hkm : k + m = km) (hL' : ∀ A' c', L.set i (que e A' km c' xs') = L' A' c') (hd : o.dst = some d) (hn : Nat.blt d n = true) (hw : Wt ops E o = some true)
    (K : ∀ a' w' A' c', Slots a' n ((d, .slice A' km c') :: E) → Sat w' (L' A' c') → wpList P ops Q rest a' w') : wpList P ops Q (o :: rest) a w := by
  subst hxs; subst hkm
  have h := H.fetch hL
  obtain ⟨hq1, hq2⟩ := h.queE
  obtain ⟨ti, hi, hz, hsz, hby⟩ := El.parts
  have hnl : news.length = m := by have := ok.len; omega
  have hnews : ∀ j u, news[j]? = some u → w.cell? ((⟨mc, 0, none⟩ : Addr).add j) = some u := fun j u hj => by
    have := ok.cell w H hj; rw [add_at]; exact this
  have hsmall : k + m ≤ 9223372036854775807 := by simp only [maxLen] at h63; omega
  have done : ∀ (v' : Value) (w' : World) (A' : Option Addr) (c' : Nat), v' = .slice A' (k + m) c' → (Builtin.append_ #[t, t] o.type #[.slice A k c, .slice (some ⟨mc, 0, none⟩) m m]).run P w = .ok v' w' → Sat w' (que e A' (k + m) c' (xs ++ news) :: L.eraseIdx i) → wpList P ops Q (o :: rest) a w := by
    intro v' w' A' c' hv hr H'
    subst hv
    refine r_val S ?_ hd hn hw fun a' S' => K a' w' A' c' S' (hL' A' c' ▸ H'.back (lt_of_at hL))
    unfold execOp
    simp only [ho, resolve, invoke, builtin, Sem.run_bind, Sem.run_pure, Result.andThen_ok, List.map_toArray, List.map_cons, List.map_nil, S.eval hs, S.eval hx, hr]
  have grown : ∀ (old : Nat) (b : Option Addr), old < k + m → ∃ cur, (w.drew.alloc (.cells (xs.toArray ++ news.toArray ++ Builtin.zeroCells z.cells (grownCap w (k + m) old e - (k + m))) e)).heap[w.heap.size]? = some (.cells cur e (0, 0)) ∧ 0 + grownCap w (k + m) old e ≤ cur.size ∧ (cur.toList.drop 0).take (k + m) = xs ++ news := by
    intro old b hold
    have hge := grownCap_ge w (k + m) old e
    refine ⟨_, heap_alloc_new w.drew _, ?_, ?_⟩
    · simp only [Array.size_append, List.size_toArray, size_zeroCells, El.zs, hq1, hnl]; omega
    · rw [List.drop_zero]
      simp only [Array.toList_append, List.append_assoc]
      rw [← List.append_assoc, show k + m = (xs ++ news).length from by rw [List.length_append, hq1, hnl]]
      exact List.take_left
  rcases hq2 with ⟨rfl, rfl, rfl⟩ | ⟨g, oo, cur, rfl, hg, h5, h6, h7, h8⟩
  · have hx0 : xs = [] := List.eq_nil_of_length_eq_zero hq1
    subst hx0
    have hr := run_append_nil (P := P) w t o.type e ti z El.sl hi hz ⟨mc, 0, none⟩ m m news (by rw [hsz]; omega) hnews hm (by omega) (by rw [hby]; have hb := hbytes; simp only [Nat.zero_add] at hb; omega)
    obtain ⟨cur, hc1, hc2, hc3⟩ := grown 0 none (by omega)
    simp only [Nat.zero_add, List.nil_append, Array.empty_append] at hc1 hc2 hc3
    refine done _ _ _ _ (by rw [Nat.zero_add]) hr (turnQue h ⟨rfl, rfl, rfl, by simp⟩ ⟨by simp [hnl], .inr ⟨_, 0, cur, rfl, hc1, ?_, ?_, by simpa using hc2, by simpa using hc3⟩⟩ (.inr fun k hk => ?_) fun k hk _ => heap_alloc_old w.drew _ hk)
    · have := grownCap_ge w m 0 e; omega
    · exact grownCap_le_maxLen w m 0 e (by omega)
    · simp only [Option.map_some, Option.some.injEq] at hk; omega
  · by_cases hroom : k + m ≤ c
    · have hst := run_storeCells_at (P := P) g (oo + k) e news 0 cur w hg (by omega) h1
      simp only [Nat.add_zero] at hst
      have hf := run_firstCells_some (P := P) w ti.size m ⟨mc, 0, none⟩ m m news (by rw [hsz]; omega) hnews
      have hr : (Builtin.append_ #[t, t] o.type #[.slice (some ⟨g, oo, none⟩) k c, .slice (some ⟨mc, 0, none⟩) m m]).run P w = .ok (.slice (some ⟨g, oo, none⟩) (k + m) c) (w.setRow g (cur.toList.take (oo + k) ++ news ++ cur.toList.drop (oo + k + news.length)).toArray) := by
        rw [hsz] at hf
        simp [Builtin.append_, run_underlying El.sl, sizeOf, typeInfo, hi, hsz, Builtin.lenOf, hroom, hf, add_at, hst]
      refine done _ _ _ _ rfl hr (turnQue h ⟨rfl, rfl, rfl, by simp [World.setRow]⟩ ⟨by simp [hnl, hq1], .inr ⟨g, oo, _, rfl, setRow_heap w g cur _ e _ hg, hroom, h6, ?_, ?_⟩⟩ (.inl rfl) fun j _ hj => setRow_other w g j _ fun e => hj (by simp [e]))
      · simp only [List.size_toArray, List.length_append, List.length_take, List.length_drop, Array.length_toList]
        omega
      · have hl1 : (cur.toList.take (oo + k)).length = oo + k := by simp; omega
        rw [List.append_assoc, List.drop_append_of_le_length (by omega), ← List.append_assoc]
        have e1 : (cur.toList.take (oo + k)).drop oo = xs := by rw [List.drop_take, Nat.add_sub_cancel_left]; exact h8
        rw [e1, show k + m = (xs ++ news).length from by rw [List.length_append, hq1, hnl]]
        exact List.take_left
    · have holds : ∀ j u, xs[j]? = some u → w.cell? ((⟨g, oo, none⟩ : Addr).add j) = some u := fun j u hj => by
        have := que_cell h8 hj
        rw [add_at]; simp only [World.cell?, hg, id]; exact this
      have hr := run_append_grow (P := P) w t o.type e ti z El.sl hi hz ⟨g, oo, none⟩ k c xs (by rw [hsz]; omega) holds ⟨mc, 0, none⟩ m m news (by rw [hsz]; omega) hnews (by omega) (by omega) (by rw [hby]; exact growslice_fits (by omega) hbytes)
      obtain ⟨cur', hc1, hc2, hc3⟩ := grown c none (by omega)
      refine done _ _ _ _ rfl hr (turnQue h ⟨rfl, rfl, rfl, by simp⟩ ⟨by simp [hnl, hq1], .inr ⟨_, 0, cur', rfl, hc1, grownCap_ge w (k + m) c e, grownCap_le_maxLen w (k + m) c e h63, hc2, hc3⟩⟩ (.inr fun k hk => ?_) fun k hk _ => heap_alloc_old w.drew _ hk)
      simp only [Option.map_some, Option.some.injEq] at hk; omega
end
end Go.Cg

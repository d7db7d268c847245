/- The walk's steps over resources: a box, a variable, a store, a new map; calls by their contracts. No condition. -/
import Derived.Test.YtgfdmhjjlajmgaaGreatDoorKUSep
namespace Go.Cg
set_option linter.unusedVariables false
set_option linter.unusedSimpArgs false
open Go.RowKit
section
variable {P : Program} {ops : Array Oper} {Q : Exit → Act → World → Prop} {a : Act} {w : World} {rest : List Oper} {o : Oper} {L : List Res}

theorem run_box (elem : TypeId) (v : Value) : (Instr.box elem v).run P w = .ok (.pointer (some ⟨w.heap.size, 0, none⟩)) (w.alloc (.cells v.cells elem)) := by simp [go_sem]

/-- cells put in, from place j on -/
def putAt (c : Array Value) (j : Nat) : List Value → Array Value
  | [] => c
  | v :: vs => putAt (c.setIfInBounds j v) (j + 1) vs

theorem sat_storeCells {b : Nat} {t : TypeId} {L : List Res} (j : Nat) : ∀ (vs : List Value) (c : Array Value) (i : Nat) (w : World), Sat w (blk b (.cells c t) :: L) → j + i + vs.length ≤ c.size → (∀ u ∈ vs, u.oneCell' = true) →
    ∃ w', (storeCells ⟨b, j, none⟩ vs i).run P w = .ok () w' ∧ Sat w' (blk b (.cells (putAt c (j + i) vs) t) :: L)
  | [], c, i, w, H, _, _ => ⟨w, by simp [storeCells], H⟩
  | v :: vs, c, i, w, H, h, h1 => by
    have hl : j + i < c.size := by simp only [List.length_cons] at h; omega
    have hc : w.cell? ⟨b, j + i, none⟩ = some c[j + i] := by rw [H.cellAt]; simp [hl]
    have hf := H.thawed (j + i)
    have hadd : (⟨b, j, none⟩ : Addr).add i = ⟨b, j + i, none⟩ := by unfold Addr.add; split <;> simp_all
    have hv : v.oneCell' = true := h1 v (by simp)
    obtain ⟨w', hr, H'⟩ := sat_storeCells j vs (c.setIfInBounds (j + i) v) (i + 1) _ (H.setCell (i := j + i) v) (by simp only [List.length_cons] at h; simp; omega) (fun u hu => h1 u (by simp [hu]))
    refine ⟨w', ?_, by rw [putAt, Nat.add_assoc]; exact H'⟩
    rw [storeCells, hadd]
    simp only [Sem.run_bind]
    have hst : (store ⟨b, j + i, none⟩ v).run P w = .ok () (w.setCell ⟨b, j + i, none⟩ v) := by
      cases v <;> first | (simp [store, Sem.run, hc, hf]; done) | (simp [Value.oneCell'] at hv)
    rw [hst]
    exact hr

/-- a slice type, its element type, the element's cells, bytes and zero -/
structure Elem (P : Program) (t e : TypeId) (size bytes : Nat) (z : Value) : Prop where
  sl : P.underlying t = some (.slice e)
  info : (P.info? e).map (fun i => (i.zero, i.size, i.bytes)) = some (some z, size, bytes)
  zs : z.cells.size = size
  pos : 0 < size

theorem Elem.parts {t e : TypeId} {size bytes : Nat} {z : Value} (E : Elem P t e size bytes z) : ∃ i, P.info? e = some i ∧ i.zero = some z ∧ i.size = size ∧ i.bytes = bytes := by
  have h := E.info
  cases hi : P.info? e with
  | none => simp [hi] at h
  | some i => simp only [hi, Option.map_some, Option.some.injEq, Prod.mk.injEq] at h; exact ⟨i, rfl, h.1, h.2.1, h.2.2⟩

/-- what a slice that is read has: its cells, wherever they lie, as long as the resources stand -/
def Rd (L : List Res) (A : Option Addr) (xs : List Value) : Prop := ∀ w, Sat w L → ∀ j v, xs[j]? = some v → ∃ b o, A = some ⟨b, o, none⟩ ∧ w.cell? ⟨b, o + j, none⟩ = some v

theorem Rd.more {L : List Res} {A : Option Addr} {xs : List Value} (h : Rd L A xs) (P : Res) : Rd (P :: L) A xs := fun w H => h w H.drop
theorem Rd.nil (L : List Res) (A : Option Addr) : Rd L A [] := fun _ _ _ _ h => by cases h

theorem add_lit (b o j : Nat) : (⟨b, o, none⟩ : Addr).add j = ⟨b, o + j, none⟩ := by unfold Addr.add; split <;> simp_all

theorem rd_adds {w : World} {A : Option Addr} {xs : List Value} (h : ∀ j v, xs[j]? = some v → ∃ b o, A = some ⟨b, o, none⟩ ∧ w.cell? ⟨b, o + j, none⟩ = some v) {ad : Addr} (hA : A = some ad) :
    ∀ j u, xs[j]? = some u → w.cell? (ad.add j) = some u := fun j u hu => by
  obtain ⟨b, o, e, hc⟩ := h j u hu
  rw [hA] at e; cases e
  rw [add_lit]; exact hc

theorem ownsRow_base {w : World} {base : Nat} {e : TypeId} {size : Nat} {v : Value} {n : Nat} {xs : List Value} (h : w.ownsRow base e size v n xs) : w.ownsRow 0 e size v n xs :=
  ⟨h.1, h.2.imp id fun ⟨g, cap, cur, hv, _, r⟩ => ⟨g, cap, cur, hv, Nat.zero_le _, r⟩⟩

/-- a row in a block that was just made -/
theorem Sat.newRow {w w' : World} {L : List Res} (H : Sat w L) {e : TypeId} {size : Nat} {v : Value} {n : Nat} {xs : List Value} (h : w'.ownsRow w.heap.size e size v n xs) (hg : w.grownBy w' none) : Sat w' (row e size v n xs :: L) :=
  H.add (Hp.grown hg) (fun k hk => hg.block k hk (by simp)) (fun k => v.ownBlock = some k) (fun k hk => h.lt k hk) ⟨ownsRow_base h, fun _ => Iff.rfl⟩

theorem Sat.turnRow {w w' : World} {L : List Res} {e : TypeId} {size : Nat} {v v' : Value} {n n' : Nat} {xs xs' : List Value} (H : Sat w (row e size v n xs :: L)) (h : w'.ownsRow 0 e size v' n' xs') (hg : w.grownBy w' v.ownBlock)
    (hb : v'.ownBlock = v.ownBlock ∨ ∀ k, v'.ownBlock = some k → w.heap.size ≤ k) : Sat w' (row e size v' n' xs' :: L) :=
  H.turn (Hp.grown hg) fun F hF hP => ⟨fun k => v'.ownBlock = some k, fun k hk => ⟨(h.lt k hk).2, hb.elim (fun e => .inl ((hP.2 k).2 (e ▸ hk))) fun e => .inr (e k hk)⟩, ⟨h, fun _ => Iff.rfl⟩,
    fun k hk hf => hg.block k hk fun e => hf ((hP.2 k).2 e.symm)⟩

/-- .. of an append: the row is the old one, or a new one -/
theorem run_append_own' (w : World) (t ty e : TypeId) (size bytes : Nat) (z : Value) (E : Elem P t e size bytes z) (v : Value) (n : Nat) (xs : List Value) (hown : w.ownsRow 0 e size v n xs)
    (a : Option Addr) (m c : Nat) (news : List Value) (hl : news.length = m * size) (hnews : ∀ j u, news[j]? = some u → ∃ b o, a = some ⟨b, o, none⟩ ∧ w.cell? ⟨b, o + j, none⟩ = some u) (h1 : ∀ u ∈ news, u.oneCell' = true)
    (ha : a = none → c = 0) (h63 : n + m ≤ maxLen) (hbytes : (n + m) * bytes ≤ 140737488355328) :
    ∃ v' w', (Builtin.append_ #[t, t] ty #[v, .slice a m c]).run P w = .ok v' w' ∧ w'.ownsRow 0 e size v' (n + m) (xs ++ news) ∧ w.grownBy w' v.ownBlock ∧ (v'.ownBlock = v.ownBlock ∨ ∀ k, v'.ownBlock = some k → w.heap.size ≤ k) ∧
      (v' = .slice none 0 0 ↔ v = .slice none 0 0 ∧ m = 0) := by
  obtain ⟨i, hi, hz, hs, hby⟩ := E.parts
  cases a with
  | none =>
    have hm : m = 0 := by
      cases news with
      | nil => have := E.pos; rcases Nat.eq_zero_or_pos m with h | h
               · exact h
               · have := Nat.mul_pos h E.pos; simp at hl; omega
      | cons x r => obtain ⟨_, _, h, _⟩ := hnews 0 x rfl; cases h
    subst hm
    have hn : news = [] := List.eq_nil_of_length_eq_zero (by simpa using hl)
    subst hn
    rw [ha rfl]
    refine ⟨v, w, run_append_owned_none w 0 t ty e i size E.sl hi v n xs hown, by simpa using hown, ⟨rfl, rfl, rfl, Nat.le_refl _, fun _ _ _ => rfl⟩, .inl rfl, by simp⟩
  | some ad =>
    have hcells := rd_adds hnews rfl
    rcases hown.2 with ⟨rfl, rfl⟩ | ⟨g, cap, cur, rfl, hbg, hg, hnc, hcm, hcs, htake⟩
    · obtain ⟨v', w', hr, ho, hgr, hnil⟩ := run_append_own w w.heap.size t ty e i z size bytes E.sl hi hz hs hby E.zs E.pos _ 0 xs ⟨hown.1, .inl ⟨rfl, rfl⟩⟩ ad m c news hl hcells h1 h63 hbytes (Nat.le_refl _)
      exact ⟨v', w', hr, ownsRow_base ho, hgr, .inr fun k hk => (ho.lt k hk).1, hnil⟩
    · by_cases hroom : n + m ≤ cap
      · subst hs
        have hfit : n * i.size + news.length ≤ cur.size := by rw [hl, hcs, ← Nat.add_mul]; exact Nat.mul_le_mul_right _ hroom
        have hr := run_append_room (P := P) w t ty e i E.sl hi g n cap cur hg ad m c news hl hcells h1 hroom hfit
        have hlen : (xs ++ news).length = (n + m) * i.size := by rw [List.length_append, hown.1, hl, Nat.add_mul]
        refine ⟨_, _, hr, ⟨hlen, .inr ⟨g, cap, _, rfl, Nat.zero_le _, setRow_heap w g cur _ e _ hg, hroom, hcm, ?_, ?_⟩⟩, ⟨rfl, rfl, rfl, by simp, fun k _ hk => setRow_other w g k _ (fun e => hk (by simp [Value.ownBlock, e]))⟩, .inl rfl, by simp⟩
        · simp only [List.size_toArray, List.length_append, List.length_take, List.length_drop, Array.length_toList]
          omega
        · rw [htake, ← hlen]
          exact List.take_left
      · subst hs; subst hby
        have holds : ∀ j u, xs[j]? = some u → w.cell? ((⟨g, 0, none⟩ : Addr).add j) = some u := hown.cells (g := g) rfl
        have hsmall : n + m ≤ 9223372036854775807 := by simp only [maxLen] at h63; omega
        have hr := run_append_grow (P := P) w t ty e i z E.sl hi hz ⟨g, 0, none⟩ n cap xs hown.1 holds ad m c news hl hcells (by omega) (by omega) (growslice_fits (by omega) hbytes)
        have hge := grownCap_ge w (n + m) cap e
        have hcm' : grownCap w (n + m) cap e ≤ maxLen := grownCap_le_maxLen w (n + m) cap e h63
        have hlen : (xs ++ news).length = (n + m) * i.size := by rw [List.length_append, hown.1, hl, Nat.add_mul]
        refine ⟨_, _, hr, ⟨hlen, .inr ⟨w.heap.size, _, _, rfl, Nat.zero_le _, heap_alloc_new w.drew _, hge, hcm', ?_, ?_⟩⟩, ⟨rfl, rfl, rfl, by simp, fun k hk _ => Below.heap_alloc w.drew _ k hk⟩, .inr fun k hk => ?_, by simp⟩
        · simp only [Array.size_append, List.size_toArray, size_zeroCells, E.zs, hown.1, hl, ← Nat.add_mul]
          congr 1
          omega
        · simp only [Array.toList_append, List.append_assoc]
          rw [← List.append_assoc, ← hlen]
          exact List.take_left
        · simp only [Value.ownBlock, Option.some.injEq] at hk; omega

end
end Go.Cg

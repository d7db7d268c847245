/- The rules of a walk: maps, parts of slices, rows that are nil, copying. No condition. -/
import Derived.Test.YtgfdmhjjlajmgaaGreatDoorKURh
import Derived.Laws.CopyRow
import Derived.Laws.Bits64b
import Derived.Lib.Mul64
import Derived.MapKept
namespace Go.Cg
set_option linter.unusedVariables false
set_option linter.unusedSimpArgs false
open Go.RowKit

/-! ### tables -/
section
variable {κ ν : Type} [DecidableEq κ]
def tlook : List (κ × ν) → κ → Option ν
  | [], _ => none
  | p :: r, k => if k = p.1 then some p.2 else tlook r k
def tupd : List (κ × ν) → κ → ν → List (κ × ν)
  | [], k, v => [(k, v)]
  | p :: r, k, v => if k = p.1 then (k, v) :: r else p :: tupd r k v
theorem tlook_tupd (k : κ) (v : ν) (k' : κ) : ∀ l : List (κ × ν), tlook (tupd l k v) k' = if k' = k then some v else tlook l k'
  | [] => by simp [tupd, tlook]
  | p :: r => by
    unfold tupd
    by_cases h : k = p.1
    · rw [if_pos h]
      by_cases h' : k' = k
      · simp [tlook, h']
      · simp [tlook, h', h ▸ h']
    · rw [if_neg h]
      simp only [tlook, tlook_tupd k v k' r]
      by_cases h' : k' = p.1
      · have : ¬ k' = k := fun e => h (e ▸ h')
        simp [h', this]
        intro e; exact absurd e.symm h
      · simp [h']
def posn : List (κ × ν) → κ → Option (Nat × ν)
  | [], _ => none
  | p :: r, k => if k = p.1 then some (0, p.2) else (posn r k).map fun q => (q.1 + 1, q.2)
theorem tlook_posn (k : κ) : ∀ l : List (κ × ν), tlook l k = (posn l k).map (·.2)
  | [] => rfl
  | p :: r => by
    unfold tlook posn
    split
    · rfl
    · rw [tlook_posn k r]; cases posn r k <;> rfl
end

theorem ba_beq (a b : ByteArray) : (a == b) = decide (a = b) := by
  cases a with | mk x => cases b with | mk y =>
    show ByteArray.beq _ _ = _
    rw [Bool.eq_iff_iff, decide_eq_true_eq]
    simp [ByteArray.beq]

structure KeyOk (P : Program) (t k e : TypeId) {κ : Type} [DecidableEq κ] (mk : κ → Value) : Prop where
  mt : P.underlying t = some (.map k e)
  same : ∃ d, P.underlying k = some d ∧ ∀ a b, Instr.sameNow d (mk a) (mk b) = some (decide (a = b))
  check : ∀ b a w, (Instr.checkKey b 10000 k (mk a)).run P w = .ok () w
  bits : ∀ a, Instr.sameBits 10000 (mk a) (mk a) = true

theorem check_lit {P : Program} {k : TypeId} {d : TypeDesc} (hk : P.underlying k = some d) (h1 : ∀ x, d ≠ .interface x) (h2 : ∀ x y, d ≠ .array x y) (h3 : ∀ x, d ≠ .struct x) (b : Bool) (v : Value) (w : World) (m : Nat) : (Instr.checkKey b (m + 1) k v).run P w = .ok () w := by
  unfold Instr.checkKey
  rw [Sem.run_bind, run_underlying hk, Result.andThen_ok]
  cases d <;> first | rfl | exact absurd rfl (h1 _) | exact absurd rfl (h2 _ _) | exact absurd rfl (h3 _)

section
variable {κ ν : Type} [DecidableEq κ] {mk : κ → Value} {mkv : ν → Value}
theorem findNow_eq {d : TypeDesc} (hs : ∀ a b, Instr.sameNow d (mk a) (mk b) = some (decide (a = b))) (k : κ) : ∀ (es : List MapEntry) (l : List (κ × ν)) (i : Nat),
    es.map (fun e => (e.key, e.val)) = l.map (fun p => (mk p.1, mkv p.2)) → Instr.findNow d (mk k) es i = some ((posn l k).map fun q => (i + q.1, mkv q.2))
  | [], [], i, _ => rfl
  | e :: es, p :: r, i, h => by
    simp only [List.map_cons, List.cons.injEq, Prod.mk.injEq] at h
    unfold Instr.findNow posn
    rw [h.1.1, hs]
    by_cases hk : k = p.1
    · simp [hk, h.1.2]
    · simp only [hk, decide_false, if_false]
      rw [findNow_eq hs k es r (i + 1) h.2]
      cases posn r k <;> simp [Nat.add_assoc, Nat.add_comm 1]
  | [], _ :: _, _, h => by simp at h
  | _ :: _, [], _, h => by simp at h

theorem posn_key (k : κ) : ∀ (es : List MapEntry) (l : List (κ × ν)) (j : Nat) (v : ν), es.map (fun e => (e.key, e.val)) = l.map (fun p => (mk p.1, mkv p.2)) → posn l k = some (j, v) → (es[j]?).map (·.key) = some (mk k)
  | [], [], _, _, _, h => by simp [posn] at h
  | e :: es, p :: r, j, v, h, hp => by
    simp only [List.map_cons, List.cons.injEq, Prod.mk.injEq] at h
    unfold posn at hp
    split at hp
    · rename_i hk
      simp only [Option.some.injEq, Prod.mk.injEq] at hp
      obtain ⟨rfl, _⟩ := hp
      simp [h.1.1, hk]
    · cases hq : posn r k with
      | none => simp [hq] at hp
      | some q =>
        rw [hq] at hp
        simp only [Option.map_some, Option.some.injEq, Prod.mk.injEq] at hp
        obtain ⟨rfl, rfl⟩ := hp
        simpa using posn_key k es r q.1 q.2 h.2 hq
  | [], _ :: _, _, _, h, _ => by simp at h
  | _ :: _, [], _, _, h, _ => by simp at h

theorem tupd_some (k : κ) (v : ν) : ∀ (es : List MapEntry) (l : List (κ × ν)) (j : Nat) (v' : ν), es.map (fun e => (e.key, e.val)) = l.map (fun p => (mk p.1, mkv p.2)) → posn l k = some (j, v') →
    (es.modify j fun e => { e with key := mk k, val := mkv v }).map (fun e => (e.key, e.val)) = (tupd l k v).map (fun p => (mk p.1, mkv p.2))
  | [], [], _, _, _, h => by simp [posn] at h
  | e :: es, p :: r, j, v', h, hp => by
    simp only [List.map_cons, List.cons.injEq, Prod.mk.injEq] at h
    unfold posn at hp
    split at hp
    · rename_i hk
      simp only [Option.some.injEq, Prod.mk.injEq] at hp
      obtain ⟨rfl, _⟩ := hp
      simp [tupd, hk, h.2]
    · rename_i hk
      cases hq : posn r k with
      | none => simp [hq] at hp
      | some q =>
        rw [hq] at hp
        simp only [Option.map_some, Option.some.injEq, Prod.mk.injEq] at hp
        obtain ⟨rfl, rfl⟩ := hp
        have := tupd_some k v es r q.1 q.2 h.2 hq
        simp [tupd, hk, this, h.1]
  | [], _ :: _, _, _, h, _ => by simp at h
  | _ :: _, [], _, _, h, _ => by simp at h
theorem tupd_none (k : κ) (v : ν) : ∀ (l : List (κ × ν)), posn l k = none → tupd l k v = l ++ [(k, v)]
  | [], _ => rfl
  | p :: r, hp => by
    unfold posn at hp
    split at hp
    · cases hp
    · rename_i hk
      cases hq : posn r k with
      | none => simp [tupd, hk, tupd_none k v r hq]
      | some q => simp [hq] at hp

/-- a map that is owned -/
def mp (mk : κ → Value) (mkv : ν → Value) (b : Nat) (l : List (κ × ν)) : Res where
  own w F := (∃ es clock, w.heap[b]? = some (.map es clock) ∧ es.toList.map (fun e => (e.key, e.val)) = l.map (fun p => (mk p.1, mkv p.2)) ∧ Go.MapKept.Stamped es clock) ∧ ∀ k, F k ↔ k = b
  stable := fun _ h h' => by
    obtain ⟨⟨es, clock, hb, he⟩, hF⟩ := h'
    exact ⟨⟨es, clock, (h _ ((hF _).2 rfl)).trans hb, he⟩, hF⟩
end

section
variable {P : Program} {ops : Array Oper} {Q : Exit → Act → World → Prop} {a : Act} {w : World} {rest : List Oper} {o : Oper} {L : List Res} {n : Nat} {E : List (Nat × Value)}
variable {κ ν : Type} {mk : κ → Value} {mkv : ν → Value}

theorem r_makeMap (mk : κ → Value) (mkv : ν → Value) {d : Nat} {t : TypeId} (S : Slots a n E) (H : Sat w L) (ho : o.op = .makeMap t none) (hd : o.dst = some d) (hn : Nat.blt d n = true) (hw : Wt ops E o = some true)
    (K : ∀ a' w' b, Slots a' n ((d, .map (some b)) :: E) → Sat w' (mp mk mkv b [] :: L) → wpList P ops Q rest a' w') : wpList P ops Q (o :: rest) a w := by
  refine r_val (w' := w.alloc (.map #[] 0)) (v := .map (some w.heap.size)) S (by simp [execOp, ho, Instr.makeMap]) hd hn hw fun a' S' => K a' _ _ S' ?_
  exact H.add (Hp.alloc w _) (fun k hk => Below.heap_alloc w _ k hk) (fun k => k = w.heap.size) (fun k hk => by subst hk; simp) ⟨⟨#[], 0, heap_alloc_new w _, rfl, Go.MapKept.stamped_empty 0⟩, fun _ => Iff.rfl⟩

theorem Sat.map {b : Nat} {l : List (κ × ν)} (H : Sat w (mp mk mkv b l :: L)) : ∃ es clock, w.heap[b]? = some (.map es clock) ∧ es.toList.map (fun e => (e.key, e.val)) = l.map (fun p => (mk p.1, mkv p.2)) ∧ Go.MapKept.Stamped es clock := by
  obtain ⟨F, _, h, _⟩ := H.head
  exact h

end

section
variable {P : Program} {ops : Array Oper} {Q : Exit → Act → World → Prop} {a : Act} {w : World} {rest : List Oper} {o : Oper} {L : List Res} {n : Nat} {E : List (Nat × Value)}
variable {κ ν : Type} [DecidableEq κ] {mk : κ → Value} {mkv : ν → Value}

theorem run_findKey {t kt e : TypeId} (K : KeyOk P t kt e mk) (k : κ) (es : List MapEntry) (l : List (κ × ν)) (h : es.map (fun e => (e.key, e.val)) = l.map (fun p => (mk p.1, mkv p.2))) (w : World) :
    (Instr.findKey kt (mk k) es).run P w = .ok ((posn l k).map fun q => (q.1, mkv q.2)) w := by
  obtain ⟨d, hd, hs⟩ := K.same
  have := findNow_eq (mkv := mkv) hs k es l 0 h
  simp only [Instr.findKey, Sem.run_bind, run_underlying hd, Result.andThen_ok, this, Sem.run_pure]
  simp

theorem run_lookup {t kt e : TypeId} {b : Nat} {l : List (κ × ν)} {z : ν} (K : KeyOk P t kt e mk) (hz : Zero P e (mkv z)) (i : Nat) (k : κ) (c : Bool) (H : Sat w L) (hL : L[i]? = some (mp mk mkv b l)) :
    (Instr.lookup t (.map (some b)) (mk k) c).run P w = .ok (if c then .tuple #[mkv ((tlook l k).getD z), .bool (tlook l k).isSome] else mkv ((tlook l k).getD z)) w := by
  obtain ⟨es, clock, hb, he, _⟩ := (H.fetch hL).map
  have hf := run_findKey (mkv := mkv) K k es.toList l he w
  have hc := K.check es.isEmpty k w
  have hg : (getObj b).run P w = .ok (.map es clock) w := by simp [getObj, Sem.run, hb]
  simp only [Instr.lookup, Sem.run_bind, run_underlying K.mt, Result.andThen_ok, hg, Sem.run_pure, hc, hf]
  rw [tlook_posn]
  cases hp : posn l k with
  | none => simp [hz w]
  | some q => simp

theorem y_lookup {t kt e : TypeId} {m x : Operand} {b : Nat} {l : List (κ × ν)} {z : ν} (i : Nat) (k : κ) (S : Slots a n E) (ho : o.op = .lookup t m x false) (hm : ev E m = some (.map (some b))) (hx : ev E x = some (mk k)) (K : KeyOk P t kt e mk) (hz : Zero P e (mkv z)) (hL : L[i]? = some (mp mk mkv b l)) :
    Yl P L o a (mkv ((tlook l k).getD z)) := fun w H => by
  simp only [execOp, ho, S.eval hm, S.eval hx, Sem.run_bind, run_lookup K hz i k false H hL, Result.andThen_ok, Sem.run_pure]; rfl
theorem posn_off {t kt e : TypeId} (K : KeyOk P t kt e mk) (k : κ) : ∀ (es : List MapEntry) (l : List (κ × ν)), es.map (fun e => (e.key, e.val)) = l.map (fun p => (mk p.1, mkv p.2)) → posn l k = none → ∀ x ∈ es, x.key ≠ mk k
  | [], _, _, _, x, hx => by cases hx
  | e :: es, [], h, _, _, _ => by simp at h
  | e :: es, p :: r, h, hp, x, hx => by
    simp only [List.map_cons, List.cons.injEq, Prod.mk.injEq] at h
    unfold posn at hp
    split at hp
    · cases hp
    · rename_i hk
      have hp' : posn r k = none := by cases hq : posn r k with | none => rfl | some q => simp [hq] at hp
      rcases List.mem_cons.1 hx with rfl | hx
      · rw [h.1.1]
        intro e'
        obtain ⟨d, _, hs⟩ := K.same
        have h1 := hs p.1 k
        have h2 := hs k k
        rw [e', h2] at h1
        simp only [decide_true, Option.some.injEq] at h1
        exact hk (of_decide_eq_true h1.symm).symm
      · exact posn_off K k es r h.2 hp' x hx
theorem r_mapSet {t kt e : TypeId} {m x y : Operand} {b : Nat} {l : List (κ × ν)} {L' : List Res} (i : Nat) (k : κ) (v : ν) (S : Slots a n E) (H : Sat w L) (ho : o.op = .mapUpdate t m x y) (hm : ev E m = some (.map (some b))) (hx : ev E x = some (mk k)) (hy : ev E y = some (mkv v)) (K : KeyOk P t kt e mk) (hL : L[i]? = some (mp mk mkv b l))
    (hL' : L.set i (mp mk mkv b (tupd l k v)) = L') (hd : o.dst = none) (hw : Wt ops E o = some true) (G : ∀ w', Sat w' L' → wpList P ops Q rest a w') : wpList P ops Q (o :: rest) a w := by
  subst hL'
  obtain ⟨es, clock, hb, he, hst⟩ := (H.fetch hL).map
  have hf := run_findKey (mkv := mkv) K k es.toList l he w
  have hc := K.check false k w
  have hg : (getObj b).run P w = .ok (.map es clock) w := by simp [getObj, Sem.run, hb]
  have hblt : b < w.heap.size := (Array.getElem?_eq_some_iff.1 hb).1
  have key : ∀ (es' : Array MapEntry) (clock' : Nat), es'.toList.map (fun e => (e.key, e.val)) = (tupd l k v).map (fun p => (mk p.1, mkv p.2)) → Go.MapKept.Stamped es' clock' → Sat { w with heap := w.heap.setIfInBounds b (.map es' clock') } (L.set i (mp mk mkv b (tupd l k v))) := by
    intro es' clock' he' hst'
    refine Sat.back ((H.fetch hL).turn ⟨rfl, rfl, rfl, by simp⟩ fun F hF hP => ⟨F, fun k' hk' => ⟨by simpa using hF k' hk', .inl hk'⟩, ⟨⟨es', clock', by simp [hblt], he', hst'⟩, hP.2⟩, fun k' hk' hnf => ?_⟩) (lt_of_at hL)
    have hne : b ≠ k' := fun e => hnf ((hP.2 k').2 e.symm)
    simp [Array.getElem?_setIfInBounds_ne hne]
  have hset : ∀ o' : Obj, (setObj b o').run P w = .ok () { w with heap := w.heap.setIfInBounds b o' } := by
    intro o'
    simp only [setObj, Sem.run, hb]
  cases hp : posn l k with
  | none =>
    refine r_act (w' := _) S ?_ hd hw (G _ (key (es.push { key := mk k, val := mkv v, born := clock }) (clock + 1) (by rw [tupd_none k v l hp]; simp [he]) (Go.MapKept.stamped_push hst (posn_off K k es.toList l he hp))))
    simp only [execOp, ho, S.eval hm, S.eval hx, S.eval hy, Sem.run_bind, Instr.mapUpdate, run_underlying K.mt, Result.andThen_ok, hg, hc, hf, hp, Option.map_none, hset, Sem.run_pure]
  | some q =>
    have hk := posn_key (mkv := mkv) k es.toList l q.1 q.2 he hp
    have hk' : ((es[q.1]?).map (·.key)).getD (mk k) = mk k := by
      have : es[q.1]? = es.toList[q.1]? := by simp
      rw [this, hk]; rfl
    refine r_act (w' := _) S ?_ hd hw (G _ (key (es.modify q.1 fun e => { e with key := mk k, val := mkv v }) clock (by rw [Array.toList_modify]; exact tupd_some k v es.toList l q.1 q.2 he hp) (Go.MapKept.stamped_modify hst _ _ (fun _ _ => rfl) fun x hx hxi => by
      have e1 : es[q.1]? = es.toList[q.1]? := by simp
      rw [← e1, hxi] at hk
      simpa using hk.symm)))
    simp only [execOp, ho, S.eval hm, S.eval hx, S.eval hy, Sem.run_bind, Instr.mapUpdate, run_underlying K.mt, Result.andThen_ok, hg, hc, hf, hp, Option.map_some, hk', Instr.keyThatStays, K.bits, if_true, hset, Sem.run_pure]

/-! ### rows that are nil; parts of slices -/
theorem Sat.nilRow (H : Sat w L) (e : TypeId) (sz : Nat) : Sat w (row e sz (.slice none 0 0) 0 [] :: L) :=
  ⟨fun _ => False, fun _ h => h.elim, ⟨World.ownsRow_nil w 0 e sz, fun k => ⟨fun h => h.elim, fun h => by simp [Value.ownBlock] at h⟩⟩, SatIn.mono (fun _ hk => ⟨hk, id⟩) H⟩

/-- the address of a part -/
def shift (A : Option Addr) (k : Nat) (e : Bool) : Option Addr := if e then A else A.map (·.add k)
theorem run_slice_of {t e : TypeId} {A : Option Addr} {m c l h sz : Nat} (lo hi : Option Value) (w : World) (ht : P.underlying t = some (.slice e)) (hs : SizeOf P e sz) (hb : (Instr.sliceBounds true m c lo hi none).run P w = .ok (l, h, c) w) :
    (Instr.sliceAt t (.slice A m c) lo hi none).run P w = .ok (.slice (shift A (l * sz) (decide (c = l))) (h - l) (c - l)) w := by
  have h0 : (Instr.sliceAt t (.slice A m c) lo hi none).run P w = (Instr.slice t (.slice A m c) lo hi none).run P w := by
    simp [Instr.sliceAt, run_underlying ht]
  rw [h0]
  simp only [Instr.slice, Sem.run_bind, run_underlying ht, Result.andThen_ok, hb, hs w, Sem.run_pure]
  simp [shift]
theorem bounds_h {m c : Nat} {ik : IntKind} {j : Int} {k : Nat} (hj : j = k) (hk : k ≤ c) (w : World) : (Instr.sliceBounds true m c none (some (.int ik j)) none).run P w = .ok (0, k, c) w := by
  subst hj
  simp [Instr.sliceBounds, run_sliceBound, hk]
theorem bounds_l {m c : Nat} {ik : IntKind} {j : Int} {k : Nat} (hj : j = k) (hk : k ≤ m) (w : World) : (Instr.sliceBounds true m c (some (.int ik j)) none none).run P w = .ok (k, m, c) w := by
  subst hj
  simp [Instr.sliceBounds, run_sliceBound, hk]
theorem bounds_lh {m c : Nat} {ik ik' : IntKind} {j j' : Int} {k k' : Nat} (hj : j = k) (hj' : j' = k') (hk : k ≤ k') (hk' : k' ≤ c) (w : World) : (Instr.sliceBounds true m c (some (.int ik j)) (some (.int ik' j')) none).run P w = .ok (k, k', c) w := by
  subst hj; subst hj'
  simp [Instr.sliceBounds, run_sliceBound, hk, hk']
/-- x[:h] -/
theorem y_sliceH {t e : TypeId} {x h : Operand} {A : Option Addr} {m c k : Nat} {sz : Nat} {ik : IntKind} {j : Int} (S : Slots a n E) (ho : o.op = .slice t x none (some h) none) (hx : ev E x = some (.slice A m c)) (hh : ev E h = some (.int ik j)) (ht : P.underlying t = some (.slice e)) (hs : SizeOf P e sz) (hj : j = k) (hk : k ≤ c) :
    Yl P L o a (.slice (shift A 0 (decide (c = 0))) k c) := fun w _ => by
  have := run_slice_of (A := A) none (some (.int ik j)) w ht hs (bounds_h (m := m) hj hk w)
  rw [Nat.zero_mul] at this
  simp only [execOp, ho, S.eval hx, Option.map_none, Option.map_some, S.eval hh, Sem.run_bind, this, Result.andThen_ok, Sem.run_pure]
  rfl
/-- x[l:] -/
theorem y_sliceL {t e : TypeId} {x h : Operand} {A : Option Addr} {m c k : Nat} {sz : Nat} {ik : IntKind} {j : Int} (S : Slots a n E) (ho : o.op = .slice t x (some h) none none) (hx : ev E x = some (.slice A m c)) (hh : ev E h = some (.int ik j)) (ht : P.underlying t = some (.slice e)) (hs : SizeOf P e sz) (hj : j = k) (hk : k ≤ m) :
    Yl P L o a (.slice (shift A (k * sz) (decide (c = k))) (m - k) (c - k)) := fun w _ => by
  have := run_slice_of (A := A) (some (.int ik j)) none w ht hs (bounds_l (c := c) hj hk w)
  simp only [execOp, ho, S.eval hx, Option.map_none, Option.map_some, S.eval hh, Sem.run_bind, this, Result.andThen_ok, Sem.run_pure]
/-- x[l:h] -/
theorem y_sliceLH {t e : TypeId} {x h h' : Operand} {A : Option Addr} {m c k k' : Nat} {sz : Nat} {ik ik' : IntKind} {j j' : Int} (S : Slots a n E) (ho : o.op = .slice t x (some h) (some h') none) (hx : ev E x = some (.slice A m c)) (hh : ev E h = some (.int ik j)) (hh' : ev E h' = some (.int ik' j')) (ht : P.underlying t = some (.slice e)) (hs : SizeOf P e sz) (hj : j = k) (hj' : j' = k') (hk : k ≤ k') (hk' : k' ≤ c) :
    Yl P L o a (.slice (shift A (k * sz) (decide (c = k))) (k' - k) (c - k)) := fun w _ => by
  have := run_slice_of (A := A) (some (.int ik j)) (some (.int ik' j')) w ht hs (bounds_lh (m := m) (c := c) hj hj' hk hk' w)
  simp only [execOp, ho, S.eval hx, Option.map_none, Option.map_some, S.eval hh, S.eval hh', Sem.run_bind, this, Result.andThen_ok, Sem.run_pure]

theorem SlOk.part {sz : Nat} {A : Option Addr} {m c : Nat} {xs : List Value} (h : SlOk L sz A m c xs) (l k : Nat) (hl : l ≤ k) (hk : k ≤ m) : SlOk L sz (shift A (l * sz) (decide (c = l))) (k - l) (c - l) ((xs.drop (l * sz)).take ((k - l) * sz)) where
  nil e := by
    unfold shift at e
    have h1 := h.nil; have h2 := h.le
    by_cases hc : c = l
    · omega
    · rw [decide_eq_false hc] at e
      simp only [Bool.false_eq_true, if_false] at e
      cases A with
      | none => have := h1 rfl; omega
      | some x => simp at e
  le := by have := h.le; omega
  cap := by have := h.cap; omega
  len := by
    have h1 := h.len
    have h2 : (k - l) * sz + l * sz ≤ m * sz := by rw [← Nat.add_mul]; exact Nat.mul_le_mul_right _ (by omega)
    simp only [List.length_take, List.length_drop]
    omega
  rd := by
    intro w H j v hj
    have hjl : j < (k - l) * sz := by
      have := (List.getElem?_eq_some_iff.1 hj).1
      simp only [List.length_take] at this; omega
    rw [List.getElem?_take, if_pos hjl, List.getElem?_drop] at hj
    obtain ⟨b, o, rfl, hc⟩ := h.rd w H _ v hj
    have hne : ¬ c = l := by
      intro e
      have h2 := h.le
      have : k - l = 0 := by omega
      rw [this] at hjl; simp at hjl
    refine ⟨b, o + l * sz, ?_, ?_⟩
    · simp [shift, hne, add_lit]
    · rw [Nat.add_assoc]; exact hc
theorem SlOk.init {sz : Nat} {A : Option Addr} {m c : Nat} {xs : List Value} (h : SlOk L sz A m c xs) (k : Nat) (hk : k ≤ m) : SlOk L sz (shift A 0 (decide (c = 0))) k c (xs.take (k * sz)) := by
  simpa using h.part 0 k (Nat.zero_le _) hk
theorem SlOk.tail {sz : Nat} {A : Option Addr} {m c : Nat} {xs : List Value} (h : SlOk L sz A m c xs) (k : Nat) (hk : k ≤ m) : SlOk L sz (shift A (k * sz) (decide (c = k))) (m - k) (c - k) (xs.drop (k * sz)) := by
  have := h.part k m hk (Nat.le_refl _)
  rwa [List.take_of_length_le] at this
  rw [List.length_drop, h.len, Nat.sub_mul]; exact Nat.le_refl _

theorem r_appendS {e t : TypeId} {sz m k c bytes d km : Nat} {s x : Operand} {v : Value} {xs news : List Value} {A : Option Addr} {z : Value} {xs' : List Value} {L' : Option Addr → Nat → List Res} (i : Nat) (S : Slots a n E) (H : Sat w L) (ho : o.op = .call { callee := .builtin .append, args := #[s, x], argTypes := #[t, t] })
    (hs : ev E s = some v) (hx : ev E x = some (.slice A m c)) (hL : L[i]? = some (row e sz v k xs)) (El : Elem P t e sz bytes z) (ok : SlOk L sz A m c news) (h1 : ∀ u ∈ news, u.oneCell' = true) (h63 : k + m ≤ maxLen) (hbytes : (k + m) * bytes ≤ 140737488355328)
    (hxs : xs ++ news = xs') (hkm : k + m = km) (hL' : ∀ A' c', L.set i (row e sz (.slice A' km c') km xs') = L' A' c') (hd : o.dst = some d) (hn : Nat.blt d n = true) (hw : Wt ops E o = some true)
    (K : ∀ a' w' A' c', (A' = none → c' = 0) → Slots a' n ((d, .slice A' km c') :: E) → Sat w' (L' A' c') → wpList P ops Q rest a' w') : wpList P ops Q (o :: rest) a w :=
  r_append i S H ho hs hx hL El ok.len ok.rd h1 ok.nil h63 hbytes hxs hkm hd hn hw fun a' w' A' c' h S' H' => K a' w' A' c' h S' (hL' A' c' ▸ H')

/-- copy into a row, from place j on -/
theorem r_copy {dT sT e : TypeId} {x y : Operand} {g j dl dc len cap : Nat} {B : Option Addr} {sl sc d : Nat} {xs news : List Value} {L' : List Res} (i : Nat) (S : Slots a n E) (H : Sat w L) (ho : o.op = .call { callee := .builtin .copy, args := #[x, y], argTypes := #[dT, sT] })
    (hx : ev E x = some (.slice (some ⟨g, j, none⟩) dl dc)) (hy : ev E y = some (.slice B sl sc)) (ht : P.underlying dT = some (.slice e)) (hs : (P.info? e).map (·.size) = some 1) (ok : SlOk L 1 B sl sc news) (h1 : ∀ u ∈ news, u.oneCell' = true)
    (hL : L[i]? = some (row e 1 (.slice (some ⟨g, 0, none⟩) len cap) len xs)) (hfit : j + dl ≤ len) (hL' : L.set i (row e 1 (.slice (some ⟨g, 0, none⟩) len cap) len (xs.take j ++ news.take (min sl dl) ++ xs.drop (j + min sl dl))) = L') (hd : o.dst = some d) (hn : Nat.blt d n = true) (hw : Wt ops E o = some true)
    (K : ∀ a' w', Slots a' n ((d, .int .i64 ((min sl dl : Nat) : Int)) :: E) → Sat w' L' → wpList P ops Q rest a' w') : wpList P ops Q (o :: rest) a w := by
  subst hL'
  have hr0 := (H.fetch hL)
  obtain ⟨F, hF, hown, hFk⟩ := hr0.head
  have hlen := ok.len
  have hxl := hown.1
  have htl : (news.take (min sl dl)).length = min sl dl := by rw [List.length_take, hlen]; omega
  rcases hown.2 with ⟨h1', _⟩ | ⟨g', cap', cur, h1', _, hg, hnc, hcm, hcs, htake⟩
  · cases h1'
  · cases h1'
    have hsz : j + min sl dl ≤ cur.size := by simp only [Nat.mul_one] at hcs; omega
    have hrow : ∀ w', Hp w w' → w'.heap[g]? = some (.cells (cur.toList.take j ++ news.take (min sl dl) ++ cur.toList.drop (j + min sl dl)).toArray e (0, 0)) → (∀ k, g ≠ k → w'.heap[k]? = w.heap[k]?) →
        Sat w' (L.set i (row e 1 (.slice (some ⟨g, 0, none⟩) len cap) len (xs.take j ++ news.take (min sl dl) ++ xs.drop (j + min sl dl)))) := by
      intro w' hh hg' hk
      refine Sat.back (hr0.turn hh fun F hF hP => ⟨F, fun k hk => ⟨Nat.lt_of_lt_of_le (hF k hk) hh.size, .inl hk⟩, ⟨?_, hP.2⟩, fun k _ hnf => hk k fun e' => hnf ((hP.2 k).2 (by rw [← e']; rfl))⟩) (lt_of_at hL)
      have hxl' : xs.length = len := by simpa using hxl
      have hcs' : cur.size = cap := by simpa using hcs
      refine ⟨?_, .inr ⟨g, cap, _, rfl, Nat.zero_le _, hg', hnc, hcm, ?_, ?_⟩⟩
      · simp only [List.length_append, List.length_take, List.length_drop, hlen, hxl', Nat.mul_one] at htl ⊢; omega
      · simp only [List.size_toArray, List.length_append, List.length_take, List.length_drop, Array.length_toList, hlen, hcs', Nat.mul_one] at htl ⊢; omega
      · simp only [Nat.mul_one] at htake ⊢
        apply List.ext_getElem?
        intro q
        have hcx : ∀ q, q < len → cur.toList[q]? = xs[q]? := fun q hq => by
          have := congrArg (fun l : List Value => l[q]?) htake
          simp only [List.getElem?_take, if_pos hq] at this
          exact this
        by_cases hq : q < len
        · rw [List.getElem?_take, if_pos hq]
          have e1 : (min j cur.toList.length) = j := by simp; omega
          have e2 : (min j xs.length) = j := by omega
          simp only [List.append_assoc, List.getElem?_append, List.length_take, e1, e2, List.getElem?_take, List.getElem?_drop, hlen, Nat.mul_one]
          by_cases hqj : q < j
          · simp only [if_pos hqj]; exact hcx q hq
          · simp only [if_neg hqj]
            split
            · rfl
            · exact hcx _ (by omega)
        · rw [List.getElem?_take, if_neg hq, List.getElem?_eq_none]
          simp only [List.length_append, List.length_take, List.length_drop, hlen, hxl', Nat.mul_one] at htl ⊢; omega
    have hself : cur.toList.take j ++ ([] : List Value) ++ cur.toList.drop (j + 0) = cur.toList := by simp
    cases B with
    | none =>
      have hc0 := ok.nil rfl
      have hsl : sl = 0 := by have := ok.le; omega
      subst hsl; subst hc0
      refine r_val (w' := w) (v := .int .i64 ((min 0 dl : Nat) : Int)) S ?_ hd hn hw fun a' S' => K a' w S' (hrow w (Hp.refl w) (by simpa using hg) fun _ _ => rfl)
      have hr := run_copy_nil P w dT sT o.type e ⟨g, j, none⟩ dl dc ht (by cases hq : P.info? e with | none => simp [hq] at hs | some i => rfl)
      unfold execOp
      simp only [ho, resolve, invoke, builtin, Sem.run_bind, Sem.run_pure, Result.andThen_ok, List.map_toArray, List.map_cons, List.map_nil, S.eval hx, S.eval hy, hr]
      simp [goInt]
    | some ad =>
      have hr := run_copy_row P w dT sT o.type e g j dl dc ad sl sc cur e (news.take (min sl dl)) ht hs hg (by rw [htl]) (fun q v hq => by
        have hq' : news[q]? = some v := by
          rw [List.getElem?_take] at hq
          split at hq
          · exact hq
          · cases hq
        obtain ⟨b, o', e', hc⟩ := ok.rd w H q v hq'
        cases e'
        rw [add_lit]; exact hc) (by rw [htl]; exact hsz) (fun v hv => h1 v (List.mem_of_mem_take hv))
      rw [htl] at hr
      refine r_val (v := .int .i64 ((min sl dl : Nat) : Int)) S ?_ hd hn hw fun a' S' => K a' (w.setRow g (cur.toList.take j ++ news.take (min sl dl) ++ cur.toList.drop (j + min sl dl)).toArray) S'
        (hrow _ ⟨rfl, rfl, rfl, by simp⟩ (setRow_heap w g cur _ e _ hg) fun k hk => setRow_other w g k _ (Ne.symm hk))
      unfold execOp
      simp only [ho, resolve, invoke, builtin, Sem.run_bind, Sem.run_pure, Result.andThen_ok, List.map_toArray, List.map_cons, List.map_nil, S.eval hx, S.eval hy, hr]
      simp [goInt]
end

/-! ### views, joined, made, cut -/
@[simp] theorem u64s_nil : u64s [] = [] := rfl
@[simp] theorem bools_nil : bools [] = [] := rfl
@[simp] theorem ints_nil : ints [] = [] := rfl
@[simp] theorem ecells_nil : ecells [] = [] := rfl
theorem bools_take (l : List Bool) (k : Nat) : (bools l).take (k * 1) = bools (l.take k) := by simp [bools, List.map_take]
theorem bools_drop (l : List Bool) (k : Nat) : (bools l).drop (k * 1) = bools (l.drop k) := by simp [bools, List.map_drop]
/-- the first k are told by f, the others as they were -/
def fill {α : Type} (f : Nat → α) (l : List α) (k : Nat) : List α := (List.range k).map f ++ l.drop k
section
variable {α : Type} {f : Nat → α} {l : List α} {k : Nat}
end

section
variable {P : Program} {a : Act} {o : Oper} {L : List Res} {n : Nat} {E : List (Nat × Value)}
end
/-- a slot's value in other words -/
theorem Slots.retell {a : Act} {n : Nat} {E : List (Nat × Value)} {v v' : Value} (S : Slots a n E) (d : Nat) (h : lk E d = some v) (e : v = v') : Slots a n ((d, v') :: E) := S.told h v' e
theorem int_eq {k : IntKind} {a b : Int} (h : a = b) : Value.int k a = Value.int k b := by rw [h]

section
variable {P : Program} {ops : Array Oper} {Q : Exit → Act → World → Prop} {a : Act} {w : World} {rest : List Oper} {o : Oper} {L : List Res} {n : Nat} {E : List (Nat × Value)}
theorem r_setRowV {ty e : TypeId} {ad x : Operand} {g j sz len cap : Nat} {v : Value} {xs xs' : List Value} {L' : List Res} (i : Nat) (S : Slots a n E) (H : Sat w L) (ho : o.op = .store ty ad x) (ha : ev E ad = some (.pointer (some ⟨g, j, none⟩))) (hx : ev E x = some v)
    (hL : L[i]? = some (row e sz (.slice (some ⟨g, 0, none⟩) len cap) len xs)) (hs : SizeOf P ty 1) (hvs : v.cells = #[v]) (h1 : v.oneCell' = true) (hj : j < len * sz) (hset : xs.set j v = xs') (hL' : L.set i (row e sz (.slice (some ⟨g, 0, none⟩) len cap) len xs') = L') (hd : o.dst = none) (hw : Wt ops E o = some true)
    (K : ∀ w', Sat w' L' → wpList P ops Q rest a w') : wpList P ops Q (o :: rest) a w := by
  subst hset
  exact r_setRow i S H ho ha hx hL hs hvs h1 hj hL' hd hw K
end

theorem Sat.rowAt {w : World} {L : List Res} {e sz n c : Nat} {A : Option Addr} {xs : List Value} (H : Sat w L) {i : Nat} (hL : L[i]? = some (row e sz (.slice A n c) n xs)) (h : 0 < n) : ∃ b, A = some ⟨b, 0, none⟩ := by
  obtain ⟨F, _, hown, _⟩ := (H.fetch hL).head
  rcases hown.2 with ⟨h1, h2⟩ | ⟨g, cap, cur, h1, _⟩
  · omega
  · cases h1; exact ⟨g, rfl⟩
end Go.Cg

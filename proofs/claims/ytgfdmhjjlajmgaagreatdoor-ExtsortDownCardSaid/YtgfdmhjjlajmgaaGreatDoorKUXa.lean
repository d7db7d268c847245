/- Plain laws of a sort on a disk: it fails and leaves nothing, or the file is there. No condition. -/
import Derived.Test.YtgfdmhjjlajmgaaGreatDoorKUXg
namespace Go.Cg.Xs
set_option linter.unusedVariables false
set_option linter.unusedSimpArgs false
open Go.Cg.Dk Go.Cg.Oc Go.Cg.Sn Go.Cg.Cl
open Go.Cg.Rn hiding HeapOk MInv NextP UpEx DnEx lst

theorem flat_bd {how : Int} : ∀ {P : Pt}, (∀ p ∈ P, Row how p.2) → Bd (flat P)
  | [], _ => fun z hz => by cases hz
  | p :: P, h => by rw [flat_cons]; exact (h p List.mem_cons_self).bd.app (flat_bd fun q hq => h q (List.mem_cons_of_mem _ hq))
theorem chunk_map {α β : Type} (g : α → β) (f : Nat) : ∀ (k : Nat) (l : List α), l.length ≤ k → chunk f (l.map g) = (chunk f l).map (List.map g)
  | 0, l, h => by
    have h0 : l = [] := List.eq_nil_of_length_eq_zero (by omega)
    rw [h0, chunk_nil rfl, List.map_nil, chunk_nil rfl, List.map_nil]
  | k + 1, l, h => by
    by_cases h0 : l = []
    · rw [h0, chunk_nil rfl, List.map_nil, chunk_nil rfl, List.map_nil]
    by_cases hf : f = 0
    · rw [chunk, dif_pos (.inr hf), chunk, dif_pos (.inr hf), List.map_nil]
    have hp := List.length_pos_iff.2 h0
    rw [chunk_cons h0 (by omega), chunk_cons (by simpa using h0) (by omega), List.map_cons, ← List.map_take, ← List.map_drop, chunk_map g f k _ (by simp; omega)]
theorem chunk_flat {α : Type} {f : Nat} (hf : 0 < f) : ∀ (k : Nat) (l : List α), l.length ≤ k → (chunk f l).flatten = l
  | 0, l, h => by rw [List.eq_nil_of_length_eq_zero (show l.length = 0 by omega), chunk_nil rfl, List.flatten_nil]
  | k + 1, l, h => by
    by_cases h0 : l = []
    · rw [h0, chunk_nil rfl, List.flatten_nil]
    have hp := List.length_pos_iff.2 h0
    rw [chunk_cons h0 hf, List.flatten_cons, chunk_flat hf k _ (by simp; omega), List.take_append_drop]
section
variable {d : Disk} (hu : d.down = false) {fs0 : Fs} {temp out : Nm} {K : Nat} (T : Tmp fs0 temp out K) {how : Int} (N e : Nat)
include hu T
theorem pass_go : ∀ (Qs : List Pt) (Nx : Pt) (nx : Nat) (made : List Nm) (o : Int) (a : Nat) (fs : Fs),
    Inv fs0 temp how nx made (Qs.flatten ++ Nx) fs → nx + Qs.length ≤ K → (flat (Qs.flatten ++ Nx)).length ≤ N →
    Fails d a fs0 out temp N e (pass how temp (Qs.map (List.map (·.1))) (Nx.map (·.1)) (nx, made) (dk d o a fs)).2.1.2 ((pass how temp (Qs.map (List.map (·.1))) (Nx.map (·.1)) (nx, made) (dk d o a fs)).1, (pass how temp (Qs.map (List.map (·.1))) (Nx.map (·.1)) (nx, made) (dk d o a fs)).2.2.2) ∨
    ∃ o' a' fs' made' Nx', pass how temp (Qs.map (List.map (·.1))) (Nx.map (·.1)) (nx, made) (dk d o a fs) = (dk d o' a' fs', (nx + Qs.length, made'), Nx'.map (·.1), 0) ∧ (a = 0 → a' = 0) ∧ Inv fs0 temp how (nx + Qs.length) made' Nx' fs' ∧ Eqv how (flat Nx') (flat (Qs.flatten ++ Nx)) ∧ (flat Nx').length ≤ (flat (Qs.flatten ++ Nx)).length ∧ Nx'.length = Nx.length + Qs.length
  | [], Nx, nx, made, o, a, fs, hI, _, _ => .inr ⟨o, a, fs, made, Nx, rfl, id, by simpa using hI, by simpa using Eqv.self, by simp, by simp⟩
  | Q :: Qs, Nx, nx, made, o, a, fs, hI, hK, hN => by
    have hs : Inv fs0 temp how nx made (Q ++ (Qs.flatten ++ Nx)) fs := by simpa [List.flatten_cons, List.append_assoc] using hI
    have hsl : (flat Q).length + (flat (Qs.flatten ++ Nx)).length ≤ N := by
      rw [List.flatten_cons, List.append_assoc, flat_app, List.length_append] at hN; exact hN
    have hQ : ∀ p ∈ Q, Row how p.2 := fun p hp => hs.row p (List.mem_append_left _ hp)
    have hU := hs.room T
    rw [flat_app, List.length_append] at hU
    have h4 := secN_le (flat Q).length
    simp only [List.length_cons] at hK
    have hm := merge_go hu o a hs.ris how (T.ok (nx + 1) (by omega)) (hs.vac T) (Q.map (·.1)) (Q.map (·.2)) (by simp) (fun j hj => by
      rw [List.length_map] at hj
      have hq : Q[j] ∈ Q := List.getElem_mem hj
      refine ⟨⟨FB Q[j].2, FB Q[j].2⟩, ?_, ?_, ?_, ?_⟩
      · rw [List.getD_eq_getElem?_getD, List.getElem?_map, List.getElem?_eq_getElem hj]
        exact hs.get _ (List.mem_append_left _ hq)
      · rw [List.getD_eq_getElem?_getD, List.getElem?_map, List.getElem?_eq_getElem hj]; rfl
      · rw [List.getD_eq_getElem?_getD, List.getElem?_map, List.getElem?_eq_getElem hj]; exact (hQ _ hq).bd
      · rw [List.getD_eq_getElem?_getD, List.getElem?_map, List.getElem?_eq_getElem hj]; exact (hQ _ hq).up)
    rw [show (Q.map (·.2)).flatten = flat Q from rfl] at hm
    have hmd : ∀ m ∈ made ++ [tname temp (nx + 1)], ∃ k, m = tname temp k := fun m hm => by
      rcases List.mem_append.1 hm with hm | hm
      · obtain ⟨k, _, c⟩ := hs.nm m hm; exact ⟨k, c⟩
      · exact ⟨_, List.mem_singleton.1 hm⟩
    rw [List.map_cons]
    rcases hm with ⟨k1, o', f', k2, k3⟩ | ⟨o', a', f', k2, k3, k4, k5, k6, k7, k8⟩ | ⟨o', a', f', k2, k3, k4, k5, k6, k7⟩
    · left
      have hb := pass_b1 (how := how) (temp := temp) (p := Q.map (·.1)) (ps := Qs.map (List.map (·.1))) (nx := Nx.map (·.1)) (tm := (nx, made)) (d := dk d o a fs) (by simp only; rw [k2]; simp)
      rw [hb]; simp only; rw [k2]
      exact .inl ⟨⟨k1, o', f', rfl, by have := part_used k3 hs.ris (hs.vac T) (hs.fine T) d.keep; omega, fun m _ hm => by rw [k3.off m (hm _), hs.away hm]⟩, rfl⟩
    · left
      have hb := pass_b1 (how := how) (temp := temp) (p := Q.map (·.1)) (ps := Qs.map (List.map (·.1))) (nx := Nx.map (·.1)) (tm := (nx, made)) (d := dk d o a fs) (by simp only; rw [k2]; simp)
      rw [hb]; simp only; rw [k2]
      refine .inr ⟨o', a', f', rfl, .inr ⟨rfl, by omega⟩, k3, k4, hmd, fun m hm _ => ?_⟩
      simp only [List.mem_append, List.mem_singleton, not_or] at hm
      rw [k6 m hm.2, hs.in_made hm.1]
    · have hA := hs.add (Row.of (how := how) (flat_bd hQ)) k4 k5
      rw [List.append_assoc] at hA
      have hfl := fold_len how (sort (flat Q))
      rw [len_sort] at hfl
      rcases gones_go hu (Q.map (·.1)) (made ++ [tname temp (nx + 1)]) o' a' f' k4 with ⟨g1, o2, f2, md, g2, g3, g7, g8, g9⟩ | ⟨o2, a2, f2, md, g2, g3, g4, g5, g6⟩
      · left
        have hb := pass_b2 (how := how) (temp := temp) (p := Q.map (·.1)) (ps := Qs.map (List.map (·.1))) (nx := Nx.map (·.1)) (tm := (nx, made)) (d := dk d o a fs) (by simp only; rw [k2]) (by simp only; rw [k2]; simp only; rw [g2]; simp)
        rw [hb]; simp only; rw [k2]; simp only; rw [g2]
        refine .inl ⟨⟨by omega, o2, f2, rfl, by have := used_torn d.keep (fun p hp => hA.fine T _ _ (g9 _ _ (fget_of_mem g7 hp))); have := secN_le (fold how (sort (flat Q))).length; omega, fun m _ hm => ?_⟩, rfl⟩
        rw [g3 m (fun c => by
          obtain ⟨p, hp, rfl⟩ := List.mem_map.1 c
          obtain ⟨k, _, c⟩ := hs.nm _ (hs.mem p (List.mem_append_left _ hp))
          exact hm k c), k5, if_neg (hm _), hs.away hm]
      · have hb := pass_one (how := how) (temp := temp) (p := Q.map (·.1)) (ps := Qs.map (List.map (·.1))) (nx := Nx.map (·.1)) (tm := (nx, made)) (d := dk d o a fs) (by simp only; rw [k2]) (by simp only; rw [k2]; simp only; rw [g2])
        rw [hb]; simp only; rw [k2]; simp only; rw [g2]; simp only
        have hD := hA.del T g4 g6 g5
        rw [List.append_assoc] at hD
        have hlen : (flat (Qs.flatten ++ (Nx ++ [(tname temp (nx + 1), fold how (sort (flat Q)))]))).length ≤ (flat Q).length + (flat (Qs.flatten ++ Nx)).length := by
          rw [flat_app, flat_app, flat_one, flat_app]; simp; omega
        have ih := pass_go Qs (Nx ++ [(tname temp (nx + 1), fold how (sort (flat Q)))]) (nx + 1) md o2 a2 f2 hD (by omega) (by omega)
        rw [show (Nx ++ [(tname temp (nx + 1), fold how (sort (flat Q)))]).map (·.1) = Nx.map (·.1) ++ [tname temp (nx + 1)] from by simp] at ih
        rcases ih with h | ⟨o3, a3, f3, m3, P3, q1, q2, q3, q4, q5, q6⟩
        · exact .inl (h.step fun c => g3 (k3 c))
        · right
          rw [show nx + 1 + Qs.length = nx + (Q :: Qs).length from by simp; omega] at q1 q3
          refine ⟨o3, a3, f3, m3, P3, q1, fun c => q2 (g3 (k3 c)), q3, q4.trans ?_, ?_, by simp at q6 ⊢; omega⟩
          · rw [List.flatten_cons, List.append_assoc, flat_app Q, ← List.append_assoc, flat_app (Qs.flatten ++ Nx), flat_one]
            exact (Eqv.perm List.perm_append_comm).trans ((Eqv.folded how _).app Eqv.self)
          · rw [List.flatten_cons, List.append_assoc, flat_app Q, List.length_append]; omega
theorem levels_all {fan : Nat} (hf : 2 ≤ fan) : ∀ (k : Nat) (P : Pt) (nx : Nat) (made : List Nm) (o : Int) (a : Nat) (fs : Fs),
    P.length ≤ k → Inv fs0 temp how nx made P fs → nx + 2 * P.length ≤ K → (flat P).length ≤ N →
    Fails d a fs0 out temp N e (levels how temp fan k (P.map (·.1)) (nx, made) (dk d o a fs)).2.1.2 ((levels how temp fan k (P.map (·.1)) (nx, made) (dk d o a fs)).1, (levels how temp fan k (P.map (·.1)) (nx, made) (dk d o a fs)).2.2.2) ∨
    ∃ o' a' fs' nx' made' P', levels how temp fan k (P.map (·.1)) (nx, made) (dk d o a fs) = (dk d o' a' fs', (nx', made'), P'.map (·.1), 0) ∧ (a = 0 → a' = 0) ∧ Inv fs0 temp how nx' made' P' fs' ∧ Eqv how (flat P') (flat P) ∧ P'.length ≤ 1 ∧ (flat P').length ≤ N := by
  intro k
  induction k with
  | zero =>
    intro P nx made o a fs hk hI _ hN
    exact .inr ⟨o, a, fs, nx, made, P, rfl, id, hI, Eqv.self, by omega, by omega⟩
  | succ k ih =>
    intro P nx made o a fs hk hI hK hN
    by_cases hl : P.length ≤ 1
    · rw [levels_end (by simpa using hl)]
      exact .inr ⟨o, a, fs, nx, made, P, rfl, id, hI, Eqv.self, hl, hN⟩
    obtain ⟨c1, c2, c3⟩ := chunk_few hf (l := P) (by omega)
    have hcf := chunk_flat (f := fan) (by omega) _ P (Nat.le_refl _)
    have hcm := chunk_map (Prod.fst : Nm × List R → Nm) fan _ P (Nat.le_refl _)
    have hp := pass_go hu T (how := how) N e (chunk fan P) [] nx made o a fs (by rw [hcf, List.append_nil]; exact hI) (by omega) (by rw [hcf, List.append_nil]; exact hN)
    rw [hcf, List.append_nil, List.map_nil, ← hcm] at hp
    rcases hp with h | ⟨o2, a2, f2, m2, P2, q1, q2, q3, q4, q5, q6⟩
    · left
      rw [levels_bad (by simpa using hl) h.ne]
      exact h
    · rw [levels_go (by simpa using hl) (by rw [q1]), q1]
      simp only [List.length_nil, Nat.zero_add] at q6
      rcases ih P2 (nx + (chunk fan P).length) m2 o2 a2 f2 (by omega) q3 (by omega) (by omega) with h | ⟨o3, a3, f3, n3, m3, P3, r1, r2, r3, r4, r5, r6⟩
      · exact .inl (h.step q2)
      · exact .inr ⟨o3, a3, f3, n3, m3, P3, r1, fun c => r2 (q2 c), r3, r4.trans q4, r5, r6⟩
theorem ends_go {nx : Nat} {made : List Nm} {P : Pt} {r : List R} (p : Nat) (hp : r = [] → p = 0) (o : Int) (a : Nat) {fs : Fs} (h : Inv fs0 temp how nx made P fs) (hl : P.length ≤ 1) (hN : (flat P).length ≤ N) (hE : Eqv how (flat P) r) :
    Fails d a fs0 out temp N e (ends out (P.map (·.1)) p (nx, made) (dk d o a fs)).2.1.2 ((ends out (P.map (·.1)) p (nx, made) (dk d o a fs)).1, (ends out (P.map (·.1)) p (nx, made) (dk d o a fs)).2.2.2) ∨
    ∃ o' a' fs', (ends out (P.map (·.1)) p (nx, made) (dk d o a fs)).1 = dk d o' a' fs' ∧ (ends out (P.map (·.1)) p (nx, made) (dk d o a fs)).2.2 = (p, 0) ∧ (a = 0 → a' = 0) ∧ fs' = Dk.fput fs0 out ⟨FB (fold how (sort r)), FB (fold how (sort r))⟩ := by
  have hmd : ∀ m ∈ made, ∃ k, m = tname temp k := fun m hm => by obtain ⟨k, _, c⟩ := h.nm m hm; exact ⟨k, c⟩
  match P, h, hl, hN, hE with
  | [], h, _, hN, hE =>
    have hr : r = [] := Eqv.nil (by simpa using hE)
    have ho : fget fs out = none := by rw [h.off out (by simp)]; exact T.ou
    have hU := h.room T
    simp only [flat_nil, List.length_nil, Nat.mul_zero, Nat.add_zero] at hU
    rw [hp hr]
    show Fails d a fs0 out temp N e made ((write out [] (dk d o a fs)).1, (write out [] (dk d o a fs)).2) ∨ ∃ o' a' fs', (write out [] (dk d o a fs)).1 = dk d o' a' fs' ∧ (0, (write out [] (dk d o a fs)).2) = (0, 0) ∧ (a = 0 → a' = 0) ∧ fs' = Dk.fput fs0 out ⟨FB (fold how (sort r)), FB (fold how (sort r))⟩
    rcases write_all hu o a h.ris T.mo ho [] with ⟨k1, o', f', k2, k3⟩ | ⟨o', a', f', k2, k3, k4, k5, k6, k7, k8⟩ | ⟨o', a', f', k2, k3, k4, k5, k6, k7⟩
    · left; rw [k2]
      exact .inl ⟨⟨k1, o', f', rfl, by have := part_used k3 h.ris ho (h.fine T) d.keep; have : sectors (FB []).length = 0 := (by rw [sec_FBn]; rfl); omega, fun m hm hk => by rw [k3.off m hm, h.away hk]⟩, rfl⟩
    · left; rw [k2]
      have h0 : sectors (FB []).length = 0 := by rw [sec_FBn]; rfl
      exact .inr ⟨o', a', f', rfl, .inr ⟨rfl, by omega⟩, k3, k4, hmd, fun m hm ho => by rw [k6 m ho, h.in_made hm]⟩
    · right; rw [k2]
      refine ⟨o', a', f', rfl, rfl, k3, files_ext k4 (rising_fput T.ris _ _) fun m => ?_⟩
      rw [k5, fget_fput, hr]
      split
      · rfl
      · exact h.off m (by simp)
  | [(n, L)], h, _, hN, hE =>
    have hL : L = fold how (sort r) := by
      have hx : Eqv how L r := by rw [flat_one] at hE; exact hE
      rw [← hx.same]; exact (h.row _ (List.mem_singleton.2 rfl)).fx.symm
    have hg := h.get _ (List.mem_singleton.2 rfl)
    obtain ⟨j, _, hj⟩ := h.nm _ (h.mem _ (List.mem_singleton.2 rfl))
    simp only at hg hj
    have hne : n ≠ out := fun c => T.ne j (hj ▸ c)
    show Fails d a fs0 out temp N e (if ((dk d o a fs).rename n out).2 ≠ 0 then (((dk d o a fs).rename n out).1, (nx, made), 0, ((dk d o a fs).rename n out).2) else (((dk d o a fs).rename n out).1, (nx, []), p, 0)).2.1.2 ((if ((dk d o a fs).rename n out).2 ≠ 0 then (((dk d o a fs).rename n out).1, ((nx, made) : Tm), 0, ((dk d o a fs).rename n out).2) else (((dk d o a fs).rename n out).1, (nx, []), p, 0)).1, (if ((dk d o a fs).rename n out).2 ≠ 0 then (((dk d o a fs).rename n out).1, ((nx, made) : Tm), 0, ((dk d o a fs).rename n out).2) else (((dk d o a fs).rename n out).1, (nx, []), p, 0)).2.2.2) ∨ ∃ o' a' fs', (if ((dk d o a fs).rename n out).2 ≠ 0 then (((dk d o a fs).rename n out).1, ((nx, made) : Tm), 0, ((dk d o a fs).rename n out).2) else (((dk d o a fs).rename n out).1, (nx, []), p, 0)).1 = dk d o' a' fs' ∧ (if ((dk d o a fs).rename n out).2 ≠ 0 then (((dk d o a fs).rename n out).1, ((nx, made) : Tm), 0, ((dk d o a fs).rename n out).2) else (((dk d o a fs).rename n out).1, (nx, []), p, 0)).2.2 = (p, 0) ∧ (a = 0 → a' = 0) ∧ fs' = Dk.fput fs0 out ⟨FB (fold how (sort r)), FB (fold how (sort r))⟩
    by_cases a1 : a = 1
    · subst a1; left
      rw [rename_fall hu, if_pos (by simp)]
      exact .inl ⟨⟨Nat.le_refl _, _, fs, rfl, by have := used_torn d.keep (h.all T); have := h.room T; omega, fun m _ hm => h.away hm⟩, rfl⟩
    · right
      rw [rename_up hu o a fs a1 hg T.mo hne, if_neg (by simp)]
      refine ⟨_, _, _, rfl, rfl, fun c => by omega, files_ext (rising_fput (rising_fdel h.ris _) _ _) (rising_fput T.ris _ _) fun m => ?_⟩
      rw [fget_fput, fget_fput, hL]
      split
      · rfl
      · rw [fget_fdel]
        by_cases em : m = n
        · rw [if_pos em, em, hj]; exact (T.no j).symm
        · rw [if_neg em]; exact h.off m (by simpa using em)
theorem all_go {nin : Nm} {f : Fl} (hf : fget fs0 nin = some f) {r : List R} (hr : Rds f.now (0, [], false) r e) (hb : Bd r) (hK : 3 * r.length ≤ K) (hN : r.length ≤ N) (budget : Nat) {fan : Nat} (hfan : 2 ≤ fan) (o : Int) (a : Nat) :
    Fails d a fs0 out temp N e (all nin f.now.length out temp how budget fan (dk d o a fs0)).2.1.2 ((all nin f.now.length out temp how budget fan (dk d o a fs0)).1, (all nin f.now.length out temp how budget fan (dk d o a fs0)).2.2.2) ∨
    (e = 0 ∧ ∃ o' a' fs', (all nin f.now.length out temp how budget fan (dk d o a fs0)).1 = dk d o' a' fs' ∧ (all nin f.now.length out temp how budget fan (dk d o a fs0)).2.2 = (passes r.length budget fan, 0) ∧ (a = 0 → a' = 0) ∧ fs' = Dk.fput fs0 out ⟨FB (fold how (sort r)), FB (fold how (sort r))⟩) := by
  have hI : Inv fs0 temp how 0 [] [] fs0 := ⟨T.ris, by simp, fun n hn => (nomatch hn), fun n hn => (nomatch hn), fun n hn => (nomatch hn), fun m _ => rfl, fun n hn => (nomatch hn)⟩
  obtain ⟨d1, tm1, nm1, n1, e1, hcut⟩ : ∃ d1 tm1 nm1 n1 e1, cut nin f.now.length temp how budget (rleft f.now.length (0, [], false) + 1) (0, [], false) [] [] 0 (0, []) (dk d o a fs0) = (d1, tm1, nm1, n1, e1) := ⟨_, _, _, _, _, rfl⟩
  have hc := cut_go hu T (how := how) N e hf budget (rleft f.now.length (0, [], false) + 1) (0, [], false) r [] [] 0 0 [] o a fs0 hr (by have := rds_len r _ (RsOk.start _) hr; omega) (fun z hz => by cases hz) hb hI (by simp; omega) (by simp; omega)
  rw [List.map_nil, hcut] at hc
  rcases hc with h | ⟨he, o2, a2, f2, nx2, m2, P2, q1, q2, q3, q4, q5, q6, q7⟩
  · left
    rw [all_b1 hcut h.ne]
    exact h
  · simp only [Prod.mk.injEq] at q1
    obtain ⟨rfl, rfl, rfl, rfl, rfl⟩ := q1
    simp only [flat_nil, List.nil_append, List.length_nil, Nat.zero_add] at q4 q5 q6 q7 hcut
    obtain ⟨d3, tm3, nm3, e3, hlv⟩ : ∃ d3 tm3 nm3 e3, levels how temp fan (P2.map (·.1)).length (P2.map (·.1)) (nx2, m2) (dk d o2 a2 f2) = (d3, tm3, nm3, e3) := ⟨_, _, _, _, rfl⟩
    have hl := levels_all hu T (how := how) N e hfan (P2.map (·.1)).length P2 nx2 m2 o2 a2 f2 (by simp) q3 (by omega) (by omega)
    rw [hlv] at hl
    rcases hl with h | ⟨o3, a3, f3, nx3, m3, P3, r1, r2, r3, r4, r5, r6⟩
    · left
      rw [all_b2 hcut rfl hlv h.ne]
      exact h.step q2
    · simp only [Prod.mk.injEq] at r1
      obtain ⟨rfl, rfl, rfl, rfl⟩ := r1
      rw [all_g hcut rfl hlv rfl]
      rcases ends_go hu T N e (passes r.length budget fan) (fun c => by rw [c]; unfold passes; exact if_pos (.inl (by decide))) o3 a3 r3 r5 r6 (r4.trans q4) with h | ⟨o4, a4, f4, s1, s2, s3, s4⟩
      · exact .inl (h.step fun c => r2 (q2 c))
      · exact .inr ⟨he, o4, a4, f4, s1, s2, fun c => s3 (r2 (q2 c)), s4⟩
omit T in
theorem size_fall {n : Nm} (o : Int) (fs : Fs) : (dk d o 1 fs).size n = (dn d (nx o) (tornAll fs d.keep), 0, 7) := by unfold Disk.size; simp only; rw [mk_fall hu, if_pos dn_down]
/-- a sort: the disk falls; it fails, and all is as it was; the file is there -/
theorem sort_go {nin : Nm} {f : Fl} (hf : fget fs0 nin = some f) {r : List R} (hr : Rds f.now (0, [], false) r e) (hb : Bd r) (hK : 3 * r.length ≤ K) {b fan : Int} (hb1 : 1 ≤ b) (hfan : 2 ≤ fan) (hh : 0 ≤ how ∧ how ≤ 2) (o : Int) (a : Nat) :
    (Fall d a fs0 out temp r.length (sortD nin out temp b fan how (dk d o a fs0)).1 ∧ (sortD nin out temp b fan how (dk d o a fs0)).2 = (0, 7)) ∨
    (1 ≤ a ∧ (sortD nin out temp b fan how (dk d o a fs0)).1.down = true ∧ (sortD nin out temp b fan how (dk d o a fs0)).2.1 = 0 ∧ Bad d fs0 r.length e (sortD nin out temp b fan how (dk d o a fs0)).2.2) ∨
    (∃ o' a', (sortD nin out temp b fan how (dk d o a fs0)).1 = dk d o' a' fs0 ∧ (a = 0 → a' = 0) ∧ (sortD nin out temp b fan how (dk d o a fs0)).2.1 = 0 ∧ Bad d fs0 r.length e (sortD nin out temp b fan how (dk d o a fs0)).2.2) ∨
    (e = 0 ∧ ∃ o' a', sortD nin out temp b fan how (dk d o a fs0) = (dk d o' a' (Dk.fput fs0 out ⟨FB (fold how (sort r)), FB (fold how (sort r))⟩), passes r.length b fan, 0) ∧ (a = 0 → a' = 0)) := by
  have hneg : ¬ (b < 1 ∨ fan < 2 ∨ how < 0 ∨ 2 < how) := by omega
  rw [sortD, if_neg hneg]
  have hsyn : ∀ p ∈ fs0, p.2.syn.length ≤ p.2.now.length := fun p hp => T.fine _ _ (fget_of_mem T.ris hp)
  by_cases a1 : a = 1
  · subst a1; left
    rw [size_fall hu, if_pos (by simp)]
    exact ⟨⟨Nat.le_refl _, _, fs0, rfl, by have := used_torn d.keep hsyn; omega, fun _ _ _ => rfl⟩, rfl⟩
  rw [size_up hu o a fs0 a1 hf, if_neg (by simp)]
  simp only
  by_cases a2 : a - 1 = 1
  · left
    rw [a2, create_fall hu, if_pos (by simp)]
    exact ⟨⟨by omega, _, fs0, rfl, by have := used_torn d.keep hsyn; omega, fun _ _ _ => rfl⟩, rfl⟩
  rw [create_up hu _ _ fs0 a2 T.mo T.ou, if_neg (by simp)]
  simp only
  by_cases a3 : a - 1 - 1 = 1
  · left
    rw [a3, remove_fall hu, if_pos (by simp)]
    refine ⟨⟨by omega, _, _, rfl, by have := part_used (n := out) (c := 0) (fs := fs0) (fs' := Dk.fput fs0 out ⟨[], []⟩) ⟨fun m hm => by rw [fget_fput, if_neg hm], rising_fput T.ris _ _, fun f hf => by rw [fget_fput, if_pos rfl] at hf; cases hf; exact ⟨rfl, Nat.le_refl 0⟩⟩ T.ris T.ou T.fine d.keep; omega, fun m hm _ => ?_⟩, rfl⟩
    rw [fget_fput, if_neg hm]
  rw [remove_up hu _ _ _ a3 (f := ⟨[], []⟩) (by rw [fget_fput, if_pos rfl]), if_neg (by simp)]
  simp only
  rw [show fdel (Dk.fput fs0 out ⟨[], []⟩) out = fs0 from files_ext (rising_fdel (rising_fput T.ris _ _) _) T.ris (fun m => by
    rw [fget_fdel, fget_fput]
    by_cases em : m = out
    · rw [if_pos em, em]; exact T.ou.symm
    · rw [if_neg em, if_neg em])]
  have hbn : ((b.toNat : Nat) : Int) = b := by omega
  have hfn : ((fan.toNat : Nat) : Int) = fan := by omega
  have hA := all_go hu T (how := how) r.length e hf hr hb hK (Nat.le_refl _) b.toNat (fan := fan.toNat) (by omega) (nx (nx (nx o))) (a - 1 - 1 - 1)
  rw [hbn, hfn] at hA
  obtain ⟨d1, tm1, p1, e1, hall⟩ : ∃ d1 tm1 p1 e1, all nin f.now.length out temp how b.toNat fan.toNat (dk d (nx (nx (nx o))) (a - 1 - 1 - 1) fs0) = (d1, tm1, p1, e1) := ⟨_, _, _, _, rfl⟩
  rw [hall] at hA ⊢
  rcases hA with h | ⟨he, o4, a4, f4, s1, s2, s3, s4⟩
  · have h := h.step (a := a) (by omega)
    rw [if_pos h.ne]
    rcases h with ⟨⟨h1, o', f', h2, h3⟩, h4⟩ | ⟨o', a', f', h1, h2, h3, h4, h5, h6⟩
    · left
      simp only at h2 h4 ⊢
      obtain ⟨o2, g⟩ := gones_dn (d := d) o' (tornAll f' d.keep) (tm1.2 ++ [out]) tm1.2
      rw [h2, g]
      rw [h4]; exact ⟨⟨h1, o2, f', rfl, h3⟩, rfl⟩
    · simp only at h1 h2 h5 h6 ⊢
      rw [h1]
      rcases gones_go hu (tm1.2 ++ [out]) tm1.2 o' a' f' h4 with ⟨g1, o2, f2, md, g2, _⟩ | ⟨o2, a2, f2, md, g2, g3, g4, g5, g6⟩
      · right; left
        rw [g2]
        exact ⟨by omega, rfl, by trivial, h2⟩
      · right; right; left
        rw [g2]
        refine ⟨o2, a2, ?_, fun c => g3 (h3 c), by trivial, h2⟩
        rw [show f2 = fs0 from files_ext g4 T.ris fun m => ?_]
        rw [g6]
        by_cases em : m ∈ tm1.2 ++ [out]
        · rw [if_pos em]
          rcases List.mem_append.1 em with em | em
          · obtain ⟨k, c⟩ := h5 m em; rw [c]; exact (T.no k).symm
          · rw [List.mem_singleton.1 em]; exact T.ou.symm
        · rw [if_neg em]
          simp only [List.mem_append, List.mem_singleton, not_or] at em
          exact h6 m em.1 em.2
  · right; right; right
    simp only [Prod.mk.injEq] at s1 s2
    obtain ⟨s2, s2'⟩ := s2
    rw [s2', if_neg (by simp), s1, s2, s4]
    exact ⟨he, o4, a4, rfl, fun c => s3 (by omega)⟩
end
end Go.Cg.Xs

/- The plain model of octets, blocks, manifests and states of steps: bytes and numbers alone. No condition. -/
import Derived.Test.YtgfdmhjjlajmgaaGreatDoorDk
import Derived.Test.YtgfdmhjjlajmgaaGreatDoorTr
namespace Go.Cg.Oc
set_option linter.unusedVariables false
set_option linter.unusedSimpArgs false
open Go.Cg.Dk (By)

/-! ### octets -/
def le : Nat → Nat → By
  | 0, _ => []
  | k + 1, n => UInt8.ofNat (n % 256) :: le k (n / 256)
def unle : By → Nat
  | [] => 0
  | x :: r => x.toNat + 256 * unle r
theorem le_len : ∀ k n, (le k n).length = k
  | 0, _ => rfl
  | k + 1, n => by simp [le, le_len k]
theorem unle_lt : ∀ b : By, unle b < 256 ^ b.length
  | [] => by decide
  | x :: r => by
    have := unle_lt r
    have hx := x.toNat_lt
    simp only [unle, List.length_cons, Nat.pow_succ]
    omega
theorem unle_le : ∀ k n, unle (le k n) = n % 256 ^ k
  | 0, n => by simp [le, unle, Nat.mod_one]
  | k + 1, n => by
    have hx : (UInt8.ofNat (n % 256)).toNat = n % 256 := by simp
    simp only [le, unle, unle_le k, hx]
    rw [Nat.pow_succ, Nat.mul_comm (256 ^ k) 256, Nat.mod_mul]
theorem le_unle : ∀ b : By, le b.length (unle b) = b
  | [] => rfl
  | x :: r => by
    have hx := x.toNat_lt
    have h1 : (x.toNat + 256 * unle r) % 256 = x.toNat := by omega
    have h2 : (x.toNat + 256 * unle r) / 256 = unle r := by omega
    simp only [List.length_cons, le, unle, h1, h2, le_unle r]
    congr 1
    exact UInt8.toNat.inj (by simp)
theorem unle_take_le (k n : Nat) (r : By) (h : n < 256 ^ k) : unle ((le k n ++ r).take k) = n := by
  rw [List.take_left' (le_len k n), unle_le, Nat.mod_eq_of_lt h]
def put (b : By) (size : Int) (n : Nat) : By := b ++ le (min (max size 0) 8).toNat n
def get (b : By) (i size : Int) : Nat × Bool :=
  if 1 ≤ size ∧ size ≤ 8 ∧ 0 ≤ i ∧ i ≤ b.length - size then (unle ((b.drop i.toNat).take size.toNat), true) else (0, false)
/-- a sum's eight steps for a byte -/
def crcBit (c : Nat) : Nat := (c / 2) ^^^ (if c % 2 = 1 then 3988292384 else 0)
def crcBits : Nat → Nat → Nat
  | 0, c => c
  | k + 1, c => crcBit (crcBits k c)
def crcByte (c : Nat) (x : UInt8) : Nat := crcBits 8 (c ^^^ x.toNat)
def crcFrom (b : By) : Nat := b.foldl crcByte 4294967295
def crc (b : By) : Nat := crcFrom b ^^^ 4294967295
theorem crcBit_lt {c : Nat} (h : c < 4294967296) : crcBit c < 4294967296 := by
  have h1 : c / 2 < 2 ^ 32 := by omega
  have h2 : (if c % 2 = 1 then 3988292384 else 0) < 2 ^ 32 := by split <;> decide
  exact Nat.xor_lt_two_pow h1 h2
theorem crcBits_lt {c : Nat} (h : c < 4294967296) : ∀ k, crcBits k c < 4294967296
  | 0 => h
  | k + 1 => crcBit_lt (crcBits_lt h k)
theorem crcByte_lt {c : Nat} (h : c < 4294967296) (x : UInt8) : crcByte c x < 4294967296 :=
  crcBits_lt (Nat.xor_lt_two_pow (n := 32) h (by have := x.toNat_lt; omega)) 8
theorem crcFrom_lt (b : By) : crcFrom b < 4294967296 := by
  have : ∀ (b : By) (c : Nat), c < 4294967296 → b.foldl crcByte c < 4294967296 := by
    intro b
    induction b with
    | nil => exact fun c h => h
    | cons x r ih => exact fun c h => ih _ (crcByte_lt h x)
  exact this b _ (by decide)
theorem crc_lt (b : By) : crc b < 4294967296 := Nat.xor_lt_two_pow (n := 32) (crcFrom_lt b) (by decide)

/-! ### blocks -/
def enc (t : By) : By × Nat := if 1000 < t.length then ([], 1) else (le 2 t.length ++ t ++ le 4 (crc (le 2 t.length ++ t)), 0)
def dec (b : By) : By × Nat × Nat :=
  let n := unle (b.take 2)
  if b.length < 2 ∨ 1000 < n ∨ b.length < 2 + n + 4 then ([], 0, 2)
  else if unle ((b.drop (2 + n)).take 4) = crc (b.take (2 + n)) then ((b.drop 2).take n, 2 + n + 4, 0) else ([], 0, 3)
theorem enc_len {t : By} (h : t.length ≤ 1000) : (enc t).1.length = t.length + 6 := by
  unfold enc; rw [if_neg (by omega)]; simp [le_len]; omega
theorem enc_ok {t : By} (h : t.length ≤ 1000) : enc t = (le 2 t.length ++ t ++ le 4 (crc (le 2 t.length ++ t)), 0) := by
  unfold enc; rw [if_neg (by omega)]
theorem dec_enc {t : By} (h : t.length ≤ 1000) (r : By) : dec ((enc t).1 ++ r) = (t, t.length + 6, 0) := by
  rw [enc_ok h]
  have hn : unle (((le 2 t.length ++ t ++ le 4 (crc (le 2 t.length ++ t))) ++ r).take 2) = t.length := by
    simp only [List.append_assoc]
    exact unle_take_le 2 _ _ (by omega)
  have hl : (le 2 t.length ++ t ++ le 4 (crc (le 2 t.length ++ t)) ++ r).length = t.length + 6 + r.length := by simp [le_len]; omega
  have hp : (le 2 t.length ++ t).length = 2 + t.length := by simp [le_len]
  unfold dec
  simp only [hn, hl]
  rw [if_neg (by omega)]
  have h1 : (le 2 t.length ++ t ++ le 4 (crc (le 2 t.length ++ t)) ++ r).drop (2 + t.length) = le 4 (crc (le 2 t.length ++ t)) ++ r := by
    rw [List.append_assoc, List.drop_left' hp]
  have h2 : (le 2 t.length ++ t ++ le 4 (crc (le 2 t.length ++ t)) ++ r).take (2 + t.length) = le 2 t.length ++ t := by
    rw [List.append_assoc, List.take_left' hp]
  have h3 : ((le 2 t.length ++ t ++ le 4 (crc (le 2 t.length ++ t)) ++ r).drop 2).take t.length = t := by
    simp only [List.append_assoc]
    rw [List.drop_left' (le_len 2 _), List.take_left' rfl]
  rw [h1, h2, h3, unle_take_le 4 _ _ (Nat.lt_of_lt_of_le (crc_lt _) (by decide)), if_pos rfl, show 2 + t.length + 4 = t.length + 6 from by omega]
theorem dec_facts {b t : By} {n : Nat} (h : dec b = (t, n, 0)) : t.length + 6 = n ∧ n ≤ b.length ∧ t.length ≤ 1000 ∧ (enc t).1 = b.take n := by
  unfold dec at h
  simp only at h
  split at h
  · simp at h
  · split at h
    · rename_i h1 h2
      simp only [Prod.mk.injEq, and_true] at h
      obtain ⟨h3, h4⟩ := h
      generalize hk : unle (b.take 2) = k at *
      have ht : t.length = k := by rw [← h3]; simp; omega
      refine ⟨by omega, by omega, by omega, ?_⟩
      rw [enc_ok (by omega), ht]
      have e1 : le 2 k = b.take 2 := by
        have := le_unle (b.take 2)
        rw [hk] at this
        rwa [show (b.take 2).length = 2 from by simp; omega] at this
      have e2 : le 2 k ++ t = b.take (2 + k) := by
        rw [e1, ← h3, List.take_add]
      have e3 : le 4 (crc (le 2 k ++ t)) = (b.drop (2 + k)).take 4 := by
        rw [e2, ← h2]
        have := le_unle ((b.drop (2 + k)).take 4)
        rwa [show ((b.drop (2 + k)).take 4).length = 4 from by simp; omega] at this
      rw [e3, e2, ← List.take_add, ← h4]
    · simp at h
def joined : List By → By
  | [] => []
  | t :: r => (enc t).1 ++ joined r
def join (l : List By) : By × Nat := if l.any (fun t => decide (1000 < t.length)) then ([], 1) else (joined l, 0)
/-- the texts of blocks; the last cell: 0, or the error -/
def allF : Nat → By → List By × Nat
  | 0, _ => ([], 0)
  | f + 1, b => if b = [] then ([], 0) else
    let d := dec b
    if d.2.2 ≠ 0 then ([], d.2.2) else
    let r := allF f (b.drop d.2.1)
    if r.2 ≠ 0 then ([], r.2) else (d.1 :: r.1, 0)
def all (b : By) : List By × Nat := allF b.length b
theorem dec_n {b : By} (h : (dec b).2.2 = 0) : 6 ≤ (dec b).2.1 ∧ (dec b).2.1 ≤ b.length := by
  have := dec_facts (b := b) (t := (dec b).1) (n := (dec b).2.1) (by rw [← h])
  omega
theorem allF_more : ∀ (f g : Nat) (b : By), b.length ≤ f → b.length ≤ g → allF f b = allF g b
  | 0, 0, _, _, _ => rfl
  | 0, g + 1, b, h, _ => by
    have : b = [] := List.eq_nil_of_length_eq_zero (by omega)
    subst this; simp [allF]
  | f + 1, 0, b, _, h => by
    have : b = [] := List.eq_nil_of_length_eq_zero (by omega)
    subst this; simp [allF]
  | f + 1, g + 1, b, h, k => by
    unfold allF
    by_cases hb : b = []
    · simp [hb]
    · simp only [hb, if_false]
      by_cases hd : (dec b).2.2 ≠ 0
      · simp [hd]
      · simp only [hd, if_false]
        have := dec_n (b := b) (by omega)
        rw [allF_more f g (b.drop (dec b).2.1) (by simp; omega) (by simp; omega)]
theorem all_nil : all [] = ([], 0) := rfl
theorem all_step {b : By} (hb : b ≠ []) : all b = if (dec b).2.2 ≠ 0 then ([], (dec b).2.2) else (if (all (b.drop (dec b).2.1)).2 ≠ 0 then ([], (all (b.drop (dec b).2.1)).2) else ((dec b).1 :: (all (b.drop (dec b).2.1)).1, 0)) := by
  unfold all
  have hl : b.length = (b.length - 1) + 1 := by
    have := List.length_pos_iff.2 hb; omega
  rw [hl, allF]
  simp only [hb, if_false]
  by_cases hd : (dec b).2.2 ≠ 0
  · simp [hd]
  · simp only [hd, if_false]
    have := dec_n (b := b) (by omega)
    rw [allF_more (b.length - 1) ((b.drop (dec b).2.1).length) _ (by simp; omega) (Nat.le_refl _)]
theorem all_joined : ∀ l : List By, (∀ t ∈ l, t.length ≤ 1000) → all (joined l) = (l, 0)
  | [], _ => rfl
  | t :: r, h => by
    have ht := h t List.mem_cons_self
    have hr := all_joined r fun u hu => h u (List.mem_cons_of_mem _ hu)
    have hne : joined (t :: r) ≠ [] := by
      intro e
      have := congrArg List.length e
      simp only [joined, List.length_append, enc_len ht, List.length_nil] at this
      omega
    rw [all_step hne]
    have hd : dec (joined (t :: r)) = (t, t.length + 6, 0) := dec_enc ht _
    have hdr : (joined (t :: r)).drop (t.length + 6) = joined r := by
      rw [joined, List.drop_left' (enc_len ht)]
    simp [hd, hdr, hr]

/-! ### manifests -/
structure Mf where
  seq : Nat
  n : Int
  shards : Int
  step : Int
  kind : Int
  start : Nat
deriving DecidableEq
def mf0 : Mf := ⟨0, 0, 0, 0, 0, 0⟩
def part (n s : Int) : Bool := decide (0 ≤ n ∧ n ≤ 1048576 ∧ 1 ≤ s ∧ s ≤ 4096)
def mright (m : Mf) : Bool := part m.n m.shards && decide (m.seq ≠ 0 ∧ m.step ≤ 1099511627776) && (if m.step = -1 then decide (m.kind = 0 ∧ m.start = 0) else decide (0 ≤ m.step) && Tr.right m.kind m.start m.n)
def mtext (m : Mf) : By := le 8 m.seq ++ le 8 m.n.toNat ++ le 8 m.shards.toNat ++ le 8 (m.step + 1).toNat ++ le 8 m.kind.toNat ++ le 8 m.start
def menc (m : Mf) : By × Nat := if mright m then enc (mtext m) else ([], 1)
def i64 (x : Nat) : Int := IntKind.i64.wrap x
def word (t : By) (i : Nat) : Nat := (get t (i * 8 : Nat) 8).1
def mof (t : By) : Mf := ⟨word t 0, i64 (word t 1), i64 (word t 2), IntKind.i64.wrap (i64 (word t 3) - 1), i64 (word t 4), word t 5 % 4294967296⟩
def mdec (b : By) : Mf × Nat :=
  if (dec b).2.2 ≠ 0 then (mf0, (dec b).2.2) else
  if (menc (mof (dec b).1)).2 ≠ 0 ∨ (menc (mof (dec b).1)).1 ≠ b then (mf0, 2) else (mof (dec b).1, 0)
def choose (a b : By) : Mf × Nat × Bool :=
  let x : Mf × Nat × Bool := if (mdec a).2 = 0 then ((mdec a).1, 0, true) else (mf0, 0, false)
  if (mdec b).2 = 0 ∧ (x.2.2 = false ∨ x.1.seq < (mdec b).1.seq) then ((mdec b).1, 1, true) else x
theorem mright_facts {m : Mf} (h : mright m = true) : 0 ≤ m.n ∧ m.n ≤ 1048576 ∧ 1 ≤ m.shards ∧ m.shards ≤ 4096 ∧ m.seq ≠ 0 ∧ -1 ≤ m.step ∧ m.step ≤ 1099511627776 ∧ 0 ≤ m.kind ∧ m.kind ≤ 5 := by
  simp only [mright, part, Bool.and_eq_true, decide_eq_true_eq] at h
  obtain ⟨⟨⟨h1, h2, h3, h4⟩, h5, h6⟩, h7⟩ := h
  split at h7
  · simp only [decide_eq_true_eq] at h7; omega
  · simp only [Bool.and_eq_true, decide_eq_true_eq, Tr.right] at h7; omega
theorem mtext_len (m : Mf) : (mtext m).length = 48 := by simp [mtext, le_len]
theorem menc_len {m : Mf} (h : mright m = true) : (menc m).1.length = 54 := by
  unfold menc; rw [if_pos h, enc_len (by rw [mtext_len]; omega), mtext_len]
theorem menc_ok {m : Mf} (h : mright m = true) : (menc m).2 = 0 := by unfold menc; rw [if_pos h, enc_ok (by rw [mtext_len]; omega)]
theorem menc_no {m : Mf} (h : mright m = false) : menc m = ([], 1) := by unfold menc; rw [if_neg (by rw [h]; decide)]
theorem get_at {a r : By} {i n : Nat} (ha : a.length = i) (hn : n < 18446744073709551616) : (get (a ++ (le 8 n ++ r)) (i : Nat) 8).1 = n := by
  unfold get
  rw [if_pos (by simp only [List.length_append, le_len]; omega)]
  simp only [Int.toNat_natCast]
  rw [List.drop_left' ha]
  exact unle_take_le 8 n r (by simpa using hn)
theorem i64_nat {x : Nat} (h : x < 9223372036854775808) : i64 x = x := by
  simp only [i64, IntKind.wrap, IntKind.bits, IntKind.signed]; simp; omega
theorem word_at {a r : By} {i n : Nat} (ha : a.length = i * 8) (hn : n < 18446744073709551616) : word (a ++ (le 8 n ++ r)) i = n := get_at ha hn
theorem mof_text {m : Mf} (h : mright m = true) (hs : m.seq < 18446744073709551616) (hst : m.start < 4294967296) : mof (mtext m) = m := by
  obtain ⟨h1, h2, h3, h4, h5, h6, h7, h8, h9⟩ := mright_facts h
  obtain ⟨t, ht⟩ : ∃ t, t = mtext m := ⟨_, rfl⟩
  have w0 : word t 0 = m.seq := by
    rw [ht, show mtext m = [] ++ (le 8 m.seq ++ (le 8 m.n.toNat ++ (le 8 m.shards.toNat ++ (le 8 (m.step + 1).toNat ++ (le 8 m.kind.toNat ++ le 8 m.start))))) from by simp only [mtext, List.append_assoc, List.nil_append]]
    exact word_at rfl hs
  have w1 : word t 1 = m.n.toNat := by
    rw [ht, show mtext m = le 8 m.seq ++ (le 8 m.n.toNat ++ (le 8 m.shards.toNat ++ (le 8 (m.step + 1).toNat ++ (le 8 m.kind.toNat ++ le 8 m.start)))) from by simp only [mtext, List.append_assoc]]
    exact word_at (le_len _ _) (by omega)
  have w2 : word t 2 = m.shards.toNat := by
    rw [ht, show mtext m = (le 8 m.seq ++ le 8 m.n.toNat) ++ (le 8 m.shards.toNat ++ (le 8 (m.step + 1).toNat ++ (le 8 m.kind.toNat ++ le 8 m.start))) from by simp only [mtext, List.append_assoc]]
    exact word_at (by simp only [List.length_append, le_len]) (by omega)
  have w3 : word t 3 = (m.step + 1).toNat := by
    rw [ht, show mtext m = (le 8 m.seq ++ (le 8 m.n.toNat ++ le 8 m.shards.toNat)) ++ (le 8 (m.step + 1).toNat ++ (le 8 m.kind.toNat ++ le 8 m.start)) from by simp only [mtext, List.append_assoc]]
    exact word_at (by simp only [List.length_append, le_len]) (by omega)
  have w4 : word t 4 = m.kind.toNat := by
    rw [ht, show mtext m = (le 8 m.seq ++ (le 8 m.n.toNat ++ (le 8 m.shards.toNat ++ le 8 (m.step + 1).toNat))) ++ (le 8 m.kind.toNat ++ le 8 m.start) from by simp only [mtext, List.append_assoc]]
    exact word_at (by simp only [List.length_append, le_len]) (by omega)
  have w5 : word t 5 = m.start := by
    rw [ht, show mtext m = (le 8 m.seq ++ (le 8 m.n.toNat ++ (le 8 m.shards.toNat ++ (le 8 (m.step + 1).toNat ++ le 8 m.kind.toNat)))) ++ (le 8 m.start ++ []) from by simp only [mtext, List.append_assoc, List.append_nil]]
    exact word_at (by simp only [List.length_append, le_len]) (by omega)
  rw [← ht]
  unfold mof
  rw [w0, w1, w2, w3, w4, w5, i64_nat (by omega), i64_nat (by omega), i64_nat (by omega), i64_nat (by omega), Nat.mod_eq_of_lt hst]
  have e : IntKind.i64.wrap (((m.step + 1).toNat : Int) - 1) = m.step := by
    simp only [IntKind.wrap, IntKind.bits, IntKind.signed]; simp; omega
  rw [e, Int.toNat_of_nonneg h1, Int.toNat_of_nonneg (by omega : (0 : Int) ≤ m.shards), Int.toNat_of_nonneg h8]
theorem mdec_menc {m : Mf} (h : mright m = true) (hs : m.seq < 18446744073709551616) (hst : m.start < 4294967296) : mdec (menc m).1 = (m, 0) := by
  have hd : dec (menc m).1 = (mtext m, 54, 0) := by
    have := dec_enc (t := mtext m) (by rw [mtext_len]; omega) []
    rw [mtext_len, List.append_nil] at this
    unfold menc; rw [if_pos h]; exact this
  unfold mdec
  rw [hd]
  simp only [mof_text h hs hst, menc_ok h]
  simp
theorem mdec_zero {b : By} (h : (mdec b).2 = 0) : mright (mdec b).1 = true ∧ (menc (mdec b).1).1 = b := by
  unfold mdec at h ⊢
  split at h
  · simp only at h; contradiction
  · split at h
    · simp at h
    · rename_i h1 h2
      rw [if_neg h1, if_neg h2]
      simp only [not_or, Decidable.not_not] at h2
      refine ⟨?_, h2.2⟩
      cases hr : mright (mof (dec b).1) with
      | true => rfl
      | false => rw [menc_no hr] at h2; simp at h2

/-! ### states -/
def vbytes (v : Nat × Bool) : By := le 8 v.1 ++ [if v.2 then 1 else 0]
def vtext (l : List (Nat × Bool)) : By := l.flatMap vbytes
def chunks : Nat → List (Nat × Bool) → List (List (Nat × Bool))
  | 0, _ => []
  | f + 1, l => if l = [] then [] else l.take 100 :: chunks f (l.drop 100)
def stexts (step : Nat) (l : List (Nat × Bool)) : List By := (le 8 step ++ le 8 l.length) :: (chunks l.length l).map vtext
def senc (step : Int) (vals : List Nat) (live : List Bool) : By × Nat :=
  if step < 0 ∨ vals.length ≠ live.length ∨ 1048576 < vals.length then ([], 1) else (joined (stexts step.toNat (vals.zip live)), 0)
def sof : Nat → By → List (Nat × Bool)
  | 0, _ => []
  | k + 1, b => (unle (b.take 8), b.getD 8 0 == 1) :: sof k (b.drop 9)
def sdec (b : By) : Int × (List Nat × List Bool) × Nat :=
  let l := (all b).1
  if (all b).2 ≠ 0 then (0, ([], []), (all b).2) else
  if l = [] ∨ (l.headD []).length ≠ 16 then (0, ([], []), 2) else
  let step := unle ((l.headD []).take 8)
  let n := unle ((l.headD []).drop 8)
  let body := l.tail.flatten
  if 9223372036854775807 < step ∨ 1048576 < n ∨ body.length ≠ n * 9 then (0, ([], []), 2) else
  let c := (sof n body).unzip
  if (senc step c.1 c.2).2 ≠ 0 ∨ (senc step c.1 c.2).1 ≠ b then (0, ([], []), 2) else (step, c, 0)
theorem chunks_flat : ∀ (f : Nat) (l : List (Nat × Bool)), l.length ≤ f → (chunks f l).flatten = l
  | 0, l, h => by have : l = [] := List.eq_nil_of_length_eq_zero (by omega); subst this; rfl
  | f + 1, l, h => by
    unfold chunks
    split
    · rename_i e; rw [e]; rfl
    · rename_i e
      have := List.length_pos_iff.2 e
      rw [List.flatten_cons, chunks_flat f _ (by simp; omega), List.take_append_drop]
theorem chunks_len : ∀ (f : Nat) (l : List (Nat × Bool)), ∀ c ∈ chunks f l, c.length ≤ 100
  | 0, _, c, h => by cases h
  | f + 1, l, c, h => by
    unfold chunks at h
    split at h
    · cases h
    · rcases List.mem_cons.1 h with rfl | h
      · simp; omega
      · exact chunks_len f _ c h
theorem vtext_len : ∀ l : List (Nat × Bool), (vtext l).length = l.length * 9
  | [] => rfl
  | v :: l => by
    have := vtext_len l
    simp only [vtext, List.flatMap_cons, List.length_append, List.length_cons] at this ⊢
    rw [this]; simp [vbytes, le_len]; omega
theorem sof_vtext : ∀ l : List (Nat × Bool), (∀ v ∈ l, v.1 < 18446744073709551616) → sof l.length (vtext l) = l
  | [], _ => rfl
  | v :: l, h => by
    have hv := h v List.mem_cons_self
    have ih := sof_vtext l fun u hu => h u (List.mem_cons_of_mem _ hu)
    have e : vtext (v :: l) = le 8 v.1 ++ ((if v.2 then 1 else 0) :: vtext l) := by simp [vtext, vbytes]
    simp only [List.length_cons, sof]
    rw [e, unle_take_le 8 _ _ (by simpa using hv)]
    have h1 : (le 8 v.1 ++ ((if v.2 then 1 else 0) :: vtext l)).getD 8 0 = if v.2 then 1 else 0 := by
      rw [List.getD_eq_getElem?_getD, List.getElem?_append_right (by rw [le_len]; omega), le_len]; rfl
    have h2 : (le 8 v.1 ++ ((if v.2 then 1 else 0) :: vtext l)).drop 9 = vtext l := by
      rw [List.drop_append, le_len]
      simp [List.drop_eq_nil_of_le, le_len]
    rw [h1, h2, ih]
    cases v with | mk a b => cases b <;> rfl
theorem stexts_le (step : Nat) (l : List (Nat × Bool)) : ∀ t ∈ stexts step l, t.length ≤ 1000 := by
  intro t ht
  rcases List.mem_cons.1 ht with rfl | ht
  · simp [le_len]
  · obtain ⟨c, hc, rfl⟩ := List.mem_map.1 ht
    rw [vtext_len]
    have := chunks_len _ _ c hc
    omega
theorem vtext_flat : ∀ L : List (List (Nat × Bool)), (L.map vtext).flatten = vtext L.flatten
  | [] => rfl
  | c :: L => by
    have := vtext_flat L
    simp only [List.map_cons, List.flatten_cons, this]
    simp [vtext]
theorem sdec_senc {step : Nat} {vals : List Nat} {live : List Bool} (h1 : step ≤ 9223372036854775807) (h2 : vals.length = live.length) (h3 : vals.length ≤ 1048576) (h4 : ∀ x ∈ vals, x < 18446744073709551616) :
    sdec (senc step vals live).1 = ((step : Int), (vals, live), 0) := by
  have he : senc step vals live = (joined (stexts step (vals.zip live)), 0) := by unfold senc; rw [if_neg (by omega)]; rfl
  have hz : (vals.zip live).length = vals.length := by rw [List.length_zip]; omega
  have ha : all (joined (stexts step (vals.zip live))) = (stexts step (vals.zip live), 0) := all_joined _ (stexts_le _ _)
  have hu : (vals.zip live).unzip = (vals, live) := List.unzip_zip (by omega)
  have hfl : ((chunks (vals.zip live).length (vals.zip live)).map vtext).flatten = vtext (vals.zip live) := by rw [vtext_flat, chunks_flat _ _ (Nat.le_refl _)]
  have hs : sof (vals.zip live).length (vtext (vals.zip live)) = vals.zip live := sof_vtext _ fun v hv => h4 _ (List.of_mem_zip hv).1
  rw [he]
  unfold sdec
  simp only [ha]
  have t1 : (stexts step (vals.zip live)).headD [] = le 8 step ++ le 8 vals.length := by rw [← hz]; rfl
  have t2 : (stexts step (vals.zip live)).tail.flatten = vtext (vals.zip live) := hfl
  have t3 : stexts step (vals.zip live) ≠ [] := by unfold stexts; exact List.cons_ne_nil _ _
  have t4 : unle ((le 8 step ++ le 8 vals.length).take 8) = step := unle_take_le 8 _ _ (by omega)
  have t5 : unle ((le 8 step ++ le 8 vals.length).drop 8) = vals.length := by
    rw [List.drop_left' (le_len _ _), unle_le, Nat.mod_eq_of_lt (by omega)]
  rw [hz] at hs
  rw [t1, t2, t4, t5, vtext_len, hz, hs, hu]
  rw [if_neg (by simp), if_neg (by simp [t3, le_len]), if_neg (by omega), if_neg (by simp [he])]
end Go.Cg.Oc

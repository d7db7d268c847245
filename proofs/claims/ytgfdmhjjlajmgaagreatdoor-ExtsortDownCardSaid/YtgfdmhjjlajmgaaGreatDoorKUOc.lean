/- The plain model of octets, blocks, manifests and states of steps: bytes and numbers alone. No condition. -/
import Derived.Test.YtgfdmhjjlajmgaaGreatDoorKUDk
import Derived.Test.YtgfdmhjjlajmgaaGreatDoorKUTr
namespace Go.Cg.Oc
set_option linter.unusedVariables false
set_option linter.unusedSimpArgs false
open Go.Cg.Dk (By)

/-! ### octets -/
def le : Nat → Nat → By
  | 0, _ => []
  | k + 1, n => UInt8.ofNat (n % 256) :: le k (n / 256)
def unle : By → Nat
  | [] => 0
  | x :: r => x.toNat + 256 * unle r
theorem le_len : ∀ k n, (le k n).length = k
  | 0, _ => rfl
  | k + 1, n => by simp [le, le_len k]
theorem unle_lt : ∀ b : By, unle b < 256 ^ b.length
  | [] => by decide
  | x :: r => by
    have := unle_lt r
    have hx := x.toNat_lt
    simp only [unle, List.length_cons, Nat.pow_succ]
    omega
theorem unle_le : ∀ k n, unle (le k n) = n % 256 ^ k
  | 0, n => by simp [le, unle, Nat.mod_one]
  | k + 1, n => by
    have hx : (UInt8.ofNat (n % 256)).toNat = n % 256 := by simp
    simp only [le, unle, unle_le k, hx]
    rw [Nat.pow_succ, Nat.mul_comm (256 ^ k) 256, Nat.mod_mul]
theorem le_unle : ∀ b : By, le b.length (unle b) = b
  | [] => rfl
  | x :: r => by
    have hx := x.toNat_lt
    have h1 : (x.toNat + 256 * unle r) % 256 = x.toNat := by omega
    have h2 : (x.toNat + 256 * unle r) / 256 = unle r := by omega
    simp only [List.length_cons, le, unle, h1, h2, le_unle r]
    congr 1
    exact UInt8.toNat.inj (by simp)
theorem unle_take_le (k n : Nat) (r : By) (h : n < 256 ^ k) : unle ((le k n ++ r).take k) = n := by
  rw [List.take_left' (le_len k n), unle_le, Nat.mod_eq_of_lt h]
def put (b : By) (size : Int) (n : Nat) : By := b ++ le (min (max size 0) 8).toNat n
def get (b : By) (i size : Int) : Nat × Bool :=
  if 1 ≤ size ∧ size ≤ 8 ∧ 0 ≤ i ∧ i ≤ b.length - size then (unle ((b.drop i.toNat).take size.toNat), true) else (0, false)
/-- a sum's eight steps for a byte -/
def crcBit (c : Nat) : Nat := (c / 2) ^^^ (if c % 2 = 1 then 3988292384 else 0)
def crcBits : Nat → Nat → Nat
  | 0, c => c
  | k + 1, c => crcBit (crcBits k c)
def crcByte (c : Nat) (x : UInt8) : Nat := crcBits 8 (c ^^^ x.toNat)
def crcFrom (b : By) : Nat := b.foldl crcByte 4294967295
def crc (b : By) : Nat := crcFrom b ^^^ 4294967295
theorem crcBit_lt {c : Nat} (h : c < 4294967296) : crcBit c < 4294967296 := by
  have h1 : c / 2 < 2 ^ 32 := by omega
  have h2 : (if c % 2 = 1 then 3988292384 else 0) < 2 ^ 32 := by split <;> decide
  exact Nat.xor_lt_two_pow h1 h2
theorem crcBits_lt {c : Nat} (h : c < 4294967296) : ∀ k, crcBits k c < 4294967296
  | 0 => h
  | k + 1 => crcBit_lt (crcBits_lt h k)
theorem crcByte_lt {c : Nat} (h : c < 4294967296) (x : UInt8) : crcByte c x < 4294967296 :=
  crcBits_lt (Nat.xor_lt_two_pow (n := 32) h (by have := x.toNat_lt; omega)) 8
theorem crcFrom_lt (b : By) : crcFrom b < 4294967296 := by
  have : ∀ (b : By) (c : Nat), c < 4294967296 → b.foldl crcByte c < 4294967296 := by
    intro b
    induction b with
    | nil => exact fun c h => h
    | cons x r ih => exact fun c h => ih _ (crcByte_lt h x)
  exact this b _ (by decide)
theorem crc_lt (b : By) : crc b < 4294967296 := Nat.xor_lt_two_pow (n := 32) (crcFrom_lt b) (by decide)

/-! ### blocks -/
def enc (t : By) : By × Nat := if 1000 < t.length then ([], 1) else (le 2 t.length ++ t ++ le 4 (crc (le 2 t.length ++ t)), 0)
def dec (b : By) : By × Nat × Nat :=
  let n := unle (b.take 2)
  if b.length < 2 ∨ 1000 < n ∨ b.length < 2 + n + 4 then ([], 0, 2)
  else if unle ((b.drop (2 + n)).take 4) = crc (b.take (2 + n)) then ((b.drop 2).take n, 2 + n + 4, 0) else ([], 0, 3)
theorem enc_len {t : By} (h : t.length ≤ 1000) : (enc t).1.length = t.length + 6 := by
  unfold enc; rw [if_neg (by omega)]; simp [le_len]; omega
theorem enc_ok {t : By} (h : t.length ≤ 1000) : enc t = (le 2 t.length ++ t ++ le 4 (crc (le 2 t.length ++ t)), 0) := by
  unfold enc; rw [if_neg (by omega)]
theorem dec_enc {t : By} (h : t.length ≤ 1000) (r : By) : dec ((enc t).1 ++ r) = (t, t.length + 6, 0) := by
  rw [enc_ok h]
  have hn : unle (((le 2 t.length ++ t ++ le 4 (crc (le 2 t.length ++ t))) ++ r).take 2) = t.length := by
    simp only [List.append_assoc]
    exact unle_take_le 2 _ _ (by omega)
  have hl : (le 2 t.length ++ t ++ le 4 (crc (le 2 t.length ++ t)) ++ r).length = t.length + 6 + r.length := by simp [le_len]; omega
  have hp : (le 2 t.length ++ t).length = 2 + t.length := by simp [le_len]
  unfold dec
  simp only [hn, hl]
  rw [if_neg (by omega)]
  have h1 : (le 2 t.length ++ t ++ le 4 (crc (le 2 t.length ++ t)) ++ r).drop (2 + t.length) = le 4 (crc (le 2 t.length ++ t)) ++ r := by
    rw [List.append_assoc, List.drop_left' hp]
  have h2 : (le 2 t.length ++ t ++ le 4 (crc (le 2 t.length ++ t)) ++ r).take (2 + t.length) = le 2 t.length ++ t := by
    rw [List.append_assoc, List.take_left' hp]
  have h3 : ((le 2 t.length ++ t ++ le 4 (crc (le 2 t.length ++ t)) ++ r).drop 2).take t.length = t := by
    simp only [List.append_assoc]
    rw [List.drop_left' (le_len 2 _), List.take_left' rfl]
  rw [h1, h2, h3, unle_take_le 4 _ _ (Nat.lt_of_lt_of_le (crc_lt _) (by decide)), if_pos rfl, show 2 + t.length + 4 = t.length + 6 from by omega]
theorem dec_facts {b t : By} {n : Nat} (h : dec b = (t, n, 0)) : t.length + 6 = n ∧ n ≤ b.length ∧ t.length ≤ 1000 ∧ (enc t).1 = b.take n := by
  unfold dec at h
  simp only at h
  split at h
  · simp at h
  · split at h
    · rename_i h1 h2
      simp only [Prod.mk.injEq, and_true] at h
      obtain ⟨h3, h4⟩ := h
      generalize hk : unle (b.take 2) = k at *
      have ht : t.length = k := by rw [← h3]; simp; omega
      refine ⟨by omega, by omega, by omega, ?_⟩
      rw [enc_ok (by omega), ht]
      have e1 : le 2 k = b.take 2 := by
        have := le_unle (b.take 2)
        rw [hk] at this
        rwa [show (b.take 2).length = 2 from by simp; omega] at this
      have e2 : le 2 k ++ t = b.take (2 + k) := by
        rw [e1, ← h3, List.take_add]
      have e3 : le 4 (crc (le 2 k ++ t)) = (b.drop (2 + k)).take 4 := by
        rw [e2, ← h2]
        have := le_unle ((b.drop (2 + k)).take 4)
        rwa [show ((b.drop (2 + k)).take 4).length = 4 from by simp; omega] at this
      rw [e3, e2, ← List.take_add, ← h4]
    · simp at h
def joined : List By → By
  | [] => []
  | t :: r => (enc t).1 ++ joined r
/-- the texts of blocks; the last cell: 0, or the error -/
def allF : Nat → By → List By × Nat
  | 0, _ => ([], 0)
  | f + 1, b => if b = [] then ([], 0) else
    let d := dec b
    if d.2.2 ≠ 0 then ([], d.2.2) else
    let r := allF f (b.drop d.2.1)
    if r.2 ≠ 0 then ([], r.2) else (d.1 :: r.1, 0)
def all (b : By) : List By × Nat := allF b.length b
/-! ### manifests -/
structure Mf where
  seq : Nat
  n : Int
  shards : Int
  step : Int
  kind : Int
  start : Nat
deriving DecidableEq
def mf0 : Mf := ⟨0, 0, 0, 0, 0, 0⟩
def part (n s : Int) : Bool := decide (0 ≤ n ∧ n ≤ 1048576 ∧ 1 ≤ s ∧ s ≤ 4096)
def mright (m : Mf) : Bool := part m.n m.shards && decide (m.seq ≠ 0 ∧ m.step ≤ 1099511627776) && (if m.step = -1 then decide (m.kind = 0 ∧ m.start = 0) else decide (0 ≤ m.step) && Tr.right m.kind m.start m.n)
def mtext (m : Mf) : By := le 8 m.seq ++ le 8 m.n.toNat ++ le 8 m.shards.toNat ++ le 8 (m.step + 1).toNat ++ le 8 m.kind.toNat ++ le 8 m.start
def menc (m : Mf) : By × Nat := if mright m then enc (mtext m) else ([], 1)
def i64 (x : Nat) : Int := IntKind.i64.wrap x
def word (t : By) (i : Nat) : Nat := (get t (i * 8 : Nat) 8).1
def mof (t : By) : Mf := ⟨word t 0, i64 (word t 1), i64 (word t 2), IntKind.i64.wrap (i64 (word t 3) - 1), i64 (word t 4), word t 5 % 4294967296⟩
def mdec (b : By) : Mf × Nat :=
  if (dec b).2.2 ≠ 0 then (mf0, (dec b).2.2) else
  if (menc (mof (dec b).1)).2 ≠ 0 ∨ (menc (mof (dec b).1)).1 ≠ b then (mf0, 2) else (mof (dec b).1, 0)
def choose (a b : By) : Mf × Nat × Bool :=
  let x : Mf × Nat × Bool := if (mdec a).2 = 0 then ((mdec a).1, 0, true) else (mf0, 0, false)
  if (mdec b).2 = 0 ∧ (x.2.2 = false ∨ x.1.seq < (mdec b).1.seq) then ((mdec b).1, 1, true) else x
theorem menc_no {m : Mf} (h : mright m = false) : menc m = ([], 1) := by unfold menc; rw [if_neg (by rw [h]; decide)]
theorem mdec_zero {b : By} (h : (mdec b).2 = 0) : mright (mdec b).1 = true ∧ (menc (mdec b).1).1 = b := by
  unfold mdec at h ⊢
  split at h
  · simp only at h; contradiction
  · split at h
    · simp at h
    · rename_i h1 h2
      rw [if_neg h1, if_neg h2]
      simp only [not_or, Decidable.not_not] at h2
      refine ⟨?_, h2.2⟩
      cases hr : mright (mof (dec b).1) with
      | true => rfl
      | false => rw [menc_no hr] at h2; simp at h2

/-! ### states -/
def vbytes (v : Nat × Bool) : By := le 8 v.1 ++ [if v.2 then 1 else 0]
def vtext (l : List (Nat × Bool)) : By := l.flatMap vbytes
def chunks : Nat → List (Nat × Bool) → List (List (Nat × Bool))
  | 0, _ => []
  | f + 1, l => if l = [] then [] else l.take 100 :: chunks f (l.drop 100)
def stexts (step : Nat) (l : List (Nat × Bool)) : List By := (le 8 step ++ le 8 l.length) :: (chunks l.length l).map vtext
def senc (step : Int) (vals : List Nat) (live : List Bool) : By × Nat :=
  if step < 0 ∨ vals.length ≠ live.length ∨ 1048576 < vals.length then ([], 1) else (joined (stexts step.toNat (vals.zip live)), 0)
def sof : Nat → By → List (Nat × Bool)
  | 0, _ => []
  | k + 1, b => (unle (b.take 8), b.getD 8 0 == 1) :: sof k (b.drop 9)
def sdec (b : By) : Int × (List Nat × List Bool) × Nat :=
  let l := (all b).1
  if (all b).2 ≠ 0 then (0, ([], []), (all b).2) else
  if l = [] ∨ (l.headD []).length ≠ 16 then (0, ([], []), 2) else
  let step := unle ((l.headD []).take 8)
  let n := unle ((l.headD []).drop 8)
  let body := l.tail.flatten
  if 9223372036854775807 < step ∨ 1048576 < n ∨ body.length ≠ n * 9 then (0, ([], []), 2) else
  let c := (sof n body).unzip
  if (senc step c.1 c.2).2 ≠ 0 ∨ (senc step c.1 c.2).1 ≠ b then (0, ([], []), 2) else (step, c, 0)
end Go.Cg.Oc

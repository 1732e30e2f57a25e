/-
  Plain mathematics of the checksum, second part.
-/
import Derived.Test.YtkpdeldegdngaaaCrcA
namespace Go.Proofs.Ytkpdeldegdngaaa.CrcP

def lowByte (w : BitVec 32) : UInt8 := UInt8.ofBitVec (w.setWidth 8)
def little (w : BitVec 32) : List UInt8 := [lowByte w, lowByte (w >>> 8), lowByte (w >>> 16), lowByte (w >>> 24)]
def wd (c0 c1 c2 c3 : UInt8) : BitVec 32 := byte c0 ^^^ (byte c1 <<< 8) ^^^ (byte c2 <<< 16) ^^^ (byte c3 <<< 24)

theorem byte_high (c : UInt8) (i : Nat) (h : 8 ≤ i) : (byte c).getLsbD i = false := by
  unfold byte; rw [BitVec.getLsbD_setWidth]
  simp [BitVec.getLsbD_of_ge c.toBitVec i h]
theorem stepN_byte_shl (c : UInt8) (n : Nat) (hn : n ≤ 24) : stepN n (byte c <<< n) = byte c :=
  stepN_shl n (byte c) (fun i hi => byte_high c i (by omega)) (by omega)

theorem feed_four (r : BitVec 32) (c0 c1 c2 c3 : UInt8) : feed r [c0, c1, c2, c3] = stepN 32 (r ^^^ wd c0 c1 c2 c3) := by
  show upd (upd (upd (upd r c0) c1) c2) c3 = _
  have h1 : ∀ (n : Nat) (x : BitVec 32) (c : UInt8), n ≤ 24 → upd (stepN n x) c = stepN (n + 8) (x ^^^ (byte c <<< n)) := by
    intro n x c hn
    unfold upd
    rw [← stepN_byte_shl c n hn, ← stepN_xor, ← stepN_add, stepN_byte_shl c n hn]
  have h0 : upd r c0 = stepN 8 (r ^^^ byte c0) := rfl
  rw [h0, h1 8 _ _ (by omega), h1 16 _ _ (by omega), h1 24 _ _ (by omega)]
  unfold wd
  simp only [BitVec.xor_assoc]

theorem byte_lowByte (w : BitVec 32) (i : Nat) : (byte (lowByte w)).getLsbD i = (decide (i < 8) && w.getLsbD i) := by
  unfold byte lowByte
  rw [BitVec.getLsbD_setWidth]
  by_cases h : i < 8
  · simp [h, show i < 32 by omega]
  · simp [h]
theorem wd_little (w : BitVec 32) : wd (lowByte w) (lowByte (w >>> 8)) (lowByte (w >>> 16)) (lowByte (w >>> 24)) = w := by
  unfold wd
  apply BitVec.eq_of_getLsbD_eq
  intro i hi
  simp only [BitVec.getLsbD_xor, BitVec.getLsbD_shiftLeft, byte_lowByte, BitVec.getLsbD_ushiftRight, hi, decide_true, Bool.true_and]
  by_cases h0 : i < 8
  · simp [h0, show i < 16 by omega, show i < 24 by omega]
  · by_cases h1 : i < 16
    · have e1 : 8 + (i - 8) = i := by omega
      simp [h0, h1, show i < 24 by omega, show i - 8 < 8 by omega, e1]
    · by_cases h2 : i < 24
      · have e1 : 16 + (i - 16) = i := by omega
        simp [h0, h1, h2, show ¬ i - 8 < 8 by omega, show i - 16 < 8 by omega, e1]
      · have e1 : 24 + (i - 24) = i := by omega
        simp [h0, h1, h2, show ¬ i - 8 < 8 by omega, show ¬ i - 16 < 8 by omega, show i - 24 < 8 by omega, e1]
theorem feed_little (r w : BitVec 32) : feed r (little w) = stepN 32 (r ^^^ w) := by
  unfold little; rw [feed_four, wd_little]

theorem lowByte_toNat (w : BitVec 32) : (lowByte w).toNat = w.toNat % 256 := by
  unfold lowByte; simp [UInt8.toNat]

theorem wd_inj (w : BitVec 32) (c0 c1 c2 c3 : UInt8) (h : wd c0 c1 c2 c3 = w) : little w = [c0, c1, c2, c3] := by
  subst h
  unfold little
  have get : ∀ i, (wd c0 c1 c2 c3).getLsbD i = ((byte c0).getLsbD i ^^ ((decide (i < 32) && (!decide (i < 8) && (byte c1).getLsbD (i - 8)))) ^^ ((decide (i < 32) && (!decide (i < 16) && (byte c2).getLsbD (i - 16)))) ^^ ((decide (i < 32) && (!decide (i < 24) && (byte c3).getLsbD (i - 24))))) := by
    intro i; unfold wd
    simp [BitVec.getLsbD_xor, BitVec.getLsbD_shiftLeft, Bool.and_assoc]
  have key : ∀ (n : Nat) (c : UInt8), (∀ i, i < 8 → (wd c0 c1 c2 c3).getLsbD (n + i) = (byte c).getLsbD i) → lowByte ((wd c0 c1 c2 c3) >>> n) = c := by
    intro n c hc
    unfold lowByte
    apply UInt8.toBitVec_inj.1
    show ((wd c0 c1 c2 c3) >>> n).setWidth 8 = _
    apply BitVec.eq_of_getLsbD_eq
    intro i hi
    rw [BitVec.getLsbD_setWidth, BitVec.getLsbD_ushiftRight, hc i hi]
    unfold byte
    rw [BitVec.getLsbD_setWidth]
    simp [hi, show i < 32 by omega]
  have k0 := key 0 c0 (fun i hi => by
    rw [get]; simp [hi, show i < 16 by omega, show i < 24 by omega])
  have k1 := key 8 c1 (fun i hi => by
    rw [get, byte_high c0 _ (by omega)]
    simp [show 8 + i < 32 by omega, show 8 + i < 16 by omega, show 8 + i < 24 by omega])
  have k2 := key 16 c2 (fun i hi => by
    rw [get, byte_high c0 _ (by omega), byte_high c1 _ (by omega)]
    simp [show 16 + i < 32 by omega, show ¬ 16 + i < 16 by omega, show 16 + i < 24 by omega])
  have k3 := key 24 c3 (fun i hi => by
    rw [get, byte_high c0 _ (by omega), byte_high c1 _ (by omega), byte_high c2 _ (by omega)]
    simp [show 24 + i < 32 by omega, show ¬ 24 + i < 24 by omega])
  have k0' : lowByte (wd c0 c1 c2 c3) = c0 := by simpa using k0
  rw [k0', k1, k2, k3]

-- sealed bytes
theorem xor_cancel {a b c : BitVec 32} (h : a ^^^ b = c) : b = a ^^^ c := by
  rw [← h, ← BitVec.xor_assoc, BitVec.xor_self, BitVec.zero_xor]
def ones : BitVec 32 := ~~~ 0#32
theorem not_eq (x : BitVec 32) : ~~~ x = ones ^^^ x := by
  rw [show ones = BitVec.allOnes 32 by decide]; exact (BitVec.allOnes_xor).symm
theorem sum_def (l : List UInt8) : sum l = ones ^^^ feed ones l := by unfold sum; rw [not_eq]; rfl
theorem feed_sealed (l : List UInt8) (c0 c1 c2 c3 : UInt8) : (little (sum l) = [c0, c1, c2, c3]) ↔ feed ones (l ++ [c0, c1, c2, c3]) = stepN 32 ones := by
  rw [feed_append, feed_four]
  constructor
  · intro h
    have hw : wd c0 c1 c2 c3 = sum l := by
      have := wd_little (sum l)
      unfold little at h
      simp only [List.cons.injEq] at h
      obtain ⟨h0, h1, h2, h3, _⟩ := h
      rw [h0, h1, h2, h3] at this
      exact this
    rw [hw, sum_def, ← BitVec.xor_assoc, BitVec.xor_comm (feed ones l) ones, BitVec.xor_assoc, BitVec.xor_self, BitVec.xor_zero]
  · intro h
    have h1 := stepN_inj h
    apply wd_inj
    rw [sum_def, xor_cancel h1, BitVec.xor_comm]

/-- forging: what the four bytes must be -/
theorem forge (a b : List UInt8) (s : BitVec 32) (back : BitVec 32) (hb : feed (stepN 32 back) b = ~~~ s) :
    sum (a ++ little (feed ones a ^^^ back) ++ b) = s := by
  unfold sum
  rw [feed_append, feed_append, feed_little]
  show ~~~ feed (stepN 32 (feed ones a ^^^ (feed ones a ^^^ back))) b = s
  rw [← BitVec.xor_assoc, BitVec.xor_self, BitVec.zero_xor, hb, BitVec.not_not]
/-- the register before a byte, from the one behind it -/
def unupd (r : BitVec 32) (c : UInt8) : BitVec 32 := unstepN 8 r ^^^ byte c
theorem upd_unupd (r : BitVec 32) (c : UInt8) : upd (unupd r c) c = r := by
  unfold upd unupd; rw [BitVec.xor_assoc, BitVec.xor_self, BitVec.xor_zero, stepN_unstepN]
theorem unupd_upd (r : BitVec 32) (c : UInt8) : unupd (upd r c) c = r := by
  unfold upd unupd; rw [unstepN_stepN, BitVec.xor_assoc, BitVec.xor_self, BitVec.xor_zero]
/-- back over bytes from the end -/
def unfeed (r : BitVec 32) (l : List UInt8) : BitVec 32 := l.foldr (fun c r => unupd r c) r
theorem feed_unfeed (l : List UInt8) : ∀ r, feed (unfeed r l) l = r := by
  induction l with
  | nil => intro r; rfl
  | cons c l ih => intro r; rw [feed_cons]; show feed (upd (unupd (unfeed r l) c) c) l = r; rw [upd_unupd, ih]
theorem unfeed_feed (l : List UInt8) : ∀ r, unfeed (feed r l) l = r := by
  induction l with
  | nil => intro r; rfl
  | cons c l ih => intro r; rw [feed_cons]; show unupd (unfeed (feed (upd r c) l) l) c = r; rw [ih, unupd_upd]
/-- P2.4: the forged bytes have the checksum -/
theorem forge_sum (a b : List UInt8) (s : BitVec 32) : sum (a ++ little (feed ones a ^^^ unstepN 32 (unfeed (~~~ s) b)) ++ b) = s :=
  forge a b s _ (by rw [stepN_unstepN, feed_unfeed])
/-- ... and they are the only ones -/
theorem forge_same (a b : List UInt8) (c0 c1 c2 c3 : UInt8) : little (feed ones a ^^^ unstepN 32 (unfeed (~~~ (sum (a ++ [c0, c1, c2, c3] ++ b))) b)) = [c0, c1, c2, c3] := by
  apply wd_inj
  unfold sum
  rw [BitVec.not_not, feed_append, unfeed_feed, feed_append, feed_four]
  show _ = feed ones a ^^^ unstepN 32 (stepN 32 (feed ones a ^^^ wd c0 c1 c2 c3))
  rw [unstepN_stepN, ← BitVec.xor_assoc, BitVec.xor_self, BitVec.zero_xor]

-- one bit that is turned
theorem stepN_one_shl (k : Nat) (hk : k < 32) : stepN k (1#32 <<< k) = 1#32 :=
  stepN_shl k 1#32 (fun i hi => by simp; omega) (by omega)
/-- bit j of the bytes is turned -/
def flip (l : List UInt8) (j : Nat) : List UInt8 := l.set (j / 8) (l.getD (j / 8) 0 ^^^ UInt8.ofNat (2 ^ (j % 8)))
theorem flip_length (l : List UInt8) (j : Nat) : (flip l j).length = l.length := by unfold flip; simp
theorem byte_xor (a b : UInt8) : byte (a ^^^ b) = byte a ^^^ byte b := by
  unfold byte; rw [UInt8.toBitVec_xor, BitVec.setWidth_xor]
theorem byte_pow (k : Nat) (hk : k < 8) : byte (UInt8.ofNat (2 ^ k)) = 1#32 <<< k := by
  have : ∀ j : Fin 8, byte (UInt8.ofNat (2 ^ j.val)) = 1#32 <<< j.val := by decide
  exact this ⟨k, hk⟩
theorem feed_flip (l : List UInt8) : ∀ (r : BitVec 32) (j : Nat), j < 8 * l.length → feed r (flip l j) = feed r l ^^^ stepN (8 * l.length - j) 1#32 := by
  induction l with
  | nil => intro r j h; simp at h
  | cons c l ih =>
    intro r j h
    by_cases h8 : j < 8
    · have e : flip (c :: l) j = (c ^^^ UInt8.ofNat (2 ^ j)) :: l := by
        unfold flip
        rw [show j / 8 = 0 by omega, show j % 8 = j by omega]; simp
      rw [e, feed_cons, feed_cons]
      have h1 : upd r (c ^^^ UInt8.ofNat (2 ^ j)) = upd r c ^^^ stepN (8 - j) 1#32 := by
        unfold upd
        rw [byte_xor, byte_pow j h8, ← BitVec.xor_assoc, stepN_xor]
        congr 1
        rw [show (8 : Nat) = j + (8 - j) by omega, stepN_add, stepN_one_shl j (by omega)]
        congr 1; omega
      rw [h1, feed_xor, ← stepN_add]
      congr 2
      simp only [List.length_cons]; omega
    · have e : flip (c :: l) j = c :: flip l (j - 8) := by
        unfold flip
        rw [show j / 8 = (j - 8) / 8 + 1 by omega, show j % 8 = (j - 8) % 8 by omega]; simp
      rw [e, feed_cons, feed_cons, ih _ _ (by simp only [List.length_cons] at h; omega)]
      congr 2
      simp only [List.length_cons]; omega
/-- the first k bits of a change, from bit 'start' of the bytes on -/
def burst (l : List UInt8) (start : Nat) (change : BitVec 32) : Nat → List UInt8
  | 0 => l
  | k + 1 => if change.getLsbD k then flip (burst l start change k) (start + k) else burst l start change k
theorem burst_length (l : List UInt8) (start : Nat) (change : BitVec 32) (k : Nat) : (burst l start change k).length = l.length := by
  induction k with
  | zero => rfl
  | succ k ih => unfold burst; split <;> simp [flip_length, ih]
def lowBits (c : BitVec 32) : Nat → BitVec 32
  | 0 => 0#32
  | k + 1 => lowBits c k ^^^ (if c.getLsbD k then 1#32 <<< k else 0#32)
theorem one_shl_bit (k i : Nat) (hk : k < 32) (hi : i < 32) : (1#32 <<< k).getLsbD i = decide (i = k) := by
  rw [BitVec.getLsbD_shiftLeft]
  by_cases h : i = k
  · subst h; simp [hi]
  · by_cases h1 : i < k
    · simp [h1, h]
    · simp [hi, h, h1]; omega
theorem lowBits_bit (c : BitVec 32) (k : Nat) : k ≤ 32 → ∀ i, i < 32 → (lowBits c k).getLsbD i = (decide (i < k) && c.getLsbD i) := by
  induction k with
  | zero => intro _ i _; simp [lowBits]
  | succ k ih =>
    intro hk i hi
    rw [lowBits, BitVec.getLsbD_xor, ih (by omega) i hi]
    by_cases h : c.getLsbD k = true
    · rw [if_pos h, one_shl_bit k i (by omega) hi]
      by_cases h1 : i = k
      · subst h1; simp [h]
      · have : (i < k + 1) ↔ (i < k) := by omega
        simp [h1, this]
    · rw [if_neg h]
      simp only [Bool.not_eq_true] at h
      by_cases h1 : i = k
      · subst h1; simp [h]
      · have : (i < k + 1) ↔ (i < k) := by omega
        simp [this]
theorem lowBits_all (c : BitVec 32) : lowBits c 32 = c := by
  apply BitVec.eq_of_getLsbD_eq
  intro i hi
  rw [lowBits_bit c 32 (by omega) i hi]; simp [hi]
theorem feed_burst (l : List UInt8) (start : Nat) (change : BitVec 32) (r : BitVec 32) (hs : start + 32 ≤ 8 * l.length) (k : Nat) : k ≤ 32 →
    feed r (burst l start change k) = feed r l ^^^ stepN (8 * l.length - start) (lowBits change k) := by
  induction k with
  | zero => intro _; simp [burst, lowBits, stepN_zero]
  | succ k ih =>
    intro hk
    unfold burst lowBits
    by_cases h : change.getLsbD k = true
    · rw [if_pos h, if_pos h, feed_flip _ _ _ (by rw [burst_length]; omega), ih (by omega), burst_length, stepN_xor, BitVec.xor_assoc]
      congr 2
      rw [show 8 * l.length - start = k + (8 * l.length - (start + k)) by omega, stepN_add, stepN_one_shl k (by omega)]
    · rw [if_neg h, if_neg h, ih (by omega), BitVec.xor_zero]
/-- P2.5: a burst is noticed -/
theorem burst_noticed (l : List UInt8) (start : Nat) (change : BitVec 32) (hs : start + 32 ≤ 8 * l.length) (hc : change ≠ 0#32) (r : BitVec 32) :
    feed r (burst l start change 32) ≠ feed r l := by
  rw [feed_burst l start change r hs 32 (by omega), lowBits_all]
  intro h
  have h1 : stepN (8 * l.length - start) change = 0#32 := by
    rw [xor_cancel h, BitVec.xor_self]
  apply hc
  apply stepN_inj (n := 8 * l.length - start)
  rw [h1, stepN_zero]
/-- sealed bytes, by their register -/
def sealOf (l : List UInt8) : List UInt8 := l ++ little (sum l)
def isSealed (l : List UInt8) : Bool := decide (4 ≤ l.length) && decide (sealOf (l.take (l.length - 4)) = l)
theorem four_of_length {l : List UInt8} (h : l.length = 4) : ∃ a b c d, l = [a, b, c, d] := by
  match l, h with
  | [a, b, c, d], _ => exact ⟨a, b, c, d, rfl⟩
theorem isSealed_iff (l : List UInt8) (h : 4 ≤ l.length) : isSealed l = true ↔ feed ones l = stepN 32 ones := by
  obtain ⟨a, b, c, d, hd⟩ := four_of_length (l := l.drop (l.length - 4)) (by simp; omega)
  have hl : l = l.take (l.length - 4) ++ [a, b, c, d] := by rw [← hd, List.take_append_drop]
  have hf := feed_sealed (l.take (l.length - 4)) a b c d
  rw [← hl] at hf
  rw [← hf]
  unfold isSealed sealOf
  simp only [h, decide_true, Bool.true_and, decide_eq_true_eq]
  constructor
  · intro e
    have e2 : l.take (l.length - 4) ++ little (sum (l.take (l.length - 4))) = l.take (l.length - 4) ++ [a, b, c, d] := by rw [e, ← hl]
    exact List.append_cancel_left e2
  · intro e; rw [e, ← hl]
theorem sealOf_length (l : List UInt8) : (sealOf l).length = l.length + 4 := by unfold sealOf little; simp
theorem isSealed_of (l : List UInt8) : isSealed (sealOf l) = true := by
  unfold isSealed
  rw [sealOf_length]
  have : (sealOf l).take (l.length + 4 - 4) = l := by unfold sealOf; simp
  rw [this]; simp
theorem burst_not_sealed (l : List UInt8) (start : Nat) (change : BitVec 32) (hs : start + 32 ≤ 8 * (sealOf l).length) (hc : change ≠ 0#32) :
    isSealed (burst (sealOf l) start change 32) = false := by
  have h4 : 4 ≤ (sealOf l).length := by rw [sealOf_length]; omega
  have h1 := (isSealed_iff (sealOf l) h4).1 (isSealed_of l)
  have h2 := burst_noticed (sealOf l) start change hs hc ones
  cases h : isSealed (burst (sealOf l) start change 32) with
  | false => rfl
  | true => exact absurd ((isSealed_iff _ (by rw [burst_length]; exact h4)).1 h |>.trans h1.symm) h2
end Go.Proofs.Ytkpdeldegdngaaa.CrcP

/-
  Plain mathematics of the checksum: the register is a linear machine; parts, sealed bytes, bursts, forging.
-/
namespace Go.Proofs.Ytkpdeldegdngaaa.CrcP

def poly : BitVec 32 := 0xEDB88320#32
/-- one step of the register -/
def step (r : BitVec 32) : BitVec 32 := (r >>> 1) ^^^ (if r.getLsbD 0 then poly else 0#32)
def unstep (r : BitVec 32) : BitVec 32 := if r.getLsbD 31 then ((r ^^^ poly) <<< 1) ||| 1#32 else r <<< 1
def stepN : Nat → BitVec 32 → BitVec 32
  | 0, r => r
  | n + 1, r => stepN n (step r)
def unstepN : Nat → BitVec 32 → BitVec 32
  | 0, r => r
  | n + 1, r => unstepN n (unstep r)
def byte (c : UInt8) : BitVec 32 := c.toBitVec.setWidth 32
def upd (r : BitVec 32) (c : UInt8) : BitVec 32 := stepN 8 (r ^^^ byte c)
def feed (r : BitVec 32) (l : List UInt8) : BitVec 32 := l.foldl upd r
def sum (l : List UInt8) : BitVec 32 := ~~~ (feed (~~~ 0#32) l)

theorem ite_xor (a b : Bool) (p : BitVec 32) : (if (a ^^ b) = true then p else 0#32) = (if a = true then p else 0#32) ^^^ (if b = true then p else 0#32) := by
  cases a <;> cases b <;> simp

theorem step_xor (a b : BitVec 32) : step (a ^^^ b) = step a ^^^ step b := by
  unfold step
  rw [BitVec.getLsbD_xor, ite_xor, BitVec.ushiftRight_xor_distrib]
  simp only [BitVec.xor_assoc]
  congr 1
  rw [← BitVec.xor_assoc, ← BitVec.xor_assoc, BitVec.xor_comm (b >>> 1)]

theorem step_zero : step 0#32 = 0#32 := by decide
theorem stepN_xor (n : Nat) : ∀ a b : BitVec 32, stepN n (a ^^^ b) = stepN n a ^^^ stepN n b := by
  induction n with
  | zero => intro a b; rfl
  | succ n ih => intro a b; simp only [stepN, step_xor, ih]
theorem stepN_zero (n : Nat) : stepN n 0#32 = 0#32 := by
  induction n with
  | zero => rfl
  | succ n ih => simp only [stepN, step_zero, ih]
theorem stepN_add (m n : Nat) : ∀ r, stepN (m + n) r = stepN n (stepN m r) := by
  induction m with
  | zero => intro r; simp [stepN]
  | succ m ih => intro r; rw [Nat.add_right_comm]; simp only [stepN]; exact ih _
theorem stepN_succ' (n : Nat) (r : BitVec 32) : stepN (n + 1) r = step (stepN n r) := by
  rw [stepN_add n 1]; rfl
theorem unstepN_add (m n : Nat) : ∀ r, unstepN (m + n) r = unstepN n (unstepN m r) := by
  induction m with
  | zero => intro r; simp [unstepN]
  | succ m ih => intro r; rw [Nat.add_right_comm]; simp only [unstepN]; exact ih _

theorem msb_step (r : BitVec 32) : (step r).getLsbD 31 = r.getLsbD 0 := by
  unfold step
  by_cases h : r.getLsbD 0 = true
  · rw [if_pos h, h]; simp [poly]
  · rw [if_neg h]; simp only [Bool.not_eq_true] at h; rw [h]; simp

theorem unstep_step (r : BitVec 32) : unstep (step r) = r := by
  unfold unstep
  rw [msb_step]
  by_cases h : r.getLsbD 0 = true
  · rw [if_pos h]
    unfold step
    rw [if_pos h, BitVec.xor_assoc, BitVec.xor_self, BitVec.xor_zero]
    apply BitVec.eq_of_getLsbD_eq
    intro i hi
    by_cases h0 : i = 0
    · subst h0; simp [h]
    · have : 1 + (i - 1) = i := by omega
      simp [hi, this, h0]
  · rw [if_neg h]
    unfold step
    rw [if_neg h, BitVec.xor_zero]
    apply BitVec.eq_of_getLsbD_eq
    intro i hi
    by_cases h0 : i = 0
    · subst h0; simp at h; simp [h]
    · have : 1 + (i - 1) = i := by omega
      simp [hi, this, h0]

theorem step_unstep (r : BitVec 32) : step (unstep r) = r := by
  unfold unstep
  by_cases h : r.getLsbD 31 = true
  · rw [if_pos h]
    have hx : (r ^^^ poly).getLsbD 31 = false := by rw [BitVec.getLsbD_xor, h]; decide
    unfold step
    rw [if_pos (by simp)]
    have e : (((r ^^^ poly) <<< 1) ||| 1#32) >>> 1 = r ^^^ poly := by
      apply BitVec.eq_of_getLsbD_eq
      intro i hi
      by_cases h1 : i = 31
      · subst h1; rw [hx]; simp
      · have h2 : 1 + i < 32 := by omega
        rw [BitVec.getLsbD_ushiftRight, BitVec.getLsbD_or, BitVec.getLsbD_shiftLeft]
        have h4 : (1#32).getLsbD (1 + i) = false := by simp
        rw [h4]
        simp [h2, show ¬ 1 + i < 1 by omega]
    rw [e, BitVec.xor_assoc, BitVec.xor_self, BitVec.xor_zero]
  · rw [if_neg h]
    simp only [Bool.not_eq_true] at h
    unfold step
    have e0 : (r <<< 1).getLsbD 0 = false := by simp
    rw [e0]
    simp only [Bool.false_eq_true, if_false, BitVec.xor_zero]
    apply BitVec.eq_of_getLsbD_eq
    intro i hi
    by_cases h1 : i = 31
    · subst h1; rw [h]; simp
    · have h2 : 1 + i < 32 := by omega
      rw [BitVec.getLsbD_ushiftRight, BitVec.getLsbD_shiftLeft]
      simp [h2, show ¬ 1 + i < 1 by omega]

theorem unstepN_stepN (n : Nat) : ∀ r, unstepN n (stepN n r) = r := by
  induction n with
  | zero => intro r; rfl
  | succ n ih => intro r; rw [stepN_succ', unstepN, unstep_step, ih]
theorem unstepN_succ' (n : Nat) (r : BitVec 32) : unstepN (n + 1) r = unstep (unstepN n r) := by
  rw [unstepN_add n 1]; rfl
theorem stepN_unstepN (n : Nat) : ∀ r, stepN n (unstepN n r) = r := by
  induction n with
  | zero => intro r; rfl
  | succ n ih => intro r; rw [unstepN_succ', stepN, step_unstep, ih]
theorem stepN_inj {n : Nat} {a b : BitVec 32} (h : stepN n a = stepN n b) : a = b := by
  rw [← unstepN_stepN n a, h, unstepN_stepN]

-- linearity of the fold
theorem feed_nil (r : BitVec 32) : feed r [] = r := rfl
theorem feed_cons (r : BitVec 32) (c : UInt8) (l : List UInt8) : feed r (c :: l) = feed (upd r c) l := rfl
theorem feed_append (r : BitVec 32) (a b : List UInt8) : feed r (a ++ b) = feed (feed r a) b := by
  unfold feed; exact List.foldl_append
theorem upd_xor (r s : BitVec 32) (c : UInt8) : upd (r ^^^ s) c = upd r c ^^^ stepN 8 s := by
  unfold upd
  rw [← stepN_xor]
  congr 1
  rw [BitVec.xor_assoc, BitVec.xor_assoc, BitVec.xor_comm s]
theorem feed_xor (l : List UInt8) : ∀ r s : BitVec 32, feed (r ^^^ s) l = feed r l ^^^ stepN (8 * l.length) s := by
  induction l with
  | nil => intro r s; simp [feed, stepN]
  | cons c l ih =>
    intro r s
    rw [feed_cons, feed_cons, upd_xor, ih, ← stepN_add, List.length_cons]
    congr 2
    omega

-- the table
theorem step_shl (z : BitVec 32) (h : z.getLsbD 31 = false) : step (z <<< 1) = z := by
  have : z <<< 1 = unstep z := by unfold unstep; rw [h]; simp
  rw [this, step_unstep]
theorem stepN_shl (n : Nat) : ∀ z : BitVec 32, (∀ i, 32 - n ≤ i → z.getLsbD i = false) → n ≤ 32 → stepN n (z <<< n) = z := by
  induction n with
  | zero => intro z _ _; simp [stepN]
  | succ n ih =>
    intro z hz hn
    rw [stepN]
    have e : z <<< (n + 1) = (z <<< n) <<< 1 := by rw [BitVec.shiftLeft_add]
    rw [e, step_shl]
    · exact ih z (fun i hi => hz i (by omega)) (by omega)
    · rw [BitVec.getLsbD_shiftLeft]
      have := hz (31 - n) (by omega)
      simp [this]
/-- the byte step by the table -/
theorem stepN8_split (x : BitVec 32) : stepN 8 x = (x >>> 8) ^^^ stepN 8 (x &&& 255#32) := by
  have e : x = ((x >>> 8) <<< 8) ^^^ (x &&& 255#32) := by
    apply BitVec.eq_of_getLsbD_eq
    intro i hi
    rw [BitVec.getLsbD_xor, BitVec.getLsbD_shiftLeft, BitVec.getLsbD_ushiftRight, BitVec.getLsbD_and]
    have h255 : (255#32).getLsbD i = decide (i < 8) := by
      have : ∀ j : Fin 32, (255#32).getLsbD j.val = decide (j.val < 8) := by decide
      exact this ⟨i, hi⟩
    rw [h255]
    by_cases h : i < 8
    · simp [h]
    · have : 8 + (i - 8) = i := by omega
      simp [h, hi, this]
  conv => lhs; rw [e]
  rw [stepN_xor, stepN_shl 8 (x >>> 8) _ (by omega)]
  intro i hi
  rw [BitVec.getLsbD_ushiftRight]
  exact BitVec.getLsbD_of_ge _ _ (by omega)

-- products
def unit : BitVec 32 := 0x80000000#32
/-- the product, from bit k - 1 down: a's bits 0 .. k-1; b is shifted once a bit -/
def mulFrom (a : BitVec 32) : Nat → BitVec 32 → BitVec 32 → BitVec 32
  | 0, _, out => out
  | k + 1, b, out => mulFrom a k (step b) (if a.getLsbD k then out ^^^ b else out)
def mul (a b : BitVec 32) : BitVec 32 := mulFrom a 32 b 0#32

theorem mulFrom_acc (a : BitVec 32) (k : Nat) : ∀ b out, mulFrom a k b out = out ^^^ mulFrom a k b 0#32 := by
  induction k with
  | zero => intro b out; simp [mulFrom]
  | succ k ih =>
    intro b out
    by_cases h : a.getLsbD k = true
    · simp only [mulFrom, h, if_true]
      rw [ih (step b) (out ^^^ b), ih (step b) (0#32 ^^^ b), BitVec.zero_xor, BitVec.xor_assoc]
    · simp only [mulFrom, h]
      rw [if_neg (by simp), if_neg (by simp), ih (step b) out]
theorem mulFrom_step (a : BitVec 32) (k : Nat) : ∀ b, mulFrom a k (step b) 0#32 = step (mulFrom a k b 0#32) := by
  induction k with
  | zero => intro b; simp [mulFrom, step_zero]
  | succ k ih =>
    intro b
    by_cases h : a.getLsbD k = true
    · simp only [mulFrom, h, if_true]
      rw [mulFrom_acc a k (step (step b)), mulFrom_acc a k (step b) (0#32 ^^^ b), step_xor, ih (step b), BitVec.zero_xor, BitVec.zero_xor]
    · simp only [mulFrom, h]
      rw [if_neg (by simp), if_neg (by simp), ih (step b)]
theorem mulFrom_stepN (a : BitVec 32) (k n : Nat) : ∀ b, mulFrom a k (stepN n b) 0#32 = stepN n (mulFrom a k b 0#32) := by
  induction n with
  | zero => intro b; rfl
  | succ n ih => intro b; rw [stepN, ih, mulFrom_step, stepN]
/-- the unit: the bits come back -/
theorem mulFrom_bits (a : BitVec 32) (k : Nat) : k ≤ 32 → ∀ i, (mulFrom a k (BitVec.twoPow 32 (k - 1)) 0#32).getLsbD i = (decide (i < k) && a.getLsbD i) := by
  induction k with
  | zero => intro _ i; simp [mulFrom]
  | succ k ih =>
    intro hk i
    rw [mulFrom, mulFrom_acc]
    have hs : mulFrom a k (step (BitVec.twoPow 32 k)) 0#32 = mulFrom a k (BitVec.twoPow 32 (k - 1)) 0#32 := by
      by_cases h0 : k = 0
      · subst h0; rfl
      · congr 1
        have e : BitVec.twoPow 32 k = BitVec.twoPow 32 (k - 1) <<< 1 := by
          apply BitVec.eq_of_getLsbD_eq
          intro i hi
          rw [BitVec.getLsbD_shiftLeft]
          simp only [BitVec.getLsbD_twoPow]
          by_cases h1 : i = k
          · subst h1; simp [hi, show ¬ i < 1 by omega]; omega
          · have : ¬ (k = i) := fun e => h1 e.symm
            by_cases h2 : i < 1
            · simp [this, h2]
            · simp [this, h2]; omega
        rw [e, step_shl]
        rw [BitVec.getLsbD_twoPow]; simp; omega
    rw [Nat.add_sub_cancel, hs, BitVec.getLsbD_xor, ih (by omega)]
    by_cases h : a.getLsbD k = true
    · simp only [h, if_true, BitVec.zero_xor, BitVec.getLsbD_twoPow]
      by_cases h1 : k = i
      · subst h1; simp [h]; omega
      · have h2 : (i < k + 1) ↔ (i < k) := by omega
        simp [h1, h2]
    · simp only [Bool.not_eq_true] at h
      simp only [h, Bool.false_eq_true, if_false, BitVec.getLsbD_zero]
      by_cases h1 : k = i
      · subst h1; simp [h]
      · have h2 : (i < k + 1) ↔ (i < k) := by omega
        simp [h2]
theorem mul_unit (a : BitVec 32) : mul a unit = a := by
  unfold mul
  apply BitVec.eq_of_getLsbD_eq
  intro i hi
  have e : unit = BitVec.twoPow 32 (32 - 1) := by decide
  rw [e, mulFrom_bits a 32 (by omega)]
  simp [hi]
theorem mul_stepN (a : BitVec 32) (n : Nat) : mul a (stepN n unit) = stepN n a := by
  unfold mul
  rw [mulFrom_stepN]
  have := mul_unit a
  unfold mul at this
  rw [this]
theorem mul_pows (m n : Nat) : mul (stepN m unit) (stepN n unit) = stepN (m + n) unit := by
  rw [mul_stepN, stepN_add]

/-- the sum of two parts -/
theorem sum_append (a b : List UInt8) : sum (a ++ b) = stepN (8 * b.length) (sum a) ^^^ sum b := by
  unfold sum
  rw [feed_append]
  have e : feed (~~~ 0#32) a = (~~~ 0#32) ^^^ (~~~ feed (~~~ 0#32) a) := by
    generalize feed (~~~ 0#32) a = x
    rw [← BitVec.allOnes_xor (x := x)]
    rw [show (~~~ 0#32) = BitVec.allOnes 32 by decide, ← BitVec.xor_assoc, BitVec.xor_self, BitVec.zero_xor]
  conv => lhs; rw [e]
  rw [feed_xor]
  generalize feed (~~~0#32) b = y
  generalize stepN (8 * b.length) _ = z
  apply BitVec.eq_of_getLsbD_eq; intro i hi
  simp [hi]
  cases y[i] <;> cases z[i] <;> rfl
end Go.Proofs.Ytkpdeldegdngaaa.CrcP

/- Numbers in bytes, and the sum of bytes, in plain Lean: what is written is read; unlike numbers are unlike bytes; one byte that is changed changes the sum. No program here. Conditions: none. -/
namespace Go.Proofs.Ytifldkcfbggkeaa

/-- A number's bytes. -/
def putU (u : Nat) : List UInt8 := if u < 128 then [UInt8.ofNat u] else UInt8.ofNat (u % 128 + 128) :: putU (u / 128)
termination_by u

theorem putU_small {u : Nat} (h : u < 128) : putU u = [UInt8.ofNat u] := by rw [putU, if_pos h]
theorem putU_big {u : Nat} (h : ¬ u < 128) : putU u = UInt8.ofNat (u % 128 + 128) :: putU (u / 128) := by rw [putU, if_neg h]

theorem putU_len (k : Nat) : ∀ u, u < 128 ^ (k + 1) → (putU u).length ≤ k + 1 := by
  induction k with
  | zero => intro u h; rw [putU_small (by omega)]; simp
  | succ k ih =>
    intro u h
    by_cases hu : u < 128
    · rw [putU_small hu]; simp
    · rw [putU_big hu]
      have := ih (u / 128) (by rw [Nat.div_lt_iff_lt_mul (by omega)]; rw [Nat.pow_succ] at h; exact h)
      simp; omega
theorem putU_ten {u : Nat} (h : u < 18446744073709551616) : (putU u).length ≤ 10 := putU_len 9 u (Nat.lt_of_lt_of_le h (by decide))
theorem putU_pos (u : Nat) : 1 ≤ (putU u).length := by
  rw [putU]; split <;> simp

theorem putU_mono (k : Nat) : ∀ a b, a ≤ b → b < 128 ^ (k + 1) → (putU a).length ≤ (putU b).length := by
  induction k with
  | zero => intro a b h hb; rw [putU_small (by omega), putU_small (by omega)]; simp
  | succ k ih =>
    intro a b h hb
    by_cases ha : a < 128
    · rw [putU_small ha]; exact putU_pos b
    · rw [putU_big ha, putU_big (show ¬ b < 128 by omega)]
      have := ih (a / 128) (b / 128) (Nat.div_le_div_right h) (by rw [Nat.div_lt_iff_lt_mul (by omega)]; rw [Nat.pow_succ] at hb; exact hb)
      simp; omega

/-- A number is read, byte i being the next. -/
def rdU (i acc : Nat) : List UInt8 → Option (Nat × List UInt8)
  | [] => none
  | x :: r =>
    if i = 9 ∧ 1 < x.toNat then none
    else if 128 ≤ x.toNat then rdU (i + 1) (acc + x.toNat % 128 * 2 ^ (7 * i)) r
    else if x.toNat = 0 ∧ 0 < i then none
    else some (acc + x.toNat % 128 * 2 ^ (7 * i), r)

theorem rdU_put (k : Nat) : ∀ (i acc u : Nat) (r : List UInt8), i + k = 9 → u < 2 ^ (64 - 7 * i) → (0 < i → 0 < u) → rdU i acc (putU u ++ r) = some (acc + u * 2 ^ (7 * i), r) := by
  induction k with
  | zero =>
    intro i acc u r hi hu h0
    obtain rfl : i = 9 := by omega
    have hu2 : u < 2 := by simpa using hu
    have hu1 : u = 1 := by have := h0 (by omega); omega
    subst hu1
    rw [putU_small (by omega)]
    simp [rdU]
  | succ k ih =>
    intro i acc u r hi hu h0
    by_cases hs : u < 128
    · rw [putU_small hs]
      have e : (UInt8.ofNat u).toNat = u := by simp; omega
      simp only [List.singleton_append, rdU, e]
      rw [if_neg (by omega), if_neg (by omega), if_neg (by rintro ⟨h1, h2⟩; have := h0 h2; omega), Nat.mod_eq_of_lt hs]
    · rw [putU_big hs]
      have e : (UInt8.ofNat (u % 128 + 128)).toNat = u % 128 + 128 := by simp; omega
      simp only [List.cons_append, rdU, e]
      rw [if_neg (by omega), if_pos (by omega)]
      have h64 : 64 - 7 * i = (64 - 7 * (i + 1)) + 7 := by omega
      have hlt : u / 128 < 2 ^ (64 - 7 * (i + 1)) := by
        rw [Nat.div_lt_iff_lt_mul (by omega)]
        rw [h64, Nat.pow_add] at hu
        exact hu
      rw [ih (i + 1) _ _ r (by omega) hlt (fun _ => by omega)]
      congr 2
      have e2 : (u % 128 + 128) % 128 = u % 128 := by omega
      have e3 : 2 ^ (7 * (i + 1)) = 128 * 2 ^ (7 * i) := by rw [show 7 * (i + 1) = 7 + 7 * i by omega, Nat.pow_add]
      rw [e2, e3, Nat.add_assoc, ← Nat.mul_assoc, ← Nat.add_mul]
      congr 2
      omega

theorem rd_put {u : Nat} (h : u < 18446744073709551616) (r : List UInt8) : rdU 0 0 (putU u ++ r) = some (u, r) := by
  have := rdU_put 9 0 0 u r rfl (by simpa using h) (by omega)
  simpa using this

/-- Unlike numbers: none the beginning of the other. -/
theorem putU_apart {a b : Nat} (ha : a < 18446744073709551616) (hb : b < 18446744073709551616) (n : Nat) (h1 : n ≤ (putU a).length) (h2 : n ≤ (putU b).length) (hn : n = (putU a).length ∨ n = (putU b).length)
    (h : (putU a).take n = (putU b).take n) : a = b := by
  rcases hn with rfl | rfl
  · rw [List.take_length] at h
    have e : putU b = putU a ++ (putU b).drop (putU a).length := by
      conv => lhs; rw [← List.take_append_drop (putU a).length (putU b)]
      rw [← h]
    have q1 := rd_put ha ((putU b).drop (putU a).length)
    have q2 := rd_put hb []
    rw [← e] at q1
    rw [List.append_nil, q1] at q2
    simp at q2
    exact q2.1
  · rw [List.take_length] at h
    have e : putU a = putU b ++ (putU a).drop (putU b).length := by
      conv => lhs; rw [← List.take_append_drop (putU b).length (putU a)]
      rw [h]
    have q1 := rd_put hb ((putU a).drop (putU b).length)
    have q2 := rd_put ha []
    rw [← e] at q1
    rw [List.append_nil, q1] at q2
    simp at q2
    exact q2.1.symm

/-- A number with a sign as one without. -/
def zig (v : Int) : Nat := if 0 ≤ v then (2 * v).toNat else (2 * (-(v + 1)) + 1).toNat
def unzig (u : Nat) : Int := if u % 2 = 0 then ((u / 2 : Nat) : Int) else -((u / 2 : Nat) : Int) - 1
theorem unzig_zig (v : Int) : unzig (zig v) = v := by unfold zig unzig; split <;> split <;> omega
theorem zig_lt {v : Int} (h1 : -9223372036854775808 ≤ v) (h2 : v ≤ 9223372036854775807) : zig v < 18446744073709551616 := by unfold zig; split <;> omega

theorem xor_ones (n a : Nat) (h : a < 2 ^ n) : a ^^^ (2 ^ n - 1) = 2 ^ n - (a + 1) := by
  apply Nat.eq_of_testBit_eq
  intro i
  rw [Nat.testBit_xor, Nat.testBit_two_pow_sub_one, Nat.testBit_two_pow_sub_succ h]
  by_cases hi : i < n
  · simp [hi]
  · have : a.testBit i = false := Nat.testBit_lt_two_pow (Nat.lt_of_lt_of_le h (Nat.pow_le_pow_right (by omega) (by omega)))
    simp [hi, this]

/-! ### The sum -/
def crcP : Nat := 3988292384
def crcBit (s : Nat) : Nat := if s % 2 = 1 then s / 2 ^^^ crcP else s / 2
def crcN : Nat → Nat → Nat
  | 0, s => s
  | k + 1, s => crcN k (crcBit s)
def crcByte (s : Nat) (x : UInt8) : Nat := crcN 8 (s ^^^ x.toNat)
def crcAll (s : Nat) (l : List UInt8) : Nat := l.foldl crcByte s
def sumOf (l : List UInt8) : Nat := 4294967295 - crcAll 4294967295 l

theorem crcBit_lt {s : Nat} (h : s < 4294967296) : crcBit s < 4294967296 := by
  unfold crcBit
  split
  · exact Nat.xor_lt_two_pow (n := 32) (by omega) (by decide)
  · omega
theorem crcN_lt (k : Nat) : ∀ s, s < 4294967296 → crcN k s < 4294967296 := by
  induction k with
  | zero => intro s h; exact h
  | succ k ih => intro s h; exact ih _ (crcBit_lt h)
theorem crcByte_lt {s : Nat} (x : UInt8) (h : s < 4294967296) : crcByte s x < 4294967296 :=
  crcN_lt 8 _ (Nat.xor_lt_two_pow (n := 32) h (by have := x.toNat_lt; omega))
theorem crcAll_lt (l : List UInt8) : ∀ s, s < 4294967296 → crcAll s l < 4294967296 := by
  induction l with
  | nil => intro s h; exact h
  | cons x r ih => intro s h; exact ih _ (crcByte_lt x h)

theorem crcBit_hi {s : Nat} (h : s < 4294967296) : crcBit s / 2147483648 = s % 2 := by
  unfold crcBit
  split
  · rename_i h1
    have e : (s / 2 ^^^ crcP) / 2 ^ 31 = s / 2 / 2 ^ 31 ^^^ crcP / 2 ^ 31 := by
      rw [← Nat.shiftRight_eq_div_pow, ← Nat.shiftRight_eq_div_pow, ← Nat.shiftRight_eq_div_pow, Nat.shiftRight_xor_distrib]
    have e1 : s / 2 / 2 ^ 31 = 0 := by omega
    rw [e1] at e
    have e2 : crcP / 2 ^ 31 = 1 := by decide
    rw [e2] at e
    simp at e
    omega
  · omega
theorem crcBit_inj {s t : Nat} (hs : s < 4294967296) (ht : t < 4294967296) (h : crcBit s = crcBit t) : s = t := by
  have e1 := crcBit_hi hs
  have e2 := crcBit_hi ht
  rw [h] at e1
  have e3 : s % 2 = t % 2 := e1.symm.trans e2
  have e4 : s / 2 = t / 2 := by
    unfold crcBit at h
    by_cases h1 : s % 2 = 1
    · rw [if_pos h1, if_pos (by omega)] at h
      have := congrArg (· ^^^ crcP) h
      simpa [Nat.xor_assoc] using this
    · rw [if_neg h1, if_neg (by omega)] at h
      exact h
  omega
theorem crcN_inj (k : Nat) : ∀ s t, s < 4294967296 → t < 4294967296 → crcN k s = crcN k t → s = t := by
  induction k with
  | zero => intro s t _ _ h; exact h
  | succ k ih => intro s t hs ht h; exact crcBit_inj hs ht (ih _ _ (crcBit_lt hs) (crcBit_lt ht) h)
theorem crcByte_inj {s t : Nat} {x y : UInt8} (hs : s < 4294967296) (ht : t < 4294967296) (h : crcByte s x = crcByte t y) : s ^^^ x.toNat = t ^^^ y.toNat :=
  crcN_inj 8 _ _ (Nat.xor_lt_two_pow (n := 32) hs (by have := x.toNat_lt; omega)) (Nat.xor_lt_two_pow (n := 32) ht (by have := y.toNat_lt; omega)) h
theorem crcAll_inj (l : List UInt8) : ∀ s t, s < 4294967296 → t < 4294967296 → crcAll s l = crcAll t l → s = t := by
  induction l with
  | nil => intro s t _ _ h; exact h
  | cons x r ih =>
    intro s t hs ht h
    have := ih _ _ (crcByte_lt x hs) (crcByte_lt x ht) h
    have := congrArg (· ^^^ x.toNat) (crcByte_inj hs ht this)
    simpa [Nat.xor_assoc] using this
theorem crcAll_append (l r : List UInt8) (s : Nat) : crcAll s (l ++ r) = crcAll (crcAll s l) r := by simp [crcAll]

/-- One byte that is changed changes the sum. -/
theorem sum_changed (l r : List UInt8) (x y : UInt8) (h : x ≠ y) : sumOf (l ++ x :: r) ≠ sumOf (l ++ y :: r) := by
  intro e
  unfold sumOf at e
  have b1 := crcAll_lt (l ++ x :: r) 4294967295 (by omega)
  have b2 := crcAll_lt (l ++ y :: r) 4294967295 (by omega)
  have e1 : crcAll 4294967295 (l ++ x :: r) = crcAll 4294967295 (l ++ y :: r) := by omega
  rw [crcAll_append, crcAll_append] at e1
  have hl := crcAll_lt l 4294967295 (by omega)
  have e2 := crcAll_inj r _ _ (crcByte_lt x hl) (crcByte_lt y hl) e1
  have e3 := congrArg (crcAll 4294967295 l ^^^ ·) (crcByte_inj hl hl e2)
  simp only [← Nat.xor_assoc, Nat.xor_self, Nat.zero_xor] at e3
  exact h (UInt8.toNat_inj.1 e3)

/-- The reference's way: bit by bit off the byte. -/
def refBit (x k c : Nat) : Nat := if (c ^^^ x / 2 ^ k) % 2 = 1 then c / 2 ^^^ crcP else c / 2
def refN (x : Nat) : Nat → Nat → Nat
  | 0, c => c
  | k + 1, c => refBit x k (refN x k c)

theorem crcN_last (k : Nat) : ∀ s, crcN (k + 1) s = crcBit (crcN k s) := by
  induction k with
  | zero => intro s; rfl
  | succ k ih => intro s; exact ih (crcBit s)

theorem refN_crc (x k c : Nat) : crcN k (c ^^^ x) = refN x k c ^^^ x / 2 ^ k := by
  induction k with
  | zero => simp [crcN, refN]
  | succ k ih =>
    rw [crcN_last, ih]
    have d : ∀ a b : Nat, (a ^^^ b) / 2 = a / 2 ^^^ b / 2 := fun a b => by
      have := @Nat.shiftRight_xor_distrib 1 a b
      simpa [Nat.shiftRight_eq_div_pow] using this
    have e : x / 2 ^ (k + 1) = x / 2 ^ k / 2 := by rw [Nat.pow_succ, Nat.div_div_eq_div_mul]
    simp only [refN, refBit, crcBit, e, d]
    split
    · rw [Nat.xor_assoc, Nat.xor_assoc, Nat.xor_comm (x / 2 ^ k / 2)]
    · rfl
theorem refN_byte (c : Nat) (x : UInt8) : refN x.toNat 8 c = crcByte c x := by
  unfold crcByte
  rw [refN_crc]
  have : x.toNat / 2 ^ 8 = 0 := by have := x.toNat_lt; omega
  rw [this, Nat.xor_zero]
end Go.Proofs.Ytifldkcfbggkeaa

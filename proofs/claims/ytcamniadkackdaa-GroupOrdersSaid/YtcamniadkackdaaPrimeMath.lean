/- The plain arithmetic of the numbers modulo P: no program stands here. -/
import Derived.Test.YtcamniadkackdaaWords
namespace Go.Proofs.Ytcamniadkackdaa

/-- P = 2^61 - 1. -/
def Pn : Nat := 2305843009213693951
theorem Pn_pos : 0 < Pn := by decide
def mulP (a b : Nat) : Nat := a * b % Pn
def addP (a b : Nat) : Nat := (a + b) % Pn
def subP (a b : Nat) : Nat := (a % Pn + (Pn - b % Pn)) % Pn
def powP (a n : Nat) : Nat := a ^ n % Pn
theorem mod_lt (a : Nat) : a % Pn < Pn := Nat.mod_lt _ Pn_pos
theorem mod_lt' (a : Nat) : a % Pn < 2305843009213693951 := mod_lt a
/-- 128 bits as a number below P. -/
theorem whole_eq (x : Nat) (hx : x < 340282366920938463463374607431768211456) :
    ((x % 18446744073709551616) % 2305843009213693952 + (x / 2305843009213693952) % 2305843009213693952 + x / 5316911983139663491615228241121378304) % 2305843009213693951 = x % 2305843009213693951 := by
  have h1 : x % 18446744073709551616 % 2305843009213693952 = x % 2305843009213693952 := Nat.mod_mod_of_dvd x (by decide)
  have h2 : x / 5316911983139663491615228241121378304 = x / 2305843009213693952 / 2305843009213693952 := by rw [Nat.div_div_eq_div_mul]
  rw [h1, h2]
  generalize hy : x / 2305843009213693952 = y
  have hx2 : x = 2305843009213693952 * y + x % 2305843009213693952 := by rw [← hy]; exact (Nat.div_add_mod _ _).symm
  generalize x % 2305843009213693952 = r at *
  have hy2 : y = 2305843009213693952 * (y / 2305843009213693952) + y % 2305843009213693952 := (Nat.div_add_mod _ _).symm
  generalize y / 2305843009213693952 = c at *
  generalize y % 2305843009213693952 = b at *
  subst hx2 hy2
  omega
theorem mulP_mod (a b : Nat) : mulP (a % Pn) (b % Pn) = mulP a b := (Nat.mul_mod a b Pn).symm
theorem powP_fast (a n : Nat) : powP a n = if n = 0 then 1 % Pn else if n % 2 = 1 then mulP a (powP (mulP a a) (n / 2)) else powP (mulP a a) (n / 2) := by
  unfold powP mulP
  by_cases h0 : n = 0
  · subst h0; rfl
  · rw [if_neg h0, ← Nat.pow_mod, ← Nat.pow_two, ← Nat.pow_mul]
    by_cases h1 : n % 2 = 1
    · rw [if_pos h1, Nat.mul_mod, Nat.mod_mod, ← Nat.mul_mod, ← Nat.pow_succ']
      have : (2 * (n / 2)).succ = n := by omega
      rw [this]
    · rw [if_neg h1]
      have : 2 * (n / 2) = n := by omega
      rw [this]
/-- The power, reckoned by halves (for numbers of at most d bits). -/
def powD : Nat → Nat → Nat → Nat
  | 0, _, _ => 1 % Pn
  | d + 1, a, n => if n % 2 = 1 then mulP a (powD d (mulP a a) (n / 2)) else powD d (mulP a a) (n / 2)
theorem powD_eq : ∀ d a n, n < 2 ^ d → powD d a n = powP a n
  | 0, a, n, h => by
    have : n = 0 := by simpa using h
    subst this; rfl
  | d + 1, a, n, h => by
    rw [powP_fast, powD, powD_eq d _ _ (by rw [Nat.pow_succ] at h; omega)]
    by_cases h0 : n = 0
    · subst h0; simp [powP]
    · rw [if_neg h0]
end Go.Proofs.Ytcamniadkackdaa

/- P is prime, in the words that the laws need: each number that is not 0 is a power of 37, its P - 1st power is 1, and it has a number that turns it back. No program stands here. -/
import Derived.Test.YtcamniadkackdaaPrimeMath
namespace Go.Proofs.Ytcamniadkackdaa

theorem mulP_lt' (a b : Nat) : mulP a b < Pn := mod_lt _
theorem powP_zero (a : Nat) : powP a 0 = 1 := rfl
theorem powP_add (a n m : Nat) : powP a (n + m) = mulP (powP a n) (powP a m) := by
  unfold powP mulP; rw [Nat.pow_add, ← Nat.mul_mod]
theorem powP_mul (a n m : Nat) : powP a (n * m) = powP (powP a n) m := by
  unfold powP; rw [Nat.pow_mul, Nat.pow_mod]
theorem powP_one_pow (n : Nat) : powP 1 n = 1 := by unfold powP; rw [Nat.one_pow]; rfl
theorem mulP_one (a : Nat) (h : a < Pn) : mulP a 1 = a := by unfold mulP; rw [Nat.mul_one]; exact Nat.mod_eq_of_lt h
theorem one_mulP (a : Nat) (h : a < Pn) : mulP 1 a = a := by unfold mulP; rw [Nat.one_mul]; exact Nat.mod_eq_of_lt h
theorem powP_lt' (a n : Nat) : powP a n < Pn := mod_lt _
theorem powP_mod_exp (a n m : Nat) (hm : powP a m = 1) : powP a (n % m) = powP a n := by
  have h : powP a n = mulP (powP a (m * (n / m))) (powP a (n % m)) := by rw [← powP_add, Nat.div_add_mod]
  rw [h, powP_mul, hm, powP_one_pow, one_mulP _ (powP_lt' _ _)]
theorem powP_gcd (a : Nat) : ∀ m n, powP a m = 1 → powP a n = 1 → powP a (Nat.gcd m n) = 1 := by
  intro m n
  induction m, n using Nat.gcd.induction with
  | H0 n => intro _ h; rwa [Nat.gcd_zero_left]
  | H1 m n hm ih =>
    intro h1 h2
    rw [Nat.gcd_rec]
    exact ih (by rw [powP_mod_exp a n m h1]; exact h2) h1

/-- Injective from [0, n) into itself: onto it. -/
theorem onto_of_inj : ∀ (n : Nat) (f : Nat → Nat), (∀ i, i < n → f i < n) → (∀ i j, i < n → j < n → f i = f j → i = j) → ∀ y, y < n → ∃ i, i < n ∧ f i = y
  | 0, _, _, _, y, hy => absurd hy (Nat.not_lt_zero _)
  | n + 1, f, hin, hinj, y, hy => by
    by_cases hyz : f n = y
    · exact ⟨n, by omega, hyz⟩
    · have hz : ∀ i, i < n → f i ≠ f n := fun i hi e => by have := hinj i n (by omega) (by omega) e; omega
      have hg : ∀ i, i < n → (if f i = n then f n else f i) < n := by
        intro i hi
        have h1 := hin i (by omega)
        have h2 := hin n (by omega)
        have h3 := hz i hi
        split <;> omega
      have hgi : ∀ i j, i < n → j < n → (if f i = n then f n else f i) = (if f j = n then f n else f j) → i = j := by
        intro i j hi hj e
        have h1 := hz i hi
        have h2 := hz j hj
        by_cases ei : f i = n
        · by_cases ej : f j = n
          · exact hinj i j (by omega) (by omega) (by rw [ei, ej])
          · rw [if_pos ei, if_neg ej] at e; exact absurd e.symm h2
        · by_cases ej : f j = n
          · rw [if_neg ei, if_pos ej] at e; exact absurd e h1
          · rw [if_neg ei, if_neg ej] at e; exact hinj i j (by omega) (by omega) e
      have ih := onto_of_inj n (fun i => if f i = n then f n else f i) hg hgi
      by_cases hyn : y = n
      · have h2 := hin n (by omega)
        obtain ⟨i, hi, e⟩ := ih (f n) (by omega)
        by_cases ei : f i = n
        · exact ⟨i, by omega, by rw [ei, hyn]⟩
        · simp only [if_neg ei] at e; exact absurd e (hz i hi)
      · obtain ⟨i, hi, e⟩ := ih y (by omega)
        by_cases ei : f i = n
        · simp only [if_pos ei] at e; exact absurd e hyz
        · simp only [if_neg ei] at e; exact ⟨i, by omega, e⟩

/-- The primes of P - 1, each as often as it is there. -/
def facs : List Nat := [2, 3, 3, 5, 5, 7, 11, 13, 31, 41, 61, 151, 331, 1321]
def prodL (l : List Nat) : Nat := l.foldr (· * ·) 1
theorem prod_facs : prodL facs = 2305843009213693950 := by decide
def primeB (f : Nat) : Bool := decide (1 < f) && (List.range f).all fun d => decide (d < 2) || decide (f % d ≠ 0)
theorem facs_prime : ∀ f ∈ facs, primeB f = true := by decide +kernel
theorem primeB_gcd (f m : Nat) (hf : primeB f = true) : Nat.gcd m f = 1 ∨ f ∣ m := by
  simp only [primeB, Bool.and_eq_true, decide_eq_true_eq] at hf
  have h1 := Nat.gcd_dvd_right m f
  have h2 := Nat.le_of_dvd (by omega) h1
  have h3 : 0 < Nat.gcd m f := Nat.gcd_pos_of_pos_right m (by omega)
  by_cases he : Nat.gcd m f = f
  · exact Or.inr (he ▸ Nat.gcd_dvd_left m f)
  · have h4 := List.all_eq_true.1 hf.2 (Nat.gcd m f) (List.mem_range.2 (by omega))
    simp only [Bool.or_eq_true, decide_eq_true_eq] at h4
    rcases h4 with h4 | h4
    · exact Or.inl (by omega)
    · exact absurd (Nat.mod_eq_zero_of_dvd h1) h4
theorem coprime_prod (m : Nat) : ∀ l : List Nat, (∀ f ∈ l, Nat.gcd m f = 1) → Nat.gcd m (prodL l) = 1
  | [], _ => Nat.gcd_one_right m
  | f :: l, h => by
    have h1 : Nat.Coprime m f := h f (by simp)
    have h2 : Nat.Coprime m (prodL l) := coprime_prod m l fun g hg => h g (List.mem_cons_of_mem _ hg)
    exact Nat.Coprime.mul_right h1 h2
/-- A divisor that is not the whole divides the whole over one of its primes. -/
theorem divisor_step (l : List Nat) (hl : ∀ f ∈ l, primeB f = true) (d : Nat) (hd : d ∣ prodL l) (hne : d ≠ prodL l) (hpos : 0 < prodL l) : ∃ f ∈ l, f ∣ prodL l / d ∧ d ∣ prodL l / f := by
  obtain ⟨m, hm⟩ := hd
  have hd0 : 0 < d := by
    rcases Nat.eq_zero_or_pos d with h | h
    · subst h; rw [Nat.zero_mul] at hm; omega
    · exact h
  have hq : prodL l / d = m := by rw [hm]; exact Nat.mul_div_cancel_left m hd0
  by_cases hall : ∀ f ∈ l, Nat.gcd m f = 1
  · have h1 := coprime_prod m l hall
    have h2 : m ∣ prodL l := ⟨d, by rw [hm, Nat.mul_comm]⟩
    rw [Nat.gcd_eq_left h2] at h1
    subst h1
    exact absurd (by rw [hm, Nat.mul_one]) hne
  · obtain ⟨f, hf⟩ := Classical.not_forall.1 hall
    obtain ⟨hfl, hg⟩ := Classical.not_imp.1 hf
    rcases primeB_gcd f m (hl f hfl) with h | h
    · exact absurd h hg
    · refine ⟨f, hfl, by rw [hq]; exact h, ?_⟩
      obtain ⟨k, rfl⟩ := h
      have hf0 : 0 < f := by
        have := hl f hfl
        simp only [primeB, Bool.and_eq_true, decide_eq_true_eq] at this
        omega
      have : prodL l = f * (d * k) := by rw [hm, ← Nat.mul_assoc, ← Nat.mul_assoc, Nat.mul_comm d f]
      rw [this, Nat.mul_div_cancel_left _ hf0]
      exact ⟨k, rfl⟩

theorem gen_one : powP 37 2305843009213693950 = 1 := by rw [← powD_eq 61 37 _ (by decide)]; decide +kernel
theorem gen_not : ∀ f ∈ facs, powP 37 (2305843009213693950 / f) ≠ 1 := by
  have h : ∀ f ∈ facs, powD 61 37 (2305843009213693950 / f) ≠ 1 := by decide +kernel
  intro f hf
  rw [← powD_eq 61 37 _ (Nat.lt_of_le_of_lt (Nat.div_le_self _ _) (by decide))]
  exact h f hf
/-- Less than P - 1 times 37 is never 1. -/
theorem gen_order (k : Nat) (h0 : 0 < k) (hk : k < 2305843009213693950) : powP 37 k ≠ 1 := by
  intro h
  have h1 := powP_gcd 37 k _ h gen_one
  have h2 : Nat.gcd k 2305843009213693950 ∣ prodL facs := by rw [prod_facs]; exact Nat.gcd_dvd_right _ _
  have h3 : Nat.gcd k 2305843009213693950 ≤ k := Nat.le_of_dvd h0 (Nat.gcd_dvd_left _ _)
  obtain ⟨f, hf, _, hd⟩ := divisor_step facs facs_prime _ h2 (by rw [prod_facs]; omega) (by rw [prod_facs]; omega)
  rw [prod_facs] at hd
  obtain ⟨c, hc⟩ := hd
  have h4 : powP 37 (2305843009213693950 / f) = 1 := by rw [hc, powP_mul, h1, powP_one_pow]
  exact gen_not f hf h4
theorem gen_back (i : Nat) (h : i ≤ 2305843009213693950) : mulP (powP 37 i) (powP 37 (2305843009213693950 - i)) = 1 := by
  rw [← powP_add, Nat.add_sub_cancel' h, gen_one]
theorem gen_pos (i : Nat) (h : i ≤ 2305843009213693950) : 0 < powP 37 i := by
  rcases Nat.eq_zero_or_pos (powP 37 i) with h0 | h0
  · have := gen_back i h
    rw [h0] at this
    unfold mulP at this
    rw [Nat.zero_mul] at this
    exact absurd this (by decide)
  · exact h0
theorem gen_inj (i j : Nat) (hij : i < j) (hj : j < 2305843009213693950) : powP 37 i ≠ powP 37 j := by
  intro e
  have h1 := gen_back i (by omega)
  rw [e, ← powP_add, show j + (2305843009213693950 - i) = 2305843009213693950 + (j - i) by omega, powP_add, gen_one, one_mulP _ (powP_lt' _ _)] at h1
  exact gen_order (j - i) (by omega) (by omega) h1
theorem gen_onto (a : Nat) (h0 : 0 < a) (ha : a < Pn) : ∃ i, powP 37 i = a := by
  have hP : Pn = 2305843009213693951 := rfl
  obtain ⟨i, _, hi⟩ := onto_of_inj 2305843009213693950 (fun i => powP 37 i - 1)
    (fun i hi => by have := powP_lt' 37 i; have := gen_pos i (by omega); omega)
    (fun i j hi hj e => by
      have h1 := gen_pos i (by omega)
      have h2 := gen_pos j (by omega)
      rcases Nat.lt_trichotomy i j with h | h | h
      · exact absurd (by omega) (gen_inj i j h hj)
      · exact h
      · exact absurd (by omega) (gen_inj j i h hi)) (a - 1) (by omega)
  have := gen_pos i (by omega)
  exact ⟨i, by omega⟩
theorem mulP_base (a b : Nat) : mulP (a % Pn) b = mulP a b := by unfold mulP; rw [Nat.mul_mod, Nat.mod_mod, ← Nat.mul_mod]
theorem powP_base' (a n : Nat) : powP (a % Pn) n = powP a n := (Nat.pow_mod a n Pn).symm
/-- The P - 1st power of what is not 0 is 1. -/
theorem fermat (a : Nat) (h : a % Pn ≠ 0) : powP a 2305843009213693950 = 1 := by
  obtain ⟨i, hi⟩ := gen_onto (a % Pn) (by omega) (mod_lt a)
  rw [← powP_base', ← hi, ← powP_mul, Nat.mul_comm, powP_mul, gen_one, powP_one_pow]
def invP (a : Nat) : Nat := powP a 2305843009213693949
theorem powP_one (a : Nat) : powP a 1 = a % Pn := by unfold powP; rw [Nat.pow_one]
theorem mulP_base_right (a b : Nat) : mulP a (b % Pn) = mulP a b := by unfold mulP; rw [Nat.mul_mod, Nat.mod_mod, ← Nat.mul_mod]
theorem inv_turns (a : Nat) (h : a % Pn ≠ 0) : mulP (invP a) a = 1 := by
  have := fermat a h
  rw [show 2305843009213693950 = 2305843009213693949 + 1 from rfl, powP_add, powP_one, mulP_base_right] at this
  exact this
theorem mulP_zero_iff (a b : Nat) : mulP a b = 0 ↔ a % Pn = 0 ∨ b % Pn = 0 := by
  constructor
  · intro h
    by_cases ha : a % Pn = 0
    · exact Or.inl ha
    · refine Or.inr ?_
      have h1 : mulP (mulP (invP a) a) b = mulP (invP a) (mulP a b) := by
        unfold mulP
        rw [Nat.mul_mod, Nat.mod_mod, ← Nat.mul_mod, Nat.mul_mod (invP a) (a * b % Pn), Nat.mod_mod, ← Nat.mul_mod, Nat.mul_assoc]
      rw [inv_turns a ha, h] at h1
      unfold mulP at h1
      rw [Nat.one_mul, Nat.mul_zero] at h1
      exact h1
  · rintro (h | h)
    · rw [← mulP_base, h]; unfold mulP; rw [Nat.zero_mul]; rfl
    · rw [← mulP_base_right, h]; unfold mulP; rw [Nat.mul_zero]; rfl
/-- One number alone turns another back. -/
theorem inv_unique (a x y : Nat) (hx : x < Pn) (hy : y < Pn) (h1 : mulP x a = 1) (h2 : mulP y a = 1) : x = y := by
  have e : mulP (mulP x a) y = mulP x (mulP y a) := by
    unfold mulP
    rw [Nat.mul_mod, Nat.mod_mod, ← Nat.mul_mod, Nat.mul_mod x (y * a % Pn), Nat.mod_mod, ← Nat.mul_mod, Nat.mul_assoc, Nat.mul_comm a y]
  rw [h1, h2, one_mulP y hy, mulP_one x hx] at e
  exact e.symm
end Go.Proofs.Ytcamniadkackdaa

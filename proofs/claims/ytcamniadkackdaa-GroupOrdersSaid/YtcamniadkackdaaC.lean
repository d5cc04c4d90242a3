/- The walks of prime's inverse and of the reference's products, powers and inverse. -/
import Derived.Test.YtcamniadkackdaaB
import Derived.Test.YtcamniadkackdaaPrimeField
namespace Go.Proofs.Ytcamniadkackdaa
open Go.RowKit

def invE (a : Nat) : Int := if a % Pn = 0 then 1 else 0
def invV (a : Nat) : Nat := if a % Pn = 0 then 0 else invP a

set_option maxHeartbeats 400000 in
theorem inv_any (a : Nat) (ha : a < 18446744073709551616) (w : World) :
    Calls Try.prog 24 #[.int .u64 a] w fun e w' => e = .returned (.tuple #[.int .u64 (invV a : Nat), .int .i64 (invE a)]) ∧ w = w' := by
  by_cases h : a % Pn = 0
  · have h1 : invV a = 0 := if_pos h
    have h2 : invE a = 1 := if_pos h
    have hH : Hid (a % Pn = 0) := h
    rw [h1, h2]
    clear h h1 h2
    go_enter Try.func24, Try.ntmps24
    go_wp2_with fail
    refine (mod_any a ha _).mono ?_
    rintro e w' ⟨rfl, rfl⟩
    rw [hH.out]
    go_wp2
    go_ret2
    exact ⟨rfl, rfl⟩
  · have h1 : invV a = invP a := if_neg h
    have h2 : invE a = 0 := if_neg h
    have hb : ((a % Pn : Nat) : Int) ≠ 0 := by omega
    have hbe : (((a % Pn : Nat) : Int) == 0) = false := by simpa using hb
    rw [h1, h2]
    clear h h1 h2 hb
    generalize hx : a % Pn = x at *
    have hX : Hid (a % Pn = x) := hx
    clear hx
    go_enter Try.func24, Try.ntmps24
    go_wp2_with fail
    refine (mod_any a ha _).mono ?_
    rintro e w' ⟨rfl, rfl⟩
    rw [hX.out]
    go_wp2_with fail
    refine (pow_any a 2305843009213693949 ha (by omega) _).mono ?_
    rintro e w' ⟨rfl, rfl⟩
    go_wp2
    go_ret2
    exact ⟨rfl, rfl⟩

/-- A bit of b, by a shift. -/
theorem shr_bit (b i : Nat) (hb : b < 18446744073709551616) : (bits .and .u64 ((b : Int) / 2 ^ i) 1 == 1) = decide (b / 2 ^ i % 2 = 1) := by
  have e : ((b : Int) / 2 ^ i) = ((b / 2 ^ i : Nat) : Int) := by simp
  have hlt : b / 2 ^ i < 18446744073709551616 := Nat.lt_of_le_of_lt (Nat.div_le_self _ _) hb
  rw [e]
  by_cases h : b / 2 ^ i % 2 = 1
  · rw [bit_yes _ hlt h, decide_eq_true h]
  · rw [bit_no _ hlt h, decide_eq_false h]
theorem half_step (b i : Nat) : b / 2 ^ i = 2 * (b / 2 ^ (i + 1)) + b / 2 ^ i % 2 := by
  have h : b / 2 ^ (i + 1) = b / 2 ^ i / 2 := by rw [Nat.pow_succ, Nat.div_div_eq_div_mul]
  rw [h]; omega
theorem mul_double (a q : Nat) : addP (mulP a q) (mulP a q) = mulP a (2 * q) := by
  unfold addP mulP
  rw [← Nat.add_mod, ← Nat.mul_add, Nat.two_mul]
theorem mul_double1 (a q : Nat) : addP (mulP a (2 * q)) a = mulP a (2 * q + 1) := by
  unfold addP mulP
  rw [Nat.mul_add, Nat.mul_one, Nat.add_mod, Nat.mod_mod, ← Nat.add_mod]

set_option maxHeartbeats 1000000 in
theorem refmul_any (a b : Nat) (ha : a < 18446744073709551616) (hb : b < 18446744073709551616) (w : World) :
    Calls Try.prog 21 #[.int .u64 a, .int .u64 b] w fun e w' => e = .returned (.int .u64 (mulP a b : Nat)) ∧ w = w' := by
  obtain ⟨x, hx, hX⟩ : ∃ x, x < 2305843009213693951 ∧ Hid (a % Pn = x) := ⟨_, mod_lt' a, rfl⟩
  obtain ⟨y, hy, hY⟩ : ∃ y, y < 2305843009213693951 ∧ Hid (b % Pn = y) := ⟨_, mod_lt' b, rfl⟩
  have e1 : (a : Int) % 2305843009213693951 = (x : Int) := by rw [← hX.out]; rfl
  have e2 : (b : Int) % 2305843009213693951 = (y : Int) := by rw [← hY.out]; rfl
  rw [← mulP_mod, hX.out, hY.out]
  have E1 : Hid ((a : Int) % 2305843009213693951 = (x : Int)) := e1
  have E2 : Hid ((b : Int) % 2305843009213693951 = (y : Int)) := e2
  clear e1 e2
  go_enter Try.func21, Try.ntmps21
  go_wp2
  rw [E1.out, E2.out]
  go_loop [5, 6] (fun o t => ∃ j : Nat, j ≤ 61 ∧ ∃ v : Int, v + 1 = j ∧ t = .int .i64 v ∧ o = .int .u64 (mulP x (y / 2 ^ j) : Nat)) (fun _ t => (intOf t + 1).toNat)
  case atStart =>
    refine ⟨61, by omega, 60, by omega, rfl, ?_⟩
    have : y / 2 ^ 61 = 0 := Nat.div_eq_of_lt (by omega)
    rw [this]; rfl
  case round =>
    obtain ⟨j, hj, v, hv, rfl, rfl⟩ := hrel
    match j, hj, hv with
    | 0, hj, hv =>
      obtain rfl : v = -1 := by omega
      go_wp2
      go_ret
      exact ⟨ret_u64 (by simp), rfl⟩
    | i + 1, hj, hv =>
      obtain rfl : v = (i : Int) := by omega
      obtain ⟨o, ho, hO⟩ : ∃ o, o < 2305843009213693951 ∧ Hid (mulP x (y / 2 ^ (i + 1)) = o) := ⟨_, mulP_lt _ _, rfl⟩
      have hO2 := hO.out
      rw [hO2]
      clear hO2
      have hbit := shr_bit y i (by omega)
      have hstep : Hid (y / 2 ^ i = 2 * (y / 2 ^ (i + 1)) + y / 2 ^ i % 2) := half_step y i
      by_cases h1 : y / 2 ^ i % 2 = 1
      · have hbit' : (bits .and .u64 ((y : Int) / 2 ^ i) 1 == 1) = true := by rw [hbit, decide_eq_true h1]
        have hH : Hid (y / 2 ^ i % 2 = 1) := h1
        clear hbit h1
        go_wp2
        refine ⟨⟨i, by omega, (i : Int) - 1, by omega, by go_num, ?_⟩, by simp [intOf]⟩
        rw [hstep.out, hH.out, ← mul_double1 x _, ← mul_double, hO.out]
        exact congrArg _ (by simp [addP, Pn])
      · have hbit' : (bits .and .u64 ((y : Int) / 2 ^ i) 1 == 1) = false := by rw [hbit, decide_eq_false h1]
        have hH : Hid (y / 2 ^ i % 2 = 0) := by rw [Hid]; omega
        clear hbit h1
        go_wp2
        refine ⟨⟨i, by omega, (i : Int) - 1, by omega, by go_num, ?_⟩, by simp [intOf]⟩
        rw [hstep.out, hH.out, Nat.add_zero, ← mul_double, hO.out]
        exact congrArg _ (by simp [addP, Pn])

theorem pow_double (a q : Nat) : mulP (powP a q) (powP a q) = powP a (2 * q) := by rw [← powP_add, Nat.two_mul]
theorem pow_double1 (a q : Nat) : mulP (powP a (2 * q)) a = powP a (2 * q + 1) := by rw [powP_add, powP_one, mulP_base_right]
set_option maxHeartbeats 1000000 in
theorem refpow_any (a n : Nat) (ha : a < 18446744073709551616) (hn : n < 18446744073709551616) (w : World) :
    Calls Try.prog 23 #[.int .u64 a, .int .u64 n] w fun e w' => e = .returned (.int .u64 (powP a n : Nat)) ∧ w = w' := by
  go_enter Try.func23, Try.ntmps23
  go_wp2
  go_loop [5, 6] (fun o t => ∃ j : Nat, j ≤ 64 ∧ ∃ v : Int, v + 1 = j ∧ t = .int .i64 v ∧ o = .int .u64 (powP a (n / 2 ^ j) : Nat)) (fun _ t => (intOf t + 1).toNat)
  case atStart =>
    refine ⟨64, by omega, 63, by omega, rfl, ?_⟩
    have : n / 2 ^ 64 = 0 := Nat.div_eq_of_lt (by omega)
    rw [this]; rfl
  case round =>
    obtain ⟨j, hj, v, hv, rfl, rfl⟩ := hrel
    match j, hj, hv with
    | 0, hj, hv =>
      obtain rfl : v = -1 := by omega
      go_wp2
      go_ret
      exact ⟨ret_u64 (by simp), rfl⟩
    | i + 1, hj, hv =>
      obtain rfl : v = (i : Int) := by omega
      obtain ⟨o, ho, hO⟩ : ∃ o, o < 2305843009213693951 ∧ Hid (powP a (n / 2 ^ (i + 1)) = o) := ⟨_, powP_lt _ _, rfl⟩
      have hO2 := hO.out
      rw [hO2]
      clear hO2
      have hbit := shr_bit n i (by omega)
      have hstep : Hid (n / 2 ^ i = 2 * (n / 2 ^ (i + 1)) + n / 2 ^ i % 2) := half_step n i
      by_cases h1 : n / 2 ^ i % 2 = 1
      · have hbit' : (bits .and .u64 ((n : Int) / 2 ^ i) 1 == 1) = true := by rw [hbit, decide_eq_true h1]
        have hH : Hid (n / 2 ^ i % 2 = 1) := h1
        clear hbit h1
        go_wp2_with fail
        refine (refmul_any o o (by omega) (by omega) _).mono ?_
        rintro e w' ⟨rfl, rfl⟩
        have hoo : mulP o o < 18446744073709551616 := Nat.lt_trans (mulP_lt o o) (by omega)
        go_wp2_with fail
        refine (refmul_any (mulP o o) a hoo ha _).mono ?_
        rintro e w' ⟨rfl, rfl⟩
        go_wp2
        refine ⟨⟨i, by omega, (i : Int) - 1, by omega, by go_num, ?_⟩, by simp [intOf]⟩
        rw [hstep.out, hH.out, ← pow_double1, ← pow_double, hO.out]
      · have hbit' : (bits .and .u64 ((n : Int) / 2 ^ i) 1 == 1) = false := by rw [hbit, decide_eq_false h1]
        have hH : Hid (n / 2 ^ i % 2 = 0) := by rw [Hid]; omega
        clear hbit h1
        go_wp2_with fail
        refine (refmul_any o o (by omega) (by omega) _).mono ?_
        rintro e w' ⟨rfl, rfl⟩
        go_wp2
        refine ⟨⟨i, by omega, (i : Int) - 1, by omega, by go_num, ?_⟩, by simp [intOf]⟩
        rw [hstep.out, hH.out, Nat.add_zero, ← pow_double, hO.out]
end Go.Proofs.Ytcamniadkackdaa

/- The walks of prime's and the reference's sums, differences, products and powers. -/
import Derived.Test.YtcamniadkackdaaA
namespace Go.Proofs.Ytcamniadkackdaa
open Go.RowKit

theorem addP_mod (a b : Nat) : addP (a % Pn) (b % Pn) = addP a b := (Nat.add_mod a b Pn).symm
theorem subP_mod (a b : Nat) : subP (a % Pn) (b % Pn) = subP a b := by unfold subP; rw [Nat.mod_mod, Nat.mod_mod]
theorem addP_lt (a b : Nat) : addP a b < 2305843009213693951 := mod_lt _
theorem subP_lt (a b : Nat) : subP a b < 2305843009213693951 := mod_lt _
theorem mulP_lt (a b : Nat) : mulP a b < 2305843009213693951 := mod_lt _
theorem powP_lt (a n : Nat) : powP a n < 2305843009213693951 := mod_lt _

set_option maxHeartbeats 400000 in
theorem do_add (a b : Nat) (ha : a < 18446744073709551616) (hb : b < 18446744073709551616) (w : World) :
    Calls Try.prog 31 #[.func (.func 32) #[] #[], .int .u64 a, .int .u64 b] w fun e w' => e = .returned (.int .u64 (addP a b : Nat)) ∧ w = w' := by
  obtain ⟨x, hx, hX⟩ : ∃ x, x < 2305843009213693951 ∧ Hid (a % Pn = x) := ⟨_, mod_lt' a, rfl⟩
  obtain ⟨y, hy, hY⟩ : ∃ y, y < 2305843009213693951 ∧ Hid (b % Pn = y) := ⟨_, mod_lt' b, rfl⟩
  rw [← addP_mod, hX.out, hY.out]
  go_enter Try.func31, Try.ntmps31
  go_wp2_with fail
  refine (mod_any a ha _).mono ?_
  rintro e w' ⟨rfl, rfl⟩
  rw [hX.out]
  go_wp2_with fail
  refine (mod_any b hb _).mono ?_
  rintro e w' ⟨rfl, rfl⟩
  rw [hY.out]
  go_wp2_with fail
  refine (plus_any x y hx hy _).mono ?_
  rintro e w' ⟨rfl, rfl⟩
  go_wp2
  go_ret
  exact ⟨rfl, rfl⟩
set_option maxHeartbeats 400000 in
theorem do_sub (a b : Nat) (ha : a < 18446744073709551616) (hb : b < 18446744073709551616) (w : World) :
    Calls Try.prog 31 #[.func (.func 33) #[] #[], .int .u64 a, .int .u64 b] w fun e w' => e = .returned (.int .u64 (subP a b : Nat)) ∧ w = w' := by
  obtain ⟨x, hx, hX⟩ : ∃ x, x < 2305843009213693951 ∧ Hid (a % Pn = x) := ⟨_, mod_lt' a, rfl⟩
  obtain ⟨y, hy, hY⟩ : ∃ y, y < 2305843009213693951 ∧ Hid (b % Pn = y) := ⟨_, mod_lt' b, rfl⟩
  rw [← subP_mod, hX.out, hY.out]
  go_enter Try.func31, Try.ntmps31
  go_wp2_with fail
  refine (mod_any a ha _).mono ?_
  rintro e w' ⟨rfl, rfl⟩
  rw [hX.out]
  go_wp2_with fail
  refine (mod_any b hb _).mono ?_
  rintro e w' ⟨rfl, rfl⟩
  rw [hY.out]
  go_wp2_with fail
  refine (minus_any x y hx hy _).mono ?_
  rintro e w' ⟨rfl, rfl⟩
  go_wp2
  go_ret
  exact ⟨rfl, rfl⟩
set_option maxHeartbeats 400000 in
theorem do_mul (a b : Nat) (ha : a < 18446744073709551616) (hb : b < 18446744073709551616) (w : World) :
    Calls Try.prog 31 #[.func (.func 34) #[] #[], .int .u64 a, .int .u64 b] w fun e w' => e = .returned (.int .u64 (mulP a b : Nat)) ∧ w = w' := by
  obtain ⟨x, hx, hX⟩ : ∃ x, x < 2305843009213693951 ∧ Hid (a % Pn = x) := ⟨_, mod_lt' a, rfl⟩
  obtain ⟨y, hy, hY⟩ : ∃ y, y < 2305843009213693951 ∧ Hid (b % Pn = y) := ⟨_, mod_lt' b, rfl⟩
  rw [← mulP_mod, hX.out, hY.out]
  go_enter Try.func31, Try.ntmps31
  go_wp2_with fail
  refine (mod_any a ha _).mono ?_
  rintro e w' ⟨rfl, rfl⟩
  rw [hX.out]
  go_wp2_with fail
  refine (mod_any b hb _).mono ?_
  rintro e w' ⟨rfl, rfl⟩
  rw [hY.out]
  go_wp2_with fail
  refine (times_any x y hx hy _).mono ?_
  rintro e w' ⟨rfl, rfl⟩
  go_wp2
  go_ret
  exact ⟨rfl, rfl⟩
set_option maxHeartbeats 400000 in
theorem add_any (a b : Nat) (ha : a < 18446744073709551616) (hb : b < 18446744073709551616) (w : World) :
    Calls Try.prog 14 #[.int .u64 a, .int .u64 b] w fun e w' => e = .returned (.int .u64 (addP a b : Nat)) ∧ w = w' := by
  go_enter Try.func14, Try.ntmps14
  go_wp2_with (go_at_call 31; refine (do_add a b ha hb _).mono ?_; rintro e w' ⟨rfl, rfl⟩)
  go_ret
  exact ⟨rfl, rfl⟩
set_option maxHeartbeats 400000 in
theorem sub_any (a b : Nat) (ha : a < 18446744073709551616) (hb : b < 18446744073709551616) (w : World) :
    Calls Try.prog 16 #[.int .u64 a, .int .u64 b] w fun e w' => e = .returned (.int .u64 (subP a b : Nat)) ∧ w = w' := by
  go_enter Try.func16, Try.ntmps16
  go_wp2_with (go_at_call 31; refine (do_sub a b ha hb _).mono ?_; rintro e w' ⟨rfl, rfl⟩)
  go_ret
  exact ⟨rfl, rfl⟩
set_option maxHeartbeats 400000 in
theorem mul_any (a b : Nat) (ha : a < 18446744073709551616) (hb : b < 18446744073709551616) (w : World) :
    Calls Try.prog 20 #[.int .u64 a, .int .u64 b] w fun e w' => e = .returned (.int .u64 (mulP a b : Nat)) ∧ w = w' := by
  go_enter Try.func20, Try.ntmps20
  go_wp2_with (go_at_call 31; refine (do_mul a b ha hb _).mono ?_; rintro e w' ⟨rfl, rfl⟩)
  go_ret
  exact ⟨rfl, rfl⟩

theorem and_one (m : Nat) (hm : m < 18446744073709551616) : bits .and .u64 (m : Int) 1 = ((m % 2 : Nat) : Int) := by
  have h := u64_and_nat m 1 hm (by decide)
  rw [nat_mask1] at h
  exact h
theorem bit_yes (m : Nat) (hm : m < 18446744073709551616) (h : m % 2 = 1) : (bits .and .u64 (m : Int) 1 == 1) = true := by rw [and_one m hm, h]; rfl
theorem bit_no (m : Nat) (hm : m < 18446744073709551616) (h : ¬ m % 2 = 1) : (bits .and .u64 (m : Int) 1 == 1) = false := by
  have : m % 2 = 0 := by omega
  rw [and_one m hm, this]; rfl
theorem pow_zero' (o s : Nat) (ho : o < 2305843009213693951) : mulP o (powP s 0) = o := by
  unfold mulP powP
  rw [Nat.pow_zero, show 1 % Pn = 1 from rfl, Nat.mul_one]
  exact Nat.mod_eq_of_lt ho
theorem mulP_assoc (a b c : Nat) : mulP (mulP a b) c = mulP a (mulP b c) := by
  unfold mulP
  rw [Nat.mul_mod, Nat.mod_mod, ← Nat.mul_mod, Nat.mul_mod a (b * c % Pn), Nat.mod_mod, ← Nat.mul_mod, Nat.mul_assoc]
theorem mulP_comm (a b : Nat) : mulP a b = mulP b a := by unfold mulP; rw [Nat.mul_comm]
theorem powP_odd (s m : Nat) (h : m % 2 = 1) : powP s m = mulP s (powP (mulP s s) (m / 2)) := by
  rw [powP_fast, if_neg (by omega), if_pos h]
theorem powP_even (s m : Nat) (h0 : 0 < m) (h : ¬ m % 2 = 1) : powP s m = powP (mulP s s) (m / 2) := by
  rw [powP_fast, if_neg (by omega), if_neg h]
theorem powP_base (a n : Nat) : powP (a % Pn) n = powP a n := (Nat.pow_mod a n Pn).symm

set_option maxHeartbeats 1000000 in
theorem pow_any (a n : Nat) (ha : a < 18446744073709551616) (hn : n < 18446744073709551616) (w : World) :
    Calls Try.prog 22 #[.int .u64 a, .int .u64 n] w fun e w' => e = .returned (.int .u64 (powP a n : Nat)) ∧ w = w' := by
  go_enter Try.func22, Try.ntmps22
  go_wp2_with (go_at_call 18; refine (mod_any a ha _).mono ?_; rintro e w' ⟨rfl, rfl⟩)
  go_loop [1, 5, 6] (fun m o s => ∃ m' o' s' : Nat, m' < 18446744073709551616 ∧ o' < 2305843009213693951 ∧ s' < 2305843009213693951 ∧ m = .int .u64 m' ∧ o = .int .u64 o' ∧ s = .int .u64 s' ∧ mulP o' (powP s' m') = powP a n) (fun m _ _ => (intOf m).toNat)
  case atStart => exact ⟨n, 1, a % Pn, hn, by omega, mod_lt' a, rfl, rfl, rfl, by rw [powP_base]; unfold mulP powP; rw [Nat.one_mul, Nat.mod_mod]⟩
  case round =>
    obtain ⟨m, o, s, hm, ho, hs, rfl, rfl, rfl, hinv0⟩ := hrel
    have hinv : Hid (mulP o (powP s m) = powP a n) := hinv0
    clear hinv0
    by_cases h0 : 0 < m
    · have h0' : (0 : Int) < (m : Int) := by omega
      by_cases hb : m % 2 = 1
      · have hbit := bit_yes m hm hb
        have hodd := powP_odd s m hb
        have hO : Hid (powP s m = mulP s (powP (mulP s s) (m / 2))) := hodd
        clear hodd hb
        go_wp2_with fail
        refine (times_any o s ho hs _).mono ?_
        rintro e w' ⟨rfl, rfl⟩
        go_wp2_with fail
        refine (times_any s s hs hs _).mono ?_
        rintro e w' ⟨rfl, rfl⟩
        go_wp2
        refine ⟨⟨m / 2, mulP o s, mulP s s, by omega, mulP_lt _ _, mulP_lt _ _, by go_num, rfl, rfl, ?_⟩, by simp [intOf]; omega⟩
        rw [mulP_assoc, ← hO.out]; exact hinv.out
      · have hbit := bit_no m hm hb
        have hO : Hid (powP s m = powP (mulP s s) (m / 2)) := powP_even s m h0 hb
        clear hb
        go_wp2_with fail
        refine (times_any s s hs hs _).mono ?_
        rintro e w' ⟨rfl, rfl⟩
        go_wp2
        refine ⟨⟨m / 2, o, mulP s s, by omega, ho, mulP_lt _ _, by go_num, rfl, rfl, ?_⟩, by simp [intOf]; omega⟩
        rw [← hO.out]; exact hinv.out
    · obtain rfl : m = 0 := by omega
      go_wp2
      go_ret
      exact ⟨ret_u64 (by rw [← hinv.out, pow_zero' o s ho]), rfl⟩
end Go.Proofs.Ytcamniadkackdaa

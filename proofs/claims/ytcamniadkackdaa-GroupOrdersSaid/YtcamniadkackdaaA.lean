/- The walks of prime's leaves: remainders, sums, differences, products. -/
import Derived.Test.YtcamniadkackdaaPrimeMath
import Derived.Test.YtcamniadkackdaaShelf
import Derived.Test.YtcamniadkackdaaRows
namespace Go.Proofs.Ytcamniadkackdaa
open Go.RowKit

theorem ret_u64 {a b : Int} (h : a = b) : Ending.returned (.int .u64 a) = .returned (.int .u64 b) := by rw [h]

set_option maxHeartbeats 400000 in
theorem mod_any (a : Nat) (ha : a < 18446744073709551616) (w : World) :
    Calls Try.prog 18 #[.int .u64 a] w fun e w' => e = .returned (.int .u64 (a % Pn : Nat)) ∧ w = w' := by
  go_enter Try.func18, Try.ntmps18
  go_wp2
  go_ret
  exact ⟨ret_u64 (by simp [Pn]), rfl⟩
set_option maxHeartbeats 400000 in
theorem refmod_any (a : Nat) (ha : a < 18446744073709551616) (w : World) :
    Calls Try.prog 19 #[.int .u64 a] w fun e w' => e = .returned (.int .u64 (a % Pn : Nat)) ∧ w = w' := by
  go_enter Try.func19, Try.ntmps19
  go_wp2
  go_ret
  exact ⟨ret_u64 (by simp [Pn]), rfl⟩
set_option maxHeartbeats 400000 in
theorem plus_any (a b : Nat) (ha : a < 2305843009213693951) (hb : b < 2305843009213693951) (w : World) :
    Calls Try.prog 32 #[.int .u64 a, .int .u64 b] w fun e w' => e = .returned (.int .u64 (addP a b : Nat)) ∧ w = w' := by
  go_enter Try.func32, Try.ntmps32
  go_wp2
  go_ret
  exact ⟨ret_u64 (by simp [addP, Pn]), rfl⟩
set_option maxHeartbeats 400000 in
theorem minus_any (a b : Nat) (ha : a < 2305843009213693951) (hb : b < 2305843009213693951) (w : World) :
    Calls Try.prog 33 #[.int .u64 a, .int .u64 b] w fun e w' => e = .returned (.int .u64 (subP a b : Nat)) ∧ w = w' := by
  go_enter Try.func33, Try.ntmps33
  go_wp2
  go_ret
  exact ⟨ret_u64 (by simp [subP, Pn]; omega), rfl⟩
set_option maxHeartbeats 400000 in
theorem refadd_any (a b : Nat) (ha : a < 18446744073709551616) (hb : b < 18446744073709551616) (w : World) :
    Calls Try.prog 15 #[.int .u64 a, .int .u64 b] w fun e w' => e = .returned (.int .u64 (addP a b : Nat)) ∧ w = w' := by
  go_enter Try.func15, Try.ntmps15
  go_wp2
  go_ret
  exact ⟨ret_u64 (by simp [addP, Pn]), rfl⟩
set_option maxHeartbeats 400000 in
theorem refsub_any (a b : Nat) (ha : a < 18446744073709551616) (hb : b < 18446744073709551616) (w : World) :
    Calls Try.prog 17 #[.int .u64 a, .int .u64 b] w fun e w' => e = .returned (.int .u64 (subP a b : Nat)) ∧ w = w' := by
  go_enter Try.func17, Try.ntmps17
  go_wp2
  go_ret
  exact ⟨ret_u64 (by simp [subP, Pn]; omega), rfl⟩
theorem and_mask (x : Nat) (hx : x < 18446744073709551616) : bits .and .u64 (x : Int) 2305843009213693951 = ((x % 2305843009213693952 : Nat) : Int) := by
  have h := u64_and_nat x 2305843009213693951 hx (by decide)
  have e : x &&& 2305843009213693951 = x % 2305843009213693952 := Nat.and_two_pow_sub_one_eq_mod x 61
  rw [e] at h
  exact h
theorem or_join (hi lo : Nat) (h2 : lo < 18446744073709551616) :
    bits .or .u64 ((lo / 2305843009213693952 : Nat) : Int) ((hi * 8 % 18446744073709551616 : Nat) : Int) = ((hi * 8 % 18446744073709551616 + lo / 2305843009213693952 : Nat) : Int) := by
  rw [u64_or_nat _ _ (by omega) (by omega), Nat.or_comm, nat_join 3 _ _ (by omega) (by omega)]
theorem wrap_nat (n : Nat) (h : n < 18446744073709551616) : IntKind.u64.wrap (n : Int) = n := by
  rw [IntKind.wrap_u64]; exact Int.emod_eq_of_lt (by omega) (by omega)
theorem sum3 (p q r : Nat) (hp : p < 2305843009213693952) (hq : q < 2305843009213693952) (hr : r < 64) :
    (IntKind.u64.wrap (IntKind.u64.wrap ((p : Int) + (q : Int)) + (r : Int))).tmod 2305843009213693951 = ((p + q + r) % 2305843009213693951 : Nat) := by
  rw [← Int.natCast_add, wrap_nat (p + q) (by omega), ← Int.natCast_add, wrap_nat (p + q + r) (by omega)]
  rfl
theorem whole_parts (hi lo : Nat) (h1 : hi < 18446744073709551616) (h2 : lo < 18446744073709551616) :
    (lo % 2305843009213693952 + (hi * 8 % 18446744073709551616 + lo / 2305843009213693952) % 2305843009213693952 + hi / 288230376151711744) % 2305843009213693951 = (hi * 18446744073709551616 + lo) % 2305843009213693951 := by
  rw [← whole_eq (hi * 18446744073709551616 + lo) (by omega)]
  have f1 : (hi * 18446744073709551616 + lo) % 18446744073709551616 = lo := by omega
  have f2 : (hi * 18446744073709551616 + lo) / 2305843009213693952 = hi * 8 + lo / 2305843009213693952 := by omega
  have f3 : (hi * 18446744073709551616 + lo) / 5316911983139663491615228241121378304 = hi / 288230376151711744 := by omega
  have f4 : (hi * 8 % 18446744073709551616 + lo / 2305843009213693952) % 2305843009213693952 = (hi * 8 + lo / 2305843009213693952) % 2305843009213693952 := by
    rw [Nat.add_mod, Nat.mod_mod_of_dvd _ (by decide : 2305843009213693952 ∣ 18446744073709551616), ← Nat.add_mod]
  rw [f1, f2, f3, f4]
theorem whole_int (hi lo : Nat) (h1 : hi < 18446744073709551616) (h2 : lo < 18446744073709551616) :
    ((IntKind.u64.wrap (IntKind.u64.wrap (bits .and .u64 (lo : Int) 2305843009213693951 + bits .and .u64 (bits .or .u64 ((lo : Int) / 2305843009213693952) (IntKind.u64.wrap ((hi : Int) * 8))) 2305843009213693951) + (hi : Int) / 288230376151711744)).tmod 2305843009213693951)
      = ((hi * 18446744073709551616 + lo) % Pn : Nat) := by
  have e1 : IntKind.u64.wrap ((hi : Int) * 8) = ((hi * 8 % 18446744073709551616 : Nat) : Int) := by rw [IntKind.wrap_u64]; rfl
  have e2 : (lo : Int) / 2305843009213693952 = ((lo / 2305843009213693952 : Nat) : Int) := rfl
  have e3 : (hi : Int) / 288230376151711744 = ((hi / 288230376151711744 : Nat) : Int) := rfl
  rw [e1, e2, e3, or_join hi lo h2, and_mask lo h2, and_mask _ (by omega), sum3 _ _ _ (Nat.mod_lt _ (by decide)) (Nat.mod_lt _ (by decide)) (by omega), whole_parts hi lo h1 h2]
  rfl
set_option maxHeartbeats 1000000 in
theorem whole_any (hi lo : Nat) (h1 : hi < 18446744073709551616) (h2 : lo < 18446744073709551616) (w : World) :
    Calls Try.prog 39 #[.int .u64 hi, .int .u64 lo] w fun e w' => e = .returned (.int .u64 ((hi * 18446744073709551616 + lo) % Pn : Nat)) ∧ w = w' := by
  go_enter Try.func39, Try.ntmps39
  go_wp2
  go_ret
  exact ⟨ret_u64 (whole_int hi lo h1 h2), rfl⟩
set_option maxHeartbeats 1000000 in
theorem times_any (a b : Nat) (ha : a < 2305843009213693951) (hb : b < 2305843009213693951) (w : World) :
    Calls Try.prog 34 #[.int .u64 a, .int .u64 b] w fun e w' => e = .returned (.int .u64 (mulP a b : Nat)) ∧ w = w' := by
  have hab : a * b < 18446744073709551616 * 18446744073709551616 := Nat.mul_lt_mul'' (by omega) (by omega)
  have hE : Hid (((a * b / 18446744073709551616 * 18446744073709551616 + a * b % 18446744073709551616) % Pn) = mulP a b) := by rw [Hid, Nat.div_add_mod']; rfl
  have h1 : a * b / 18446744073709551616 < 18446744073709551616 := by omega
  have h2 : a * b % 18446744073709551616 < 18446744073709551616 := by omega
  generalize hx : a * b / 18446744073709551616 = x at *
  generalize hy : a * b % 18446744073709551616 = y at *
  have hX : Hid (a * b / 18446744073709551616 = x) := hx
  have hY : Hid (a * b % 18446744073709551616 = y) := hy
  clear hx hy hab
  go_enter Try.func34, Try.ntmps34
  go_wp2_with (first
    | (go_at_call 40; refine (Try.bits_Mul64 a b (by omega) (by omega) _).mono ?_; rintro e w' ⟨rfl, rfl⟩; rw [hX.out, hY.out])
    | (go_at_call 39; refine (whole_any x y h1 h2 _).mono ?_; rintro e w' ⟨rfl, rfl⟩))
  go_ret
  exact ⟨ret_u64 (by rw [← hE.out]; simp), rfl⟩
end Go.Proofs.Ytcamniadkackdaa

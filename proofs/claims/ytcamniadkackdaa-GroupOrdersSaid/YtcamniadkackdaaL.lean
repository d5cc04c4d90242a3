/- The walks of group's Public, Good, Agree. -/
import Derived.Test.YtcamniadkackdaaD
namespace Go.Proofs.Ytcamniadkackdaa
open Go.RowKit

def soundB (n : Nat) : Bool := decide (1 ≤ n) && decide (n ≤ 2305843009213693949)
def goodB (n : Nat) : Bool := decide (2 ≤ n) && decide (n ≤ 2305843009213693949)

set_option maxRecDepth 100000 in
set_option maxHeartbeats 400000 in
theorem sound_any (n : Nat) (w : World) :
    Calls Try.prog 35 #[.int .u64 n] w fun e w' => e = .returned (.bool (soundB n)) ∧ w = w' := by
  by_cases h1 : 1 ≤ n
  · by_cases h2 : n ≤ 2305843009213693949
    · have hb : soundB n = true := by simp [soundB, h1, h2]
      have g1 : (1 : Int) ≤ n := by omega
      have g2 : (n : Int) ≤ 2305843009213693949 := by omega
      rw [hb]
      clear hb h1 h2
      go_enter Try.func35, Try.ntmps35
      go_wp2
      go_ret
      exact ⟨rfl, rfl⟩
    · have hb : soundB n = false := by simp [soundB, h2]
      have g1 : (1 : Int) ≤ n := by omega
      have g2 : ¬ (n : Int) ≤ 2305843009213693949 := by omega
      rw [hb]
      clear hb h1 h2
      go_enter Try.func35, Try.ntmps35
      go_wp2
      go_ret
      exact ⟨rfl, rfl⟩
  · have hb : soundB n = false := by simp [soundB, h1]
    obtain rfl : n = 0 := by omega
    rw [hb]
    clear hb h1
    go_enter Try.func35, Try.ntmps35
    go_wp2
    go_ret
    exact ⟨rfl, rfl⟩
set_option maxRecDepth 100000 in
set_option maxHeartbeats 400000 in
theorem good_any (n : Nat) (w : World) :
    Calls Try.prog 28 #[.int .u64 n] w fun e w' => e = .returned (.bool (goodB n)) ∧ w = w' := by
  by_cases h1 : 2 ≤ n
  · by_cases h2 : n ≤ 2305843009213693949
    · have hb : goodB n = true := by simp [goodB, h1, h2]
      have g1 : (2 : Int) ≤ n := by omega
      have g2 : (n : Int) ≤ 2305843009213693949 := by omega
      rw [hb]
      clear hb h1 h2
      go_enter Try.func28, Try.ntmps28
      go_wp2
      go_ret
      exact ⟨rfl, rfl⟩
    · have hb : goodB n = false := by simp [goodB, h2]
      have g1 : (2 : Int) ≤ n := by omega
      have g2 : ¬ (n : Int) ≤ 2305843009213693949 := by omega
      rw [hb]
      clear hb h1 h2
      go_enter Try.func28, Try.ntmps28
      go_wp2
      go_ret
      exact ⟨rfl, rfl⟩
  · have hb : goodB n = false := by simp [goodB, h1]
    have g1 : ¬ (2 : Int) ≤ n := by omega
    rw [hb]
    clear hb h1
    go_enter Try.func28, Try.ntmps28
    go_wp2
    go_ret
    exact ⟨rfl, rfl⟩
set_option maxHeartbeats 400000 in
theorem of_any (s b : Nat) (hs : s < 18446744073709551616) (hb : b < 18446744073709551616) (w : World) :
    Calls Try.prog 36 #[.int .u64 s, .int .u64 b] w fun e w' => e = .returned (.int .u64 (powP b s : Nat)) ∧ w = w' := by
  go_enter Try.func36, Try.ntmps36
  go_wp2_with (go_at_call 22; refine (pow_any b s hb hs _).mono ?_; rintro e w' ⟨rfl, rfl⟩)
  go_ret
  exact ⟨rfl, rfl⟩
def pubV (n : Nat) : Nat := if soundB n then powP 37 n else 0
def pubE (n : Nat) : Int := if soundB n then 0 else 1
set_option maxHeartbeats 400000 in
theorem public_any (n : Nat) (hn : n < 18446744073709551616) (w : World) :
    Calls Try.prog 26 #[.int .u64 n] w fun e w' => e = .returned (.tuple #[.int .u64 (pubV n : Nat), .int .i64 (pubE n)]) ∧ w = w' := by
  by_cases h : soundB n = true
  · have h1 : pubV n = powP 37 n := if_pos h
    have h2 : pubE n = 0 := if_pos h
    have hH : Hid (soundB n = true) := h
    rw [h1, h2]
    clear h h1 h2
    go_enter Try.func26, Try.ntmps26
    go_wp2_with fail
    refine (sound_any n _).mono ?_
    rintro e w' ⟨rfl, rfl⟩
    rw [hH.out]
    go_wp2_with fail
    refine (of_any n 37 hn (by omega) _).mono ?_
    rintro e w' ⟨rfl, rfl⟩
    go_wp2
    go_ret2
    exact ⟨rfl, rfl⟩
  · have h1 : pubV n = 0 := if_neg h
    have h2 : pubE n = 1 := if_neg h
    have hH : Hid (soundB n = false) := by rw [Hid]; simpa using h
    rw [h1, h2]
    clear h h1 h2
    go_enter Try.func26, Try.ntmps26
    go_wp2_with fail
    refine (sound_any n _).mono ?_
    rintro e w' ⟨rfl, rfl⟩
    rw [hH.out]
    go_wp2
    go_ret2
    exact ⟨rfl, rfl⟩
def agrV (n p : Nat) : Nat := if soundB n then (if goodB p then powP p n else 0) else 0
def agrE (n p : Nat) : Int := if soundB n then (if goodB p then 0 else 16) else 1
set_option maxHeartbeats 1000000 in
theorem agree_any (n p : Nat) (hn : n < 18446744073709551616) (hp : p < 18446744073709551616) (w : World) :
    Calls Try.prog 29 #[.int .u64 n, .int .u64 p] w fun e w' => e = .returned (.tuple #[.int .u64 (agrV n p : Nat), .int .i64 (agrE n p)]) ∧ w = w' := by
  by_cases h : soundB n = true
  · have hH : Hid (soundB n = true) := h
    by_cases g : goodB p = true
    · have h1 : agrV n p = powP p n := by rw [agrV, if_pos h, if_pos g]
      have h2 : agrE n p = 0 := by rw [agrE, if_pos h, if_pos g]
      have hG : Hid (goodB p = true) := g
      rw [h1, h2]
      clear h g h1 h2
      go_enter Try.func29, Try.ntmps29
      go_wp2_with fail
      refine (sound_any n _).mono ?_
      rintro e w' ⟨rfl, rfl⟩
      rw [hH.out]
      go_wp2_with fail
      refine (good_any p _).mono ?_
      rintro e w' ⟨rfl, rfl⟩
      rw [hG.out]
      go_wp2_with fail
      refine (of_any n p hn hp _).mono ?_
      rintro e w' ⟨rfl, rfl⟩
      go_wp2
      go_ret2
      exact ⟨rfl, rfl⟩
    · have h1 : agrV n p = 0 := by rw [agrV, if_pos h, if_neg g]
      have h2 : agrE n p = 16 := by rw [agrE, if_pos h, if_neg g]
      have hG : Hid (goodB p = false) := by rw [Hid]; simpa using g
      rw [h1, h2]
      clear h g h1 h2
      go_enter Try.func29, Try.ntmps29
      go_wp2_with fail
      refine (sound_any n _).mono ?_
      rintro e w' ⟨rfl, rfl⟩
      rw [hH.out]
      go_wp2_with fail
      refine (good_any p _).mono ?_
      rintro e w' ⟨rfl, rfl⟩
      rw [hG.out]
      go_wp2
      go_ret2
      exact ⟨rfl, rfl⟩
  · have h1 : agrV n p = 0 := by rw [agrV, if_neg h]
    have h2 : agrE n p = 1 := by rw [agrE, if_neg h]
    have hH : Hid (soundB n = false) := by rw [Hid]; simpa using h
    rw [h1, h2]
    clear h h1 h2
    go_enter Try.func29, Try.ntmps29
    go_wp2_with fail
    refine (sound_any n _).mono ?_
    rintro e w' ⟨rfl, rfl⟩
    rw [hH.out]
    go_wp2
    go_ret2
    exact ⟨rfl, rfl⟩
end Go.Proofs.Ytcamniadkackdaa

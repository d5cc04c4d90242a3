/- The fixed fact of layer 1. -/
import Derived.Test.YtcamniadkackdaaD
import Derived.Test.YtcamniadkackdaaRow
namespace Go.Proofs.Ytcamniadkackdaa
open Go.RowKit

theorem powP_2_61 : powP 2 61 = 1 := by decide
theorem invE_3 : invE 3 = 0 := by decide
theorem invE_P : invE 2305843009213693951 = 1 := by decide
theorem invV_lt (a : Nat) : invV a < 2305843009213693951 := by unfold invV; split; exact Pn_pos; exact powP_lt _ _
theorem invV_3 : mulP (invV 3) 3 = 1 := by
  have h : (3 : Nat) % Pn ≠ 0 := by decide
  rw [invV, if_neg h]; exact inv_turns 3 h

set_option maxHeartbeats 1000000 in
theorem awake_any (w : World) : Calls Try.prog 13 #[] w fun e w' => e = .returned (.bool true) ∧ w = w' := by
  obtain ⟨n, hn, hN, hM⟩ : ∃ n, n < 2305843009213693951 ∧ Hid (invV 3 = n) ∧ Hid (mulP n 3 = 1) := ⟨_, invV_lt 3, rfl, invV_3⟩
  obtain ⟨m, hm⟩ : ∃ m, Hid (invV 2305843009213693951 = m) := ⟨_, rfl⟩
  go_enter Try.func13, Try.ntmps13
  go_wp2_with fail
  refine (inv_any 3 (by omega) _).mono ?_
  rintro e w' ⟨rfl, rfl⟩
  rw [invE_3, hN.out]
  go_wp2_with fail
  refine (inv_any 2305843009213693951 (by omega) _).mono ?_
  rintro e w' ⟨rfl, rfl⟩
  rw [invE_P, hm.out]
  go_wp2_with fail
  refine (mul_any n 3 (by omega) (by omega) _).mono ?_
  rintro e w' ⟨rfl, rfl⟩
  rw [hM.out]
  go_wp2_with fail
  refine (add_any 2305843009213693950 2 (by omega) (by omega) _).mono ?_
  rintro e w' ⟨rfl, rfl⟩
  rw [show addP 2305843009213693950 2 = 1 by decide]
  go_wp2_with fail
  refine (sub_any 1 2 (by omega) (by omega) _).mono ?_
  rintro e w' ⟨rfl, rfl⟩
  rw [show subP 1 2 = 2305843009213693950 by decide]
  go_wp2_with fail
  refine (pow_any 2 61 (by omega) (by omega) _).mono ?_
  rintro e w' ⟨rfl, rfl⟩
  rw [powP_2_61]
  go_wp2_with fail
  refine (mod_any 2305843009213693951 (by omega) _).mono ?_
  rintro e w' ⟨rfl, rfl⟩
  rw [show 2305843009213693951 % Pn = 0 by decide]
  go_wp2
  go_ret
  exact ⟨rfl, rfl⟩
end Go.Proofs.Ytcamniadkackdaa

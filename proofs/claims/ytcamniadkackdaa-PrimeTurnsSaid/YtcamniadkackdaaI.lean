/- PrimeTurns: what times any number is 1. -/
import Derived.Test.YtcamniadkackdaaE
namespace Go.Proofs.Ytcamniadkackdaa
open Go.ChangeShapes Go.WideShapes Go.ChangeAt Go.RowKit

theorem invP_pos (a : Nat) (h : a % Pn ≠ 0) : 1 ≤ invP a := by
  rcases Nat.eq_zero_or_pos (invP a) with h0 | h0
  · have := inv_turns a h
    rw [h0] at this
    unfold mulP at this
    rw [Nat.zero_mul] at this
    exact absurd this (by decide)
  · exact h0
set_option maxRecDepth 100000 in
set_option maxHeartbeats 1000000 in
theorem turns_no (a : Nat) (ha : a < 18446744073709551616) (h : a % Pn = 0) (w : World) :
    Calls Try.prog 6 #[.int .u64 a] w fun e w' => e = .returned (.bool true) ∧ w = w' := by
  have h1 : Hid (invV a = 0) := if_pos h
  have h2 : Hid (invE a = 1) := if_pos h
  have h3 : Hid (a % Pn = 0) := h
  clear h
  go_enter Try.func6, Try.ntmps6
  go_wp2_with fail
  refine (inv_any a ha _).mono ?_
  rintro e w' ⟨rfl, rfl⟩
  rw [h1.out]
  rw [h2.out]
  go_wp2_with fail
  refine (refmod_any a ha _).mono ?_
  rintro e w' ⟨rfl, rfl⟩
  rw [h3.out]
  go_wp2_with fail
  refine (awake_any _).mono ?_
  rintro e w' ⟨rfl, rfl⟩
  go_wp2
  go_ret
  exact ⟨rfl, rfl⟩
set_option maxRecDepth 100000 in
set_option maxHeartbeats 1000000 in
theorem turns_yes (a : Nat) (ha : a < 18446744073709551616) (h : a % Pn ≠ 0) (w : World) :
    Calls Try.prog 6 #[.int .u64 a] w fun e w' => e = .returned (.bool true) ∧ w = w' := by
  have h2 : Hid (invE a = 0) := if_neg h
  have h4 : Hid (a % Pn ≠ 0) := h
  obtain ⟨n, hlo, hhi, h1, h5, h6⟩ : ∃ n : Nat, 1 ≤ n ∧ n < 2305843009213693951 ∧ Hid (invV a = n) ∧ Hid (invP a = n) ∧ Hid (mulP n a = 1) := ⟨invP a, invP_pos a h, powP_lt _ _, if_neg h, rfl, inv_turns a h⟩
  obtain ⟨x, h3, hx⟩ : ∃ x : Nat, Hid (a % Pn = x) ∧ ((x : Int) == 0) = false := ⟨a % Pn, rfl, by rw [beq_eq_false_iff_ne]; omega⟩
  have hn1 : (1 : Int) ≤ (n : Int) := by omega
  have hn2 : (n : Int) < 2305843009213693951 := by omega
  have hlt : Hid (n < 18446744073709551616) := by rw [Hid]; omega
  clear h hhi hlo
  go_enter Try.func6, Try.ntmps6
  go_wp2_with fail
  refine (inv_any a ha _).mono ?_
  rintro e w' ⟨rfl, rfl⟩
  rw [h1.out]
  rw [h2.out]
  go_wp2_with fail
  refine (refmod_any a ha _).mono ?_
  rintro e w' ⟨rfl, rfl⟩
  rw [h3.out]
  go_wp2_with fail
  refine (awake_any _).mono ?_
  rintro e w' ⟨rfl, rfl⟩
  go_wp2_with fail
  refine (refinv_any a ha h4.out _).mono ?_
  rintro e w' ⟨rfl, rfl⟩
  rw [h5.out]
  go_wp2_with fail
  refine (refmul_any n a hlt.out ha _).mono ?_
  rintro e w' ⟨rfl, rfl⟩
  rw [h6.out]
  go_wp2
  go_ret
  exact ⟨rfl, rfl⟩
theorem turns_walk (a : Nat) (ha : a < 18446744073709551616) (w : World) : Calls Try.prog 6 #[.int .u64 a] w fun e w' => e = .returned (.bool true) ∧ w = w' := by
  by_cases h : a % Pn = 0
  · exact turns_no a ha h w
  · exact turns_yes a ha h w

set_option maxRecDepth 100000 in
theorem primeTurns_lifted (os : Os) (started : os.Started) (H : Type) (enc : TypeId × Value → H) :
    ReturnsInHanded {} Try.checked os 6 .any (Rows.primeTurnsSpec.pre6 enc Try.prog Try.f6 Rows.primeTurnsRow.domain false) (Rows.primeTurnsSpec.post enc Try.prog Try.f6 false true false false) := by
  refine returnsInHanded_of_change (C := Try.checked) ownKnob_none started (by kernel_rfl) Try.func6
    (ChangeSpec.witness6 (enc := enc) (C := Try.checked) false ⟨#[], #[.int .u64 0], []⟩ 8 (by kernel_rfl) (by kernel_rfl) (by kernel_rfl) (by kernel_rfl)) ?_
  intro W base args ds gs before hval0 hW _ _
  have hval : ∀ (j : Nat) t v, Try.f6.params[j]? = some t → args[j]? = some v → Value.okWide Try.prog W .any base t v := hval0
  have hWhole := hW
  obtain ⟨p, q, hA0, hV, rfl, hfz, hnd⟩ := hW
  have hA : DataW.TrodAll enc Try.prog W 0 (fun _ => true) true Try.f6.params.toList args.toList ds p := hA0
  rw [Try.params6] at hA hval
  obtain ⟨v0, vs0, d0, ds0, p0, q0, hargs0, rfl, rfl, h0, r0⟩ := trodAll_cons hA
  obtain ⟨rfl, rfl, rfl⟩ := trodAll_nil r0
  obtain rfl : args = #[v0] := by cases args; simp_all
  obtain ⟨rfl, rfl⟩ := trodVars_none hV
  obtain ⟨x0, rfl, hb0⟩ := open_nat 18446744073709551616 Try.underlying22 wf_u64' (hval 0 22 v0 rfl rfl) h0
  refine ((same_below (turns_walk x0 hb0 W))).mono fun e W' ⟨he, hB⟩ => ?_
  subst he
  exact ⟨_, rfl, law_post laidOut (by rw [Try.params6]; decide +kernel) rfl (by kernel_rfl) Try.underlying4 hWhole rfl rfl rfl hB⟩

theorem primeTurns : Rows.PrimeTurnsSaid :=
  OpenClaim.holds_of_wide 6 Try.f6 rfl rfl rfl rfl rfl rfl rfl ⟨rfl, rfl, rfl, rfl, rfl⟩ rfl rfl rfl rfl rfl (by kernel_rfl) Try.func6 (by kernel_rfl)
    (of_decide_eq_true (by kernel_rfl)) (by unfold Func.isWrapper; first | (rw [if_pos (by decide +kernel)]; kernel_rfl) | (rw [if_neg (by decide +kernel)]; exact ⟨rfl, rfl⟩))
    (fun os started H enc _ => primeTurns_lifted os started H enc)
end Go.Proofs.Ytcamniadkackdaa

/- PrimeZero: a product is 0 only if one of both is. -/
import Derived.Test.YtcamniadkackdaaE
namespace Go.Proofs.Ytcamniadkackdaa
open Go.ChangeShapes Go.WideShapes Go.ChangeAt Go.RowKit

set_option maxRecDepth 100000 in
set_option maxHeartbeats 1000000 in
theorem zero_left (a b : Nat) (ha : a < 18446744073709551616) (hb : b < 18446744073709551616) (h : a % Pn = 0) (w : World) :
    Calls Try.prog 8 #[.int .u64 a, .int .u64 b] w fun e w' => e = .returned (.bool true) ∧ w = w' := by
  have hm : Hid (mulP a b = 0) := (mulP_zero_iff a b).2 (Or.inl h)
  have h1 : Hid (a % Pn = 0) := h
  clear h
  go_enter Try.func8, Try.ntmps8
  go_wp2_with fail
  refine (awake_any _).mono ?_
  rintro e w' ⟨rfl, rfl⟩
  go_wp2_with fail
  refine (mul_any a b ha hb _).mono ?_
  rintro e w' ⟨rfl, rfl⟩
  rw [hm.out]
  go_wp2_with fail
  refine (mod_any a ha _).mono ?_
  rintro e w' ⟨rfl, rfl⟩
  rw [h1.out]
  go_wp2
  go_ret
  exact ⟨rfl, rfl⟩
set_option maxRecDepth 100000 in
set_option maxHeartbeats 1000000 in
theorem zero_right (a b : Nat) (ha : a < 18446744073709551616) (hb : b < 18446744073709551616) (h : a % Pn ≠ 0) (h' : b % Pn = 0) (w : World) :
    Calls Try.prog 8 #[.int .u64 a, .int .u64 b] w fun e w' => e = .returned (.bool true) ∧ w = w' := by
  have hm : Hid (mulP a b = 0) := (mulP_zero_iff a b).2 (Or.inr h')
  obtain ⟨x, h1, hx⟩ : ∃ x : Nat, Hid (a % Pn = x) ∧ ((x : Int) == 0) = false := ⟨a % Pn, rfl, by rw [beq_eq_false_iff_ne]; omega⟩
  have h2 : Hid (b % Pn = 0) := h'
  clear h h'
  go_enter Try.func8, Try.ntmps8
  go_wp2_with fail
  refine (awake_any _).mono ?_
  rintro e w' ⟨rfl, rfl⟩
  go_wp2_with fail
  refine (mul_any a b ha hb _).mono ?_
  rintro e w' ⟨rfl, rfl⟩
  rw [hm.out]
  go_wp2_with fail
  refine (mod_any a ha _).mono ?_
  rintro e w' ⟨rfl, rfl⟩
  rw [h1.out]
  go_wp2_with fail
  refine (mod_any b hb _).mono ?_
  rintro e w' ⟨rfl, rfl⟩
  rw [h2.out]
  go_wp2
  go_ret
  exact ⟨rfl, rfl⟩
set_option maxRecDepth 100000 in
set_option maxHeartbeats 1000000 in
theorem zero_none (a b : Nat) (ha : a < 18446744073709551616) (hb : b < 18446744073709551616) (h : a % Pn ≠ 0) (h' : b % Pn ≠ 0) (w : World) :
    Calls Try.prog 8 #[.int .u64 a, .int .u64 b] w fun e w' => e = .returned (.bool true) ∧ w = w' := by
  obtain ⟨z, hm, hz⟩ : ∃ z : Nat, Hid (mulP a b = z) ∧ ((z : Int) == 0) = false := ⟨mulP a b, rfl, by
    rw [beq_eq_false_iff_ne]
    exact fun e => ((mulP_zero_iff a b).1 (by omega)).elim h h'⟩
  obtain ⟨x, h1, hx⟩ : ∃ x : Nat, Hid (a % Pn = x) ∧ ((x : Int) == 0) = false := ⟨a % Pn, rfl, by rw [beq_eq_false_iff_ne]; omega⟩
  obtain ⟨y, h2, hy⟩ : ∃ y : Nat, Hid (b % Pn = y) ∧ ((y : Int) == 0) = false := ⟨b % Pn, rfl, by rw [beq_eq_false_iff_ne]; omega⟩
  clear h h'
  go_enter Try.func8, Try.ntmps8
  go_wp2_with fail
  refine (awake_any _).mono ?_
  rintro e w' ⟨rfl, rfl⟩
  go_wp2_with fail
  refine (mul_any a b ha hb _).mono ?_
  rintro e w' ⟨rfl, rfl⟩
  rw [hm.out]
  go_wp2_with fail
  refine (mod_any a ha _).mono ?_
  rintro e w' ⟨rfl, rfl⟩
  rw [h1.out]
  go_wp2_with fail
  refine (mod_any b hb _).mono ?_
  rintro e w' ⟨rfl, rfl⟩
  rw [h2.out]
  go_wp2
  go_ret
  exact ⟨rfl, rfl⟩
theorem zero_walk (a b : Nat) (ha : a < 18446744073709551616) (hb : b < 18446744073709551616) (w : World) : Calls Try.prog 8 #[.int .u64 a, .int .u64 b] w fun e w' => e = .returned (.bool true) ∧ w = w' := by
  by_cases h : a % Pn = 0
  · exact zero_left a b ha hb h w
  · by_cases h' : b % Pn = 0
    · exact zero_right a b ha hb h h' w
    · exact zero_none a b ha hb h h' w

set_option maxRecDepth 100000 in
theorem primeZero_lifted (os : Os) (started : os.Started) (H : Type) (enc : TypeId × Value → H) :
    ReturnsInHanded {} Try.checked os 8 .any (Rows.primeZeroSpec.pre6 enc Try.prog Try.f8 Rows.primeZeroRow.domain false) (Rows.primeZeroSpec.post enc Try.prog Try.f8 false true false false) := by
  refine returnsInHanded_of_change (C := Try.checked) ownKnob_none started (by kernel_rfl) Try.func8
    (ChangeSpec.witness6 (enc := enc) (C := Try.checked) false ⟨#[], #[.int .u64 0, .int .u64 0], []⟩ 8 (by kernel_rfl) (by kernel_rfl) (by kernel_rfl) (by kernel_rfl)) ?_
  intro W base args ds gs before hval0 hW _ _
  have hval : ∀ (j : Nat) t v, Try.f8.params[j]? = some t → args[j]? = some v → Value.okWide Try.prog W .any base t v := hval0
  have hWhole := hW
  obtain ⟨p, q, hA0, hV, rfl, hfz, hnd⟩ := hW
  have hA : DataW.TrodAll enc Try.prog W 0 (fun _ => true) true Try.f8.params.toList args.toList ds p := hA0
  rw [Try.params8] at hA hval
  obtain ⟨v0, vs0, d0, ds0, p0, q0, hargs0, rfl, rfl, h0, r0⟩ := trodAll_cons hA
  obtain ⟨v1, vs1, d1, ds1, p1, q1, hargs1, rfl, rfl, h1, r1⟩ := trodAll_cons r0
  obtain ⟨rfl, rfl, rfl⟩ := trodAll_nil r1
  subst hargs1
  obtain rfl : args = #[v0, v1] := by cases args; simp_all
  obtain ⟨rfl, rfl⟩ := trodVars_none hV
  obtain ⟨x0, rfl, hb0⟩ := open_nat 18446744073709551616 Try.underlying22 wf_u64' (hval 0 22 v0 rfl rfl) h0
  obtain ⟨x1, rfl, hb1⟩ := open_nat 18446744073709551616 Try.underlying22 wf_u64' (hval 1 22 v1 rfl rfl) h1
  refine ((same_below (zero_walk x0 x1 hb0 hb1 W))).mono fun e W' ⟨he, hB⟩ => ?_
  subst he
  exact ⟨_, rfl, law_post laidOut (by rw [Try.params8]; decide +kernel) rfl (by kernel_rfl) Try.underlying4 hWhole rfl rfl rfl hB⟩

theorem primeZero : Rows.PrimeZeroSaid :=
  OpenClaim.holds_of_wide 8 Try.f8 rfl rfl rfl rfl rfl rfl rfl ⟨rfl, rfl, rfl, rfl, rfl⟩ rfl rfl rfl rfl rfl (by kernel_rfl) Try.func8 (by kernel_rfl)
    (of_decide_eq_true (by kernel_rfl)) (by unfold Func.isWrapper; first | (rw [if_pos (by decide +kernel)]; kernel_rfl) | (rw [if_neg (by decide +kernel)]; exact ⟨rfl, rfl⟩))
    (fun os started H enc _ => primeZero_lifted os started H enc)
end Go.Proofs.Ytcamniadkackdaa

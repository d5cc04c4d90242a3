/- GroupPublics: any number's power; which numbers may be public. -/
import Derived.Test.YtcamniadkackdaaO
namespace Go.Proofs.Ytcamniadkackdaa
open Go.ChangeShapes Go.WideShapes Go.ChangeAt Go.RowKit

set_option maxRecDepth 100000 in
set_option maxHeartbeats 1000000 in
theorem publics_zero  (w : World) :
    Calls Try.prog 9 #[.int .u64 0] w fun e w' => e = .returned (.bool true) ∧ Below w.heap.size w w' := by
  have p1 : Hid (pubV 0 = 0) := rfl
  have p2 : Hid (pubE 0 = 1) := rfl
  have p3 : Hid (goodB 0 = false) := rfl
  go_enter Try.func9, Try.ntmps9
  go_wp2_with fail
  refine (public_any 0 (by omega) _).mono ?_
  rintro e w' ⟨rfl, rfl⟩
  rw [p1.out]
  rw [p2.out]
  go_wp2_with fail
  refine (awake3_any _).mono ?_
  rintro e wA ⟨rfl, hW⟩
  go_wp2_with fail
  refine (good_any 0 _).mono ?_
  rintro e w' ⟨rfl, rfl⟩
  rw [p3.out]
  go_wp2
  go_ret
  exact ⟨rfl, hW⟩
set_option maxRecDepth 100000 in
set_option maxHeartbeats 1000000 in
theorem publics_high (n : Nat) (hn : n < 18446744073709551616) (h : 2305843009213693949 < n) (w : World) :
    Calls Try.prog 9 #[.int .u64 n] w fun e w' => e = .returned (.bool true) ∧ Below w.heap.size w w' := by
  have hs : soundB n = false := by simp [soundB]; omega
  have p1 : Hid (pubV n = 0) := if_neg (by rw [hs]; decide)
  have p2 : Hid (pubE n = 1) := if_neg (by rw [hs]; decide)
  have p3 : Hid (goodB n = false) := by rw [Hid]; simp [goodB]; omega
  have g1 : ¬ (n : Int) < 1 := by omega
  have g2 : (2305843009213693949 : Int) < (n : Int) := by omega
  have g3 : (2 : Int) ≤ (n : Int) := by omega
  have g4 : ¬ (n : Int) ≤ 2305843009213693949 := by omega
  have g5 : decide ((n : Int) ≤ 2305843009213693949) = false := decide_eq_false g4
  clear h hs
  go_enter Try.func9, Try.ntmps9
  go_wp2_with fail
  refine (public_any n hn _).mono ?_
  rintro e w' ⟨rfl, rfl⟩
  rw [p1.out]
  rw [p2.out]
  go_wp2_with fail
  refine (awake3_any _).mono ?_
  rintro e wA ⟨rfl, hW⟩
  go_wp2_with fail
  refine (good_any n _).mono ?_
  rintro e w' ⟨rfl, rfl⟩
  rw [p3.out]
  go_wp2
  go_ret
  exact ⟨rfl, hW⟩
set_option maxRecDepth 100000 in
set_option maxHeartbeats 1000000 in
theorem publics_one  (w : World) :
    Calls Try.prog 9 #[.int .u64 1] w fun e w' => e = .returned (.bool true) ∧ Below w.heap.size w w' := by
  have p1 : Hid (pubV 1 = 37) := rfl
  have p2 : Hid (pubE 1 = 0) := rfl
  have p3 : Hid (goodB 1 = false) := rfl
  have p4 : Hid (powP 37 1 = 37) := rfl
  go_enter Try.func9, Try.ntmps9
  go_wp2_with fail
  refine (public_any 1 (by omega) _).mono ?_
  rintro e w' ⟨rfl, rfl⟩
  rw [p1.out]
  rw [p2.out]
  go_wp2_with fail
  refine (awake3_any _).mono ?_
  rintro e wA ⟨rfl, hW⟩
  go_wp2_with fail
  refine (refpow_any 37 1 (by omega) (by omega) _).mono ?_
  rintro e w' ⟨rfl, rfl⟩
  rw [p4.out]
  go_wp2_with fail
  refine (good_any 1 _).mono ?_
  rintro e w' ⟨rfl, rfl⟩
  rw [p3.out]
  go_wp2
  go_ret
  exact ⟨rfl, hW⟩
set_option maxRecDepth 100000 in
set_option maxHeartbeats 1000000 in
theorem publics_yes (n : Nat) (hn : n < 18446744073709551616) (h1 : 2 ≤ n) (h2 : n ≤ 2305843009213693949) (w : World) :
    Calls Try.prog 9 #[.int .u64 n] w fun e w' => e = .returned (.bool true) ∧ Below w.heap.size w w' := by
  have hs : soundB n = true := by simp [soundB]; omega
  have p1 : Hid (pubV n = powP 37 n) := if_pos hs
  have p2 : Hid (pubE n = 0) := if_pos hs
  have p3 : Hid (goodB n = true) := by rw [Hid]; simp [goodB]; omega
  have g1 : ¬ (n : Int) < 1 := by omega
  have g2 : ¬ (2305843009213693949 : Int) < (n : Int) := by omega
  have g3 : (2 : Int) ≤ (n : Int) := by omega
  have g4 : (n : Int) ≤ 2305843009213693949 := by omega
  clear h1 h2 hs
  go_enter Try.func9, Try.ntmps9
  go_wp2_with fail
  refine (public_any n hn _).mono ?_
  rintro e w' ⟨rfl, rfl⟩
  rw [p1.out]
  rw [p2.out]
  go_wp2_with fail
  refine (awake3_any _).mono ?_
  rintro e wA ⟨rfl, hW⟩
  go_wp2_with fail
  refine (refpow_any 37 n (by omega) hn _).mono ?_
  rintro e w' ⟨rfl, rfl⟩
  go_wp2_with fail
  refine (good_any n _).mono ?_
  rintro e w' ⟨rfl, rfl⟩
  rw [p3.out]
  go_wp2
  go_ret
  exact ⟨rfl, hW⟩
theorem publics_walk (n : Nat) (hn : n < 18446744073709551616) (w : World) : Calls Try.prog 9 #[.int .u64 n] w fun e w' => e = .returned (.bool true) ∧ Below w.heap.size w w' := by
  by_cases h0 : n = 0
  · subst h0; exact publics_zero w
  by_cases h1 : n = 1
  · subst h1; exact publics_one w
  by_cases h2 : n ≤ 2305843009213693949
  · exact publics_yes n hn (by omega) h2 w
  · exact publics_high n hn (by omega) w

set_option maxRecDepth 100000 in
theorem groupPublics_lifted (os : Os) (started : os.Started) (H : Type) (enc : TypeId × Value → H) :
    ReturnsInHanded {} Try.checked os 9 .any (Rows.groupPublicsSpec.pre6 enc Try.prog Try.f9 Rows.groupPublicsRow.domain false) (Rows.groupPublicsSpec.post enc Try.prog Try.f9 false true false false) := by
  refine returnsInHanded_of_change (C := Try.checked) ownKnob_none started (by kernel_rfl) Try.func9
    (ChangeSpec.witness6 (enc := enc) (C := Try.checked) false ⟨#[], #[.int .u64 0], []⟩ 8 (by kernel_rfl) (by kernel_rfl) (by kernel_rfl) (by kernel_rfl)) ?_
  intro W base args ds gs before hval0 hW _ _
  have hval : ∀ (j : Nat) t v, Try.f9.params[j]? = some t → args[j]? = some v → Value.okWide Try.prog W .any base t v := hval0
  have hWhole := hW
  obtain ⟨p, q, hA0, hV, rfl, hfz, hnd⟩ := hW
  have hA : DataW.TrodAll enc Try.prog W 0 (fun _ => true) true Try.f9.params.toList args.toList ds p := hA0
  rw [Try.params9] at hA hval
  obtain ⟨v0, vs0, d0, ds0, p0, q0, hargs0, rfl, rfl, h0, r0⟩ := trodAll_cons hA
  obtain ⟨rfl, rfl, rfl⟩ := trodAll_nil r0
  obtain rfl : args = #[v0] := by cases args; simp_all
  obtain ⟨rfl, rfl⟩ := trodVars_none hV
  obtain ⟨x0, rfl, hb0⟩ := open_nat 18446744073709551616 Try.underlying22 wf_u64' (hval 0 22 v0 rfl rfl) h0
  refine (publics_walk x0 hb0 W).mono fun e W' ⟨he, hB⟩ => ?_
  subst he
  exact ⟨_, rfl, law_post laidOut (by rw [Try.params9]; decide +kernel) rfl (by kernel_rfl) Try.underlying4 hWhole rfl rfl rfl hB⟩

theorem groupPublics : Rows.GroupPublicsSaid :=
  OpenClaim.holds_of_wide 9 Try.f9 rfl rfl rfl rfl rfl rfl rfl ⟨rfl, rfl, rfl, rfl, rfl⟩ rfl rfl rfl rfl rfl (by kernel_rfl) Try.func9 (by kernel_rfl)
    (of_decide_eq_true (by kernel_rfl)) (by unfold Func.isWrapper; first | (rw [if_pos (by decide +kernel)]; kernel_rfl) | (rw [if_neg (by decide +kernel)]; exact ⟨rfl, rfl⟩))
    (fun os started H enc _ => groupPublics_lifted os started H enc)
end Go.Proofs.Ytcamniadkackdaa

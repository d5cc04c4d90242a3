/- GroupAgrees: the number of any two. -/
import Derived.Test.YtcamniadkackdaaO
namespace Go.Proofs.Ytcamniadkackdaa
open Go.ChangeShapes Go.WideShapes Go.ChangeAt Go.RowKit

set_option maxRecDepth 100000 in
set_option maxHeartbeats 1000000 in
theorem agrees_low (s p : Nat) (hs : s < 18446744073709551616) (hp : p < 18446744073709551616) (h : s < 1) (w : World) :
    Calls Try.prog 10 #[.int .u64 s, .int .u64 p] w fun e w' => e = .returned (.bool true) ∧ Below w.heap.size w w' := by
  have hq : soundB s = false := by simp [soundB]; omega
  have p1 : Hid (agrV s p = 0) := if_neg (by rw [hq]; decide)
  have p2 : Hid (agrE s p = 1) := if_neg (by rw [hq]; decide)
  have g1 : (s : Int) < 1 := by omega
  clear h hq
  go_enter Try.func10, Try.ntmps10
  go_wp2_with fail
  refine (agree_any s p hs hp _).mono ?_
  rintro e w' ⟨rfl, rfl⟩
  rw [p1.out]
  rw [p2.out]
  go_wp2_with fail
  refine (awake3_any _).mono ?_
  rintro e wA ⟨rfl, hW⟩
  go_wp2
  go_ret
  exact ⟨rfl, hW⟩
set_option maxRecDepth 100000 in
set_option maxHeartbeats 1000000 in
theorem agrees_high (s p : Nat) (hs : s < 18446744073709551616) (hp : p < 18446744073709551616) (h : 2305843009213693949 < s) (w : World) :
    Calls Try.prog 10 #[.int .u64 s, .int .u64 p] w fun e w' => e = .returned (.bool true) ∧ Below w.heap.size w w' := by
  have hq : soundB s = false := by simp [soundB]; omega
  have p1 : Hid (agrV s p = 0) := if_neg (by rw [hq]; decide)
  have p2 : Hid (agrE s p = 1) := if_neg (by rw [hq]; decide)
  have g1 : ¬ (s : Int) < 1 := by omega
  have g2 : (2305843009213693949 : Int) < (s : Int) := by omega
  clear h hq
  go_enter Try.func10, Try.ntmps10
  go_wp2_with fail
  refine (agree_any s p hs hp _).mono ?_
  rintro e w' ⟨rfl, rfl⟩
  rw [p1.out]
  rw [p2.out]
  go_wp2_with fail
  refine (awake3_any _).mono ?_
  rintro e wA ⟨rfl, hW⟩
  go_wp2
  go_ret
  exact ⟨rfl, hW⟩
set_option maxRecDepth 100000 in
set_option maxHeartbeats 1000000 in
theorem agrees_plow (s p : Nat) (hs : s < 18446744073709551616) (hp : p < 18446744073709551616) (h1 : 1 ≤ s) (h2 : s ≤ 2305843009213693949) (h : p < 2) (w : World) :
    Calls Try.prog 10 #[.int .u64 s, .int .u64 p] w fun e w' => e = .returned (.bool true) ∧ Below w.heap.size w w' := by
  have hq : soundB s = true := by simp [soundB]; omega
  have g1 : ¬ (s : Int) < 1 := by omega
  have g2 : ¬ (2305843009213693949 : Int) < (s : Int) := by omega
  have hr : goodB p = false := by simp [goodB]; omega
  have p1 : Hid (agrV s p = 0) := by rw [Hid, agrV, if_pos hq, hr]; rfl
  have p2 : Hid (agrE s p = 16) := by rw [Hid, agrE, if_pos hq, hr]; rfl
  have g3 : (p : Int) < 2 := by omega
  clear h1 h2 h hq hr
  go_enter Try.func10, Try.ntmps10
  go_wp2_with fail
  refine (agree_any s p hs hp _).mono ?_
  rintro e w' ⟨rfl, rfl⟩
  rw [p1.out]
  rw [p2.out]
  go_wp2_with fail
  refine (awake3_any _).mono ?_
  rintro e wA ⟨rfl, hW⟩
  go_wp2
  go_ret
  exact ⟨rfl, hW⟩
set_option maxRecDepth 100000 in
set_option maxHeartbeats 1000000 in
theorem agrees_phigh (s p : Nat) (hs : s < 18446744073709551616) (hp : p < 18446744073709551616) (h1 : 1 ≤ s) (h2 : s ≤ 2305843009213693949) (h : 2305843009213693949 < p) (w : World) :
    Calls Try.prog 10 #[.int .u64 s, .int .u64 p] w fun e w' => e = .returned (.bool true) ∧ Below w.heap.size w w' := by
  have hq : soundB s = true := by simp [soundB]; omega
  have g1 : ¬ (s : Int) < 1 := by omega
  have g2 : ¬ (2305843009213693949 : Int) < (s : Int) := by omega
  have hr : goodB p = false := by simp [goodB]; omega
  have p1 : Hid (agrV s p = 0) := by rw [Hid, agrV, if_pos hq, hr]; rfl
  have p2 : Hid (agrE s p = 16) := by rw [Hid, agrE, if_pos hq, hr]; rfl
  have g3 : ¬ (p : Int) < 2 := by omega
  have g4 : (2305843009213693949 : Int) < (p : Int) := by omega
  clear h1 h2 h hq hr
  go_enter Try.func10, Try.ntmps10
  go_wp2_with fail
  refine (agree_any s p hs hp _).mono ?_
  rintro e w' ⟨rfl, rfl⟩
  rw [p1.out]
  rw [p2.out]
  go_wp2_with fail
  refine (awake3_any _).mono ?_
  rintro e wA ⟨rfl, hW⟩
  go_wp2
  go_ret
  exact ⟨rfl, hW⟩
set_option maxRecDepth 100000 in
set_option maxHeartbeats 1000000 in
theorem agrees_yes (s p : Nat) (hs : s < 18446744073709551616) (hp : p < 18446744073709551616) (h1 : 1 ≤ s) (h2 : s ≤ 2305843009213693949) (h3 : 2 ≤ p) (h4 : p ≤ 2305843009213693949) (w : World) :
    Calls Try.prog 10 #[.int .u64 s, .int .u64 p] w fun e w' => e = .returned (.bool true) ∧ Below w.heap.size w w' := by
  have hq : soundB s = true := by simp [soundB]; omega
  have g1 : ¬ (s : Int) < 1 := by omega
  have g2 : ¬ (2305843009213693949 : Int) < (s : Int) := by omega
  have hr : goodB p = true := by simp [goodB]; omega
  have p1 : Hid (agrV s p = powP p s) := by rw [Hid, agrV, if_pos hq, if_pos hr]
  have p2 : Hid (agrE s p = 0) := by rw [Hid, agrE, if_pos hq, if_pos hr]
  have g3 : ¬ (p : Int) < 2 := by omega
  have g4 : ¬ (2305843009213693949 : Int) < (p : Int) := by omega
  clear h1 h2 h3 h4 hq hr
  go_enter Try.func10, Try.ntmps10
  go_wp2_with fail
  refine (agree_any s p hs hp _).mono ?_
  rintro e w' ⟨rfl, rfl⟩
  rw [p1.out]
  rw [p2.out]
  go_wp2_with fail
  refine (awake3_any _).mono ?_
  rintro e wA ⟨rfl, hW⟩
  go_wp2_with fail
  refine (refpow_any p s hp hs _).mono ?_
  rintro e w' ⟨rfl, rfl⟩
  go_wp2
  go_ret
  exact ⟨rfl, hW⟩
theorem agrees_walk (s p : Nat) (hs : s < 18446744073709551616) (hp : p < 18446744073709551616) (w : World) : Calls Try.prog 10 #[.int .u64 s, .int .u64 p] w fun e w' => e = .returned (.bool true) ∧ Below w.heap.size w w' := by
  by_cases h1 : s < 1
  · exact agrees_low s p hs hp h1 w
  by_cases h2 : 2305843009213693949 < s
  · exact agrees_high s p hs hp h2 w
  by_cases h3 : p < 2
  · exact agrees_plow s p hs hp (by omega) (by omega) h3 w
  by_cases h4 : 2305843009213693949 < p
  · exact agrees_phigh s p hs hp (by omega) (by omega) h4 w
  exact agrees_yes s p hs hp (by omega) (by omega) (by omega) (by omega) w

set_option maxRecDepth 100000 in
theorem groupAgrees_lifted (os : Os) (started : os.Started) (H : Type) (enc : TypeId × Value → H) :
    ReturnsInHanded {} Try.checked os 10 .any (Rows.groupAgreesSpec.pre6 enc Try.prog Try.f10 Rows.groupAgreesRow.domain false) (Rows.groupAgreesSpec.post enc Try.prog Try.f10 false true false false) := by
  refine returnsInHanded_of_change (C := Try.checked) ownKnob_none started (by kernel_rfl) Try.func10
    (ChangeSpec.witness6 (enc := enc) (C := Try.checked) false ⟨#[], #[.int .u64 0, .int .u64 0], []⟩ 8 (by kernel_rfl) (by kernel_rfl) (by kernel_rfl) (by kernel_rfl)) ?_
  intro W base args ds gs before hval0 hW _ _
  have hval : ∀ (j : Nat) t v, Try.f10.params[j]? = some t → args[j]? = some v → Value.okWide Try.prog W .any base t v := hval0
  have hWhole := hW
  obtain ⟨p, q, hA0, hV, rfl, hfz, hnd⟩ := hW
  have hA : DataW.TrodAll enc Try.prog W 0 (fun _ => true) true Try.f10.params.toList args.toList ds p := hA0
  rw [Try.params10] at hA hval
  obtain ⟨v0, vs0, d0, ds0, p0, q0, hargs0, rfl, rfl, h0, r0⟩ := trodAll_cons hA
  obtain ⟨v1, vs1, d1, ds1, p1, q1, hargs1, rfl, rfl, h1, r1⟩ := trodAll_cons r0
  obtain ⟨rfl, rfl, rfl⟩ := trodAll_nil r1
  subst hargs1
  obtain rfl : args = #[v0, v1] := by cases args; simp_all
  obtain ⟨rfl, rfl⟩ := trodVars_none hV
  obtain ⟨x0, rfl, hb0⟩ := open_nat 18446744073709551616 Try.underlying22 wf_u64' (hval 0 22 v0 rfl rfl) h0
  obtain ⟨x1, rfl, hb1⟩ := open_nat 18446744073709551616 Try.underlying22 wf_u64' (hval 1 22 v1 rfl rfl) h1
  refine (agrees_walk x0 x1 hb0 hb1 W).mono fun e W' ⟨he, hB⟩ => ?_
  subst he
  exact ⟨_, rfl, law_post laidOut (by rw [Try.params10]; decide +kernel) rfl (by kernel_rfl) Try.underlying4 hWhole rfl rfl rfl hB⟩

theorem groupAgrees : Rows.GroupAgreesSaid :=
  OpenClaim.holds_of_wide 10 Try.f10 rfl rfl rfl rfl rfl rfl rfl ⟨rfl, rfl, rfl, rfl, rfl⟩ rfl rfl rfl rfl rfl (by kernel_rfl) Try.func10 (by kernel_rfl)
    (of_decide_eq_true (by kernel_rfl)) (by unfold Func.isWrapper; first | (rw [if_pos (by decide +kernel)]; kernel_rfl) | (rw [if_neg (by decide +kernel)]; exact ⟨rfl, rfl⟩))
    (fun os started H enc _ => groupAgrees_lifted os started H enc)
end Go.Proofs.Ytcamniadkackdaa

/- GroupPowers: the public number of a sum is the product of both; of a product, what the one comes to with the other's. -/
import Derived.Test.YtcamniadkackdaaO
namespace Go.Proofs.Ytcamniadkackdaa
open Go.ChangeShapes Go.WideShapes Go.ChangeAt Go.RowKit

theorem pub_sound (n : Nat) (h1 : 1 ≤ n) (h2 : n ≤ 2305843009213693949) : pubV n = powP 37 n ∧ pubE n = 0 := by
  have hs : soundB n = true := by simp [soundB]; omega
  exact ⟨if_pos hs, if_pos hs⟩
set_option maxRecDepth 100000 in
set_option maxHeartbeats 1000000 in
theorem powers3_walk (a b : Nat) (ha : a < 4294967296) (hb : b < 4294967296) (w : World) :
    Calls Try.prog 12 #[.int .u32 a, .int .u32 b] w fun e w' => e = .returned (.bool true) ∧ Below w.heap.size w w' := by
  obtain ⟨m, hm, hM⟩ : ∃ m : Nat, m ≤ 4294967296 ∧ m = a + 1 := ⟨_, by omega, rfl⟩
  obtain ⟨k, hk, hK⟩ : ∃ k : Nat, k ≤ 4294967296 ∧ k = b + 1 := ⟨_, by omega, rfl⟩
  have eA : Hid ((a : Int) + 1 = (m : Int)) := by rw [Hid]; omega
  have eB : Hid ((b : Int) + 1 = (k : Int)) := by rw [Hid]; omega
  have eC : Hid ((a : Int) + (b : Int) + 2 = ((m + k : Nat) : Int)) := by rw [Hid]; omega
  have p1 : Hid (pubV m = powP 37 m) := (pub_sound m (by omega) (by omega)).1
  have p2 : Hid (pubE m = 0) := (pub_sound m (by omega) (by omega)).2
  have p3 : Hid (pubV k = powP 37 k) := (pub_sound k (by omega) (by omega)).1
  have p4 : Hid (pubE k = 0) := (pub_sound k (by omega) (by omega)).2
  have p5 : Hid (pubV (m + k) = powP 37 (m + k)) := (pub_sound (m + k) (by omega) (by omega)).1
  have p6 : Hid (pubE (m + k) = 0) := (pub_sound (m + k) (by omega) (by omega)).2
  have hm1 : Hid (m < 18446744073709551616) := by rw [Hid]; omega
  have hk1 : Hid (k < 18446744073709551616) := by rw [Hid]; omega
  have hmk : Hid (m + k < 18446744073709551616) := by rw [Hid]; omega
  clear hm hk hM hK
  go_enter Try.func12, Try.ntmps12
  go_wp2_with fail
  rw [eA.out]
  refine (public_any m hm1.out _).mono ?_
  rintro e w' ⟨rfl, rfl⟩
  rw [p1.out]
  rw [p2.out]
  go_wp2_with fail
  rw [eB.out]
  refine (public_any k hk1.out _).mono ?_
  rintro e w' ⟨rfl, rfl⟩
  rw [p3.out]
  rw [p4.out]
  go_wp2_with fail
  rw [eC.out]
  refine (public_any (m + k) hmk.out _).mono ?_
  rintro e w' ⟨rfl, rfl⟩
  rw [p5.out]
  rw [p6.out]
  go_wp2_with fail
  refine (awake3_any _).mono ?_
  rintro e wA ⟨rfl, hW⟩
  go_wp2_with fail
  refine (refmul_any (powP 37 m) (powP 37 k) (Nat.lt_trans (powP_lt 37 m) (by omega)) (Nat.lt_trans (powP_lt 37 k) (by omega)) _).mono ?_
  rintro e w' ⟨rfl, rfl⟩
  rw [← powP_add]
  go_wp2_with fail
  rw [eB.out]
  refine (refpow_any (powP 37 m) k (Nat.lt_trans (powP_lt 37 m) (by omega)) hk1.out _).mono ?_
  rintro e w' ⟨rfl, rfl⟩
  rw [← powP_mul]
  go_wp2_with fail
  rw [eA.out]
  refine (refpow_any (powP 37 k) m (Nat.lt_trans (powP_lt 37 k) (by omega)) hm1.out _).mono ?_
  rintro e w' ⟨rfl, rfl⟩
  rw [← powP_mul]
  rw [Nat.mul_comm k m]
  go_wp2
  go_ret
  exact ⟨rfl, hW⟩

set_option maxRecDepth 100000 in
theorem groupPowers_lifted (os : Os) (started : os.Started) (H : Type) (enc : TypeId × Value → H) :
    ReturnsInHanded {} Try.checked os 12 .any (Rows.groupPowersSpec.pre6 enc Try.prog Try.f12 Rows.groupPowersRow.domain false) (Rows.groupPowersSpec.post enc Try.prog Try.f12 false true false false) := by
  refine returnsInHanded_of_change (C := Try.checked) ownKnob_none started (by kernel_rfl) Try.func12
    (ChangeSpec.witness6 (enc := enc) (C := Try.checked) false ⟨#[], #[.int .u32 0, .int .u32 0], []⟩ 8 (by kernel_rfl) (by kernel_rfl) (by kernel_rfl) (by kernel_rfl)) ?_
  intro W base args ds gs before hval0 hW _ _
  have hval : ∀ (j : Nat) t v, Try.f12.params[j]? = some t → args[j]? = some v → Value.okWide Try.prog W .any base t v := hval0
  have hWhole := hW
  obtain ⟨p, q, hA0, hV, rfl, hfz, hnd⟩ := hW
  have hA : DataW.TrodAll enc Try.prog W 0 (fun _ => true) true Try.f12.params.toList args.toList ds p := hA0
  rw [Try.params12] at hA hval
  obtain ⟨v0, vs0, d0, ds0, p0, q0, hargs0, rfl, rfl, h0, r0⟩ := trodAll_cons hA
  obtain ⟨v1, vs1, d1, ds1, p1, q1, hargs1, rfl, rfl, h1, r1⟩ := trodAll_cons r0
  obtain ⟨rfl, rfl, rfl⟩ := trodAll_nil r1
  subst hargs1
  obtain rfl : args = #[v0, v1] := by cases args; simp_all
  obtain ⟨rfl, rfl⟩ := trodVars_none hV
  obtain ⟨x0, rfl, hb0⟩ := open_nat 4294967296 Try.underlying31 wf_u32' (hval 0 31 v0 rfl rfl) h0
  obtain ⟨x1, rfl, hb1⟩ := open_nat 4294967296 Try.underlying31 wf_u32' (hval 1 31 v1 rfl rfl) h1
  refine (powers3_walk x0 x1 hb0 hb1 W).mono fun e W' ⟨he, hB⟩ => ?_
  subst he
  exact ⟨_, rfl, law_post laidOut (by rw [Try.params12]; decide +kernel) rfl (by kernel_rfl) Try.underlying4 hWhole rfl rfl rfl hB⟩

theorem groupPowers : Rows.GroupPowersSaid :=
  OpenClaim.holds_of_wide 12 Try.f12 rfl rfl rfl rfl rfl rfl rfl ⟨rfl, rfl, rfl, rfl, rfl⟩ rfl rfl rfl rfl rfl (by kernel_rfl) Try.func12 (by kernel_rfl)
    (of_decide_eq_true (by kernel_rfl)) (by unfold Func.isWrapper; first | (rw [if_pos (by decide +kernel)]; kernel_rfl) | (rw [if_neg (by decide +kernel)]; exact ⟨rfl, rfl⟩))
    (fun os started H enc _ => groupPowers_lifted os started H enc)
end Go.Proofs.Ytcamniadkackdaa

/- PrimeParts: products may be parted, and sums; what is taken away may be added again; powers add. -/
import Derived.Test.YtcamniadkackdaaE
namespace Go.Proofs.Ytcamniadkackdaa
open Go.ChangeShapes Go.WideShapes Go.ChangeAt Go.RowKit

theorem parts_sum (a b c : Nat) : mulP a (addP b c) = addP (mulP a b) (mulP a c) := by
  unfold mulP addP
  rw [Nat.mul_mod, Nat.mod_mod, ← Nat.mul_mod, Nat.mul_add, Nat.add_mod]
theorem sub_add (a b : Nat) : subP (addP a b) b = a % Pn := by
  have := sub_mod_eq b a
  rw [← this]
  unfold subP addP
  rw [Nat.add_comm b a, Nat.mod_mod b Pn]
set_option maxRecDepth 100000 in
set_option maxHeartbeats 1000000 in
theorem parts_walk (a b c n m : Nat) (ha : a < 18446744073709551616) (hb : b < 18446744073709551616) (hc : c < 18446744073709551616) (hn : n < 4294967296) (hm : m < 4294967296) (w : World) :
    Calls Try.prog 7 #[.int .u64 a, .int .u64 b, .int .u64 c, .int .u32 n, .int .u32 m] w fun e w' => e = .returned (.bool true) ∧ w = w' := by
  go_enter Try.func7, Try.ntmps7
  go_wp2_with fail
  refine (awake_any _).mono ?_
  rintro e w' ⟨rfl, rfl⟩
  go_wp2_with fail
  refine (add_any b c hb hc _).mono ?_
  rintro e w' ⟨rfl, rfl⟩
  go_wp2_with fail
  refine (mul_any a (addP b c) ha (Nat.lt_trans (addP_lt b c) (by omega)) _).mono ?_
  rintro e w' ⟨rfl, rfl⟩
  rw [parts_sum]
  go_wp2_with fail
  refine (mul_any a b ha hb _).mono ?_
  rintro e w' ⟨rfl, rfl⟩
  go_wp2_with fail
  refine (mul_any a c ha hc _).mono ?_
  rintro e w' ⟨rfl, rfl⟩
  go_wp2_with fail
  refine (add_any (mulP a b) (mulP a c) (Nat.lt_trans (mulP_lt a b) (by omega)) (Nat.lt_trans (mulP_lt a c) (by omega)) _).mono ?_
  rintro e w' ⟨rfl, rfl⟩
  go_wp2_with fail
  refine (mul_any a b ha hb _).mono ?_
  rintro e w' ⟨rfl, rfl⟩
  go_wp2_with fail
  refine (mul_any (mulP a b) c (Nat.lt_trans (mulP_lt a b) (by omega)) hc _).mono ?_
  rintro e w' ⟨rfl, rfl⟩
  rw [mulP_assoc]
  go_wp2_with fail
  refine (mul_any b c hb hc _).mono ?_
  rintro e w' ⟨rfl, rfl⟩
  go_wp2_with fail
  refine (mul_any a (mulP b c) ha (Nat.lt_trans (mulP_lt b c) (by omega)) _).mono ?_
  rintro e w' ⟨rfl, rfl⟩
  go_wp2_with fail
  refine (add_any a b ha hb _).mono ?_
  rintro e w' ⟨rfl, rfl⟩
  go_wp2_with fail
  refine (sub_any (addP a b) b (Nat.lt_trans (addP_lt a b) (by omega)) hb _).mono ?_
  rintro e w' ⟨rfl, rfl⟩
  rw [sub_add]
  go_wp2_with fail
  refine (mod_any a ha _).mono ?_
  rintro e w' ⟨rfl, rfl⟩
  go_wp2_with fail
  rw [← Int.natCast_add]
  refine (pow_any a (n + m) ha (by omega) _).mono ?_
  rintro e w' ⟨rfl, rfl⟩
  rw [powP_add]
  go_wp2_with fail
  refine (pow_any a n ha (by omega) _).mono ?_
  rintro e w' ⟨rfl, rfl⟩
  go_wp2_with fail
  refine (pow_any a m ha (by omega) _).mono ?_
  rintro e w' ⟨rfl, rfl⟩
  go_wp2_with fail
  refine (mul_any (powP a n) (powP a m) (Nat.lt_trans (powP_lt a n) (by omega)) (Nat.lt_trans (powP_lt a m) (by omega)) _).mono ?_
  rintro e w' ⟨rfl, rfl⟩
  go_wp2
  go_ret
  exact ⟨rfl, rfl⟩

set_option maxRecDepth 100000 in
theorem primeParts_lifted (os : Os) (started : os.Started) (H : Type) (enc : TypeId × Value → H) :
    ReturnsInHanded {} Try.checked os 7 .any (Rows.primePartsSpec.pre6 enc Try.prog Try.f7 Rows.primePartsRow.domain false) (Rows.primePartsSpec.post enc Try.prog Try.f7 false true false false) := by
  refine returnsInHanded_of_change (C := Try.checked) ownKnob_none started (by kernel_rfl) Try.func7
    (ChangeSpec.witness6 (enc := enc) (C := Try.checked) false ⟨#[], #[.int .u64 0, .int .u64 0, .int .u64 0, .int .u32 0, .int .u32 0], []⟩ 8 (by kernel_rfl) (by kernel_rfl) (by kernel_rfl) (by kernel_rfl)) ?_
  intro W base args ds gs before hval0 hW _ _
  have hval : ∀ (j : Nat) t v, Try.f7.params[j]? = some t → args[j]? = some v → Value.okWide Try.prog W .any base t v := hval0
  have hWhole := hW
  obtain ⟨p, q, hA0, hV, rfl, hfz, hnd⟩ := hW
  have hA : DataW.TrodAll enc Try.prog W 0 (fun _ => true) true Try.f7.params.toList args.toList ds p := hA0
  rw [Try.params7] at hA hval
  obtain ⟨v0, vs0, d0, ds0, p0, q0, hargs0, rfl, rfl, h0, r0⟩ := trodAll_cons hA
  obtain ⟨v1, vs1, d1, ds1, p1, q1, hargs1, rfl, rfl, h1, r1⟩ := trodAll_cons r0
  obtain ⟨v2, vs2, d2, ds2, p2, q2, hargs2, rfl, rfl, h2, r2⟩ := trodAll_cons r1
  obtain ⟨v3, vs3, d3, ds3, p3, q3, hargs3, rfl, rfl, h3, r3⟩ := trodAll_cons r2
  obtain ⟨v4, vs4, d4, ds4, p4, q4, hargs4, rfl, rfl, h4, r4⟩ := trodAll_cons r3
  obtain ⟨rfl, rfl, rfl⟩ := trodAll_nil r4
  subst hargs1
  subst hargs2
  subst hargs3
  subst hargs4
  obtain rfl : args = #[v0, v1, v2, v3, v4] := by cases args; simp_all
  obtain ⟨rfl, rfl⟩ := trodVars_none hV
  obtain ⟨x0, rfl, hb0⟩ := open_nat 18446744073709551616 Try.underlying22 wf_u64' (hval 0 22 v0 rfl rfl) h0
  obtain ⟨x1, rfl, hb1⟩ := open_nat 18446744073709551616 Try.underlying22 wf_u64' (hval 1 22 v1 rfl rfl) h1
  obtain ⟨x2, rfl, hb2⟩ := open_nat 18446744073709551616 Try.underlying22 wf_u64' (hval 2 22 v2 rfl rfl) h2
  obtain ⟨x3, rfl, hb3⟩ := open_nat 4294967296 Try.underlying31 wf_u32' (hval 3 31 v3 rfl rfl) h3
  obtain ⟨x4, rfl, hb4⟩ := open_nat 4294967296 Try.underlying31 wf_u32' (hval 4 31 v4 rfl rfl) h4
  refine ((same_below (parts_walk x0 x1 x2 x3 x4 hb0 hb1 hb2 hb3 hb4 W))).mono fun e W' ⟨he, hB⟩ => ?_
  subst he
  exact ⟨_, rfl, law_post laidOut (by rw [Try.params7]; decide +kernel) rfl (by kernel_rfl) Try.underlying4 hWhole rfl rfl rfl hB⟩

theorem primeParts : Rows.PrimePartsSaid :=
  OpenClaim.holds_of_wide 7 Try.f7 rfl rfl rfl rfl rfl rfl rfl ⟨rfl, rfl, rfl, rfl, rfl⟩ rfl rfl rfl rfl rfl (by kernel_rfl) Try.func7 (by kernel_rfl)
    (of_decide_eq_true (by kernel_rfl)) (by unfold Func.isWrapper; first | (rw [if_pos (by decide +kernel)]; kernel_rfl) | (rw [if_neg (by decide +kernel)]; exact ⟨rfl, rfl⟩))
    (fun os started H enc _ => primeParts_lifted os started H enc)
end Go.Proofs.Ytcamniadkackdaa

/- StreamDerives: a seed of any number is the reference's. -/
import Derived.Test.YthpjdgddpnpdpaaS5
import Derived.Test.YthpjdgddpnpdpaaRow
namespace Go.Proofs.Ythpjdgddpnpdpaa
open Go.ChangeShapes Go.WideShapes Go.ChangeAt Go.RowKit

set_option maxRecDepth 100000 in
set_option maxHeartbeats 4000000 in
theorem derives_walk (n tag : Nat) (ht : tag < 4294967296) (w : World) :
    Calls Try.prog 11 #[.int .u64 n, .int .u32 tag] w fun e w' => e = .returned (.bool true) ∧ Below w.heap.size w w' := by
  have H1 := Lib.hid (fun w => derive_any n tag ht w)
  have H2 := Lib.hid (fun w => refderive_any n tag w)
  have hDl : Hid (∀ _ : Unit, (deriveN n tag).length = 32) := fun _ => deriveN_length _ _
  generalize deriveN n tag = D at H1 H2 hDl
  have g33 : Hid (Try.prog.eqGuardType Try.prog.depth 33 = false) := by rw [Hid]; kernel_rfl
  have hs5 : Hid ((Try.prog.info? 5).map (·.size) = some 1) := by rw [Hid]; kernel_rfl
  clear ht
  go_enter Try.func11, Try.ntmps11
  go_wp2_with fail
  refine (awake5_any _).mono ?_
  rintro e w1 ⟨rfl, hb1⟩
  go_wp2_with fail
  refine (H1.out _).mono ?_
  rintro e w2 ⟨rfl, hb2⟩
  have hB2 := Lib.hid (hb1.trans (hb2.mono hb1.size))
  clear hb1 hb2
  go_wp2_with fail
  refine (H2.out _).mono ?_
  rintro e w3 ⟨rfl, hb3⟩
  have hB3 := Lib.hid (hB2.out.trans (hb3.mono hB2.out.size))
  clear hB2 hb3 H1 H2
  go_wp2_with (refine wpList_eql_ints rfl rfl rfl rfl Try.underlying33 Try.underlying5 hs5.out (hDl.out ()) (hDl.out ()) g33.out ?_; rw [beq_self_eq_true])
  go_ret
  exact ⟨rfl, hB3.out⟩

set_option maxRecDepth 100000 in
theorem streamDerives_lifted (os : Os) (started : os.Started) (H : Type) (enc : TypeId × Value → H) :
    ReturnsInHanded {} Try.checked os 11 .any (Rows.streamDerivesSpec.pre6 enc Try.prog Try.f11 Rows.streamDerivesRow.domain false) (Rows.streamDerivesSpec.post enc Try.prog Try.f11 false true false false) := by
  refine returnsInHanded_of_change (C := Try.checked) ownKnob_none started (by kernel_rfl) Try.func11
    (ChangeSpec.witness6 (enc := enc) (C := Try.checked) false ⟨#[], #[.int .u64 0, .int .u32 0], []⟩ 8 (by kernel_rfl) (by kernel_rfl) (by kernel_rfl) (by kernel_rfl)) ?_
  intro W base args ds gs before hval0 hW _ _
  have hval : ∀ (j : Nat) t v, Try.f11.params[j]? = some t → args[j]? = some v → Value.okWide Try.prog W .any base t v := hval0
  have hWhole := hW
  obtain ⟨p, q, hA0, hV, rfl, hfz, hnd⟩ := hW
  have hA : DataW.TrodAll enc Try.prog W 0 (fun _ => true) true Try.f11.params.toList args.toList ds p := hA0
  rw [Try.params11] at hA hval
  obtain ⟨v0, vs0, d0, ds0, p0, q0, hargs0, rfl, rfl, h0, r0⟩ := trodAll_cons hA
  obtain ⟨v1, vs1, d1, ds1, p1, q1, hargs1, rfl, rfl, h1, r1⟩ := trodAll_cons r0
  obtain ⟨rfl, rfl, rfl⟩ := trodAll_nil r1
  subst hargs1
  obtain rfl : args = #[v0, v1] := by cases args; simp_all
  obtain ⟨rfl, rfl⟩ := trodVars_none hV
  obtain ⟨x0, rfl, hb0⟩ := open_nat 18446744073709551616 Try.underlying49 wf_u64' (hval 0 49 v0 rfl rfl) h0
  obtain ⟨x1, rfl, hb1⟩ := open_nat 4294967296 Try.underlying22 wf_u32' (hval 1 22 v1 rfl rfl) h1
  refine (derives_walk x0 x1 hb1 W).mono fun e W' ⟨he, hB⟩ => ?_
  subst he
  exact ⟨_, rfl, law_post laidOut (by rw [Try.params11]; decide +kernel) rfl (by kernel_rfl) Try.underlying4 hWhole rfl rfl rfl hB⟩

theorem streamDerives : Rows.StreamDerivesSaid :=
  OpenClaim.holds_of_wide 11 Try.f11 rfl rfl rfl rfl rfl rfl rfl ⟨rfl, rfl, rfl, rfl, rfl⟩ rfl rfl rfl rfl rfl (by kernel_rfl) Try.func11 (by kernel_rfl)
    (of_decide_eq_true (by kernel_rfl)) (by unfold Func.isWrapper; first | (rw [if_pos (by decide +kernel)]; kernel_rfl) | (rw [if_neg (by decide +kernel)]; exact ⟨rfl, rfl⟩))
    (fun os started H enc _ => streamDerives_lifted os started H enc)
end Go.Proofs.Ythpjdgddpnpdpaa

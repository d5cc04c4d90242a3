/- LimbGlues: whatever the numbers, their seed is the reference's, and there is none where it has none. -/
import Derived.Test.YtbneibfieohkpaaE
namespace Go.Proofs.Ytbneibfieohkpaa
open Go.ChangeShapes Go.WideShapes Go.ChangeAt Go.RowKit

set_option maxHeartbeats 1000000 in
theorem glues_walk (ls : List Nat) (hl : ls.length = 5) (hb : ∀ i, ls.getD i 0 < 18446744073709551616) (w : World) :
    Calls Try.prog 4 #[.agg (av .u64 ls)] w fun e w' => e = .returned (.bool true) ∧ Below w.heap.size w w' := by
  have hs24 : Hid ((Try.prog.info? 24).map (·.size) = some (av .u64 ls).size) := by rw [Hid, av_size, hl]; kernel_rfl
  have hs26 : Hid ((Try.prog.info? 26).map (·.size) = some (av .u8 (glueR ls)).size) := by rw [Hid, av_size, glueR_length]; kernel_rfl
  have hs22 : Hid ((Try.prog.info? 22).map (·.size) = some (av .u8 (glueR ls)).size) := by rw [Hid, av_size, glueR_length]; kernel_rfl
  have hb26 : Hid (Try.prog.built 26 [] = some (av .u8 zeros)) := by rw [Hid]; kernel_rfl
  have hz26 : Hid ((Try.prog.info? 26).bind (·.zero) = some (.agg (av .u8 zeros))) := by rw [Hid]; kernel_rfl
  have hz22 : Hid ((Try.prog.info? 22).bind (·.zero) = some (.agg (av .u8 zeros))) := by rw [Hid]; kernel_rfl
  have hgd : Hid (Try.prog.eqGuardType Try.prog.depth 26 = false) := by rw [Hid]; kernel_rfl
  have hs5 : Hid ((Try.prog.info? 5).map (·.size) = some 1) := by rw [Hid]; kernel_rfl
  go_enter Try.func4, Try.ntmps4
  go_wp2_with (refine wpList_load_row rfl 24 _ rfl _ rfl 24 _ (0, 0) _ (heap_new w _) Try.underlying24 rfl hs24.out ?_)
  refine (glue_any ls hl hb _).mono ?_
  rintro e w1 ⟨rfl, hb1⟩
  have r1 := old_row hb1 (by simp) (heap_new w _)
  have z1 : w.heap.size < w1.heap.size := by have := hb1.size; simp at this; omega
  have b1 : Below w.heap.size w w1 := ((Below.refl _ _).alloc (Nat.le_refl _) _).trans (hb1.mono (by simp))
  clear hb1
  go_wp2_with (first
    | (refine wpList_alloc_as rfl 26 rfl _ hz26.out ?_)
    | (refine wpList_store_row rfl 26 _ _ rfl _ _ rfl rfl 26 _ (heap_new w1 _) hs26.out (by rw [av_size, av_size, zeros_length, glueR_length]) (av_one _ _) ?_; rw [alloc_setRow])
    | (refine wpList_load_row rfl 24 _ rfl _ rfl 24 _ (0, 0) _ (old_alloc _ r1) Try.underlying24 rfl hs24.out ?_))
  refine (refglue_any ls hl hb _).mono ?_
  rintro e w2 ⟨rfl, hb2⟩
  have q2 := old_row hb2 (by simp) (heap_new w1 _)
  have z2 : w1.heap.size < w2.heap.size := by have := hb2.size; simp at this; omega
  have b2 : Below w.heap.size w w2 := (b1.alloc (by omega) _).trans (hb2.mono (by simp; omega))
  clear hb2 r1 b1
  by_cases hok : okTo ls 5 = true
  · have hE : Hid (glueE ls = 0) := by rw [Hid, glueE, if_pos hok]
    rw [hok]
    clear hok
    have hE2 := hE.out
    rw [hE2]
    clear hE hE2
    go_wp2_with (first
      | (go_at_call 8; refine (awake_any _).mono ?_; rintro e w3 ⟨rfl, hb3⟩)
      | (refine wpList_alloc_as rfl 22 rfl _ hz22.out ?_)
      | (refine wpList_store_row rfl 22 _ _ rfl _ _ rfl rfl 22 _ (heap_new w2 _) hs22.out (by rw [av_size, av_size, zeros_length, glueR_length]) (av_one _ _) ?_; rw [alloc_setRow])
      | (refine wpList_load_row_if rfl 26 _ rfl _ rfl 26 _ (0, 0) _ (old_row (by assumption) (by simp; omega) (old_alloc _ q2)) Try.underlying26 rfl hs26.out ?_)
      | (refine wpList_load_row_if rfl 22 _ rfl _ rfl 22 _ (0, 0) _ (old_row (by assumption) (by simp) (heap_new w2 _)) Try.underlying22 rfl hs22.out ?_)
      | (refine wpList_eql_ints rfl rfl rfl rfl Try.underlying26 Try.underlying5 hs5.out (glueR_length _) (glueR_length _) hgd.out ?_; rw [beq_self_eq_true]))
    go_ret
    exact ⟨rfl, (b2.alloc (by omega) _).trans (hb3.mono (by simp; omega))⟩
  · have hok : okTo ls 5 = false := by simpa using hok
    have hE2 : glueE ls = 4 := by rw [glueE, hok]; rfl
    have hR2 : glueR ls = zeros := by rw [glueR, hok]; rfl
    rw [hR2] at q2 hs26 hs22
    rw [hok, hE2, hR2]
    clear hok hE2 hR2
    go_wp2_with (first
      | (go_at_call 8; refine (awake_any _).mono ?_; rintro e w3 ⟨rfl, hb3⟩)
      | (refine wpList_alloc_as rfl 22 rfl _ hz22.out ?_)
      | (refine wpList_build_if rfl 26 rfl _ hb26.out ?_)
      | (refine wpList_store_row rfl 22 _ _ rfl _ _ rfl rfl 22 _ (heap_new w2 _) hs22.out rfl (av_one _ _) ?_; rw [alloc_setRow])
      | (refine wpList_load_row_if rfl 26 _ rfl _ rfl 26 _ (0, 0) _ (old_row (by assumption) (by simp; omega) (old_alloc _ q2)) Try.underlying26 rfl hs26.out ?_)
      | (refine wpList_eql_ints rfl rfl rfl rfl Try.underlying26 Try.underlying5 hs5.out zeros_length zeros_length hgd.out ?_; rw [beq_self_eq_true]))
    go_ret
    exact ⟨rfl, (b2.alloc (by omega) _).trans (hb3.mono (by simp; omega))⟩

set_option maxRecDepth 100000 in
theorem limbGlues_lifted (os : Os) (started : os.Started) (H : Type) (enc : TypeId × Value → H) :
    ReturnsInHanded {} Try.checked os 4 .any (Rows.limbGluesSpec.pre6 enc Try.prog Try.f4 Rows.limbGluesRow.domain false) (Rows.limbGluesSpec.post enc Try.prog Try.f4 false true false false) := by
  refine returnsInHanded_of_change (C := Try.checked) ownKnob_none started (by kernel_rfl) Try.func4
    (ChangeSpec.witness6 (enc := enc) (C := Try.checked) false ⟨#[], #[.agg (av .u64 num1)], []⟩ 8 (by kernel_rfl) (by kernel_rfl) (by kernel_rfl) (by kernel_rfl)) ?_
  intro W base args ds gs before hval0 hW _ _
  have hval : ∀ (j : Nat) t v, Try.f4.params[j]? = some t → args[j]? = some v → Value.okWide Try.prog W .any base t v := hval0
  have hWhole := hW
  obtain ⟨p, q, hA0, hV, rfl, hfz, hnd⟩ := hW
  have hA : DataW.TrodAll enc Try.prog W 0 (fun _ => true) true Try.f4.params.toList args.toList ds p := hA0
  rw [Try.params4] at hA hval
  obtain ⟨v0, vs0, d0, ds0, p0, q0, hargs0, rfl, rfl, h0, r0⟩ := trodAll_cons hA
  obtain ⟨rfl, rfl, rfl⟩ := trodAll_nil r0
  obtain rfl : args = #[v0] := by cases args; simp_all
  obtain ⟨rfl, rfl⟩ := trodVars_none hV
  obtain ⟨x0, rfl, hl0, hb0⟩ := open_nats 18446744073709551616 Try.underlying24 Try.underlying23 (by kernel_rfl) (by kernel_rfl) wf_u64' (hval 0 24 v0 rfl rfl) h0
  refine (glues_walk x0 hl0 (getD_lt x0 _ (by omega) hb0) W).mono fun e W' ⟨he, hB⟩ => ?_
  subst he
  exact ⟨_, rfl, law_post laidOut (by rw [Try.params4]; decide +kernel) rfl (by kernel_rfl) Try.underlying4 hWhole rfl rfl rfl hB⟩

theorem limbGlues : Rows.LimbGluesSaid :=
  OpenClaim.holds_of_wide 4 Try.f4 rfl rfl rfl rfl rfl rfl rfl ⟨rfl, rfl, rfl, rfl, rfl⟩ rfl rfl rfl rfl rfl (by kernel_rfl) Try.func4 (by kernel_rfl)
    (of_decide_eq_true (by kernel_rfl)) (by unfold Func.isWrapper; first | (rw [if_pos (by decide +kernel)]; kernel_rfl) | (rw [if_neg (by decide +kernel)]; exact ⟨rfl, rfl⟩))
    (fun os started H enc _ => limbGlues_lifted os started H enc)
end Go.Proofs.Ytbneibfieohkpaa

/- LimbCuts: whatever the seed, its numbers are each below P, and they are the reference's. -/
import Derived.Test.YtbneibfieohkpaaE
import Derived.Test.YtbneibfieohkpaaPure
namespace Go.Proofs.Ytbneibfieohkpaa
open Go.ChangeShapes Go.WideShapes Go.ChangeAt Go.RowKit

structure CutsI (bs : List Nat) (w w1 w' : World) : Prop where
  r : w'.heap[w.heap.size]? = some (.cells (av .u8 bs) 22)
  q : w'.heap[w1.heap.size]? = some (.cells (av .u64 (cutTo bs 5 0)) 24)
  b : Below w.heap.size w w'
  z : w1.heap.size < w'.heap.size
  y : w.heap.size < w1.heap.size
theorem CutsI.call {bs : List Nat} {w w1 w' w'' : World} (h : CutsI bs w w1 w') (hb : Below w'.heap.size w' w'') : CutsI bs w w1 w'' :=
  ⟨old_row hb (Nat.lt_trans h.y h.z) h.r, old_row hb h.z h.q, h.b.trans (hb.mono h.b.size), Nat.lt_of_lt_of_le h.z hb.size, h.y⟩

set_option maxHeartbeats 1000000 in
theorem cuts_walk (bs : List Nat) (hl : bs.length = 32) (hb : ∀ i, bs.getD i 0 < 256) (w : World) :
    Calls Try.prog 3 #[.agg (av .u8 bs)] w fun e w' => e = .returned (.bool true) ∧ Below w.heap.size w w' := by
  have hs22 : Hid ((Try.prog.info? 22).map (·.size) = some (av .u8 bs).size) := by rw [Hid, av_size, hl]; kernel_rfl
  have hz24 : Hid ((Try.prog.info? 24).bind (·.zero) = some (.agg (av .u64 [0, 0, 0, 0, 0]))) := by rw [Hid]; kernel_rfl
  go_enter Try.func3, Try.ntmps3
  go_wp2_with (refine wpList_load_row rfl 22 _ rfl _ rfl 22 _ (0, 0) _ (heap_new w _) Try.underlying22 rfl hs22.out ?_)
  refine (cut_any bs hl hb _).mono ?_
  rintro e w1 ⟨rfl, hb1⟩
  have r1 := old_row hb1 (by simp) (heap_new w _)
  have z1 : w.heap.size < w1.heap.size := by have := hb1.size; simp at this; omega
  have b1 : Below w.heap.size w w1 := ((Below.refl _ _).alloc (Nat.le_refl _) _).trans (hb1.mono (by simp))
  clear hb1
  go_wp2_with (first
    | (refine wpList_alloc_as rfl 24 rfl _ hz24.out ?_)
    | (refine wpList_store_row rfl 24 _ _ rfl _ _ rfl rfl 24 _ (heap_new w1 _) (by kernel_rfl) (by rw [av_size, av_size, cutTo_length]; rfl) (av_one _ _) ?_; rw [alloc_setRow]))
  obtain ⟨W, hW⟩ : ∃ W, W = w1.alloc (.cells (av .u64 (cutTo bs 5 0)) 24) := ⟨_, rfl⟩
  have r2 : W.heap[w.heap.size]? = some (.cells (av .u8 bs) 22) := by rw [hW]; exact old_alloc _ r1
  have q2 : W.heap[w1.heap.size]? = some (.cells (av .u64 (cutTo bs 5 0)) 24) := by rw [hW]; exact heap_new _ _
  have b2 : Below w.heap.size w W := by rw [hW]; exact b1.alloc (by omega) _
  have z2 : w1.heap.size < W.heap.size := by rw [hW]; simp
  rw [← hW]
  clear hW r1 b1
  go_loop [4] (fun t => ∃ n : Nat, n ≤ 5 ∧ t = .int .i64 n) (fun t => 5 - (intOf t).toNat)
  case atStart => exact ⟨0, by omega, rfl⟩
  case round =>
    obtain ⟨n, hn, rfl⟩ := hrel
    by_cases hlt : n < 5
    · obtain ⟨x, hx, hX⟩ : ∃ x : Nat, x < 72057594037927936 ∧ Hid ((cutTo bs 5 0).getD n 0 = x) := ⟨_, cutTo_small bs hb n, rfl⟩
      have c1 : W.cell? ⟨w1.heap.size, n, none⟩ = some (.int .u64 (x : Int)) := by
        rw [cell_of_row _ _ _ _ _ _ q2, av_get _ _ _ (by rw [cutTo_length]; exact hlt), hX.out]
      have hge : ¬ (2305843009213693951 : Int) ≤ (x : Int) := by omega
      go_wp2
      go_round
      case rel => exact ⟨n + 1, by omega, by go_num⟩
      case measure => simp [intOf]; omega
    · have hgd : Hid (Try.prog.eqGuardType Try.prog.depth 24 = false) := by rw [Hid]; kernel_rfl
      have hs23 : Hid ((Try.prog.info? 23).map (·.size) = some 1) := by rw [Hid]; kernel_rfl
      go_wp2
      refine wp_region_calm (CutsI bs w w1) (by kernel_rfl) (by kernel_rfl) ⟨r2, q2, b2.drew, z2, z1⟩ ?_
      clear r2 q2 b2 z2
      refine wpCalm_plain (.bool true) rfl (fun w' hI K hK => ?_) ?_
      · go_simp
        refine (awake_any w').mono ?_
        rintro e w'' ⟨rfl, hb⟩
        exact ⟨_, rfl, hK _ (hI.call hb)⟩
      simp only [Act.put, List.setIfInBounds_toArray, List.set_cons_succ, List.set_cons_zero]
      refine wpCalm_plain (.bool true) rfl (fun w' hI K hK => ?_) ?_
      · go_simp
        exact hK _ hI
      simp only [Act.put, List.setIfInBounds_toArray, List.set_cons_succ, List.set_cons_zero]
      refine wpCalm_step (.agg (av .u64 (cutTo bs 5 0))) rfl (fun w' hI K hK => ?_) ?_
      · exact calm_load_row 24 _ rfl _ rfl 24 _ (0, 0) _ hI.q Try.underlying24 rfl (by kernel_rfl) (hK _ hI)
      simp only [Act.put, List.setIfInBounds_toArray, List.set_cons_succ, List.set_cons_zero]
      refine wpCalm_step (.agg (av .u8 bs)) rfl (fun w' hI K hK => ?_) ?_
      · exact calm_load_row 22 _ rfl _ rfl 22 _ (0, 0) _ hI.r Try.underlying22 rfl hs22.out (hK _ hI)
      simp only [Act.put, List.setIfInBounds_toArray, List.set_cons_succ, List.set_cons_zero]
      refine wpCalm_step (.agg (av .u64 (cutTo bs 5 0))) rfl (fun w' hI K hK => ?_) ?_
      · go_simp
        refine (refcut_any bs hl hb w').mono ?_
        rintro e w'' ⟨rfl, hb⟩
        exact ⟨_, rfl, hK _ (hI.call hb)⟩
      simp only [Act.put, List.setIfInBounds_toArray, List.set_cons_succ, List.set_cons_zero]
      refine wpCalm_step (.bool true) rfl (fun w' hI K hK => ?_) ?_
      · refine calm_eql_ints rfl rfl rfl Try.underlying24 Try.underlying23 hs23.out (cutTo_length _ _ _) (cutTo_length _ _ _) hgd.out ?_
        rw [beq_self_eq_true]
        exact hK _ hI
      simp only [Act.put, List.setIfInBounds_toArray, List.set_cons_succ, List.set_cons_zero]
      refine wpCalm_plain (.bool true) rfl (fun w' hI K hK => ?_) ?_
      · go_simp
        exact hK _ hI
      simp only [Act.put, List.setIfInBounds_toArray, List.set_cons_succ, List.set_cons_zero]
      refine wpCalm_plain (.bool true) rfl (fun w' hI K hK => ?_) ?_
      · go_simp
        exact hK _ hI
      simp only [Act.put, List.setIfInBounds_toArray, List.set_cons_succ, List.set_cons_zero]
      refine wpCalm_nil fun w' hI => ?_
      go_wp2
      go_ret
      exact ⟨rfl, hI.b⟩

set_option maxRecDepth 100000 in
theorem cuts_lifted (os : Os) (started : os.Started) (H : Type) (enc : TypeId × Value → H) :
    ReturnsInHanded {} Try.checked os 3 .any (Rows.limbCutsSpec.pre6 enc Try.prog Try.f3 Rows.limbCutsRow.domain false) (Rows.limbCutsSpec.post enc Try.prog Try.f3 false true false false) := by
  refine returnsInHanded_of_change (C := Try.checked) ownKnob_none started (by kernel_rfl) Try.func3
    (ChangeSpec.witness6 (enc := enc) (C := Try.checked) false ⟨#[], #[.agg (av .u8 zeros)], []⟩ 8 (by kernel_rfl) (by kernel_rfl) (by kernel_rfl) (by kernel_rfl)) ?_
  intro W base args ds gs before hval0 hW _ _
  have hval : ∀ (j : Nat) t v, Try.f3.params[j]? = some t → args[j]? = some v → Value.okWide Try.prog W .any base t v := hval0
  have hWhole := hW
  obtain ⟨p, q, hA0, hV, rfl, hfz, hnd⟩ := hW
  have hA : DataW.TrodAll enc Try.prog W 0 (fun _ => true) true Try.f3.params.toList args.toList ds p := hA0
  rw [Try.params3] at hA hval
  obtain ⟨v0, d0, rfl, rfl, h0⟩ := trodAll_one hA
  obtain ⟨rfl, rfl⟩ := trodVars_none hV
  obtain ⟨bs, rfl, hl, hb⟩ := open_nats 256 Try.underlying22 Try.underlying5 (by kernel_rfl) (by kernel_rfl) wf_u8' (hval 0 22 v0 rfl rfl) h0
  refine (cuts_walk bs hl (getD_lt bs 256 (by omega) hb) W).mono fun e W' ⟨he, hB⟩ => ?_
  subst he
  exact ⟨_, rfl, law_post laidOut (by rw [Try.params3]; decide +kernel) rfl (by kernel_rfl) Try.underlying4 hWhole rfl rfl rfl hB⟩

theorem limbCuts : Rows.LimbCutsSaid :=
  OpenClaim.holds_of_wide 3 Try.f3 rfl rfl rfl rfl rfl rfl rfl ⟨rfl, rfl, rfl, rfl, rfl⟩ rfl rfl rfl rfl rfl (by kernel_rfl) Try.func3 (by kernel_rfl)
    (of_decide_eq_true (by kernel_rfl)) (by unfold Func.isWrapper; first | (rw [if_pos (by decide +kernel)]; kernel_rfl) | (rw [if_neg (by decide +kernel)]; exact ⟨rfl, rfl⟩))
    (fun os started H enc _ => cuts_lifted os started H enc)
end Go.Proofs.Ytbneibfieohkpaa

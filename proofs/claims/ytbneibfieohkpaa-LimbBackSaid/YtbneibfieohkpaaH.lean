/- LimbBack: a seed that was cut is glued again; numbers that were glued are cut again. -/
import Derived.Test.YtbneibfieohkpaaE
import Derived.Test.YtbneibfieohkpaaPure
namespace Go.Proofs.Ytbneibfieohkpaa
open Go.ChangeShapes Go.WideShapes Go.ChangeAt Go.RowKit

structure BackI (bs ls : List Nat) (w w1 w2 w' : World) : Prop where
  x : w'.heap[w.heap.size]? = some (.cells (av .u8 bs) 22)
  y : w'.heap[w.heap.size + 1]? = some (.cells (av .u64 ls) 24)
  t : w'.heap[w1.heap.size]? = some (.cells (av .u8 bs) 26)
  u : w'.heap[w2.heap.size]? = some (.cells (av .u8 (glueR ls)) 26)
  b : Below w.heap.size w w'
  z0 : w.heap.size + 1 < w1.heap.size
  z1 : w1.heap.size < w2.heap.size
  z : w2.heap.size < w'.heap.size
theorem BackI.call {bs ls : List Nat} {w w1 w2 w' w'' : World} (h : BackI bs ls w w1 w2 w') (hb : Below w'.heap.size w' w'') : BackI bs ls w w1 w2 w'' := by
  have := h.z0; have := h.z1; have := h.z
  exact ⟨old_row hb (by omega) h.x, old_row hb (by omega) h.y, old_row hb (by omega) h.t, old_row hb (by omega) h.u, h.b.trans (hb.mono h.b.size), h.z0, h.z1, Nat.lt_of_lt_of_le h.z hb.size⟩
theorem glueR_lt (ls : List Nat) (i : Nat) : (glueR ls).getD i 0 < 256 := by
  refine getD_lt _ _ (by omega) (fun x hx => ?_) i
  unfold glueR at hx
  split at hx
  · obtain ⟨m, _, rfl⟩ := List.mem_map.1 hx
    split <;> omega
  · have := List.eq_of_mem_replicate hx
    omega
theorem heap_snd (w : World) (a b : Obj) : ((w.alloc a).alloc b).heap[w.heap.size + 1]? = some b := by
  rw [alloc_get, if_pos (by simp)]

set_option maxHeartbeats 2000000 in
theorem back_walk (bs ls : List Nat) (hlb : bs.length = 32) (hll : ls.length = 5) (hbs : ∀ i, bs.getD i 0 < 256) (hls : ∀ i, ls.getD i 0 < 18446744073709551616) (w : World) :
    Calls Try.prog 5 #[.agg (av .u8 bs), .agg (av .u64 ls)] w fun e w' => e = .returned (.bool true) ∧ Below w.heap.size w w' := by
  have hsb : Hid ((Try.prog.info? 22).map (·.size) = some (av .u8 bs).size) := by rw [Hid, av_size, hlb]; kernel_rfl
  have hsl : Hid ((Try.prog.info? 24).map (·.size) = some (av .u64 ls).size) := by rw [Hid, av_size, hll]; kernel_rfl
  have hsb6 : Hid ((Try.prog.info? 26).map (·.size) = some (av .u8 bs).size) := by rw [Hid, av_size, hlb]; kernel_rfl
  have hsg6 : Hid ((Try.prog.info? 26).map (·.size) = some (av .u8 (glueR ls)).size) := by rw [Hid, av_size, glueR_length]; kernel_rfl
  have hz26 : Hid ((Try.prog.info? 26).bind (·.zero) = some (.agg (av .u8 zeros))) := by rw [Hid]; kernel_rfl
  have hg26 : Hid (Try.prog.eqGuardType Try.prog.depth 26 = false) := by rw [Hid]; kernel_rfl
  have hg24 : Hid (Try.prog.eqGuardType Try.prog.depth 24 = false) := by rw [Hid]; kernel_rfl
  have hs5 : Hid ((Try.prog.info? 5).map (·.size) = some 1) := by rw [Hid]; kernel_rfl
  have hs23 : Hid ((Try.prog.info? 23).map (·.size) = some 1) := by rw [Hid]; kernel_rfl
  have hcl : Hid ((cutTo bs 5 0).length = 5) := cutTo_length _ _ _
  have hg : Hid (glueR (cutTo bs 5 0) = bs ∧ glueE (cutTo bs 5 0) = 0) := ⟨glue_cut bs hlb hbs, by rw [glueE, if_pos (ok_cut bs hbs)]⟩
  go_enter Try.func5, Try.ntmps5
  go_wp2_with (refine wpList_load_row rfl 22 _ rfl _ rfl 22 _ (0, 0) _ (old_alloc _ (heap_new w _)) Try.underlying22 rfl hsb.out ?_)
  refine (cut_any bs hlb hbs _).mono ?_
  rintro e w0 ⟨rfl, hb0⟩
  have x0 := old_row hb0 (by simp; omega) (old_alloc _ (heap_new w _))
  have y0 := old_row hb0 (by simp) (heap_snd w _ _)
  have z0 : w.heap.size + 1 < w0.heap.size := by have := hb0.size; simp at this; omega
  have b0 : Below w.heap.size w w0 := (((Below.refl _ _).alloc (Nat.le_refl _) _).alloc (by simp) _).trans (hb0.mono (by simp; omega))
  clear hb0
  go_wp2_with fail
  refine (glue_any (cutTo bs 5 0) hcl.out (fun i => Nat.lt_trans (cutTo_small bs hbs i) (by omega)) _).mono ?_
  rintro e w1 ⟨rfl, hb1⟩
  rw [hg.out.1, hg.out.2]
  have x1 := old_row hb1 (by omega) x0
  have y1 := old_row hb1 (by omega) y0
  have z1 : w.heap.size + 1 < w1.heap.size := Nat.lt_of_lt_of_le z0 hb1.size
  have b1 : Below w.heap.size w w1 := b0.trans (hb1.mono (by omega))
  clear hb1 x0 y0 z0 b0
  go_wp2_with (first
    | (refine wpList_alloc_as rfl 26 rfl _ hz26.out ?_)
    | (refine wpList_store_row rfl 26 _ _ rfl _ _ rfl rfl 26 _ (heap_new w1 _) hsb6.out (by rw [av_size, av_size, zeros_length, hlb]) (av_one _ _) ?_; rw [alloc_setRow])
    | (refine wpList_load_row rfl 24 _ rfl _ rfl 24 _ (0, 0) _ (old_alloc _ y1) Try.underlying24 rfl hsl.out ?_))
  refine (glue_any ls hll hls _).mono ?_
  rintro e w2 ⟨rfl, hb2⟩
  have x2 := old_row hb2 (by simp; omega) (old_alloc _ x1)
  have y2 := old_row hb2 (by simp; omega) (old_alloc _ y1)
  have t2 := old_row hb2 (by simp) (heap_new w1 _)
  have z2 : w1.heap.size < w2.heap.size := by have := hb2.size; simp at this; omega
  have b2 : Below w.heap.size w w2 := (b1.alloc (by omega) _).trans (hb2.mono (by simp; omega))
  clear hb2 x1 y1 b1
  go_wp2_with (first
    | (refine wpList_alloc_as rfl 26 rfl _ hz26.out ?_)
    | (refine wpList_store_row rfl 26 _ _ rfl _ _ rfl rfl 26 _ (heap_new w2 _) hsg6.out (by rw [av_size, av_size, zeros_length, glueR_length]) (av_one _ _) ?_; rw [alloc_setRow]))
  refine wp_region_calm (BackI bs ls w w1 w2) (by kernel_rfl) (by kernel_rfl)
    ⟨old_alloc _ x2, old_alloc _ y2, old_alloc _ t2, heap_new w2 _, (b2.alloc (by omega) _).drew, z1, z2, by simp⟩ ?_
  clear x2 y2 t2 b2 z1 z2
  by_cases hok : okTo ls 5 = true
  · have hE : glueE ls = 0 := by rw [glueE, if_pos hok]
    have hC : Hid (cutTo (glueR ls) 5 0 = ls) := cut_glue ls hll hok
    have hR : ∀ i, (glueR ls).getD i 0 < 256 := fun i => glueR_lt ls i
    rw [hE]
    clear hE hok
    refine wpCalm_plain (.bool true) rfl (fun w' hI K hK => ?_) ?_
    · go_simp
      refine (awake_any w').mono ?_
      rintro e w'' ⟨rfl, hb⟩
      exact ⟨_, rfl, hK _ (hI.call hb)⟩
    simp only [Act.put, List.setIfInBounds_toArray, List.set_cons_succ, List.set_cons_zero]
    refine wpCalm_plain (.bool true) rfl (fun w' hI K hK => ?_) ?_
    · go_simp
      exact hK _ hI
    simp only [Act.put, List.setIfInBounds_toArray, List.set_cons_succ, List.set_cons_zero]
    refine wpCalm_step (.int .i64 0) rfl (fun w' hI K hK => ?_) ?_
    · go_simp
      exact hK _ hI
    simp only [Act.put, List.setIfInBounds_toArray, List.set_cons_succ, List.set_cons_zero]
    refine wpCalm_step (.bool true) rfl (fun w' hI K hK => ?_) ?_
    · go_simp
      exact hK _ hI
    simp only [Act.put, List.setIfInBounds_toArray, List.set_cons_succ, List.set_cons_zero]
    refine wpCalm_plain (.bool true) rfl (fun w' hI K hK => ?_) ?_
    · go_simp
      exact hK _ hI
    simp only [Act.put, List.setIfInBounds_toArray, List.set_cons_succ, List.set_cons_zero]
    refine wpCalm_plain (.bool true) rfl (fun w' hI K hK => ?_) ?_
    · go_simp
      exact hK _ hI
    simp only [Act.put, List.setIfInBounds_toArray, List.set_cons_succ, List.set_cons_zero]
    refine wpCalm_step (.agg (av .u8 bs)) rfl (fun w' hI K hK => ?_) ?_
    · exact calm_load_row 26 _ rfl _ rfl 26 _ (0, 0) _ hI.t Try.underlying26 rfl hsb6.out (hK _ hI)
    simp only [Act.put, List.setIfInBounds_toArray, List.set_cons_succ, List.set_cons_zero]
    refine wpCalm_step (.agg (av .u8 bs)) rfl (fun w' hI K hK => ?_) ?_
    · exact calm_load_row 22 _ rfl _ rfl 22 _ (0, 0) _ hI.x Try.underlying22 rfl hsb.out (hK _ hI)
    simp only [Act.put, List.setIfInBounds_toArray, List.set_cons_succ, List.set_cons_zero]
    refine wpCalm_step (.bool true) rfl (fun w' hI K hK => ?_) ?_
    · refine calm_eql_ints rfl rfl rfl Try.underlying26 Try.underlying5 hs5.out hlb hlb hg26.out ?_
      rw [beq_self_eq_true]
      exact hK _ hI
    simp only [Act.put, List.setIfInBounds_toArray, List.set_cons_succ, List.set_cons_zero]
    refine wpCalm_plain (.bool true) rfl (fun w' hI K hK => ?_) ?_
    · go_simp
      exact hK _ hI
    simp only [Act.put, List.setIfInBounds_toArray, List.set_cons_succ, List.set_cons_zero]
    refine wpCalm_plain (.bool true) rfl (fun w' hI K hK => ?_) ?_
    · go_simp
      exact hK _ hI
    simp only [Act.put, List.setIfInBounds_toArray, List.set_cons_succ, List.set_cons_zero]
    refine wpCalm_step (.int .i64 0) rfl (fun w' hI K hK => ?_) ?_
    · go_simp
      exact hK _ hI
    simp only [Act.put, List.setIfInBounds_toArray, List.set_cons_succ, List.set_cons_zero]
    refine wpCalm_step (.bool false) rfl (fun w' hI K hK => ?_) ?_
    · go_simp
      exact hK _ hI
    simp only [Act.put, List.setIfInBounds_toArray, List.set_cons_succ, List.set_cons_zero]
    refine wpCalm_step (.bool false) rfl (fun w' hI K hK => ?_) ?_
    · go_simp
      exact hK _ hI
    simp only [Act.put, List.setIfInBounds_toArray, List.set_cons_succ, List.set_cons_zero]
    refine wpCalm_step (.agg (av .u8 (glueR ls))) rfl (fun w' hI K hK => ?_) ?_
    · exact calm_load_row 26 _ rfl _ rfl 26 _ (0, 0) _ hI.u Try.underlying26 rfl hsg6.out (hK _ hI)
    simp only [Act.put, List.setIfInBounds_toArray, List.set_cons_succ, List.set_cons_zero]
    refine wpCalm_step (.agg (av .u64 ls)) rfl (fun w' hI K hK => ?_) ?_
    · go_simp
      refine (cut_any (glueR ls) (glueR_length ls) hR w').mono ?_
      rintro e w'' ⟨rfl, hb⟩
      rw [hC.out]
      exact ⟨_, rfl, hK _ (hI.call hb)⟩
    simp only [Act.put, List.setIfInBounds_toArray, List.set_cons_succ, List.set_cons_zero]
    refine wpCalm_step (.agg (av .u64 ls)) rfl (fun w' hI K hK => ?_) ?_
    · exact calm_load_row 24 _ rfl _ rfl 24 _ (0, 0) _ hI.y Try.underlying24 rfl hsl.out (hK _ hI)
    simp only [Act.put, List.setIfInBounds_toArray, List.set_cons_succ, List.set_cons_zero]
    refine wpCalm_step (.bool true) rfl (fun w' hI K hK => ?_) ?_
    · refine calm_eql_ints rfl rfl rfl Try.underlying24 Try.underlying23 hs23.out hll hll hg24.out ?_
      rw [beq_self_eq_true]
      exact hK _ hI
    simp only [Act.put, List.setIfInBounds_toArray, List.set_cons_succ, List.set_cons_zero]
    refine wpCalm_step (.bool true) rfl (fun w' hI K hK => ?_) ?_
    · go_simp
      exact hK _ hI
    simp only [Act.put, List.setIfInBounds_toArray, List.set_cons_succ, List.set_cons_zero]
    refine wpCalm_plain (.bool true) rfl (fun w' hI K hK => ?_) ?_
    · go_simp
      exact hK _ hI
    simp only [Act.put, List.setIfInBounds_toArray, List.set_cons_succ, List.set_cons_zero]
    refine wpCalm_plain (.bool true) rfl (fun w' hI K hK => ?_) ?_
    · go_simp
      exact hK _ hI
    simp only [Act.put, List.setIfInBounds_toArray, List.set_cons_succ, List.set_cons_zero]
    refine wpCalm_nil fun w' hI => ?_
    go_wp2
    go_ret
    exact ⟨rfl, hI.b⟩
  · have hE : glueE ls = 4 := by rw [glueE, if_neg hok]
    rw [hE]
    clear hE hok
    refine wpCalm_plain (.bool true) rfl (fun w' hI K hK => ?_) ?_
    · go_simp
      refine (awake_any w').mono ?_
      rintro e w'' ⟨rfl, hb⟩
      exact ⟨_, rfl, hK _ (hI.call hb)⟩
    simp only [Act.put, List.setIfInBounds_toArray, List.set_cons_succ, List.set_cons_zero]
    refine wpCalm_plain (.bool true) rfl (fun w' hI K hK => ?_) ?_
    · go_simp
      exact hK _ hI
    simp only [Act.put, List.setIfInBounds_toArray, List.set_cons_succ, List.set_cons_zero]
    refine wpCalm_step (.int .i64 0) rfl (fun w' hI K hK => ?_) ?_
    · go_simp
      exact hK _ hI
    simp only [Act.put, List.setIfInBounds_toArray, List.set_cons_succ, List.set_cons_zero]
    refine wpCalm_step (.bool true) rfl (fun w' hI K hK => ?_) ?_
    · go_simp
      exact hK _ hI
    simp only [Act.put, List.setIfInBounds_toArray, List.set_cons_succ, List.set_cons_zero]
    refine wpCalm_plain (.bool true) rfl (fun w' hI K hK => ?_) ?_
    · go_simp
      exact hK _ hI
    simp only [Act.put, List.setIfInBounds_toArray, List.set_cons_succ, List.set_cons_zero]
    refine wpCalm_plain (.bool true) rfl (fun w' hI K hK => ?_) ?_
    · go_simp
      exact hK _ hI
    simp only [Act.put, List.setIfInBounds_toArray, List.set_cons_succ, List.set_cons_zero]
    refine wpCalm_step (.agg (av .u8 bs)) rfl (fun w' hI K hK => ?_) ?_
    · exact calm_load_row 26 _ rfl _ rfl 26 _ (0, 0) _ hI.t Try.underlying26 rfl hsb6.out (hK _ hI)
    simp only [Act.put, List.setIfInBounds_toArray, List.set_cons_succ, List.set_cons_zero]
    refine wpCalm_step (.agg (av .u8 bs)) rfl (fun w' hI K hK => ?_) ?_
    · exact calm_load_row 22 _ rfl _ rfl 22 _ (0, 0) _ hI.x Try.underlying22 rfl hsb.out (hK _ hI)
    simp only [Act.put, List.setIfInBounds_toArray, List.set_cons_succ, List.set_cons_zero]
    refine wpCalm_step (.bool true) rfl (fun w' hI K hK => ?_) ?_
    · refine calm_eql_ints rfl rfl rfl Try.underlying26 Try.underlying5 hs5.out hlb hlb hg26.out ?_
      rw [beq_self_eq_true]
      exact hK _ hI
    simp only [Act.put, List.setIfInBounds_toArray, List.set_cons_succ, List.set_cons_zero]
    refine wpCalm_plain (.bool true) rfl (fun w' hI K hK => ?_) ?_
    · go_simp
      exact hK _ hI
    simp only [Act.put, List.setIfInBounds_toArray, List.set_cons_succ, List.set_cons_zero]
    refine wpCalm_plain (.bool true) rfl (fun w' hI K hK => ?_) ?_
    · go_simp
      exact hK _ hI
    simp only [Act.put, List.setIfInBounds_toArray, List.set_cons_succ, List.set_cons_zero]
    refine wpCalm_step (.int .i64 4) rfl (fun w' hI K hK => ?_) ?_
    · go_simp
      exact hK _ hI
    simp only [Act.put, List.setIfInBounds_toArray, List.set_cons_succ, List.set_cons_zero]
    refine wpCalm_step (.bool true) rfl (fun w' hI K hK => ?_) ?_
    · go_simp
      exact hK _ hI
    simp only [Act.put, List.setIfInBounds_toArray, List.set_cons_succ, List.set_cons_zero]
    refine wpCalm_step (.bool true) rfl (fun w' hI K hK => ?_) ?_
    · go_simp
      exact hK _ hI
    simp only [Act.put, List.setIfInBounds_toArray, List.set_cons_succ, List.set_cons_zero]
    refine wpCalm_skip rfl ?_
    simp only [Act.put, List.setIfInBounds_toArray, List.set_cons_succ, List.set_cons_zero]
    refine wpCalm_skip rfl ?_
    simp only [Act.put, List.setIfInBounds_toArray, List.set_cons_succ, List.set_cons_zero]
    refine wpCalm_skip rfl ?_
    simp only [Act.put, List.setIfInBounds_toArray, List.set_cons_succ, List.set_cons_zero]
    refine wpCalm_skip rfl ?_
    simp only [Act.put, List.setIfInBounds_toArray, List.set_cons_succ, List.set_cons_zero]
    refine wpCalm_step (.bool true) rfl (fun w' hI K hK => ?_) ?_
    · go_simp
      exact hK _ hI
    simp only [Act.put, List.setIfInBounds_toArray, List.set_cons_succ, List.set_cons_zero]
    refine wpCalm_plain (.bool true) rfl (fun w' hI K hK => ?_) ?_
    · go_simp
      exact hK _ hI
    simp only [Act.put, List.setIfInBounds_toArray, List.set_cons_succ, List.set_cons_zero]
    refine wpCalm_plain (.bool true) rfl (fun w' hI K hK => ?_) ?_
    · go_simp
      exact hK _ hI
    simp only [Act.put, List.setIfInBounds_toArray, List.set_cons_succ, List.set_cons_zero]
    refine wpCalm_nil fun w' hI => ?_
    go_wp2
    go_ret
    exact ⟨rfl, hI.b⟩

set_option maxRecDepth 100000 in
theorem limbBack_lifted (os : Os) (started : os.Started) (H : Type) (enc : TypeId × Value → H) :
    ReturnsInHanded {} Try.checked os 5 .any (Rows.limbBackSpec.pre6 enc Try.prog Try.f5 Rows.limbBackRow.domain false) (Rows.limbBackSpec.post enc Try.prog Try.f5 false true false false) := by
  refine returnsInHanded_of_change (C := Try.checked) ownKnob_none started (by kernel_rfl) Try.func5
    (ChangeSpec.witness6 (enc := enc) (C := Try.checked) false ⟨#[], #[.agg (av .u8 zeros), .agg (av .u64 num1)], []⟩ 8 (by kernel_rfl) (by kernel_rfl) (by kernel_rfl) (by kernel_rfl)) ?_
  intro W base args ds gs before hval0 hW _ _
  have hval : ∀ (j : Nat) t v, Try.f5.params[j]? = some t → args[j]? = some v → Value.okWide Try.prog W .any base t v := hval0
  have hWhole := hW
  obtain ⟨p, q, hA0, hV, rfl, hfz, hnd⟩ := hW
  have hA : DataW.TrodAll enc Try.prog W 0 (fun _ => true) true Try.f5.params.toList args.toList ds p := hA0
  rw [Try.params5] at hA hval
  obtain ⟨v0, vs0, d0, ds0, p0, q0, hargs0, rfl, rfl, h0, r0⟩ := trodAll_cons hA
  obtain ⟨v1, vs1, d1, ds1, p1, q1, hargs1, rfl, rfl, h1, r1⟩ := trodAll_cons r0
  obtain ⟨rfl, rfl, rfl⟩ := trodAll_nil r1
  subst hargs1
  obtain rfl : args = #[v0, v1] := by cases args; simp_all
  obtain ⟨rfl, rfl⟩ := trodVars_none hV
  obtain ⟨x0, rfl, hl0, hb0⟩ := open_nats 256 Try.underlying22 Try.underlying5 (by kernel_rfl) (by kernel_rfl) wf_u8' (hval 0 22 v0 rfl rfl) h0
  obtain ⟨x1, rfl, hl1, hb1⟩ := open_nats 18446744073709551616 Try.underlying24 Try.underlying23 (by kernel_rfl) (by kernel_rfl) wf_u64' (hval 1 24 v1 rfl rfl) h1
  refine (back_walk x0 x1 hl0 hl1 (getD_lt x0 _ (by omega) hb0) (getD_lt x1 _ (by omega) hb1) W).mono fun e W' ⟨he, hB⟩ => ?_
  subst he
  exact ⟨_, rfl, law_post laidOut (by rw [Try.params5]; decide +kernel) rfl (by kernel_rfl) Try.underlying4 hWhole rfl rfl rfl hB⟩

theorem limbBack : Rows.LimbBackSaid :=
  OpenClaim.holds_of_wide 5 Try.f5 rfl rfl rfl rfl rfl rfl rfl ⟨rfl, rfl, rfl, rfl, rfl⟩ rfl rfl rfl rfl rfl (by kernel_rfl) Try.func5 (by kernel_rfl)
    (of_decide_eq_true (by kernel_rfl)) (by unfold Func.isWrapper; first | (rw [if_pos (by decide +kernel)]; kernel_rfl) | (rw [if_neg (by decide +kernel)]; exact ⟨rfl, rfl⟩))
    (fun os started H enc _ => limbBack_lifted os started H enc)
end Go.Proofs.Ytbneibfieohkpaa

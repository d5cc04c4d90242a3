/- LimbApart: unlike seeds have unlike numbers. -/
import Derived.Test.YtbneibfieohkpaaE
import Derived.Test.YtbneibfieohkpaaPure
namespace Go.Proofs.Ytbneibfieohkpaa
open Go.ChangeShapes Go.WideShapes Go.ChangeAt Go.RowKit

structure ApartI (a b : List Nat) (w w' : World) : Prop where
  x : w'.heap[w.heap.size]? = some (.cells (av .u8 a) 22)
  y : w'.heap[w.heap.size + 1]? = some (.cells (av .u8 b) 22)
  b : Below w.heap.size w w'
  z : w.heap.size + 1 < w'.heap.size
theorem ApartI.call {a b : List Nat} {w w' w'' : World} (h : ApartI a b w w') (hb : Below w'.heap.size w' w'') : ApartI a b w w'' :=
  ⟨old_row hb (by have := h.z; omega) h.x, old_row hb h.z h.y, h.b.trans (hb.mono h.b.size), Nat.lt_of_lt_of_le h.z hb.size⟩

set_option maxHeartbeats 1000000 in
theorem apart_walk (a b : List Nat) (hla : a.length = 32) (hlb : b.length = 32) (ha : ∀ i, a.getD i 0 < 256) (hb : ∀ i, b.getD i 0 < 256) (w : World) :
    Calls Try.prog 6 #[.agg (av .u8 a), .agg (av .u8 b)] w fun e w' => e = .returned (.bool true) ∧ Below w.heap.size w w' := by
  have hsa : Hid ((Try.prog.info? 22).map (·.size) = some (av .u8 a).size) := by rw [Hid, av_size, hla]; kernel_rfl
  have hsb : Hid ((Try.prog.info? 22).map (·.size) = some (av .u8 b).size) := by rw [Hid, av_size, hlb]; kernel_rfl
  have hg22 : Hid (Try.prog.eqGuardType Try.prog.depth 22 = false) := by rw [Hid]; kernel_rfl
  have hg24 : Hid (Try.prog.eqGuardType Try.prog.depth 24 = false) := by rw [Hid]; kernel_rfl
  have hs5 : Hid ((Try.prog.info? 5).map (·.size) = some 1) := by rw [Hid]; kernel_rfl
  have hs23 : Hid ((Try.prog.info? 23).map (·.size) = some 1) := by rw [Hid]; kernel_rfl
  obtain ⟨t, h1, h2⟩ : ∃ t : Bool, Hid ((cutTo a 5 0 == cutTo b 5 0) = t) ∧ Hid ((a == b) = t) := ⟨_, rfl, (cut_apart a b hla hlb ha hb).symm⟩
  go_enter Try.func6, Try.ntmps6
  go_wp2
  refine wp_region_calm (ApartI a b w) (by kernel_rfl) (by kernel_rfl)
    ⟨old_alloc _ (heap_new w _), by rw [heap_drew]; exact (congrArg (fun n => ((w.alloc (.cells (av .u8 a) 22)).alloc (.cells (av .u8 b) 22)).heap[n]?) (by simp)).trans (heap_new (w.alloc _) _),
      (((Below.refl _ _).alloc (Nat.le_refl _) _).alloc (by simp) _).drew, by simp⟩ ?_
  refine wpCalm_plain (.bool true) rfl (fun w' hI K hK => ?_) ?_
  · go_simp
    refine (awake_any w').mono ?_
    rintro e w'' ⟨rfl, hb⟩
    exact ⟨_, rfl, hK _ (hI.call hb)⟩
  simp only [Act.put, List.setIfInBounds_toArray, List.set_cons_succ, List.set_cons_zero]
  refine wpCalm_plain (.bool true) rfl (fun w' hI K hK => ?_) ?_
  · go_simp
    exact hK _ hI
  simp only [Act.put, List.setIfInBounds_toArray, List.set_cons_succ, List.set_cons_zero]
  refine wpCalm_step (.agg (av .u8 a)) rfl (fun w' hI K hK => ?_) ?_
  · exact calm_load_row 22 _ rfl _ rfl 22 _ (0, 0) _ hI.x Try.underlying22 rfl hsa.out (hK _ hI)
  simp only [Act.put, List.setIfInBounds_toArray, List.set_cons_succ, List.set_cons_zero]
  refine wpCalm_step (.agg (av .u64 (cutTo a 5 0))) rfl (fun w' hI K hK => ?_) ?_
  · go_simp
    refine (cut_any a hla ha w').mono ?_
    rintro e w'' ⟨rfl, hb⟩
    exact ⟨_, rfl, hK _ (hI.call hb)⟩
  simp only [Act.put, List.setIfInBounds_toArray, List.set_cons_succ, List.set_cons_zero]
  refine wpCalm_step (.agg (av .u8 b)) rfl (fun w' hI K hK => ?_) ?_
  · exact calm_load_row 22 _ rfl _ rfl 22 _ (0, 0) _ hI.y Try.underlying22 rfl hsb.out (hK _ hI)
  simp only [Act.put, List.setIfInBounds_toArray, List.set_cons_succ, List.set_cons_zero]
  refine wpCalm_step (.agg (av .u64 (cutTo b 5 0))) rfl (fun w' hI K hK => ?_) ?_
  · go_simp
    refine (cut_any b hlb hb w').mono ?_
    rintro e w'' ⟨rfl, hb⟩
    exact ⟨_, rfl, hK _ (hI.call hb)⟩
  simp only [Act.put, List.setIfInBounds_toArray, List.set_cons_succ, List.set_cons_zero]
  refine wpCalm_step (.bool t) rfl (fun w' hI K hK => ?_) ?_
  · refine calm_eql_ints rfl rfl rfl Try.underlying24 Try.underlying23 hs23.out (cutTo_length _ _ _) (cutTo_length _ _ _) hg24.out ?_
    rw [h1.out]
    exact hK _ hI
  simp only [Act.put, List.setIfInBounds_toArray, List.set_cons_succ, List.set_cons_zero]
  refine wpCalm_step (.agg (av .u8 a)) rfl (fun w' hI K hK => ?_) ?_
  · exact calm_load_row 22 _ rfl _ rfl 22 _ (0, 0) _ hI.x Try.underlying22 rfl hsa.out (hK _ hI)
  simp only [Act.put, List.setIfInBounds_toArray, List.set_cons_succ, List.set_cons_zero]
  refine wpCalm_step (.agg (av .u8 b)) rfl (fun w' hI K hK => ?_) ?_
  · exact calm_load_row 22 _ rfl _ rfl 22 _ (0, 0) _ hI.y Try.underlying22 rfl hsb.out (hK _ hI)
  simp only [Act.put, List.setIfInBounds_toArray, List.set_cons_succ, List.set_cons_zero]
  refine wpCalm_step (.bool t) rfl (fun w' hI K hK => ?_) ?_
  · refine calm_eql_ints rfl rfl rfl Try.underlying22 Try.underlying5 hs5.out hla hlb hg22.out ?_
    rw [h2.out]
    exact hK _ hI
  simp only [Act.put, List.setIfInBounds_toArray, List.set_cons_succ, List.set_cons_zero]
  refine wpCalm_step (.bool true) rfl (fun w' hI K hK => ?_) ?_
  · go_simp
    exact hK _ hI
  simp only [Act.put, List.setIfInBounds_toArray, List.set_cons_succ, List.set_cons_zero]
  refine wpCalm_plain (.bool true) rfl (fun w' hI K hK => ?_) ?_
  · go_simp
    exact hK _ hI
  simp only [Act.put, List.setIfInBounds_toArray, List.set_cons_succ, List.set_cons_zero]
  refine wpCalm_plain (.bool true) rfl (fun w' hI K hK => ?_) ?_
  · go_simp
    exact hK _ hI
  simp only [Act.put, List.setIfInBounds_toArray, List.set_cons_succ, List.set_cons_zero]
  refine wpCalm_nil fun w' hI => ?_
  go_wp2
  go_ret
  exact ⟨rfl, hI.b⟩

set_option maxRecDepth 100000 in
theorem limbApart_lifted (os : Os) (started : os.Started) (H : Type) (enc : TypeId × Value → H) :
    ReturnsInHanded {} Try.checked os 6 .any (Rows.limbApartSpec.pre6 enc Try.prog Try.f6 Rows.limbApartRow.domain false) (Rows.limbApartSpec.post enc Try.prog Try.f6 false true false false) := by
  refine returnsInHanded_of_change (C := Try.checked) ownKnob_none started (by kernel_rfl) Try.func6
    (ChangeSpec.witness6 (enc := enc) (C := Try.checked) false ⟨#[], #[.agg (av .u8 zeros), .agg (av .u8 zeros)], []⟩ 8 (by kernel_rfl) (by kernel_rfl) (by kernel_rfl) (by kernel_rfl)) ?_
  intro W base args ds gs before hval0 hW _ _
  have hval : ∀ (j : Nat) t v, Try.f6.params[j]? = some t → args[j]? = some v → Value.okWide Try.prog W .any base t v := hval0
  have hWhole := hW
  obtain ⟨p, q, hA0, hV, rfl, hfz, hnd⟩ := hW
  have hA : DataW.TrodAll enc Try.prog W 0 (fun _ => true) true Try.f6.params.toList args.toList ds p := hA0
  rw [Try.params6] at hA hval
  obtain ⟨v0, vs0, d0, ds0, p0, q0, hargs0, rfl, rfl, h0, r0⟩ := trodAll_cons hA
  obtain ⟨v1, vs1, d1, ds1, p1, q1, hargs1, rfl, rfl, h1, r1⟩ := trodAll_cons r0
  obtain ⟨rfl, rfl, rfl⟩ := trodAll_nil r1
  subst hargs1
  obtain rfl : args = #[v0, v1] := by cases args; simp_all
  obtain ⟨rfl, rfl⟩ := trodVars_none hV
  obtain ⟨x0, rfl, hl0, hb0⟩ := open_nats 256 Try.underlying22 Try.underlying5 (by kernel_rfl) (by kernel_rfl) wf_u8' (hval 0 22 v0 rfl rfl) h0
  obtain ⟨x1, rfl, hl1, hb1⟩ := open_nats 256 Try.underlying22 Try.underlying5 (by kernel_rfl) (by kernel_rfl) wf_u8' (hval 1 22 v1 rfl rfl) h1
  refine (apart_walk x0 x1 hl0 hl1 (getD_lt x0 _ (by omega) hb0) (getD_lt x1 _ (by omega) hb1) W).mono fun e W' ⟨he, hB⟩ => ?_
  subst he
  exact ⟨_, rfl, law_post laidOut (by rw [Try.params6]; decide +kernel) rfl (by kernel_rfl) Try.underlying4 hWhole rfl rfl rfl hB⟩

theorem limbApart : Rows.LimbApartSaid :=
  OpenClaim.holds_of_wide 6 Try.f6 rfl rfl rfl rfl rfl rfl rfl ⟨rfl, rfl, rfl, rfl, rfl⟩ rfl rfl rfl rfl rfl (by kernel_rfl) Try.func6 (by kernel_rfl)
    (of_decide_eq_true (by kernel_rfl)) (by unfold Func.isWrapper; first | (rw [if_pos (by decide +kernel)]; kernel_rfl) | (rw [if_neg (by decide +kernel)]; exact ⟨rfl, rfl⟩))
    (fun os started H enc _ => limbApart_lifted os started H enc)
end Go.Proofs.Ytbneibfieohkpaa

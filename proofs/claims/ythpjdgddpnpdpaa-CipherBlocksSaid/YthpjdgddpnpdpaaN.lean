/- CipherBlocks: the block of any key, counter and nonce is the reference's. -/
import Derived.Test.YthpjdgddpnpdpaaL
import Derived.Test.YthpjdgddpnpdpaaCalm
import Derived.Test.YthpjdgddpnpdpaaRow
namespace Go.Proofs.Ythpjdgddpnpdpaa
open Go.ChangeShapes Go.WideShapes Go.ChangeAt Go.RowKit

structure KnI (a b : List Nat) (w w' : World) : Prop where
  x : w'.heap[w.heap.size]? = some (.cells (av .u8 a) 29)
  y : w'.heap[w.heap.size + 1]? = some (.cells (av .u8 b) 30)
  b : Below w.heap.size w w'
  z : w.heap.size + 1 < w'.heap.size
theorem KnI.call {a b : List Nat} {w w' w'' : World} (h : KnI a b w w') (hb : Below w'.heap.size w' w'') : KnI a b w w'' :=
  ⟨old_row hb (by have := h.z; omega) h.x, old_row hb h.z h.y, h.b.trans (hb.mono h.b.size), Nat.lt_of_lt_of_le h.z hb.size⟩
set_option maxRecDepth 100000 in
set_option maxHeartbeats 4000000 in
theorem blocks_walk (key nonce : List Nat) (ctr : Nat) (hk : key.length = 32) (hn : nonce.length = 12) (hkb : W8 key) (hnb : W8 nonce) (hc : ctr < 4294967296) (w : World) :
    Calls Try.prog 4 #[.agg (av .u8 key), .int .u32 ctr, .agg (av .u8 nonce)] w fun e w' => e = .returned (.bool true) ∧ Below w.heap.size w w' := by
  have s29 : Hid ((Try.prog.info? 29).map (·.size) = some (av .u8 key).size) := by rw [Hid, av_size, hk]; kernel_rfl
  have s30 : Hid ((Try.prog.info? 30).map (·.size) = some (av .u8 nonce).size) := by rw [Hid, av_size, hn]; kernel_rfl
  have hg31 : Hid (Try.prog.eqGuardType Try.prog.depth 31 = false) := by rw [Hid]; kernel_rfl
  have hs5 : Hid ((Try.prog.info? 5).map (·.size) = some 1) := by rw [Hid]; kernel_rfl
  have hB := Lib.hid (fun w => block_any key nonce ctr hk hn hkb hnb hc w)
  have hR := Lib.hid (fun w => refblock_any key nonce ctr hk hn hkb hnb hc w)
  have hl : Hid (∀ _ : Unit, (blockN key ctr nonce).length = 64) := fun _ => blockN_length _ _ _
  generalize blockN key ctr nonce = bl at hB hR hl
  clear hk hn hkb hnb hc
  go_enter Try.func4, Try.ntmps4
  go_wp2
  refine wp_region_calm (KnI key nonce w) (by kernel_rfl) (by kernel_rfl)
    ⟨old_alloc _ (heap_new w _), by rw [heap_drew]; exact (congrArg (fun n => ((w.alloc (.cells (av .u8 key) 29)).alloc (.cells (av .u8 nonce) 30)).heap[n]?) (by simp)).trans (heap_new (w.alloc _) _),
      (((Below.refl _ _).alloc (Nat.le_refl _) _).alloc (by simp) _).drew, by simp⟩ ?_
  refine wpCalm_plain (.bool true) rfl (fun w' hI K hK => ?_) ?_
  · go_simp
    refine (awake4_any w').mono ?_
    rintro e w'' ⟨rfl, hb⟩
    exact ⟨_, rfl, hK _ (hI.call hb)⟩
  simp only [Act.put, List.setIfInBounds_toArray, List.set_cons_succ, List.set_cons_zero]
  refine wpCalm_plain (.bool true) rfl (fun w' hI K hK => ?_) ?_
  · go_simp
    exact hK _ hI
  simp only [Act.put, List.setIfInBounds_toArray, List.set_cons_succ, List.set_cons_zero]
  refine wpCalm_step (.agg (av .u8 key)) rfl (fun w' hI K hK => ?_) ?_
  · exact calm_load_row 29 _ rfl _ rfl 29 _ (0, 0) _ hI.x Try.underlying29 rfl s29.out (hK _ hI)
  simp only [Act.put, List.setIfInBounds_toArray, List.set_cons_succ, List.set_cons_zero]
  refine wpCalm_step (.int .u32 (ctr : Int)) rfl (fun w' hI K hK => ?_) ?_
  · go_simp
    exact hK _ hI
  simp only [Act.put, List.setIfInBounds_toArray, List.set_cons_succ, List.set_cons_zero]
  refine wpCalm_step (.agg (av .u8 nonce)) rfl (fun w' hI K hK => ?_) ?_
  · exact calm_load_row 30 _ rfl _ rfl 30 _ (0, 0) _ hI.y Try.underlying30 rfl s30.out (hK _ hI)
  simp only [Act.put, List.setIfInBounds_toArray, List.set_cons_succ, List.set_cons_zero]
  refine wpCalm_step (.agg (av .u8 bl)) rfl (fun w' hI K hK => ?_) ?_
  · go_simp
    refine (hB.out w').mono ?_
    rintro e w'' ⟨rfl, hb⟩
    exact ⟨_, rfl, hK _ (hI.call hb)⟩
  simp only [Act.put, List.setIfInBounds_toArray, List.set_cons_succ, List.set_cons_zero]
  refine wpCalm_step (.agg (av .u8 key)) rfl (fun w' hI K hK => ?_) ?_
  · exact calm_load_row 29 _ rfl _ rfl 29 _ (0, 0) _ hI.x Try.underlying29 rfl s29.out (hK _ hI)
  simp only [Act.put, List.setIfInBounds_toArray, List.set_cons_succ, List.set_cons_zero]
  refine wpCalm_step (.int .u32 (ctr : Int)) rfl (fun w' hI K hK => ?_) ?_
  · go_simp
    exact hK _ hI
  simp only [Act.put, List.setIfInBounds_toArray, List.set_cons_succ, List.set_cons_zero]
  refine wpCalm_step (.agg (av .u8 nonce)) rfl (fun w' hI K hK => ?_) ?_
  · exact calm_load_row 30 _ rfl _ rfl 30 _ (0, 0) _ hI.y Try.underlying30 rfl s30.out (hK _ hI)
  simp only [Act.put, List.setIfInBounds_toArray, List.set_cons_succ, List.set_cons_zero]
  refine wpCalm_step (.agg (av .u8 bl)) rfl (fun w' hI K hK => ?_) ?_
  · go_simp
    refine (hR.out w').mono ?_
    rintro e w'' ⟨rfl, hb⟩
    exact ⟨_, rfl, hK _ (hI.call hb)⟩
  simp only [Act.put, List.setIfInBounds_toArray, List.set_cons_succ, List.set_cons_zero]
  refine wpCalm_step (.bool true) rfl (fun w' hI K hK => ?_) ?_
  · refine calm_eql_ints rfl rfl rfl Try.underlying31 Try.underlying5 hs5.out (hl.out ()) (hl.out ()) hg31.out ?_
    rw [beq_self_eq_true]
    exact hK _ hI
  simp only [Act.put, List.setIfInBounds_toArray, List.set_cons_succ, List.set_cons_zero]
  refine wpCalm_plain (.bool true) rfl (fun w' hI K hK => ?_) ?_
  · go_simp
    exact hK _ hI
  simp only [Act.put, List.setIfInBounds_toArray, List.set_cons_succ, List.set_cons_zero]
  refine wpCalm_plain (.bool true) rfl (fun w' hI K hK => ?_) ?_
  · go_simp
    exact hK _ hI
  simp only [Act.put, List.setIfInBounds_toArray, List.set_cons_succ, List.set_cons_zero]
  refine wpCalm_nil fun w' hI => ?_
  go_wp2
  go_ret
  exact ⟨rfl, hI.b⟩

set_option maxRecDepth 100000 in
theorem cipherBlocks_lifted (os : Os) (started : os.Started) (H : Type) (enc : TypeId × Value → H) :
    ReturnsInHanded {} Try.checked os 4 .any (Rows.cipherBlocksSpec.pre6 enc Try.prog Try.f4 Rows.cipherBlocksRow.domain false) (Rows.cipherBlocksSpec.post enc Try.prog Try.f4 false true false false) := by
  refine returnsInHanded_of_change (C := Try.checked) ownKnob_none started (by kernel_rfl) Try.func4
    (ChangeSpec.witness6 (enc := enc) (C := Try.checked) false ⟨#[], #[.agg (av .u8 zeros32), .int .u32 0, .agg (av .u8 zeros12)], []⟩ 8 (by kernel_rfl) (by kernel_rfl) (by kernel_rfl) (by kernel_rfl)) ?_
  intro W base args ds gs before hval0 hW _ _
  have hval : ∀ (j : Nat) t v, Try.f4.params[j]? = some t → args[j]? = some v → Value.okWide Try.prog W .any base t v := hval0
  have hWhole := hW
  obtain ⟨p, q, hA0, hV, rfl, hfz, hnd⟩ := hW
  have hA : DataW.TrodAll enc Try.prog W 0 (fun _ => true) true Try.f4.params.toList args.toList ds p := hA0
  rw [Try.params4] at hA hval
  obtain ⟨v0, vs0, d0, ds0, p0, q0, hargs0, rfl, rfl, h0, r0⟩ := trodAll_cons hA
  obtain ⟨v1, vs1, d1, ds1, p1, q1, hargs1, rfl, rfl, h1, r1⟩ := trodAll_cons r0
  obtain ⟨v2, vs2, d2, ds2, p2, q2, hargs2, rfl, rfl, h2, r2⟩ := trodAll_cons r1
  obtain ⟨rfl, rfl, rfl⟩ := trodAll_nil r2
  subst hargs1
  subst hargs2
  obtain rfl : args = #[v0, v1, v2] := by cases args; simp_all
  obtain ⟨rfl, rfl⟩ := trodVars_none hV
  obtain ⟨x0, rfl, hl0, hb0⟩ := open_nats 256 Try.underlying29 Try.underlying5 (by kernel_rfl) (by kernel_rfl) wf_u8' (hval 0 29 v0 rfl rfl) h0
  obtain ⟨x1, rfl, hb1⟩ := open_nat 4294967296 Try.underlying22 wf_u32' (hval 1 22 v1 rfl rfl) h1
  obtain ⟨x2, rfl, hl2, hb2⟩ := open_nats 256 Try.underlying30 Try.underlying5 (by kernel_rfl) (by kernel_rfl) wf_u8' (hval 2 30 v2 rfl rfl) h2
  refine (blocks_walk x0 x2 x1 hl0 hl2 (fun i => getD_lt x0 256 (by decide) hb0 i) (fun i => getD_lt x2 256 (by decide) hb2 i) hb1 W).mono fun e W' ⟨he, hB⟩ => ?_
  subst he
  exact ⟨_, rfl, law_post laidOut (by rw [Try.params4]; decide +kernel) rfl (by kernel_rfl) Try.underlying4 hWhole rfl rfl rfl hB⟩

theorem cipherBlocks : Rows.CipherBlocksSaid :=
  OpenClaim.holds_of_wide 4 Try.f4 rfl rfl rfl rfl rfl rfl rfl ⟨rfl, rfl, rfl, rfl, rfl⟩ rfl rfl rfl rfl rfl (by kernel_rfl) Try.func4 (by kernel_rfl)
    (of_decide_eq_true (by kernel_rfl)) (by unfold Func.isWrapper; first | (rw [if_pos (by decide +kernel)]; kernel_rfl) | (rw [if_neg (by decide +kernel)]; exact ⟨rfl, rfl⟩))
    (fun os started H enc _ => cipherBlocks_lifted os started H enc)
end Go.Proofs.Ythpjdgddpnpdpaa

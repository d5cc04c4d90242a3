/- StreamBytes: the first bytes of any seed's stream, and nonces of any tags, are the reference's. -/
import Derived.Test.YthpjdgddpnpdpaaA2
namespace Go.Proofs.Ythpjdgddpnpdpaa
open Go.ChangeShapes Go.WideShapes Go.ChangeAt Go.RowKit

set_option maxRecDepth 100000 in
set_option maxHeartbeats 4000000 in
theorem bytes_walk (key : List Nat) (tag : Nat) (n : Int) (hk : key.length = 32) (hkb : W8 key) (ht : tag < 4294967296) (w : World) :
    Calls Try.prog 8 #[.agg (av .u8 key), .int .u32 tag, .int .i64 n] w fun e w' => e = .returned (.bool true) ∧ Below w.heap.size w w' := by
  have s29 : Hid ((Try.prog.info? 29).map (·.size) = some (av .u8 key).size) := by rw [Hid, av_size, hk]; kernel_rfl
  have hI0 : Hid (ByI 29 key w [] (w.alloc (.cells (av .u8 key) 29)).drew) := ⟨heap_new w _, ((Below.refl _ _).alloc (Nat.le_refl _) _).drew, fun p hp => by cases hp⟩
  have g30 : Hid (Try.prog.eqGuardType Try.prog.depth 30 = false) := by rw [Hid]; kernel_rfl
  have hs5 : Hid ((Try.prog.info? 5).map (·.size) = some 1) := by rw [Hid]; kernel_rfl
  have HN1 := Lib.hid (fun w => nonce_any tag ht w)
  have HN2 := Lib.hid (fun w => refnonce_any tag w)
  have hnl : Hid (∀ _ : Unit, (nonceN tag).length = 12) := fun _ => nonceN_length _
  generalize nonceN tag = nn at HN1 HN2 hnl
  by_cases h5 : 5000 < n
  · have q0 : (0 : Int) ≤ n := by omega
    obtain ⟨N, hN⟩ := clamp_ex (n % 5000 + 5000) 65536
    have H1 := Lib.hid (fun w => bytes_any key tag (n % 5000 + 5000) N hk hkb ht hN w)
    have H2 := Lib.hid (fun w => refbytes_any key tag (n % 5000 + 5000) N hk hkb hN w)
    have hXl : Hid (∀ _ : Unit, (bytesN key tag N).length = N) := fun _ => bytesN_length _ _ _
    generalize bytesN key tag N = X at H1 H2 hXl
    clear hk hkb ht hN
    go_enter Try.func8, Try.ntmps8
    go_wp2_with fail
    refine wp_region_calm_h (ByI 29 key w) (fun a b => ∀ p ∈ a, p ∈ b) (fun _ _ h => h) (fun _ _ _ h k p hp => k p (h p hp)) []
      [.any (.bool true), .any (.bool true), .any (.int .u32 tag), .any (.agg (av .u8 nn)), .any (.int .u32 tag), .any (.agg (av .u8 nn)), .any (.bool true), .any (.bool true), .any (.bool true),
       .any (.agg (av .u8 key)), .any (.int .u32 tag), .any (.int .i64 (n % 5000 + 5000)), .turn, .held, .any (.agg (av .u8 key)), .any (.int .u32 tag), .any (.int .i64 (n % 5000 + 5000)), .turn, .held, .any (.bool true), .any (.bool true), .any (.bool true)]
      (by kernel_rfl) (by kernel_rfl) (by kernel_rfl) hI0.out ?_
    refine wpH_any rfl (fun t' w' hI K hK => ?_) ?_
    · go_simp
      refine (awake5_any w').mono ?_
      rintro e w'' ⟨rfl, hb⟩
      exact ⟨_, rfl, hK _ (hI.old hb)⟩
    simp only [Act.put, List.setIfInBounds_toArray, List.set_cons_succ, List.set_cons_zero]
    refine wpH_any rfl (fun t' w' hI K hK => ?_) ?_
    · go_simp
      exact hK _ hI
    simp only [Act.put, List.setIfInBounds_toArray, List.set_cons_succ, List.set_cons_zero]
    refine wpH_any rfl (fun t' w' hI K hK => ?_) ?_
    · go_simp
      exact hK _ hI
    simp only [Act.put, List.setIfInBounds_toArray, List.set_cons_succ, List.set_cons_zero]
    refine wpH_any rfl (fun t' w' hI K hK => ?_) ?_
    · go_simp
      refine (HN1.out w').mono ?_
      rintro e w'' ⟨rfl, hb⟩
      exact ⟨_, rfl, hK _ (hI.old hb)⟩
    simp only [Act.put, List.setIfInBounds_toArray, List.set_cons_succ, List.set_cons_zero]
    refine wpH_any rfl (fun t' w' hI K hK => ?_) ?_
    · go_simp
      exact hK _ hI
    simp only [Act.put, List.setIfInBounds_toArray, List.set_cons_succ, List.set_cons_zero]
    refine wpH_any rfl (fun t' w' hI K hK => ?_) ?_
    · go_simp
      refine (HN2.out w').mono ?_
      rintro e w'' ⟨rfl, hb⟩
      exact ⟨_, rfl, hK _ (hI.old hb)⟩
    simp only [Act.put, List.setIfInBounds_toArray, List.set_cons_succ, List.set_cons_zero]
    refine wpH_any rfl (fun t' w' hI K hK => ?_) ?_
    · refine calm_eql_ints rfl rfl rfl Try.underlying30 Try.underlying5 hs5.out (hnl.out ()) (hnl.out ()) g30.out ?_
      rw [beq_self_eq_true]
      exact hK _ hI
    simp only [Act.put, List.setIfInBounds_toArray, List.set_cons_succ, List.set_cons_zero]
    refine wpH_any rfl (fun t' w' hI K hK => ?_) ?_
    · go_simp
      exact hK _ hI
    simp only [Act.put, List.setIfInBounds_toArray, List.set_cons_succ, List.set_cons_zero]
    refine wpH_any rfl (fun t' w' hI K hK => ?_) ?_
    · go_simp
      exact hK _ hI
    simp only [Act.put, List.setIfInBounds_toArray, List.set_cons_succ, List.set_cons_zero]
    refine wpH_any rfl (fun t' w' hI K hK => ?_) ?_
    · exact calm_load_row 29 _ rfl _ rfl 29 _ (0, 0) _ hI.x Try.underlying29 rfl s29.out (hK _ hI)
    simp only [Act.put, List.setIfInBounds_toArray, List.set_cons_succ, List.set_cons_zero]
    refine wpH_any rfl (fun t' w' hI K hK => ?_) ?_
    · go_simp
      exact hK _ hI
    simp only [Act.put, List.setIfInBounds_toArray, List.set_cons_succ, List.set_cons_zero]
    refine wpH_any rfl (fun t' w' hI K hK => ?_) ?_
    · go_simp
      exact hK _ hI
    simp only [Act.put, List.setIfInBounds_toArray, List.set_cons_succ, List.set_cons_zero]
    refine wpH_turn (fun s' v' => ∃ g, s' = (g, X) :: [] ∧ v' = .slice (some ⟨g, 0, none⟩) N N) rfl ⟨(0, X) :: [], _, fun p hp => List.mem_cons_of_mem _ hp, 0, rfl, rfl⟩ (fun w' hI K hK => ?_) ?_
    · go_simp
      refine (H1.out w').mono ?_
      rintro e w'' ⟨g, rfl, hr, hb⟩
      exact ⟨_, rfl, hK ((g, X) :: []) _ _ (fun p hp => List.mem_cons_of_mem _ hp) ⟨_, rfl, rfl⟩ (hI.more hb hr)⟩
    rintro s' v' hle ⟨g1, rfl, rfl⟩
    clear hle
    simp only [Act.put, List.setIfInBounds_toArray, List.set_cons_succ, List.set_cons_zero]
    refine wpH_held (.string (strN X)) rfl (fun t' w' hle hI K hK => ?_) ?_
    · exact calm_convert 36 9 _ rfl (row_string _ (hXl.out ()) (hI.rows (g1, X) (hle _ List.mem_cons_self))) (hK _ hI)
    simp only [Act.put, List.setIfInBounds_toArray, List.set_cons_succ, List.set_cons_zero]
    refine wpH_any rfl (fun t' w' hI K hK => ?_) ?_
    · exact calm_load_row 29 _ rfl _ rfl 29 _ (0, 0) _ hI.x Try.underlying29 rfl s29.out (hK _ hI)
    simp only [Act.put, List.setIfInBounds_toArray, List.set_cons_succ, List.set_cons_zero]
    refine wpH_any rfl (fun t' w' hI K hK => ?_) ?_
    · go_simp
      exact hK _ hI
    simp only [Act.put, List.setIfInBounds_toArray, List.set_cons_succ, List.set_cons_zero]
    refine wpH_any rfl (fun t' w' hI K hK => ?_) ?_
    · go_simp
      exact hK _ hI
    simp only [Act.put, List.setIfInBounds_toArray, List.set_cons_succ, List.set_cons_zero]
    refine wpH_turn (fun s' v' => ∃ g, s' = (g, X) :: [(g1, X)] ∧ v' = .slice (some ⟨g, 0, none⟩) N N) rfl ⟨(0, X) :: [(g1, X)], _, fun p hp => List.mem_cons_of_mem _ hp, 0, rfl, rfl⟩ (fun w' hI K hK => ?_) ?_
    · go_simp
      refine (H2.out w').mono ?_
      rintro e w'' ⟨g, rfl, hr, hb⟩
      exact ⟨_, rfl, hK ((g, X) :: [(g1, X)]) _ _ (fun p hp => List.mem_cons_of_mem _ hp) ⟨_, rfl, rfl⟩ (hI.more hb hr)⟩
    rintro s' v' hle ⟨g2, rfl, rfl⟩
    clear hle
    simp only [Act.put, List.setIfInBounds_toArray, List.set_cons_succ, List.set_cons_zero]
    refine wpH_held (.string (strN X)) rfl (fun t' w' hle hI K hK => ?_) ?_
    · exact calm_convert 36 9 _ rfl (row_string _ (hXl.out ()) (hI.rows (g2, X) (hle _ List.mem_cons_self))) (hK _ hI)
    simp only [Act.put, List.setIfInBounds_toArray, List.set_cons_succ, List.set_cons_zero]
    refine wpH_any rfl (fun t' w' hI K hK => ?_) ?_
    · go_simp
      exact hK _ hI
    simp only [Act.put, List.setIfInBounds_toArray, List.set_cons_succ, List.set_cons_zero]
    refine wpH_any rfl (fun t' w' hI K hK => ?_) ?_
    · go_simp
      exact hK _ hI
    simp only [Act.put, List.setIfInBounds_toArray, List.set_cons_succ, List.set_cons_zero]
    refine wpH_any rfl (fun t' w' hI K hK => ?_) ?_
    · go_simp
      exact hK _ hI
    simp only [Act.put, List.setIfInBounds_toArray, List.set_cons_succ, List.set_cons_zero]
    refine wpH_nil fun w' hI => ?_
    go_wp2
    go_ret
    exact ⟨rfl, hI.b⟩
  · have q0 : ¬ 5000 < n := h5
    obtain ⟨N, hN⟩ := clamp_ex (n) 65536
    have H1 := Lib.hid (fun w => bytes_any key tag (n) N hk hkb ht hN w)
    have H2 := Lib.hid (fun w => refbytes_any key tag (n) N hk hkb hN w)
    have hXl : Hid (∀ _ : Unit, (bytesN key tag N).length = N) := fun _ => bytesN_length _ _ _
    generalize bytesN key tag N = X at H1 H2 hXl
    clear hk hkb ht hN
    go_enter Try.func8, Try.ntmps8
    go_wp2_with fail
    refine wp_region_calm_h (ByI 29 key w) (fun a b => ∀ p ∈ a, p ∈ b) (fun _ _ h => h) (fun _ _ _ h k p hp => k p (h p hp)) []
      [.any (.bool true), .any (.bool true), .any (.int .u32 tag), .any (.agg (av .u8 nn)), .any (.int .u32 tag), .any (.agg (av .u8 nn)), .any (.bool true), .any (.bool true), .any (.bool true),
       .any (.agg (av .u8 key)), .any (.int .u32 tag), .any (.int .i64 (n)), .turn, .held, .any (.agg (av .u8 key)), .any (.int .u32 tag), .any (.int .i64 (n)), .turn, .held, .any (.bool true), .any (.bool true), .any (.bool true)]
      (by kernel_rfl) (by kernel_rfl) (by kernel_rfl) hI0.out ?_
    refine wpH_any rfl (fun t' w' hI K hK => ?_) ?_
    · go_simp
      refine (awake5_any w').mono ?_
      rintro e w'' ⟨rfl, hb⟩
      exact ⟨_, rfl, hK _ (hI.old hb)⟩
    simp only [Act.put, List.setIfInBounds_toArray, List.set_cons_succ, List.set_cons_zero]
    refine wpH_any rfl (fun t' w' hI K hK => ?_) ?_
    · go_simp
      exact hK _ hI
    simp only [Act.put, List.setIfInBounds_toArray, List.set_cons_succ, List.set_cons_zero]
    refine wpH_any rfl (fun t' w' hI K hK => ?_) ?_
    · go_simp
      exact hK _ hI
    simp only [Act.put, List.setIfInBounds_toArray, List.set_cons_succ, List.set_cons_zero]
    refine wpH_any rfl (fun t' w' hI K hK => ?_) ?_
    · go_simp
      refine (HN1.out w').mono ?_
      rintro e w'' ⟨rfl, hb⟩
      exact ⟨_, rfl, hK _ (hI.old hb)⟩
    simp only [Act.put, List.setIfInBounds_toArray, List.set_cons_succ, List.set_cons_zero]
    refine wpH_any rfl (fun t' w' hI K hK => ?_) ?_
    · go_simp
      exact hK _ hI
    simp only [Act.put, List.setIfInBounds_toArray, List.set_cons_succ, List.set_cons_zero]
    refine wpH_any rfl (fun t' w' hI K hK => ?_) ?_
    · go_simp
      refine (HN2.out w').mono ?_
      rintro e w'' ⟨rfl, hb⟩
      exact ⟨_, rfl, hK _ (hI.old hb)⟩
    simp only [Act.put, List.setIfInBounds_toArray, List.set_cons_succ, List.set_cons_zero]
    refine wpH_any rfl (fun t' w' hI K hK => ?_) ?_
    · refine calm_eql_ints rfl rfl rfl Try.underlying30 Try.underlying5 hs5.out (hnl.out ()) (hnl.out ()) g30.out ?_
      rw [beq_self_eq_true]
      exact hK _ hI
    simp only [Act.put, List.setIfInBounds_toArray, List.set_cons_succ, List.set_cons_zero]
    refine wpH_any rfl (fun t' w' hI K hK => ?_) ?_
    · go_simp
      exact hK _ hI
    simp only [Act.put, List.setIfInBounds_toArray, List.set_cons_succ, List.set_cons_zero]
    refine wpH_any rfl (fun t' w' hI K hK => ?_) ?_
    · go_simp
      exact hK _ hI
    simp only [Act.put, List.setIfInBounds_toArray, List.set_cons_succ, List.set_cons_zero]
    refine wpH_any rfl (fun t' w' hI K hK => ?_) ?_
    · exact calm_load_row 29 _ rfl _ rfl 29 _ (0, 0) _ hI.x Try.underlying29 rfl s29.out (hK _ hI)
    simp only [Act.put, List.setIfInBounds_toArray, List.set_cons_succ, List.set_cons_zero]
    refine wpH_any rfl (fun t' w' hI K hK => ?_) ?_
    · go_simp
      exact hK _ hI
    simp only [Act.put, List.setIfInBounds_toArray, List.set_cons_succ, List.set_cons_zero]
    refine wpH_any rfl (fun t' w' hI K hK => ?_) ?_
    · go_simp
      exact hK _ hI
    simp only [Act.put, List.setIfInBounds_toArray, List.set_cons_succ, List.set_cons_zero]
    refine wpH_turn (fun s' v' => ∃ g, s' = (g, X) :: [] ∧ v' = .slice (some ⟨g, 0, none⟩) N N) rfl ⟨(0, X) :: [], _, fun p hp => List.mem_cons_of_mem _ hp, 0, rfl, rfl⟩ (fun w' hI K hK => ?_) ?_
    · go_simp
      refine (H1.out w').mono ?_
      rintro e w'' ⟨g, rfl, hr, hb⟩
      exact ⟨_, rfl, hK ((g, X) :: []) _ _ (fun p hp => List.mem_cons_of_mem _ hp) ⟨_, rfl, rfl⟩ (hI.more hb hr)⟩
    rintro s' v' hle ⟨g1, rfl, rfl⟩
    clear hle
    simp only [Act.put, List.setIfInBounds_toArray, List.set_cons_succ, List.set_cons_zero]
    refine wpH_held (.string (strN X)) rfl (fun t' w' hle hI K hK => ?_) ?_
    · exact calm_convert 36 9 _ rfl (row_string _ (hXl.out ()) (hI.rows (g1, X) (hle _ List.mem_cons_self))) (hK _ hI)
    simp only [Act.put, List.setIfInBounds_toArray, List.set_cons_succ, List.set_cons_zero]
    refine wpH_any rfl (fun t' w' hI K hK => ?_) ?_
    · exact calm_load_row 29 _ rfl _ rfl 29 _ (0, 0) _ hI.x Try.underlying29 rfl s29.out (hK _ hI)
    simp only [Act.put, List.setIfInBounds_toArray, List.set_cons_succ, List.set_cons_zero]
    refine wpH_any rfl (fun t' w' hI K hK => ?_) ?_
    · go_simp
      exact hK _ hI
    simp only [Act.put, List.setIfInBounds_toArray, List.set_cons_succ, List.set_cons_zero]
    refine wpH_any rfl (fun t' w' hI K hK => ?_) ?_
    · go_simp
      exact hK _ hI
    simp only [Act.put, List.setIfInBounds_toArray, List.set_cons_succ, List.set_cons_zero]
    refine wpH_turn (fun s' v' => ∃ g, s' = (g, X) :: [(g1, X)] ∧ v' = .slice (some ⟨g, 0, none⟩) N N) rfl ⟨(0, X) :: [(g1, X)], _, fun p hp => List.mem_cons_of_mem _ hp, 0, rfl, rfl⟩ (fun w' hI K hK => ?_) ?_
    · go_simp
      refine (H2.out w').mono ?_
      rintro e w'' ⟨g, rfl, hr, hb⟩
      exact ⟨_, rfl, hK ((g, X) :: [(g1, X)]) _ _ (fun p hp => List.mem_cons_of_mem _ hp) ⟨_, rfl, rfl⟩ (hI.more hb hr)⟩
    rintro s' v' hle ⟨g2, rfl, rfl⟩
    clear hle
    simp only [Act.put, List.setIfInBounds_toArray, List.set_cons_succ, List.set_cons_zero]
    refine wpH_held (.string (strN X)) rfl (fun t' w' hle hI K hK => ?_) ?_
    · exact calm_convert 36 9 _ rfl (row_string _ (hXl.out ()) (hI.rows (g2, X) (hle _ List.mem_cons_self))) (hK _ hI)
    simp only [Act.put, List.setIfInBounds_toArray, List.set_cons_succ, List.set_cons_zero]
    refine wpH_any rfl (fun t' w' hI K hK => ?_) ?_
    · go_simp
      exact hK _ hI
    simp only [Act.put, List.setIfInBounds_toArray, List.set_cons_succ, List.set_cons_zero]
    refine wpH_any rfl (fun t' w' hI K hK => ?_) ?_
    · go_simp
      exact hK _ hI
    simp only [Act.put, List.setIfInBounds_toArray, List.set_cons_succ, List.set_cons_zero]
    refine wpH_any rfl (fun t' w' hI K hK => ?_) ?_
    · go_simp
      exact hK _ hI
    simp only [Act.put, List.setIfInBounds_toArray, List.set_cons_succ, List.set_cons_zero]
    refine wpH_nil fun w' hI => ?_
    go_wp2
    go_ret
    exact ⟨rfl, hI.b⟩

set_option maxRecDepth 100000 in
theorem streamBytes_lifted (os : Os) (started : os.Started) (H : Type) (enc : TypeId × Value → H) :
    ReturnsInHanded {} Try.checked os 8 .any (Rows.streamBytesSpec.pre6 enc Try.prog Try.f8 Rows.streamBytesRow.domain false) (Rows.streamBytesSpec.post enc Try.prog Try.f8 false true false false) := by
  refine returnsInHanded_of_change (C := Try.checked) ownKnob_none started (by kernel_rfl) Try.func8
    (ChangeSpec.witness6 (enc := enc) (C := Try.checked) false ⟨#[], #[.agg (av .u8 zeros32), .int .u32 0, .int .i64 0], []⟩ 8 (by kernel_rfl) (by kernel_rfl) (by kernel_rfl) (by kernel_rfl)) ?_
  intro W base args ds gs before hval0 hW _ _
  have hval : ∀ (j : Nat) t v, Try.f8.params[j]? = some t → args[j]? = some v → Value.okWide Try.prog W .any base t v := hval0
  have hWhole := hW
  obtain ⟨p, q, hA0, hV, rfl, hfz, hnd⟩ := hW
  have hA : DataW.TrodAll enc Try.prog W 0 (fun _ => true) true Try.f8.params.toList args.toList ds p := hA0
  rw [Try.params8] at hA hval
  obtain ⟨v0, vs0, d0, ds0, p0, q0, hargs0, rfl, rfl, h0, r0⟩ := trodAll_cons hA
  obtain ⟨v1, vs1, d1, ds1, p1, q1, hargs1, rfl, rfl, h1, r1⟩ := trodAll_cons r0
  obtain ⟨v2, vs2, d2, ds2, p2, q2, hargs2, rfl, rfl, h2, r2⟩ := trodAll_cons r1
  obtain ⟨rfl, rfl, rfl⟩ := trodAll_nil r2
  subst hargs1
  subst hargs2
  obtain rfl : args = #[v0, v1, v2] := by cases args; simp_all
  obtain ⟨rfl, rfl⟩ := trodVars_none hV
  obtain ⟨x0, rfl, hl0, hb0⟩ := open_nats 256 Try.underlying29 Try.underlying5 (by kernel_rfl) (by kernel_rfl) wf_u8' (hval 0 29 v0 rfl rfl) h0
  obtain ⟨x1, rfl, hb1⟩ := open_nat 4294967296 Try.underlying22 wf_u32' (hval 1 22 v1 rfl rfl) h1
  obtain ⟨x2, rfl, _, _, hw2⟩ := open_int Try.underlying3 (hval 2 3 v2 rfl rfl) h2
  have hb2 := wf_i64' x2 hw2
  refine (bytes_walk x0 x1 x2 hl0 (fun i => getD_lt x0 256 (by decide) hb0 i) hb1 W).mono fun e W' ⟨he, hB⟩ => ?_
  subst he
  exact ⟨_, rfl, law_post laidOut (by rw [Try.params8]; decide +kernel) rfl (by kernel_rfl) Try.underlying4 hWhole rfl rfl rfl hB⟩

theorem streamBytes : Rows.StreamBytesSaid :=
  OpenClaim.holds_of_wide 8 Try.f8 rfl rfl rfl rfl rfl rfl rfl ⟨rfl, rfl, rfl, rfl, rfl⟩ rfl rfl rfl rfl rfl (by kernel_rfl) Try.func8 (by kernel_rfl)
    (of_decide_eq_true (by kernel_rfl)) (by unfold Func.isWrapper; first | (rw [if_pos (by decide +kernel)]; kernel_rfl) | (rw [if_neg (by decide +kernel)]; exact ⟨rfl, rfl⟩))
    (fun os started H enc _ => streamBytes_lifted os started H enc)
end Go.Proofs.Ythpjdgddpnpdpaa

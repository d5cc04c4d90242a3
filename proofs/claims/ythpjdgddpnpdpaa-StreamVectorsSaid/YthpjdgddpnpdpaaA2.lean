/- StreamMost: there are no more bytes, and numbers, than may be. -/
import Derived.Test.YthpjdgddpnpdpaaS5
import Derived.Test.YthpjdgddpnpdpaaRow
namespace Go.Proofs.Ythpjdgddpnpdpaa
open Go.ChangeShapes Go.WideShapes Go.ChangeAt Go.RowKit

theorem wf_i64' (x : Int) (h : (Lit.int .i64 x).wf = true) : -9223372036854775808 ≤ x ∧ x ≤ 9223372036854775807 := by
  simp [Lit.wf, IntKind.min, IntKind.max, IntKind.signed, IntKind.bits] at h; omega
theorem clamp_ex (n : Int) (hi : Nat) : ∃ N, Clamp n hi N := by
  by_cases h1 : n < 0
  · exact ⟨0, .inl ⟨h1, rfl⟩⟩
  · by_cases h2 : n ≤ hi
    · exact ⟨n.toNat, .inr (.inl ⟨by omega, h2, by omega⟩)⟩
    · exact ⟨hi, .inr (.inr ⟨by omega, rfl⟩)⟩
set_option maxRecDepth 100000 in
set_option maxHeartbeats 4000000 in
theorem most_walk (key : List Nat) (tag : Nat) (n : Int) (hk : key.length = 32) (hkb : W8 key) (ht : tag < 4294967296) (w : World) :
    Calls Try.prog 9 #[.agg (av .u8 key), .int .u32 tag, .int .i64 n] w fun e w' => e = .returned (.bool true) ∧ Below w.heap.size w w' := by
  obtain ⟨M, hM⟩ := clamp_ex n 256
  have s29 : Hid ((Try.prog.info? 29).map (·.size) = some (av .u8 key).size) := by rw [Hid, av_size, hk]; kernel_rfl
  have H := Lib.hid (fun w => vector_any key tag n M hk hkb ht hM w)
  have hx := heap_new w (.cells (av .u8 key) 29)
  clear hk hkb ht
  rcases hM with ⟨h1, rfl⟩ | ⟨h1, h2, rfl⟩ | ⟨h1, rfl⟩
  · have q1 : ¬ (256 : Int) < n := by omega
    have q2 : ¬ (0 : Int) ≤ n := by omega
    go_enter Try.func9, Try.ntmps9
    go_wp2_with (refine wpList_load_row_if rfl 29 _ rfl _ rfl 29 _ (0, 0) _ hx Try.underlying29 rfl s29.out ?_)
    refine (H.out _).mono ?_
    rintro e w1 ⟨g, rfl, hr1, hb1⟩
    have hB1 := Lib.hid (((Below.refl w.heap.size w).alloc (Nat.le_refl _) (.cells (av .u8 key) 29)).trans (hb1.mono (by simp)))
    clear hb1 H hx hr1
    go_wp2_with fail
    refine (awake5_any _).mono ?_
    rintro e w2 ⟨rfl, hb2⟩
    have hB2 := Lib.hid (hB1.out.trans (hb2.mono hB1.out.size))
    clear hb2 hB1
    go_wp2
    go_ret
    exact ⟨rfl, hB2.out⟩
  · have q1 : ¬ (256 : Int) < (M : Int) := by omega
    have q2 : (M : Int) ≤ 256 := by omega
    have q3 : (0 : Int) ≤ (M : Int) := by omega
    have q4 : ¬ (M : Int) < 0 := by omega
    go_enter Try.func9, Try.ntmps9
    go_wp2_with (refine wpList_load_row_if rfl 29 _ rfl _ rfl 29 _ (0, 0) _ hx Try.underlying29 rfl s29.out ?_)
    refine (H.out _).mono ?_
    rintro e w1 ⟨g, rfl, hr1, hb1⟩
    have hB1 := Lib.hid (((Below.refl w.heap.size w).alloc (Nat.le_refl _) (.cells (av .u8 key) 29)).trans (hb1.mono (by simp)))
    clear hb1 H hx hr1
    go_wp2_with fail
    refine (awake5_any _).mono ?_
    rintro e w2 ⟨rfl, hb2⟩
    have hB2 := Lib.hid (hB1.out.trans (hb2.mono hB1.out.size))
    clear hb2 hB1
    go_wp2
    go_ret
    exact ⟨rfl, hB2.out⟩
  · have q1 : (256 : Int) < n := by omega
    have q2 : (0 : Int) ≤ n := by omega
    have q3 : ¬ n < 0 := by omega
    go_enter Try.func9, Try.ntmps9
    go_wp2_with (refine wpList_load_row_if rfl 29 _ rfl _ rfl 29 _ (0, 0) _ hx Try.underlying29 rfl s29.out ?_)
    refine (H.out _).mono ?_
    rintro e w1 ⟨g, rfl, hr1, hb1⟩
    have hB1 := Lib.hid (((Below.refl w.heap.size w).alloc (Nat.le_refl _) (.cells (av .u8 key) 29)).trans (hb1.mono (by simp)))
    clear hb1 H hx hr1
    go_wp2_with fail
    refine (awake5_any _).mono ?_
    rintro e w2 ⟨rfl, hb2⟩
    have hB2 := Lib.hid (hB1.out.trans (hb2.mono hB1.out.size))
    clear hb2 hB1
    go_wp2
    go_ret
    exact ⟨rfl, hB2.out⟩

set_option maxRecDepth 100000 in
theorem streamMost_lifted (os : Os) (started : os.Started) (H : Type) (enc : TypeId × Value → H) :
    ReturnsInHanded {} Try.checked os 9 .any (Rows.streamMostSpec.pre6 enc Try.prog Try.f9 Rows.streamMostRow.domain false) (Rows.streamMostSpec.post enc Try.prog Try.f9 false true false false) := by
  refine returnsInHanded_of_change (C := Try.checked) ownKnob_none started (by kernel_rfl) Try.func9
    (ChangeSpec.witness6 (enc := enc) (C := Try.checked) false ⟨#[], #[.agg (av .u8 zeros32), .int .u32 0, .int .i64 0], []⟩ 8 (by kernel_rfl) (by kernel_rfl) (by kernel_rfl) (by kernel_rfl)) ?_
  intro W base args ds gs before hval0 hW _ _
  have hval : ∀ (j : Nat) t v, Try.f9.params[j]? = some t → args[j]? = some v → Value.okWide Try.prog W .any base t v := hval0
  have hWhole := hW
  obtain ⟨p, q, hA0, hV, rfl, hfz, hnd⟩ := hW
  have hA : DataW.TrodAll enc Try.prog W 0 (fun _ => true) true Try.f9.params.toList args.toList ds p := hA0
  rw [Try.params9] at hA hval
  obtain ⟨v0, vs0, d0, ds0, p0, q0, hargs0, rfl, rfl, h0, r0⟩ := trodAll_cons hA
  obtain ⟨v1, vs1, d1, ds1, p1, q1, hargs1, rfl, rfl, h1, r1⟩ := trodAll_cons r0
  obtain ⟨v2, vs2, d2, ds2, p2, q2, hargs2, rfl, rfl, h2, r2⟩ := trodAll_cons r1
  obtain ⟨rfl, rfl, rfl⟩ := trodAll_nil r2
  subst hargs1
  subst hargs2
  obtain rfl : args = #[v0, v1, v2] := by cases args; simp_all
  obtain ⟨rfl, rfl⟩ := trodVars_none hV
  obtain ⟨x0, rfl, hl0, hb0⟩ := open_nats 256 Try.underlying29 Try.underlying5 (by kernel_rfl) (by kernel_rfl) wf_u8' (hval 0 29 v0 rfl rfl) h0
  obtain ⟨x1, rfl, hb1⟩ := open_nat 4294967296 Try.underlying22 wf_u32' (hval 1 22 v1 rfl rfl) h1
  obtain ⟨x2, rfl, _, _, hw2⟩ := open_int Try.underlying3 (hval 2 3 v2 rfl rfl) h2
  have hb2 := wf_i64' x2 hw2
  refine (most_walk x0 x1 x2 hl0 (fun i => getD_lt x0 256 (by decide) hb0 i) hb1 W).mono fun e W' ⟨he, hB⟩ => ?_
  subst he
  exact ⟨_, rfl, law_post laidOut (by rw [Try.params9]; decide +kernel) rfl (by kernel_rfl) Try.underlying4 hWhole rfl rfl rfl hB⟩

theorem streamMost : Rows.StreamMostSaid :=
  OpenClaim.holds_of_wide 9 Try.f9 rfl rfl rfl rfl rfl rfl rfl ⟨rfl, rfl, rfl, rfl, rfl⟩ rfl rfl rfl rfl rfl (by kernel_rfl) Try.func9 (by kernel_rfl)
    (of_decide_eq_true (by kernel_rfl)) (by unfold Func.isWrapper; first | (rw [if_pos (by decide +kernel)]; kernel_rfl) | (rw [if_neg (by decide +kernel)]; exact ⟨rfl, rfl⟩))
    (fun os started H enc _ => streamMost_lifted os started H enc)
end Go.Proofs.Ythpjdgddpnpdpaa

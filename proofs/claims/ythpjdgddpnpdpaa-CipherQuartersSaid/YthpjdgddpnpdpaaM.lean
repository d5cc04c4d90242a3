/- CipherQuarters: a quarter round of any numbers is the reference's. -/
import Derived.Test.YthpjdgddpnpdpaaL
import Derived.Test.YthpjdgddpnpdpaaRow
namespace Go.Proofs.Ythpjdgddpnpdpaa
open Go.ChangeShapes Go.WideShapes Go.ChangeAt Go.RowKit

def four (a b c d : Nat) : List Nat := [a, b, c, d, 0, 0, 0, 0, 0, 0, 0, 0, 0, 0, 0, 0]
theorem four_w32 (a b c d : Nat) (ha : a < 4294967296) (hb : b < 4294967296) (hc : c < 4294967296) (hd : d < 4294967296) : W32 (four a b c d) :=
  w32_mem _ fun x hx => by simp [four] at hx; omega
theorem qst_four (a b c d x y z u : Nat) (h : qr a b c d = (x, y, z, u)) : qst (four a b c d) 0 1 2 3 = four x y z u := by
  simp [qst, four, h]
set_option maxRecDepth 100000 in
set_option maxHeartbeats 4000000 in
theorem quarters_walk (a b c d : Nat) (ha : a < 4294967296) (hb : b < 4294967296) (hc : c < 4294967296) (hd : d < 4294967296) (w : World) :
    Calls Try.prog 3 #[.int .u32 a, .int .u32 b, .int .u32 c, .int .u32 d] w fun e w' => e = .returned (.bool true) ∧ Below w.heap.size w w' := by
  obtain ⟨x, y, z, u, hq⟩ : ∃ x y z u, qr a b c d = (x, y, z, u) := ⟨_, _, _, _, rfl⟩
  have hQ := Lib.hid (fun w => quarter_any a b c d hb hd w)
  have hR := Lib.hid (fun w => refq_any (four a b c d) rfl (four_w32 a b c d ha hb hc hd) 0 1 2 3 (by omega) (by omega) (by omega) (by omega) (by omega) (by omega) (by omega) (by omega) (by omega) (by omega) w)
  rw [qst_four a b c d x y z u hq] at hR
  rw [hq] at hQ
  have hb25 : Hid (Try.prog.built 25 [(0, .int .u32 a), (1, .int .u32 b), (2, .int .u32 c), (3, .int .u32 d)] = some (av .u32 (four a b c d))) := by rw [Hid]; kernel_rfl
  have hz25 : Hid ((Try.prog.info? 25).bind (·.zero) = some (.agg (av .u32 zeros16))) := by rw [Hid]; kernel_rfl
  have s25 : Hid ((Try.prog.info? 25).map (·.size) = some (av .u32 (four x y z u)).size) := by rw [Hid]; kernel_rfl
  clear hq ha hb hc hd
  go_enter Try.func3, Try.ntmps3
  go_wp2_with fail
  refine (hQ.out _).mono ?_
  rintro e w' ⟨rfl, rfl⟩
  clear hQ
  go_wp2_with (refine wpList_build_to rfl 25 _ rfl _ rfl (av .u32 (four a b c d)) hb25.out ?_)
  refine (hR.out _).mono ?_
  rintro e w1 ⟨rfl, hb1⟩
  clear hR hb25
  go_wp2_with (first
    | (refine wpList_alloc_as rfl 25 rfl (av .u32 zeros16) hz25.out ?_)
    | (refine wpList_store_row rfl 25 _ _ rfl _ _ rfl rfl 25 _ (heap_new w1 _) s25.out rfl (av_one _ _) ?_; rw [alloc_setRow]))
  obtain ⟨W2, hW2⟩ : ∃ W2, W2 = w1.alloc (.cells (av .u32 (four x y z u)) 25) := ⟨_, rfl⟩
  have hr : Hid (W2.heap[w1.heap.size]? = some (.cells (av .u32 (four x y z u)) 25)) := by rw [Hid, hW2, alloc_get, if_pos rfl]
  have hB : Hid (Below w.heap.size w W2) := by rw [Hid, hW2]; exact hb1.alloc hb1.size _
  have hlt : w1.heap.size < W2.heap.size := by rw [hW2]; simp
  rw [← hW2]
  clear hW2 hz25 s25 hb1
  refine (awake4_any _).mono ?_
  rintro e w2 ⟨rfl, hb2⟩
  have hr2 := old_row hb2 hlt hr.out
  have c0 : w2.cell? ⟨w1.heap.size, 0, none⟩ = some (.int .u32 (x : Int)) := by rw [cell_of_row _ _ _ _ _ _ hr2]; rfl
  have c1 : w2.cell? ⟨w1.heap.size, 1, none⟩ = some (.int .u32 (y : Int)) := by rw [cell_of_row _ _ _ _ _ _ hr2]; rfl
  have c2 : w2.cell? ⟨w1.heap.size, 2, none⟩ = some (.int .u32 (z : Int)) := by rw [cell_of_row _ _ _ _ _ _ hr2]; rfl
  have c3 : w2.cell? ⟨w1.heap.size, 3, none⟩ = some (.int .u32 (u : Int)) := by rw [cell_of_row _ _ _ _ _ _ hr2]; rfl
  have hE := Lib.hid (hB.out.trans (hb2.mono hB.out.size))
  clear hr hr2 hB hb2 hlt
  go_wp2
  go_ret
  exact ⟨rfl, hE.out⟩

set_option maxRecDepth 100000 in
theorem cipherQuarters_lifted (os : Os) (started : os.Started) (H : Type) (enc : TypeId × Value → H) :
    ReturnsInHanded {} Try.checked os 3 .any (Rows.cipherQuartersSpec.pre6 enc Try.prog Try.f3 Rows.cipherQuartersRow.domain false) (Rows.cipherQuartersSpec.post enc Try.prog Try.f3 false true false false) := by
  refine returnsInHanded_of_change (C := Try.checked) ownKnob_none started (by kernel_rfl) Try.func3
    (ChangeSpec.witness6 (enc := enc) (C := Try.checked) false ⟨#[], #[.int .u32 0, .int .u32 0, .int .u32 0, .int .u32 0], []⟩ 8 (by kernel_rfl) (by kernel_rfl) (by kernel_rfl) (by kernel_rfl)) ?_
  intro W base args ds gs before hval0 hW _ _
  have hval : ∀ (j : Nat) t v, Try.f3.params[j]? = some t → args[j]? = some v → Value.okWide Try.prog W .any base t v := hval0
  have hWhole := hW
  obtain ⟨p, q, hA0, hV, rfl, hfz, hnd⟩ := hW
  have hA : DataW.TrodAll enc Try.prog W 0 (fun _ => true) true Try.f3.params.toList args.toList ds p := hA0
  rw [Try.params3] at hA hval
  obtain ⟨v0, vs0, d0, ds0, p0, q0, hargs0, rfl, rfl, h0, r0⟩ := trodAll_cons hA
  obtain ⟨v1, vs1, d1, ds1, p1, q1, hargs1, rfl, rfl, h1, r1⟩ := trodAll_cons r0
  obtain ⟨v2, vs2, d2, ds2, p2, q2, hargs2, rfl, rfl, h2, r2⟩ := trodAll_cons r1
  obtain ⟨v3, vs3, d3, ds3, p3, q3, hargs3, rfl, rfl, h3, r3⟩ := trodAll_cons r2
  obtain ⟨rfl, rfl, rfl⟩ := trodAll_nil r3
  subst hargs1
  subst hargs2
  subst hargs3
  obtain rfl : args = #[v0, v1, v2, v3] := by cases args; simp_all
  obtain ⟨rfl, rfl⟩ := trodVars_none hV
  obtain ⟨x0, rfl, hb0⟩ := open_nat 4294967296 Try.underlying22 wf_u32' (hval 0 22 v0 rfl rfl) h0
  obtain ⟨x1, rfl, hb1⟩ := open_nat 4294967296 Try.underlying22 wf_u32' (hval 1 22 v1 rfl rfl) h1
  obtain ⟨x2, rfl, hb2⟩ := open_nat 4294967296 Try.underlying22 wf_u32' (hval 2 22 v2 rfl rfl) h2
  obtain ⟨x3, rfl, hb3⟩ := open_nat 4294967296 Try.underlying22 wf_u32' (hval 3 22 v3 rfl rfl) h3
  refine (quarters_walk x0 x1 x2 x3 hb0 hb1 hb2 hb3 W).mono fun e W' ⟨he, hB⟩ => ?_
  subst he
  exact ⟨_, rfl, law_post laidOut (by rw [Try.params3]; decide +kernel) rfl (by kernel_rfl) Try.underlying4 hWhole rfl rfl rfl hB⟩

theorem cipherQuarters : Rows.CipherQuartersSaid :=
  OpenClaim.holds_of_wide 3 Try.f3 rfl rfl rfl rfl rfl rfl rfl ⟨rfl, rfl, rfl, rfl, rfl⟩ rfl rfl rfl rfl rfl (by kernel_rfl) Try.func3 (by kernel_rfl)
    (of_decide_eq_true (by kernel_rfl)) (by unfold Func.isWrapper; first | (rw [if_pos (by decide +kernel)]; kernel_rfl) | (rw [if_neg (by decide +kernel)]; exact ⟨rfl, rfl⟩))
    (fun os started H enc _ => cipherQuarters_lifted os started H enc)
end Go.Proofs.Ythpjdgddpnpdpaa

/- Walks over the laws of stream: the fixed fact. -/
import Derived.Test.YthpjdgddpnpdpaaY
namespace Go.Proofs.Ythpjdgddpnpdpaa
open Go.RowKit

theorem wpList_neq_ints {P : Program} {ops : Array Oper} {rest : List Oper} {o : Oper} {a : Act} {w : World} {Q : Exit → Act → World → Prop} (hgd : Region.wanted o (yielded ops a.tmps) = true) {t t' : TypeId} {x y : Operand} (ho : o.op = .binOp .neq t x y t') {e n : Nat} {k k' : IntKind} {xs ys : List Nat}
    (hx : a.eval x = .agg (av k xs)) (hy : a.eval y = .agg (av k ys)) (ht : P.underlying t = some (.array n e)) (he : P.underlying e = some (.int k')) (hs : (P.info? e).map (·.size) = some 1)
    (ha : xs.length = n) (hb : ys.length = n) (hg : P.eqGuardType P.depth t = false) (h : wpList P ops Q rest (a.put o.dst (.bool (!(xs == ys)))) w) : wpList P ops Q (o :: rest) a w := by
  refine wpList_if hgd fun K hK => ?_
  unfold Oper.wp execOp
  simp only [ho, hx, hy, Sem.run_bind, run_eqGuard_agg w .neq t x y (av k xs) (av k ys) hg, Result.andThen_ok, run_neq_ints t e n k k' xs ys ht he hs ha hb w]
  exact hK _ _ h
theorem nonce258 : nonceN 258 = [2, 1, 0, 0, 0, 0, 0, 0, 0, 0, 0, 0] := by decide +kernel
theorem bytes2 : bytesN zeros32 0 2 = [118, 184] := by decide +kernel
theorem vec1 : vecN zeros32 0 1 = [2917185654] := by decide +kernel
theorem derive12 : (deriveN 1 2 == zeros32) = false := by
  have h : (blockN (seedN 1) 0 (nonceN 2)).getD 0 0 ≠ 0 := by decide +kernel
  have h2 : (deriveN 1 2).getD 0 0 = (blockN (seedN 1) 0 (nonceN 2)).getD 0 0 := by
    rw [deriveN, bytesN, xorN_get _ _ _ _ _ (by rw [List.length_replicate]; decide)]
    rw [show (List.replicate 32 0).getD 0 0 = 0 from rfl, Nat.zero_xor]
  rw [beq_eq_false_iff_ne]
  intro he
  rw [he] at h2
  exact h (h2.symm.trans rfl)

set_option maxRecDepth 100000 in
set_option maxHeartbeats 8000000 in
theorem awake5_any (w : World) : Calls Try.prog 20 #[] w fun e w' => e = .returned (.bool true) ∧ Below w.heap.size w w' := by
  have q33 : Hid (Try.prog.built 33 [] = some (av .u8 zeros32)) := by rw [Hid]; kernel_rfl
  have z30 : Hid ((Try.prog.info? 30).bind (·.zero) = some (.agg (av .u8 zeros12))) := by rw [Hid]; kernel_rfl
  have z33 : Hid ((Try.prog.info? 33).bind (·.zero) = some (.agg (av .u8 zeros32))) := by rw [Hid]; kernel_rfl
  have s30 : Hid ((Try.prog.info? 30).map (·.size) = some (av .u8 [2, 1, 0, 0, 0, 0, 0, 0, 0, 0, 0, 0]).size) := by rw [Hid]; kernel_rfl
  have H1 := Lib.hid (fun w => nonce_any 258 (by omega) w)
  rw [nonce258] at H1
  have H2 := Lib.hid (fun w => bytes_any zeros32 0 2 2 rfl zeros32_w8 (by omega) (.inr (.inl ⟨by decide, by decide, rfl⟩)) w)
  rw [bytes2] at H2
  have H3 := Lib.hid (fun w => vector_any zeros32 0 1 1 rfl zeros32_w8 (by omega) (.inr (.inl ⟨by decide, by decide, rfl⟩)) w)
  rw [vec1] at H3
  have H4 := Lib.hid (fun w => derive_any 1 2 (by omega) w)
  have hd : Hid (∀ _ : Unit, (deriveN 1 2 == zeros32) = false) := fun _ => derive12
  have hDl : Hid (∀ _ : Unit, (deriveN 1 2).length = 32) := fun _ => deriveN_length _ _
  obtain ⟨D, hD⟩ : ∃ D, deriveN 1 2 = D := ⟨_, rfl⟩
  rw [hD] at H4 hd hDl
  clear hD
  have s33 : Hid ((Try.prog.info? 33).map (·.size) = some (av .u8 D).size) := by rw [Hid, av_size, hDl.out ()]; kernel_rfl
  have s33e : Hid ((av .u8 zeros32).size = (av .u8 D).size) := by rw [Hid, av_size, av_size, hDl.out ()]; rfl
  have g33 : Hid (Try.prog.eqGuardType Try.prog.depth 33 = false) := by rw [Hid]; kernel_rfl
  have hs5 : Hid ((Try.prog.info? 5).map (·.size) = some 1) := by rw [Hid]; kernel_rfl
  go_enter Try.func20, Try.ntmps20
  go_wp2_with fail
  refine (H1.out _).mono ?_
  rintro e w1 ⟨rfl, hb1⟩
  go_wp2_with (first
    | (refine wpList_alloc_as rfl 30 rfl (av .u8 zeros12) z30.out ?_)
    | (refine wpList_store_row rfl 30 _ _ rfl _ _ rfl rfl 30 _ (heap_new w1 _) s30.out rfl (av_one _ _) ?_; rw [alloc_setRow])
    | (refine wpList_build_as rfl 33 rfl (av .u8 zeros32) q33.out ?_))
  have hr1 := heap_new w1 (.cells (av .u8 [2, 1, 0, 0, 0, 0, 0, 0, 0, 0, 0, 0]) 30)
  have hB1 := Lib.hid (hb1.alloc hb1.size (.cells (av .u8 [2, 1, 0, 0, 0, 0, 0, 0, 0, 0, 0, 0]) 30))
  obtain ⟨W1, hW1⟩ : ∃ W1, W1 = w1.alloc (.cells (av .u8 [2, 1, 0, 0, 0, 0, 0, 0, 0, 0, 0, 0]) 30) := ⟨_, rfl⟩
  obtain ⟨g1, hg1⟩ : ∃ g1, w1.heap.size = g1 := ⟨_, rfl⟩
  rw [← hW1, hg1] at hr1
  rw [← hW1] at hB1 ⊢
  rw [hg1]
  clear hW1 hg1 hb1 H1 s30 z30
  have R1 := Lib.hid hr1
  clear hr1
  refine (H2.out _).mono ?_
  rintro e w2 ⟨g2, rfl, hr2, hb2⟩
  have R1' := Lib.hid (old_row hb2 (Array.getElem?_eq_some_iff.1 R1.out).1 R1.out)
  have hB2 := Lib.hid (hB1.out.trans (hb2.mono hB1.out.size))
  have R2 := Lib.hid hr2
  clear R1 hB1 hr2 hb2 H2
  go_wp2_with (refine wpList_build_as rfl 33 rfl (av .u8 zeros32) q33.out ?_)
  refine (H3.out _).mono ?_
  rintro e w3 ⟨g3, rfl, hr3, hb3⟩
  have R1 := Lib.hid (old_row hb3 (Array.getElem?_eq_some_iff.1 R1'.out).1 R1'.out)
  have R2' := Lib.hid (old_row hb3 (Array.getElem?_eq_some_iff.1 R2.out).1 R2.out)
  have hB3 := Lib.hid (hB2.out.trans (hb3.mono hB2.out.size))
  have R3 := Lib.hid hr3
  clear R1' R2 hB2 hr3 hb3 H3
  go_wp2_with fail
  refine (H4.out _).mono ?_
  rintro e w4 ⟨rfl, hb4⟩
  have c10 : (w4.alloc (.cells (av .u8 D) 33)).cell? ⟨g1, 0, none⟩ = some (.int .u8 2) := by rw [cell_of_row _ _ _ _ _ _ (old_alloc (.cells (av .u8 D) 33) (old_row hb4 (Array.getElem?_eq_some_iff.1 R1.out).1 R1.out))]; rfl
  have c11 : (w4.alloc (.cells (av .u8 D) 33)).cell? ⟨g1, 1, none⟩ = some (.int .u8 1) := by rw [cell_of_row _ _ _ _ _ _ (old_alloc (.cells (av .u8 D) 33) (old_row hb4 (Array.getElem?_eq_some_iff.1 R1.out).1 R1.out))]; rfl
  have c12 : (w4.alloc (.cells (av .u8 D) 33)).cell? ⟨g1, 2, none⟩ = some (.int .u8 0) := by rw [cell_of_row _ _ _ _ _ _ (old_alloc (.cells (av .u8 D) 33) (old_row hb4 (Array.getElem?_eq_some_iff.1 R1.out).1 R1.out))]; rfl
  have c20 : (w4.alloc (.cells (av .u8 D) 33)).cell? ⟨g2, 0, none⟩ = some (.int .u8 118) := by rw [cell_of_row _ _ _ _ _ _ (old_alloc (.cells (av .u8 D) 33) (old_row hb4 (Array.getElem?_eq_some_iff.1 R2'.out).1 R2'.out))]; rfl
  have c30 : (w4.alloc (.cells (av .u8 D) 33)).cell? ⟨g3, 0, none⟩ = some (.int .u32 2917185654) := by rw [cell_of_row _ _ _ _ _ _ (old_alloc (.cells (av .u8 D) 33) (old_row hb4 (Array.getElem?_eq_some_iff.1 R3.out).1 R3.out))]; rfl
  have hB4 := Lib.hid ((hB3.out.trans (hb4.mono hB3.out.size)).alloc (hB3.out.trans (hb4.mono hB3.out.size)).size (.cells (av .u8 D) 33))
  have hr4 := heap_new w4 (.cells (av .u8 D) 33)
  clear R1 R2' R3 hB3 hb4 H4
  go_wp2_with (first
    | (refine wpList_alloc_as rfl 33 rfl (av .u8 zeros32) z33.out ?_)
    | (refine wpList_store_row rfl 33 _ _ rfl _ _ rfl rfl 33 _ (heap_new w4 _) s33.out s33e.out (av_one _ _) ?_; rw [alloc_setRow])
    | (refine wpList_load_row_if rfl 33 _ rfl _ rfl 33 _ (0, 0) _ hr4 Try.underlying33 rfl s33.out ?_)
    | (refine wpList_build_if rfl 33 rfl (av .u8 zeros32) q33.out ?_)
    | (refine wpList_neq_ints rfl rfl rfl rfl Try.underlying33 Try.underlying5 hs5.out (hDl.out ()) rfl g33.out ?_; rw [hd.out ()]))
  go_ret
  exact ⟨rfl, hB4.out⟩
end Go.Proofs.Ythpjdgddpnpdpaa

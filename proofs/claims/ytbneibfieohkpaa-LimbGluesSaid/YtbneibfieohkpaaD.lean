/- The walk of the reference's Glue. -/
import Derived.Test.YtbneibfieohkpaaC
namespace Go.Proofs.Ytbneibfieohkpaa
open Go.RowKit

/-- What is left of the numbers when j bytes are out. -/
def divTo (ls : List Nat) (j : Nat) : List Nat := (List.range 5).map fun k => ls.getD k 0 / 256 ^ min (j - k * 7) 7
theorem divTo_length (ls : List Nat) (j : Nat) : (divTo ls j).length = 5 := by simp [divTo]
theorem divTo_get (ls : List Nat) (j k : Nat) (h : k < 5) : (divTo ls j).getD k 0 = ls.getD k 0 / 256 ^ min (j - k * 7) 7 := by simp [divTo, h]
theorem divTo_zero (ls : List Nat) (hl : ls.length = 5) : divTo ls 0 = ls := by
  apply List.ext_getElem (by simp [divTo, hl])
  intro k h1 h2
  simp [divTo, h2]
theorem divTo_at (ls : List Nat) (j : Nat) (h : j < 32) : (divTo ls j).getD (j / 7) 0 = ls.getD (j / 7) 0 / 256 ^ (j % 7) := by
  rw [divTo_get _ _ _ (by omega)]
  have : min (j - j / 7 * 7) 7 = j % 7 := by omega
  rw [this]
theorem divTo_set (ls : List Nat) (j : Nat) (h : j < 32) : (divTo ls j).set (j / 7) ((divTo ls j).getD (j / 7) 0 / 256) = divTo ls (j + 1) := by
  rw [divTo_at ls j h, Nat.div_div_eq_div_mul, ← Nat.pow_succ]
  apply List.ext_getElem (by simp [divTo])
  intro k h1 h2
  simp only [divTo, List.getElem_set, List.getElem_map, List.getElem_range]
  by_cases hk : j / 7 = k
  · subst hk
    rw [if_pos rfl]
    have : min (j + 1 - j / 7 * 7) 7 = (j % 7).succ := by omega
    rw [this]
  · rw [if_neg hk]
    have : min (j + 1 - k * 7) 7 = min (j - k * 7) 7 := by omega
    rw [this]
theorem divTo_last (ls : List Nat) (k : Nat) (h : k < 5) : (divTo ls 32).getD k 0 = ls.getD k 0 / 256 ^ sizeN k := by
  rw [divTo_get _ _ _ h]
  have : min (32 - k * 7) 7 = sizeN k := by unfold sizeN; split <;> omega
  rw [this]
theorem div_fit (x s : Nat) : x / 256 ^ s = 0 ↔ x < 256 ^ s := by
  have := fit_iff x s
  rw [Nat.pow_mul] at this
  exact this.symm

theorem beq_nat (y : Nat) : ((y : Int) == 0) = decide (y = 0) := by
  by_cases h : y = 0
  · subst h; rfl
  · rw [decide_eq_false h, beq_eq_false_iff_ne]; omega
structure RGlueW (ls : List Nat) (w wr : World) (j : Nat) : Prop where
  s : wr.heap[w.heap.size]? = some (.cells (av .u64 (divTo ls j)) 24)
  r : wr.heap[w.heap.size + 1]? = some (.cells (av .u8 zeros) 22)
  o : wr.heap[w.heap.size + 1 + 1]? = some (.cells (av .u8 (glTo ls j)) 22)
  b : Below w.heap.size w wr
  z : wr.heap.size = w.heap.size + 3
theorem RGlueW.start (ls : List Nat) (hl : ls.length = 5) (w : World) :
    RGlueW ls w ((((w.alloc (.cells (av .u64 ls) 24)).alloc (.cells (av .u8 zeros) 22)).alloc (.cells (av .u8 zeros) 22)).setRow (w.heap.size + 1 + 1) (av .u8 zeros)) 0 := by
  refine ⟨?_, ?_, ?_, below_setRow (below3 _ _ _ _) (by omega) _, by simp⟩
  · rw [setRow_other _ _ _ _ (by omega), get3_0, divTo_zero ls hl]
  · rw [setRow_other _ _ _ _ (by omega), get3_1]
  · rw [setRow_heap _ _ _ _ _ _ (get3_2 _ _ _ _), glTo_zero]
theorem RGlueW.step {ls : List Nat} {w wr : World} {j y : Nat} (h : RGlueW ls w wr j) (hj : j < 32) (hy : (divTo ls j).getD (j / 7) 0 = y) {v u : Int} (hv : v = (y : Int) % 256) (hu : u = (y : Int) / 256) :
    RGlueW ls w ((wr.setCell ⟨w.heap.size + 1 + 1, j, none⟩ (.int .u8 v)).setCell ⟨w.heap.size, j / 7, none⟩ (.int .u64 u)) (j + 1) := by
  obtain rfl : v = ((y % 256 : Nat) : Int) := by rw [hv]; simp
  obtain rfl : u = ((y / 256 : Nat) : Int) := by rw [hu]; simp
  refine ⟨?_, ?_, ?_, (h.b.setCell (by simp; omega) _).setCell (by simp) _, by simp [h.z]⟩
  · rw [heap_setCell_same _ _ _ (av .u64 (divTo ls j)) 24 _ (by rw [heap_setCell_other _ _ _ _ (by simp; omega)]; exact h.s), av_set, ← hy, divTo_set ls j hj]
  · rw [heap_setCell_other _ _ _ _ (by simp), heap_setCell_other _ _ _ _ (by simp)]; exact h.r
  · rw [heap_setCell_other _ _ _ _ (by simp; omega), heap_setCell_same _ _ _ _ _ _ h.o, av_set, ← hy, divTo_at ls j hj, glTo_set]

set_option maxHeartbeats 1000000 in
theorem refglue_any (ls : List Nat) (hl : ls.length = 5) (hb : ∀ i, ls.getD i 0 < 18446744073709551616) (w : World) :
    Calls Try.prog 11 #[.agg (av .u64 ls)] w fun e w' => e = .returned (.tuple #[.agg (av .u8 (glueR ls)), .bool (okTo ls 5)]) ∧ Below w.heap.size w w' := by
  have hs22 : Hid ((Try.prog.info? 22).map (·.size) = some (av .u8 zeros).size) := by rw [Hid, av_size, zeros_length]; kernel_rfl
  have hb22 : Hid (Try.prog.built 22 [] = some (av .u8 zeros)) := by rw [Hid]; kernel_rfl
  have hz22 : Hid ((Try.prog.info? 22).bind (·.zero) = some (.agg (av .u8 zeros))) := by rw [Hid]; kernel_rfl
  go_enter Try.func11, Try.ntmps11
  go_wp2_with (first
    | (refine wpList_alloc_as rfl 22 rfl _ hz22.out ?_; try simp only [World.size_alloc])
    | (refine wpList_build_as rfl 22 rfl _ hb22.out ?_)
    | (refine wpList_store_row rfl 22 _ _ rfl _ _ rfl rfl 22 _ (get3_2 _ _ _ _) hs22.out rfl (av_one _ _) ?_))
  go_loopw [5] (fun t wr => ∃ j : Nat, j ≤ 32 ∧ t = .int .i64 j ∧ RGlueW ls w wr j) (fun t _ => 32 - (intOf t).toNat)
  case atStart => exact ⟨0, by omega, rfl, RGlueW.start ls hl w⟩
  case round =>
    obtain ⟨j, hj, rfl, hw⟩ := hrel
    by_cases hlt : j < 32
    · obtain ⟨y, hy, hY⟩ : ∃ y : Nat, y < 18446744073709551616 ∧ Hid ((divTo ls j).getD (j / 7) 0 = y) :=
        ⟨_, by rw [divTo_at ls j hlt]; exact Nat.lt_of_le_of_lt (Nat.div_le_self _ _) (hb _), rfl⟩
      have c1 : wr.cell? ⟨w.heap.size, j / 7, none⟩ = some (.int .u64 (y : Int)) := by
        rw [cell_of_row _ _ _ _ _ _ hw.s, av_get _ _ _ (by rw [divTo_length]; omega), hY.out]
      have c2 : wr.cell? ⟨w.heap.size + 1 + 1, j, none⟩ = some (.int .u8 ((glTo ls j).getD j 0 : Nat)) := by
        rw [cell_of_row _ _ _ _ _ _ hw.o, av_get _ _ _ (by rw [glTo_length]; omega)]
      have c3 : wr.frozen? ⟨w.heap.size + 1 + 1, j, none⟩ = false := frozen_of_row _ _ _ _ _ hw.o
      have c4 : wr.frozen? ⟨w.heap.size, j / 7, none⟩ = false := frozen_of_row _ _ _ _ _ hw.s
      go_wp2
      go_roundw
      case rel => exact ⟨j + 1, by omega, by go_num, hw.step hlt hY.out (by omega) (by omega)⟩
      case measure => simp [intOf]; omega
    · obtain rfl : j = 32 := by omega
      go_wp2
      go_loopw [6, 7] (fun ok t wx => ∃ i : Nat, i ≤ 5 ∧ t = .int .i64 i ∧ ok = .bool (okTo ls i) ∧ wx = wr) (fun _ t _ => 5 - (intOf t).toNat)
      case atStart => exact ⟨0, by omega, rfl, rfl, rfl⟩
      case round =>
        obtain ⟨i, hi, rfl, rfl, rfl⟩ := hrel
        by_cases hlt5 : i < 5
        · have hn := okTo_succ ls i
          by_cases hok : okTo ls i = true
          · rw [hok]
            have hOK : Hid (okTo ls i = true) := hok
            have hN : Hid (okTo ls (i + 1) = (okTo ls i && decide (ls.getD i 0 < 256 ^ sizeN i))) := hn
            clear hok hn
            obtain ⟨y, hY⟩ : ∃ y : Nat, Hid ((divTo ls 32).getD i 0 = y) := ⟨_, rfl⟩
            have c1 : wr.cell? ⟨w.heap.size, i, none⟩ = some (.int .u64 (y : Int)) := by
              rw [cell_of_row _ _ _ _ _ _ hw.s, av_get _ _ _ (by rw [divTo_length]; omega), hY.out]
            go_wp2
            refine ⟨⟨i + 1, by omega, by go_num, ?_, trivial⟩, by simp [intOf]; omega⟩
            rw [hN.out, hOK.out, Bool.true_and]
            refine congrArg Value.bool ?_
            rw [beq_nat]
            refine decide_eq_decide.2 ?_
            rw [← div_fit (ls.getD i 0) (sizeN i), ← divTo_last ls i hlt5, hY.out]
          · have hok : okTo ls i = false := by simpa using hok
            rw [hok]
            have hN : Hid (okTo ls (i + 1) = false) := by rw [Hid, hn, hok]; rfl
            clear hok hn
            go_wp2
            exact ⟨⟨i + 1, by omega, by go_num, by rw [hN.out], trivial⟩, by simp [intOf]; omega⟩
        · obtain rfl : i = 5 := by omega
          by_cases hok : okTo ls 5 = true
          · have hR : Hid (glueR ls = glTo ls 32 ∧ okTo ls 5 = true) := ⟨by rw [glueR, if_pos hok], hok⟩
            rw [hok]
            clear hok
            go_wp2_with (first
              | (refine wpList_load_row rfl 22 _ rfl _ rfl 22 _ (0, 0) _ hw.o Try.underlying22 rfl (by kernel_rfl) ?_)
              | (refine wpList_store_row rfl 22 _ _ rfl _ _ rfl rfl 22 _ hw.r (by kernel_rfl) (by rw [av_size, av_size, zeros_length, glTo_length]) (av_one _ _) ?_))
            refine bodyPost_ret (v := .tuple #[.agg (av .u8 (glTo ls 32)), .bool true]) ?_ rfl ⟨?_, below_setRow hw.b (by omega) _⟩
            · exact results_row_tmp (p := 2) (u := 3) rfl _ _ (w.heap.size + 1) 22 _ (0, 0) _ rfl (setRow_heap _ _ _ _ _ _ hw.r) Try.underlying22 rfl (by kernel_rfl)
            · rw [hR.out.1, hR.out.2]
          · have hok : okTo ls 5 = false := by simpa using hok
            have hR : Hid (glueR ls = zeros ∧ okTo ls 5 = false) := ⟨by rw [glueR, hok]; rfl, hok⟩
            rw [hok]
            clear hok
            go_wp2_with (first
              | (refine wpList_build_as rfl 22 rfl _ hb22.out ?_)
              | (refine wpList_store_row rfl 22 _ _ rfl _ _ rfl rfl 22 _ hw.r hs22.out rfl (av_one _ _) ?_))
            refine bodyPost_ret (v := .tuple #[.agg (av .u8 zeros), .bool false]) ?_ rfl ⟨?_, below_setRow hw.b (by omega) _⟩
            · exact results_row_tmp (p := 2) (u := 3) rfl _ _ (w.heap.size + 1) 22 _ (0, 0) _ rfl (setRow_heap _ _ _ _ _ _ hw.r) Try.underlying22 rfl hs22.out
            · rw [hR.out.1, hR.out.2]
end Go.Proofs.Ytbneibfieohkpaa

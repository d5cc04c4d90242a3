/- The fixed fact. -/
import Derived.Test.YtbneibfieohkpaaD
import Derived.Test.YtbneibfieohkpaaB
import Derived.Test.YtbneibfieohkpaaCalm
import Derived.Test.YtbneibfieohkpaaRow
namespace Go.Proofs.Ytbneibfieohkpaa
open Go.RowKit

def seed0 : List Nat := [1, 2, 0, 0, 0, 0, 0, 0, 0, 0, 0, 0, 0, 0, 0, 0, 0, 0, 0, 0, 0, 0, 0, 0, 0, 0, 0, 0, 0, 0, 0, 0]
def seed1 : List Nat := [1, 2, 0, 0, 0, 0, 0, 3, 0, 0, 0, 0, 0, 0, 0, 0, 0, 0, 0, 0, 0, 0, 0, 0, 0, 0, 0, 0, 0, 0, 0, 4]
def num1 : List Nat := [513, 3, 0, 0, 67108864]
def num2 : List Nat := [72057594037927936, 0, 0, 0, 0]
theorem cut1 : cutTo seed1 5 0 = num1 := by decide +kernel
theorem glue1 : glueR num1 = seed1 := by decide +kernel
theorem glue1e : glueE num1 = 0 := by decide +kernel
theorem glue2e : glueE num2 = 4 := by decide +kernel
set_option maxHeartbeats 1000000 in
theorem awake_any (w : World) : Calls Try.prog 8 #[] w fun e w' => e = .returned (.bool true) ∧ Below w.heap.size w w' := by
  have hs26 : Hid ((Try.prog.info? 26).map (·.size) = some (av .u8 zeros).size) := by rw [Hid, av_size, zeros_length]; kernel_rfl
  have hz26 : Hid ((Try.prog.info? 26).bind (·.zero) = some (.agg (av .u8 zeros))) := by rw [Hid]; kernel_rfl
  have hb26 : Hid (Try.prog.built 26 [(0, .int .u8 1), (1, .int .u8 2)] = some (av .u8 seed0)) := by rw [Hid]; kernel_rfl
  have hz24 : Hid ((Try.prog.info? 24).bind (·.zero) = some (.agg (av .u64 [0, 0, 0, 0, 0]))) := by rw [Hid]; kernel_rfl
  have hb24 : Hid (Try.prog.built 24 [(0, .int .u64 72057594037927936)] = some (av .u64 num2)) := by rw [Hid]; kernel_rfl
  have g7 : (av .u8 seed0)[7]? = some (.int .u8 0) := rfl
  have s7 : (av .u8 seed0).setIfInBounds 7 (.int .u8 3) = av .u8 (seed0.set 7 3) := rfl
  have g31 : (av .u8 (seed0.set 7 3))[31]? = some (.int .u8 0) := rfl
  have s31 : (av .u8 (seed0.set 7 3)).setIfInBounds 31 (.int .u8 4) = av .u8 seed1 := rfl
  go_enter Try.func8, Try.ntmps8
  go_wp2_with (first
    | (refine wpList_alloc_as rfl 26 rfl _ hz26.out ?_)
    | (refine wpList_build_to rfl 26 _ rfl _ rfl _ hb26.out ?_)
    | (refine wpList_store_row rfl 26 _ _ rfl _ _ rfl rfl 26 _ (heap_new w _) (by kernel_rfl) rfl (av_one _ _) ?_; rw [alloc_setRow])
    | (refine wpList_load_row rfl 26 _ rfl _ rfl 26 _ (0, 0) _ (heap_new w _) Try.underlying26 rfl (by kernel_rfl) ?_))
  refine (cut_any seed1 rfl (getD_lt _ _ (by omega) (by decide)) _).mono ?_
  rintro e w1 ⟨rfl, hb1⟩
  rw [cut1]
  have r1 := old_row hb1 (by simp) (heap_new w _)
  have z1 : w.heap.size < w1.heap.size := by have := hb1.size; simp at this; omega
  have b1 : Below w.heap.size w w1 := ((Below.refl _ _).alloc (Nat.le_refl _) _).trans (hb1.mono (by simp))
  clear hb1
  go_wp2_with (first
    | (refine wpList_alloc_as rfl 24 rfl _ hz24.out ?_)
    | (refine wpList_store_row rfl 24 _ _ rfl _ _ rfl rfl 24 _ (heap_new w1 _) (by kernel_rfl) rfl (av_one _ _) ?_; rw [alloc_setRow])
    | (refine wpList_load_row rfl 24 _ rfl _ rfl 24 _ (0, 0) _ (heap_new w1 _) Try.underlying24 rfl (by kernel_rfl) ?_))
  refine (glue_any num1 rfl (getD_lt _ _ (by omega) (by decide)) _).mono ?_
  rintro e w2 ⟨rfl, hb2⟩
  rw [glue1, glue1e]
  have r2 := old_row hb2 (by simp; omega) (old_alloc _ r1)
  have q2 := old_row hb2 (by simp) (heap_new w1 _)
  have z2 : w1.heap.size < w2.heap.size := by have := hb2.size; simp at this; omega
  have b2 : Below w.heap.size w w2 := (b1.alloc (by omega) _).trans (hb2.mono (by simp; omega))
  clear hb2 r1 b1
  go_wp2_with (first
    | (refine wpList_alloc_as rfl 26 rfl _ hz26.out ?_)
    | (refine wpList_build_to rfl 24 _ rfl _ rfl _ hb24.out ?_)
    | (refine wpList_store_row rfl 26 _ _ rfl _ _ rfl rfl 26 _ (heap_new w2 _) (by kernel_rfl) rfl (av_one _ _) ?_; rw [alloc_setRow]))
  refine (glue_any num2 rfl (getD_lt _ _ (by omega) (by decide)) _).mono ?_
  rintro e w3 ⟨rfl, hb3⟩
  rw [glue2e]
  have r3 := old_row hb3 (by simp; omega) (old_alloc _ r2)
  have q3 := old_row hb3 (by simp; omega) (old_alloc _ q2)
  have p3 := old_row hb3 (by simp) (heap_new w2 _)
  have z3 : w2.heap.size < w3.heap.size := by have := hb3.size; simp at this; omega
  have b3 : Below w.heap.size w w3 := (b2.alloc (by omega) _).trans (hb3.mono (by simp; omega))
  clear hb3 r2 q2 b2
  have c0 : ∀ o, (w3.alloc o).cell? ⟨w1.heap.size, 0, none⟩ = some (.int .u64 513) := fun o => by rw [cell_of_row _ _ _ _ _ _ (old_alloc o q3)]; rfl
  have c1 : ∀ o, (w3.alloc o).cell? ⟨w1.heap.size, 1, none⟩ = some (.int .u64 3) := fun o => by rw [cell_of_row _ _ _ _ _ _ (old_alloc o q3)]; rfl
  have c4 : ∀ o, (w3.alloc o).cell? ⟨w1.heap.size, 4, none⟩ = some (.int .u64 67108864) := fun o => by rw [cell_of_row _ _ _ _ _ _ (old_alloc o q3)]; rfl
  have heq : ∀ w : World, (binOp .eql 26 (.agg (av .u8 seed1)) (.agg (av .u8 seed1))).run Try.prog w = .ok (.bool true) w := fun w => by
    rw [run_eql_ints 26 5 32 .u8 .u8 seed1 seed1 Try.underlying26 Try.underlying5 (by kernel_rfl) rfl rfl w]; rfl
  have hgd : Try.prog.eqGuardType Try.prog.depth 26 = false := by kernel_rfl
  go_wp2_with (first
    | (refine wpList_alloc_as rfl 26 rfl _ hz26.out ?_)
    | (refine wpList_store_row rfl 26 _ _ rfl _ _ rfl rfl 26 _ (heap_new w3 _) (by kernel_rfl) (by rw [av_size, av_size, zeros_length, glueR_length]) (av_one _ _) ?_; rw [alloc_setRow])
    | (refine wpList_load_row_if rfl 26 (.tmp 3) rfl _ rfl 26 _ (0, 0) _ (old_alloc _ p3) Try.underlying26 rfl (by kernel_rfl) ?_)
    | (refine wpList_load_row_if rfl 26 (.tmp 1) rfl _ rfl 26 _ (0, 0) _ (old_alloc _ r3) Try.underlying26 rfl (by kernel_rfl) ?_))
  go_ret
  exact ⟨rfl, b3.alloc (by omega) _⟩
end Go.Proofs.Ytbneibfieohkpaa

/- Walks over the laws of cipher: the fixed fact. -/
import Derived.Test.YthpjdgddpnpdpaaK
namespace Go.Proofs.Ythpjdgddpnpdpaa
open Go.RowKit

def zeros32 : List Nat := List.replicate 32 0
def zeros12 : List Nat := List.replicate 12 0
theorem zeros32_w8 : W8 zeros32 := by
  intro i
  rw [zeros32, List.getD, List.getElem?_replicate]
  split <;> decide
theorem zeros12_w8 : W8 zeros12 := by
  intro i
  rw [zeros12, List.getD, List.getElem?_replicate]
  split <;> decide
theorem block0 : ∃ l, blockN zeros32 0 zeros12 = 118 :: 184 :: l :=
  ⟨(blockN zeros32 0 zeros12).tail.tail, by decide +kernel⟩
theorem xor0 : xorN zeros32 0 zeros12 [1] = [119] := by decide +kernel
theorem qr0 : qr 286331153 16909060 2609737539 19088743 = (3928658676, 3407673550, 1166100270, 1484899515) := by decide +kernel

set_option maxRecDepth 100000 in
set_option maxHeartbeats 8000000 in
theorem awake4_any (w : World) : Calls Try.prog 15 #[] w fun e w' => e = .returned (.bool true) ∧ Below w.heap.size w w' := by
  obtain ⟨l, hl⟩ := block0
  have hL : Hid (∀ _ : Unit, blockN zeros32 0 zeros12 = 118 :: 184 :: l) := fun _ => hl
  have hl2 : Hid (∀ _ : Unit, (118 :: 184 :: l).length = 64) := fun _ => by rw [← hl, blockN_length]
  clear hl
  have q33 : Hid (Try.prog.built 33 [] = some (av .u8 zeros32)) := by rw [Hid]; kernel_rfl
  have q30 : Hid (Try.prog.built 30 [] = some (av .u8 zeros12)) := by rw [Hid]; kernel_rfl
  have hz : Hid ((Try.prog.info? 31).bind (·.zero) = some (.agg (av .u8 zeros64))) := by rw [Hid]; kernel_rfl
  have s31 : Hid ((Try.prog.info? 31).map (·.size) = some (av .u8 (118 :: 184 :: l)).size) := by rw [Hid, av_size, hl2.out ()]; kernel_rfl
  have s31e : Hid ((av .u8 (118 :: 184 :: l)).size = (av .u8 zeros64).size) := by rw [Hid, av_size, av_size, hl2.out ()]; rfl
  have hQ := Lib.hid (fun w => quarter_any 286331153 16909060 2609737539 19088743 (by omega) (by omega) w)
  go_enter Try.func15, Try.ntmps15
  go_wp2_with fail
  have := hQ.out w
  rw [qr0] at this
  refine this.mono ?_
  rintro e w' ⟨rfl, rfl⟩
  clear this hQ
  go_wp2_with (first
    | (refine wpList_build_as rfl 33 rfl (av .u8 zeros32) q33.out ?_)
    | (refine wpList_build_as rfl 30 rfl (av .u8 zeros12) q30.out ?_))
  refine (block_any zeros32 zeros12 0 rfl rfl zeros32_w8 zeros12_w8 (by omega) _).mono ?_
  rintro e w1 ⟨rfl, hb1⟩
  rw [hL.out ()]
  go_wp2_with (first
    | (refine wpList_alloc_as rfl 31 rfl (av .u8 zeros64) hz.out ?_)
    | (refine wpList_store_row rfl 31 _ _ rfl _ _ rfl rfl 31 _ (heap_new w1 _) s31.out s31e.out.symm (av_one _ _) ?_; rw [alloc_setRow])
    | (refine wpList_build_as rfl 33 rfl (av .u8 zeros32) q33.out ?_)
    | (refine wpList_build_as rfl 30 rfl (av .u8 zeros12) q30.out ?_))
  obtain ⟨W2, hW2⟩ : ∃ W2, W2 = (w1.alloc (.cells (av .u8 (118 :: 184 :: l)) 31)).alloc (.cells #[.int .u8 1] 5) := ⟨_, rfl⟩
  have hsz : W2.heap.size = w1.heap.size + 1 + 1 := by rw [hW2]; simp
  have hx1 : W2.cell? ⟨w1.heap.size + 1, 0, none⟩ = some (.int .u8 1) := by
    rw [hW2, cell_of_row _ _ _ _ _ _ (by rw [alloc_get, if_pos (by simp)])]; rfl
  have hx0 : W2.heap[w1.heap.size]? = some (.cells (av .u8 (118 :: 184 :: l)) 31) := by rw [hW2, alloc_get, if_neg (by simp), alloc_get, if_pos rfl]
  have hb2 : Hid (Below w.heap.size w W2) := by rw [Hid, hW2]; exact (hb1.alloc hb1.size _).alloc (by have := hb1.size; simp; omega) _
  rw [← hW2]
  clear hW2 s31 s31e hz q33 q30
  refine (xor_any zeros32 zeros12 [1] 0 rfl rfl zeros32_w8 zeros12_w8 (by omega) (some ⟨w1.heap.size + 1, 0, none⟩) 1 1 (w1.heap.size + 1) 0 (fun _ => rfl) (by omega) rfl (fun i => by match i with | 0 => decide | j + 1 => simp) (by omega) (by omega) W2 (fun _ => by omega)
    (fun t ht => by obtain rfl : t = 0 := (by omega); exact hx1)).mono ?_
  rintro e W3 ⟨rfl, hr3, hb3⟩
  rw [xor0] at hr3
  have c0 : W3.cell? ⟨w1.heap.size, 0, none⟩ = some (.int .u8 118) := by
    rw [cell_of_row _ _ _ _ _ _ (old_row hb3 (by omega) hx0)]; rfl
  have c1 : W3.cell? ⟨w1.heap.size, 1, none⟩ = some (.int .u8 184) := by
    rw [cell_of_row _ _ _ _ _ _ (old_row hb3 (by omega) hx0)]; rfl
  have c2 : W3.cell? ⟨W2.heap.size + 1 + 1, 0, none⟩ = some (.int .u8 119) := by
    rw [cell_of_row _ _ _ _ _ _ hr3]; rfl
  have hB := Lib.hid (hb2.out.trans (hb3.mono hb2.out.size))
  clear hr3 hb3 hsz hx1 hx0 hb2 hb1
  go_wp2
  go_ret
  exact ⟨rfl, hB.out⟩
end Go.Proofs.Ythpjdgddpnpdpaa

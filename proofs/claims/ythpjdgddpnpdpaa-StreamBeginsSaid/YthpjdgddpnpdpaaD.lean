/- Walks over cipher: number. -/
import Derived.Test.YthpjdgddpnpdpaaC
namespace Go.Proofs.Ythpjdgddpnpdpaa
open Go.RowKit

/-- All but the draws stays. -/
structure Dr (w w' : World) : Prop where
  heap : w'.heap = w.heap
  os : w'.os = w.os
  tape : w'.tape = w.tape
  output : w'.output = w.output
theorem Dr.start (w : World) : Dr w w.drew := ⟨rfl, rfl, rfl, rfl⟩
theorem Dr.refl (w : World) : Dr w w := ⟨rfl, rfl, rfl, rfl⟩
theorem Dr.trans {a b c : World} (h : Dr a b) (k : Dr b c) : Dr a c := ⟨k.heap.trans h.heap, k.os.trans h.os, k.tape.trans h.tape, k.output.trans h.output⟩
theorem Dr.below {B : Nat} {w w' : World} (h : Dr w w') : Below B w w' := ⟨h.os, h.tape, h.output, Nat.le_of_eq (by rw [h.heap]), fun j _ => by rw [h.heap]⟩
/-- Bytes. -/
def W8 (bs : List Nat) : Prop := ∀ i, bs.getD i 0 < 256
/-- The number of four bytes, the lowest first. -/
def num (bs : List Nat) (o : Nat) : Nat := bs.getD o 0 + bs.getD (o + 1) 0 * 256 + bs.getD (o + 2) 0 * 65536 + bs.getD (o + 3) 0 * 16777216
theorem num_lt (bs : List Nat) (h : W8 bs) (o : Nat) : num bs o < 4294967296 := by
  have h0 := h o
  have h1 := h (o + 1)
  have h2 := h (o + 2)
  have h3 := h (o + 3)
  unfold num
  omega
theorem u32_join (k a x : Nat) (ha : a < 2 ^ k) (h : a + x * 2 ^ k < 4294967296) : bits .or .u32 (a : Int) ((x * 2 ^ k : Nat) : Int) = ((a + x * 2 ^ k : Nat) : Int) := by
  rw [u32_or a (x * 2 ^ k) (by omega) (by omega), Nat.or_comm, nat_join k (x * 2 ^ k) a (by simp) ha, Nat.add_comm]

set_option maxRecDepth 100000 in
set_option maxHeartbeats 4000000 in
theorem number_any (g t o n c : Nat) (bs : List Nat) (hl : o + 4 ≤ bs.length) (hb : W8 bs) (hn : 4 ≤ n) (w : World) (hg : w.heap[g]? = some (.cells (av .u8 bs) t)) :
    Calls Try.prog 39 #[.slice (some ⟨g, o, none⟩) n c] w fun e w' => e = .returned (.int .u32 (num bs o : Nat)) ∧ Dr w w' := by
  obtain ⟨x0, hx0, hX0⟩ : ∃ x, x < 256 ∧ bs.getD (o) 0 = x := ⟨_, hb _, rfl⟩
  have r0 : Hid (∀ W, Dr w W → W.cell? ⟨g, o, none⟩ = some (.int .u8 (x0 : Int))) := fun W h => by rw [cell_of_row _ _ _ _ _ _ (by rw [h.heap]; exact hg), av_get _ _ _ (by omega), hX0]
  have n0 : (0 : Int) < (n : Int) := by omega
  have w0 : IntKind.u32.wrap (x0 : Int) = (x0 : Int) := by rw [IntKind.wrap_u32]; omega
  obtain ⟨x1, hx1, hX1⟩ : ∃ x, x < 256 ∧ bs.getD (o + 1) 0 = x := ⟨_, hb _, rfl⟩
  have r1 : Hid (∀ W, Dr w W → W.cell? ⟨g, o + 1, none⟩ = some (.int .u8 (x1 : Int))) := fun W h => by rw [cell_of_row _ _ _ _ _ _ (by rw [h.heap]; exact hg), av_get _ _ _ (by omega), hX1]
  have n1 : (1 : Int) < (n : Int) := by omega
  have w1 : IntKind.u32.wrap (x1 : Int) = (x1 : Int) := by rw [IntKind.wrap_u32]; omega
  obtain ⟨x2, hx2, hX2⟩ : ∃ x, x < 256 ∧ bs.getD (o + 2) 0 = x := ⟨_, hb _, rfl⟩
  have r2 : Hid (∀ W, Dr w W → W.cell? ⟨g, o + 2, none⟩ = some (.int .u8 (x2 : Int))) := fun W h => by rw [cell_of_row _ _ _ _ _ _ (by rw [h.heap]; exact hg), av_get _ _ _ (by omega), hX2]
  have n2 : (2 : Int) < (n : Int) := by omega
  have w2 : IntKind.u32.wrap (x2 : Int) = (x2 : Int) := by rw [IntKind.wrap_u32]; omega
  obtain ⟨x3, hx3, hX3⟩ : ∃ x, x < 256 ∧ bs.getD (o + 3) 0 = x := ⟨_, hb _, rfl⟩
  have r3 : Hid (∀ W, Dr w W → W.cell? ⟨g, o + 3, none⟩ = some (.int .u8 (x3 : Int))) := fun W h => by rw [cell_of_row _ _ _ _ _ _ (by rw [h.heap]; exact hg), av_get _ _ _ (by omega), hX3]
  have n3 : (3 : Int) < (n : Int) := by omega
  have w3 : IntKind.u32.wrap (x3 : Int) = (x3 : Int) := by rw [IntKind.wrap_u32]; omega
  have n00 : 0 < n := by omega
  have hN : Hid (num bs o = x0 + x1 * 256 + x2 * 65536 + x3 * 16777216) := by rw [Hid, num, hX0, hX1, hX2, hX3]
  obtain ⟨z1, hz1⟩ : ∃ z, z = x1 * 256 := ⟨_, rfl⟩
  have m1 : (x1 : Int) * 256 = (z1 : Int) := by omega
  have v1 : IntKind.u32.wrap (z1 : Int) = (z1 : Int) := by rw [IntKind.wrap_u32]; omega
  have q1 : (z1 : Int) % 4294967296 = (z1 : Int) := by omega
  obtain ⟨z2, hz2⟩ : ∃ z, z = x2 * 65536 := ⟨_, rfl⟩
  have m2 : (x2 : Int) * 65536 = (z2 : Int) := by omega
  have v2 : IntKind.u32.wrap (z2 : Int) = (z2 : Int) := by rw [IntKind.wrap_u32]; omega
  have q2 : (z2 : Int) % 4294967296 = (z2 : Int) := by omega
  obtain ⟨z3, hz3⟩ : ∃ z, z = x3 * 16777216 := ⟨_, rfl⟩
  have m3 : (x3 : Int) * 16777216 = (z3 : Int) := by omega
  have v3 : IntKind.u32.wrap (z3 : Int) = (z3 : Int) := by rw [IntKind.wrap_u32]; omega
  have q3 : (z3 : Int) % 4294967296 = (z3 : Int) := by omega
  obtain ⟨y1, hy1⟩ : ∃ y, y = x0 + z1 := ⟨_, rfl⟩
  have e1 : bits .or .u32 (x0 : Int) (z1 : Int) = (y1 : Int) := by rw [hy1, hz1]; exact u32_join 8 x0 x1 (by omega) (by omega)
  obtain ⟨y2, hy2⟩ : ∃ y, y = y1 + z2 := ⟨_, rfl⟩
  have e2 : bits .or .u32 (y1 : Int) (z2 : Int) = (y2 : Int) := by rw [hy2, hz2]; exact u32_join 16 y1 x2 (by omega) (by omega)
  obtain ⟨y3, hy3⟩ : ∃ y, y = y2 + z3 := ⟨_, rfl⟩
  have e3 : bits .or .u32 (y2 : Int) (z3 : Int) = (y3 : Int) := by rw [hy3, hz3]; exact u32_join 24 y2 x3 (by omega) (by omega)
  have hY : Hid (num bs o = y3) := by rw [Hid, hN.out, hy3, hy2, hy1, hz1, hz2, hz3]
  clear hl hb hn hg hN hz1 hz2 hz3 hy1 hy2 hy3 hx0 hx1 hx2 hx3 hX0 hX1 hX2 hX3
  rw [hY.out]
  go_enter Try.func39, Try.ntmps39
  go_wp2_with fail
  refine wp_region_calm (Dr w) (by kernel_rfl) (by kernel_rfl) (Dr.start w) ?_
  refine wpCalm_plain (.slice (some ⟨g, o, none⟩) n c) rfl (fun w' hI K hK => ?_) ?_
  · go_simp
    exact hK _ hI
  simp only [Act.put, List.setIfInBounds_toArray, List.set_cons_succ, List.set_cons_zero]
  refine wpCalm_plain (.pointer (some ⟨g, o, none⟩)) rfl (fun w' hI K hK => ?_) ?_
  · go_simp
    exact hK _ hI
  simp only [Act.put, List.setIfInBounds_toArray, List.set_cons_succ, List.set_cons_zero]
  refine wpCalm_plain (.int .u8 (x0 : Int)) rfl (fun w' hI K hK => ?_) ?_
  · have cw := r0.out w' hI
    go_simp
    exact hK _ hI
  simp only [Act.put, List.setIfInBounds_toArray, List.set_cons_succ, List.set_cons_zero]
  refine wpCalm_plain (.int .u32 (x0 : Int)) rfl (fun w' hI K hK => ?_) ?_
  · go_simp
    exact hK _ hI
  simp only [Act.put, List.setIfInBounds_toArray, List.set_cons_succ, List.set_cons_zero]
  refine wpCalm_plain (.slice (some ⟨g, o, none⟩) n c) rfl (fun w' hI K hK => ?_) ?_
  · go_simp
    exact hK _ hI
  simp only [Act.put, List.setIfInBounds_toArray, List.set_cons_succ, List.set_cons_zero]
  refine wpCalm_plain (.pointer (some ⟨g, o + 1, none⟩)) rfl (fun w' hI K hK => ?_) ?_
  · go_simp
    exact hK _ hI
  simp only [Act.put, List.setIfInBounds_toArray, List.set_cons_succ, List.set_cons_zero]
  refine wpCalm_plain (.int .u8 (x1 : Int)) rfl (fun w' hI K hK => ?_) ?_
  · have cw := r1.out w' hI
    go_simp
    exact hK _ hI
  simp only [Act.put, List.setIfInBounds_toArray, List.set_cons_succ, List.set_cons_zero]
  refine wpCalm_plain (.int .u32 (x1 : Int)) rfl (fun w' hI K hK => ?_) ?_
  · go_simp
    exact hK _ hI
  simp only [Act.put, List.setIfInBounds_toArray, List.set_cons_succ, List.set_cons_zero]
  refine wpCalm_plain (.int .u32 (z1 : Int)) rfl (fun w' hI K hK => ?_) ?_
  · go_simp
    exact hK _ hI
  simp only [Act.put, List.setIfInBounds_toArray, List.set_cons_succ, List.set_cons_zero]
  refine wpCalm_plain (.int .u32 (y1 : Int)) rfl (fun w' hI K hK => ?_) ?_
  · go_simp
    exact hK _ hI
  simp only [Act.put, List.setIfInBounds_toArray, List.set_cons_succ, List.set_cons_zero]
  refine wpCalm_plain (.slice (some ⟨g, o, none⟩) n c) rfl (fun w' hI K hK => ?_) ?_
  · go_simp
    exact hK _ hI
  simp only [Act.put, List.setIfInBounds_toArray, List.set_cons_succ, List.set_cons_zero]
  refine wpCalm_plain (.pointer (some ⟨g, o + 2, none⟩)) rfl (fun w' hI K hK => ?_) ?_
  · go_simp
    exact hK _ hI
  simp only [Act.put, List.setIfInBounds_toArray, List.set_cons_succ, List.set_cons_zero]
  refine wpCalm_plain (.int .u8 (x2 : Int)) rfl (fun w' hI K hK => ?_) ?_
  · have cw := r2.out w' hI
    go_simp
    exact hK _ hI
  simp only [Act.put, List.setIfInBounds_toArray, List.set_cons_succ, List.set_cons_zero]
  refine wpCalm_plain (.int .u32 (x2 : Int)) rfl (fun w' hI K hK => ?_) ?_
  · go_simp
    exact hK _ hI
  simp only [Act.put, List.setIfInBounds_toArray, List.set_cons_succ, List.set_cons_zero]
  refine wpCalm_plain (.int .u32 (z2 : Int)) rfl (fun w' hI K hK => ?_) ?_
  · go_simp
    exact hK _ hI
  simp only [Act.put, List.setIfInBounds_toArray, List.set_cons_succ, List.set_cons_zero]
  refine wpCalm_plain (.int .u32 (y2 : Int)) rfl (fun w' hI K hK => ?_) ?_
  · go_simp
    exact hK _ hI
  simp only [Act.put, List.setIfInBounds_toArray, List.set_cons_succ, List.set_cons_zero]
  refine wpCalm_plain (.slice (some ⟨g, o, none⟩) n c) rfl (fun w' hI K hK => ?_) ?_
  · go_simp
    exact hK _ hI
  simp only [Act.put, List.setIfInBounds_toArray, List.set_cons_succ, List.set_cons_zero]
  refine wpCalm_plain (.pointer (some ⟨g, o + 3, none⟩)) rfl (fun w' hI K hK => ?_) ?_
  · go_simp
    exact hK _ hI
  simp only [Act.put, List.setIfInBounds_toArray, List.set_cons_succ, List.set_cons_zero]
  refine wpCalm_plain (.int .u8 (x3 : Int)) rfl (fun w' hI K hK => ?_) ?_
  · have cw := r3.out w' hI
    go_simp
    exact hK _ hI
  simp only [Act.put, List.setIfInBounds_toArray, List.set_cons_succ, List.set_cons_zero]
  refine wpCalm_plain (.int .u32 (x3 : Int)) rfl (fun w' hI K hK => ?_) ?_
  · go_simp
    exact hK _ hI
  simp only [Act.put, List.setIfInBounds_toArray, List.set_cons_succ, List.set_cons_zero]
  refine wpCalm_plain (.int .u32 (z3 : Int)) rfl (fun w' hI K hK => ?_) ?_
  · go_simp
    exact hK _ hI
  simp only [Act.put, List.setIfInBounds_toArray, List.set_cons_succ, List.set_cons_zero]
  refine wpCalm_plain (.int .u32 (y3 : Int)) rfl (fun w' hI K hK => ?_) ?_
  · go_simp
    exact hK _ hI
  simp only [Act.put, List.setIfInBounds_toArray, List.set_cons_succ, List.set_cons_zero]
  refine wpCalm_plain (.int .u32 (y3 : Int)) rfl (fun w' hI K hK => ?_) ?_
  · go_simp
    exact hK _ hI
  simp only [Act.put, List.setIfInBounds_toArray, List.set_cons_succ, List.set_cons_zero]
  refine wpCalm_nil fun w' hI => ?_
  go_wp2
  go_ret
  exact ⟨rfl, hI⟩

set_option maxRecDepth 100000 in
set_option maxHeartbeats 4000000 in
theorem refnumber_any (g t o n c : Nat) (bs : List Nat) (hl : o + 4 ≤ bs.length) (hb : W8 bs) (hn : 4 ≤ n) (w : World) (hg : w.heap[g]? = some (.cells (av .u8 bs) t)) :
    Calls Try.prog 36 #[.slice (some ⟨g, o, none⟩) n c] w fun e w' => e = .returned (.int .u32 (num bs o : Nat)) ∧ Dr w w' := by
  obtain ⟨x0, hx0, hX0⟩ : ∃ x, x < 256 ∧ bs.getD (o) 0 = x := ⟨_, hb _, rfl⟩
  have r0 : Hid (∀ W, Dr w W → W.cell? ⟨g, o, none⟩ = some (.int .u8 (x0 : Int))) := fun W h => by rw [cell_of_row _ _ _ _ _ _ (by rw [h.heap]; exact hg), av_get _ _ _ (by omega), hX0]
  have n0 : (0 : Int) < (n : Int) := by omega
  have w0 : IntKind.u32.wrap (x0 : Int) = (x0 : Int) := by rw [IntKind.wrap_u32]; omega
  obtain ⟨x1, hx1, hX1⟩ : ∃ x, x < 256 ∧ bs.getD (o + 1) 0 = x := ⟨_, hb _, rfl⟩
  have r1 : Hid (∀ W, Dr w W → W.cell? ⟨g, o + 1, none⟩ = some (.int .u8 (x1 : Int))) := fun W h => by rw [cell_of_row _ _ _ _ _ _ (by rw [h.heap]; exact hg), av_get _ _ _ (by omega), hX1]
  have n1 : (1 : Int) < (n : Int) := by omega
  have w1 : IntKind.u32.wrap (x1 : Int) = (x1 : Int) := by rw [IntKind.wrap_u32]; omega
  obtain ⟨x2, hx2, hX2⟩ : ∃ x, x < 256 ∧ bs.getD (o + 2) 0 = x := ⟨_, hb _, rfl⟩
  have r2 : Hid (∀ W, Dr w W → W.cell? ⟨g, o + 2, none⟩ = some (.int .u8 (x2 : Int))) := fun W h => by rw [cell_of_row _ _ _ _ _ _ (by rw [h.heap]; exact hg), av_get _ _ _ (by omega), hX2]
  have n2 : (2 : Int) < (n : Int) := by omega
  have w2 : IntKind.u32.wrap (x2 : Int) = (x2 : Int) := by rw [IntKind.wrap_u32]; omega
  obtain ⟨x3, hx3, hX3⟩ : ∃ x, x < 256 ∧ bs.getD (o + 3) 0 = x := ⟨_, hb _, rfl⟩
  have r3 : Hid (∀ W, Dr w W → W.cell? ⟨g, o + 3, none⟩ = some (.int .u8 (x3 : Int))) := fun W h => by rw [cell_of_row _ _ _ _ _ _ (by rw [h.heap]; exact hg), av_get _ _ _ (by omega), hX3]
  have n3 : (3 : Int) < (n : Int) := by omega
  have w3 : IntKind.u32.wrap (x3 : Int) = (x3 : Int) := by rw [IntKind.wrap_u32]; omega
  have n00 : 0 < n := by omega
  have hN : Hid (num bs o = x0 + x1 * 256 + x2 * 65536 + x3 * 16777216) := by rw [Hid, num, hX0, hX1, hX2, hX3]
  obtain ⟨z1, hz1⟩ : ∃ z, z = x1 * 256 := ⟨_, rfl⟩
  have m1 : (x1 : Int) * 256 = (z1 : Int) := by omega
  have v1 : IntKind.u32.wrap (z1 : Int) = (z1 : Int) := by rw [IntKind.wrap_u32]; omega
  have q1 : (z1 : Int) % 4294967296 = (z1 : Int) := by omega
  obtain ⟨z2, hz2⟩ : ∃ z, z = x2 * 65536 := ⟨_, rfl⟩
  have m2 : (x2 : Int) * 65536 = (z2 : Int) := by omega
  have v2 : IntKind.u32.wrap (z2 : Int) = (z2 : Int) := by rw [IntKind.wrap_u32]; omega
  have q2 : (z2 : Int) % 4294967296 = (z2 : Int) := by omega
  obtain ⟨z3, hz3⟩ : ∃ z, z = x3 * 16777216 := ⟨_, rfl⟩
  have m3 : (x3 : Int) * 16777216 = (z3 : Int) := by omega
  have v3 : IntKind.u32.wrap (z3 : Int) = (z3 : Int) := by rw [IntKind.wrap_u32]; omega
  have q3 : (z3 : Int) % 4294967296 = (z3 : Int) := by omega
  obtain ⟨y1, hy1⟩ : ∃ y, y = x0 + z1 := ⟨_, rfl⟩
  have e1 : (x0 : Int) + (z1 : Int) = (y1 : Int) := by omega
  have f1 : IntKind.u32.wrap (y1 : Int) = (y1 : Int) := by rw [IntKind.wrap_u32]; omega
  have p1 : (y1 : Int) % 4294967296 = (y1 : Int) := by omega
  obtain ⟨y2, hy2⟩ : ∃ y, y = y1 + z2 := ⟨_, rfl⟩
  have e2 : (y1 : Int) + (z2 : Int) = (y2 : Int) := by omega
  have f2 : IntKind.u32.wrap (y2 : Int) = (y2 : Int) := by rw [IntKind.wrap_u32]; omega
  have p2 : (y2 : Int) % 4294967296 = (y2 : Int) := by omega
  obtain ⟨y3, hy3⟩ : ∃ y, y = y2 + z3 := ⟨_, rfl⟩
  have e3 : (y2 : Int) + (z3 : Int) = (y3 : Int) := by omega
  have f3 : IntKind.u32.wrap (y3 : Int) = (y3 : Int) := by rw [IntKind.wrap_u32]; omega
  have p3 : (y3 : Int) % 4294967296 = (y3 : Int) := by omega
  have hY : Hid (num bs o = y3) := by rw [Hid, hN.out, hy3, hy2, hy1, hz1, hz2, hz3]
  clear hl hb hn hg hN hz1 hz2 hz3 hy1 hy2 hy3 hx0 hx1 hx2 hx3 hX0 hX1 hX2 hX3
  rw [hY.out]
  go_enter Try.func36, Try.ntmps36
  go_wp2_with fail
  refine wp_region_calm (Dr w) (by kernel_rfl) (by kernel_rfl) (Dr.start w) ?_
  refine wpCalm_plain (.slice (some ⟨g, o, none⟩) n c) rfl (fun w' hI K hK => ?_) ?_
  · go_simp
    exact hK _ hI
  simp only [Act.put, List.setIfInBounds_toArray, List.set_cons_succ, List.set_cons_zero]
  refine wpCalm_plain (.pointer (some ⟨g, o, none⟩)) rfl (fun w' hI K hK => ?_) ?_
  · go_simp
    exact hK _ hI
  simp only [Act.put, List.setIfInBounds_toArray, List.set_cons_succ, List.set_cons_zero]
  refine wpCalm_plain (.int .u8 (x0 : Int)) rfl (fun w' hI K hK => ?_) ?_
  · have cw := r0.out w' hI
    go_simp
    exact hK _ hI
  simp only [Act.put, List.setIfInBounds_toArray, List.set_cons_succ, List.set_cons_zero]
  refine wpCalm_plain (.int .u32 (x0 : Int)) rfl (fun w' hI K hK => ?_) ?_
  · go_simp
    exact hK _ hI
  simp only [Act.put, List.setIfInBounds_toArray, List.set_cons_succ, List.set_cons_zero]
  refine wpCalm_plain (.slice (some ⟨g, o, none⟩) n c) rfl (fun w' hI K hK => ?_) ?_
  · go_simp
    exact hK _ hI
  simp only [Act.put, List.setIfInBounds_toArray, List.set_cons_succ, List.set_cons_zero]
  refine wpCalm_plain (.pointer (some ⟨g, o + 1, none⟩)) rfl (fun w' hI K hK => ?_) ?_
  · go_simp
    exact hK _ hI
  simp only [Act.put, List.setIfInBounds_toArray, List.set_cons_succ, List.set_cons_zero]
  refine wpCalm_plain (.int .u8 (x1 : Int)) rfl (fun w' hI K hK => ?_) ?_
  · have cw := r1.out w' hI
    go_simp
    exact hK _ hI
  simp only [Act.put, List.setIfInBounds_toArray, List.set_cons_succ, List.set_cons_zero]
  refine wpCalm_plain (.int .u32 (x1 : Int)) rfl (fun w' hI K hK => ?_) ?_
  · go_simp
    exact hK _ hI
  simp only [Act.put, List.setIfInBounds_toArray, List.set_cons_succ, List.set_cons_zero]
  refine wpCalm_plain (.int .u32 (z1 : Int)) rfl (fun w' hI K hK => ?_) ?_
  · go_simp
    exact hK _ hI
  simp only [Act.put, List.setIfInBounds_toArray, List.set_cons_succ, List.set_cons_zero]
  refine wpCalm_plain (.int .u32 (y1 : Int)) rfl (fun w' hI K hK => ?_) ?_
  · go_simp
    exact hK _ hI
  simp only [Act.put, List.setIfInBounds_toArray, List.set_cons_succ, List.set_cons_zero]
  refine wpCalm_plain (.slice (some ⟨g, o, none⟩) n c) rfl (fun w' hI K hK => ?_) ?_
  · go_simp
    exact hK _ hI
  simp only [Act.put, List.setIfInBounds_toArray, List.set_cons_succ, List.set_cons_zero]
  refine wpCalm_plain (.pointer (some ⟨g, o + 2, none⟩)) rfl (fun w' hI K hK => ?_) ?_
  · go_simp
    exact hK _ hI
  simp only [Act.put, List.setIfInBounds_toArray, List.set_cons_succ, List.set_cons_zero]
  refine wpCalm_plain (.int .u8 (x2 : Int)) rfl (fun w' hI K hK => ?_) ?_
  · have cw := r2.out w' hI
    go_simp
    exact hK _ hI
  simp only [Act.put, List.setIfInBounds_toArray, List.set_cons_succ, List.set_cons_zero]
  refine wpCalm_plain (.int .u32 (x2 : Int)) rfl (fun w' hI K hK => ?_) ?_
  · go_simp
    exact hK _ hI
  simp only [Act.put, List.setIfInBounds_toArray, List.set_cons_succ, List.set_cons_zero]
  refine wpCalm_plain (.int .u32 (z2 : Int)) rfl (fun w' hI K hK => ?_) ?_
  · go_simp
    exact hK _ hI
  simp only [Act.put, List.setIfInBounds_toArray, List.set_cons_succ, List.set_cons_zero]
  refine wpCalm_plain (.int .u32 (y2 : Int)) rfl (fun w' hI K hK => ?_) ?_
  · go_simp
    exact hK _ hI
  simp only [Act.put, List.setIfInBounds_toArray, List.set_cons_succ, List.set_cons_zero]
  refine wpCalm_plain (.slice (some ⟨g, o, none⟩) n c) rfl (fun w' hI K hK => ?_) ?_
  · go_simp
    exact hK _ hI
  simp only [Act.put, List.setIfInBounds_toArray, List.set_cons_succ, List.set_cons_zero]
  refine wpCalm_plain (.pointer (some ⟨g, o + 3, none⟩)) rfl (fun w' hI K hK => ?_) ?_
  · go_simp
    exact hK _ hI
  simp only [Act.put, List.setIfInBounds_toArray, List.set_cons_succ, List.set_cons_zero]
  refine wpCalm_plain (.int .u8 (x3 : Int)) rfl (fun w' hI K hK => ?_) ?_
  · have cw := r3.out w' hI
    go_simp
    exact hK _ hI
  simp only [Act.put, List.setIfInBounds_toArray, List.set_cons_succ, List.set_cons_zero]
  refine wpCalm_plain (.int .u32 (x3 : Int)) rfl (fun w' hI K hK => ?_) ?_
  · go_simp
    exact hK _ hI
  simp only [Act.put, List.setIfInBounds_toArray, List.set_cons_succ, List.set_cons_zero]
  refine wpCalm_plain (.int .u32 (z3 : Int)) rfl (fun w' hI K hK => ?_) ?_
  · go_simp
    exact hK _ hI
  simp only [Act.put, List.setIfInBounds_toArray, List.set_cons_succ, List.set_cons_zero]
  refine wpCalm_plain (.int .u32 (y3 : Int)) rfl (fun w' hI K hK => ?_) ?_
  · go_simp
    exact hK _ hI
  simp only [Act.put, List.setIfInBounds_toArray, List.set_cons_succ, List.set_cons_zero]
  refine wpCalm_plain (.int .u32 (y3 : Int)) rfl (fun w' hI K hK => ?_) ?_
  · go_simp
    exact hK _ hI
  simp only [Act.put, List.setIfInBounds_toArray, List.set_cons_succ, List.set_cons_zero]
  refine wpCalm_nil fun w' hI => ?_
  go_wp2
  go_ret
  exact ⟨rfl, hI⟩
end Go.Proofs.Ythpjdgddpnpdpaa

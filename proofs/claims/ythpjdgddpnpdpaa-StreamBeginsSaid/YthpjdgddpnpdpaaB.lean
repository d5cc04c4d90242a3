/- Walks over cipher: a quarter round of four of the numbers. -/
import Derived.Test.YthpjdgddpnpdpaaA
import Derived.Test.YthpjdgddpnpdpaaCalmG
namespace Go.Proofs.Ythpjdgddpnpdpaa
open Go.RowKit

/-- A quarter round of four of some numbers. -/
def qst (st : List Nat) (a b c d : Nat) : List Nat :=
  let q := qr (st.getD a 0) (st.getD b 0) (st.getD c 0) (st.getD d 0)
  (((st.set a q.1).set b q.2.1).set c q.2.2.1).set d q.2.2.2
theorem qst_length (st : List Nat) (a b c d : Nat) : (qst st a b c d).length = st.length := by simp [qst]

/-- One row is written, all else stays. -/
structure Rw (k : IntKind) (g t : Nat) (st : List Nat) (w w' : World) : Prop where
  row : w'.heap[g]? = some (.cells (av k st) t)
  oth : ∀ j, j ≠ g → w'.heap[j]? = w.heap[j]?
  size : w'.heap.size = w.heap.size
  os : w'.os = w.os
  tape : w'.tape = w.tape
  output : w'.output = w.output
theorem Rw.start {k : IntKind} {g t : Nat} {st : List Nat} {w : World} (h : w.heap[g]? = some (.cells (av k st) t)) : Rw k g t st w w := ⟨h, fun _ _ => rfl, rfl, rfl, rfl, rfl⟩
theorem Rw.drew {k : IntKind} {g t : Nat} {st : List Nat} {w w' : World} (h : Rw k g t st w w') : Rw k g t st w w'.drew := ⟨h.row, h.oth, h.size, h.os, h.tape, h.output⟩
theorem Rw.store {k : IntKind} {g t i v : Nat} {st : List Nat} {w w' : World} (h : Rw k g t st w w') : Rw k g t (st.set i v) w (w'.setCell ⟨g, i, none⟩ (.int k (v : Int))) :=
  ⟨by rw [heap_setCell_same _ _ _ _ _ _ h.row, av_set], fun j hj => (heap_setCell_other _ _ _ _ hj).trans (h.oth j hj), by simpa using h.size, h.os, h.tape, h.output⟩
theorem Rw.trans {k : IntKind} {g t : Nat} {st st' : List Nat} {w w' w'' : World} (h : Rw k g t st w w') (h' : Rw k g t st' w' w'') : Rw k g t st' w w'' :=
  ⟨h'.row, fun j hj => (h'.oth j hj).trans (h.oth j hj), h'.size.trans h.size, h'.os.trans h.os, h'.tape.trans h.tape, h'.output.trans h.output⟩
theorem Rw.below {k : IntKind} {g t B : Nat} {st : List Nat} {w w' : World} (h : Rw k g t st w w') (hg : B ≤ g) : Below B w w' :=
  ⟨h.os, h.tape, h.output, Nat.le_of_eq h.size.symm, fun j hj => h.oth j (by omega)⟩
theorem Rw.cell {k : IntKind} {g t i x : Nat} {st : List Nat} {w w' : World} (h : Rw k g t st w w') (hi : i < st.length) (hx : st.getD i 0 = x) : w'.cell? ⟨g, i, none⟩ = some (.int k (x : Int)) := by
  rw [cell_of_row _ _ _ _ _ _ h.row, av_get _ _ _ hi, hx]
theorem Rw.frozen {k : IntKind} {g t i : Nat} {st : List Nat} {w w' : World} (h : Rw k g t st w w') : w'.frozen? ⟨g, i, none⟩ = false := frozen_of_row _ _ _ _ _ h.row

def stage (st : List Nat) (a b c d a' b' c' d' : Nat) : Nat → List Nat
  | 0 => st
  | 1 => st.set a a'
  | 2 => (st.set a a').set b b'
  | 3 => ((st.set a a').set b b').set c c'
  | _ => (((st.set a a').set b b').set c c').set d d'
theorem stage_length (st : List Nat) (a b c d a' b' c' d' : Nat) : ∀ s, (stage st a b c d a' b' c' d' s).length = st.length
  | 0 => rfl
  | 1 => by simp [stage]
  | 2 => by simp [stage]
  | 3 => by simp [stage]
  | _ + 4 => by simp [stage]
theorem cell_some {st : List Nat} {k : IntKind} {g t i : Nat} {w w' : World} (h : Rw k g t st w w') (hi : i < st.length) : ∃ v, w'.cell? ⟨g, i, none⟩ = some v := ⟨_, h.cell hi rfl⟩

set_option maxRecDepth 100000 in
set_option maxHeartbeats 4000000 in
theorem squarter_any (g t : Nat) (st : List Nat) (hl : st.length = 16) (hlt : ∀ i, st.getD i 0 < 4294967296) (a b c d : Nat) (ha : a < 16) (hb : b < 16) (hc : c < 16) (hd : d < 16) (w : World) (hg : w.heap[g]? = some (.cells (av .u32 st) t)) :
    Calls Try.prog 40 #[.pointer (some ⟨g, 0, none⟩), .int .i64 a, .int .i64 b, .int .i64 c, .int .i64 d] w fun e w' => e = .returned (.tuple #[]) ∧ Rw .u32 g t (qst st a b c d) w w' := by
  obtain ⟨x, hx⟩ : ∃ x, st.getD a 0 = x := ⟨_, rfl⟩
  obtain ⟨y, hy⟩ : ∃ y, st.getD b 0 = y := ⟨_, rfl⟩
  obtain ⟨z, hz⟩ : ∃ z, st.getD c 0 = z := ⟨_, rfl⟩
  obtain ⟨u, hu⟩ : ∃ u, st.getD d 0 = u := ⟨_, rfl⟩
  have hY : Hid (y < 4294967296) := by rw [← hy]; exact hlt b
  have hU : Hid (u < 4294967296) := by rw [← hu]; exact hlt d
  have a1 : (0 : Int) ≤ a := by omega
  have a2 : (a : Int) < 16 := by omega
  have b1 : (0 : Int) ≤ b := by omega
  have b2 : (b : Int) < 16 := by omega
  have c1 : (0 : Int) ≤ c := by omega
  have c2 : (c : Int) < 16 := by omega
  have d1 : (0 : Int) ≤ d := by omega
  have d2 : (d : Int) < 16 := by omega
  obtain ⟨a', b', c', d', hq⟩ : ∃ a' b' c' d', Hid (qr x y z u = (a', b', c', d')) := ⟨_, _, _, _, rfl⟩
  have hG : Hid (Rw .u32 g t st w w.drew) := (Rw.start hg).drew
  have hQ : Hid (qst st a b c d = (((st.set a a').set b b').set c c').set d d') := by
    rw [Hid, qst, hx, hy, hz, hu, hq.out]
  have sl := Lib.hid (stage_length st a b c d a' b' c' d')
  have rA : Hid (∀ W, Rw .u32 g t st w W → W.cell? ⟨g, a, none⟩ = some (.int .u32 (x : Int))) := fun W h => h.cell (by omega) hx
  have rB : Hid (∀ W, Rw .u32 g t st w W → W.cell? ⟨g, b, none⟩ = some (.int .u32 (y : Int))) := fun W h => h.cell (by omega) hy
  have rC : Hid (∀ W, Rw .u32 g t st w W → W.cell? ⟨g, c, none⟩ = some (.int .u32 (z : Int))) := fun W h => h.cell (by omega) hz
  have rD : Hid (∀ W, Rw .u32 g t st w W → W.cell? ⟨g, d, none⟩ = some (.int .u32 (u : Int))) := fun W h => h.cell (by omega) hu
  have sA : Hid (∀ s W, Rw .u32 g t (stage st a b c d a' b' c' d' s) w W → ∃ v, W.cell? ⟨g, a, none⟩ = some v) := fun s W h => cell_some h (by rw [sl.out]; omega)
  have sB : Hid (∀ s W, Rw .u32 g t (stage st a b c d a' b' c' d' s) w W → ∃ v, W.cell? ⟨g, b, none⟩ = some v) := fun s W h => cell_some h (by rw [sl.out]; omega)
  have sC : Hid (∀ s W, Rw .u32 g t (stage st a b c d a' b' c' d' s) w W → ∃ v, W.cell? ⟨g, c, none⟩ = some v) := fun s W h => cell_some h (by rw [sl.out]; omega)
  have sD : Hid (∀ s W, Rw .u32 g t (stage st a b c d a' b' c' d' s) w W → ∃ v, W.cell? ⟨g, d, none⟩ = some v) := fun s W h => cell_some h (by rw [sl.out]; omega)
  clear hlt hg hx hy hz hu ha hb hc hd sl
  go_enter Try.func40, Try.ntmps40
  go_wp2_with fail
  refine wp_region_calm_g (fun s W => Rw .u32 g t (stage st a b c d a' b' c' d' s) w W) [0,0,0,0,0,0,0,0,0,0,0,0,1,0,0,0,0,1,0,0,0,0,1,0,0,0,0,1,0,0,0,0,0,0,0,0,2,0,0,2,0,0,2,0,0,2] (by kernel_rfl) (by kernel_rfl) (by kernel_rfl) hG.out ?_
  refine wpG_plain (.pointer (some ⟨g, 0, none⟩)) rfl (fun t' w' hI K hK => ?_) ?_
  · go_simp
    exact hK _ hI
  simp only [Act.put, List.setIfInBounds_toArray, List.set_cons_succ, List.set_cons_zero]
  refine wpG_plain (.int .i64 (a : Int)) rfl (fun t' w' hI K hK => ?_) ?_
  · go_simp
    exact hK _ hI
  simp only [Act.put, List.setIfInBounds_toArray, List.set_cons_succ, List.set_cons_zero]
  refine wpG_plain (.pointer (some ⟨g, 0, none⟩)) rfl (fun t' w' hI K hK => ?_) ?_
  · go_simp
    exact hK _ hI
  simp only [Act.put, List.setIfInBounds_toArray, List.set_cons_succ, List.set_cons_zero]
  refine wpG_plain (.int .i64 (b : Int)) rfl (fun t' w' hI K hK => ?_) ?_
  · go_simp
    exact hK _ hI
  simp only [Act.put, List.setIfInBounds_toArray, List.set_cons_succ, List.set_cons_zero]
  refine wpG_plain (.pointer (some ⟨g, 0, none⟩)) rfl (fun t' w' hI K hK => ?_) ?_
  · go_simp
    exact hK _ hI
  simp only [Act.put, List.setIfInBounds_toArray, List.set_cons_succ, List.set_cons_zero]
  refine wpG_plain (.int .i64 (c : Int)) rfl (fun t' w' hI K hK => ?_) ?_
  · go_simp
    exact hK _ hI
  simp only [Act.put, List.setIfInBounds_toArray, List.set_cons_succ, List.set_cons_zero]
  refine wpG_plain (.pointer (some ⟨g, 0, none⟩)) rfl (fun t' w' hI K hK => ?_) ?_
  · go_simp
    exact hK _ hI
  simp only [Act.put, List.setIfInBounds_toArray, List.set_cons_succ, List.set_cons_zero]
  refine wpG_plain (.int .i64 (d : Int)) rfl (fun t' w' hI K hK => ?_) ?_
  · go_simp
    exact hK _ hI
  simp only [Act.put, List.setIfInBounds_toArray, List.set_cons_succ, List.set_cons_zero]
  refine wpG_plain (.pointer (some ⟨g, 0, none⟩)) rfl (fun t' w' hI K hK => ?_) ?_
  · go_simp
    exact hK _ hI
  simp only [Act.put, List.setIfInBounds_toArray, List.set_cons_succ, List.set_cons_zero]
  refine wpG_plain (.int .i64 (a : Int)) rfl (fun t' w' hI K hK => ?_) ?_
  · go_simp
    exact hK _ hI
  simp only [Act.put, List.setIfInBounds_toArray, List.set_cons_succ, List.set_cons_zero]
  refine wpG_plain (.pointer (some ⟨g, 0, none⟩)) rfl (fun t' w' hI K hK => ?_) ?_
  · go_simp
    exact hK _ hI
  simp only [Act.put, List.setIfInBounds_toArray, List.set_cons_succ, List.set_cons_zero]
  refine wpG_plain (.pointer (some ⟨g, a, none⟩)) rfl (fun t' w' hI K hK => ?_) ?_
  · go_simp
    exact hK _ hI
  simp only [Act.put, List.setIfInBounds_toArray, List.set_cons_succ, List.set_cons_zero]
  refine wpG_read (.int .u32 (x : Int)) rfl (fun w' hI K hK => ?_) ?_
  · have c := rA.out w' hI
    go_simp
    exact hK _ hI
  simp only [Act.put, List.setIfInBounds_toArray, List.set_cons_succ, List.set_cons_zero]
  refine wpG_plain (.pointer (some ⟨g, 0, none⟩)) rfl (fun t' w' hI K hK => ?_) ?_
  · go_simp
    exact hK _ hI
  simp only [Act.put, List.setIfInBounds_toArray, List.set_cons_succ, List.set_cons_zero]
  refine wpG_plain (.int .i64 (b : Int)) rfl (fun t' w' hI K hK => ?_) ?_
  · go_simp
    exact hK _ hI
  simp only [Act.put, List.setIfInBounds_toArray, List.set_cons_succ, List.set_cons_zero]
  refine wpG_plain (.pointer (some ⟨g, 0, none⟩)) rfl (fun t' w' hI K hK => ?_) ?_
  · go_simp
    exact hK _ hI
  simp only [Act.put, List.setIfInBounds_toArray, List.set_cons_succ, List.set_cons_zero]
  refine wpG_plain (.pointer (some ⟨g, b, none⟩)) rfl (fun t' w' hI K hK => ?_) ?_
  · go_simp
    exact hK _ hI
  simp only [Act.put, List.setIfInBounds_toArray, List.set_cons_succ, List.set_cons_zero]
  refine wpG_read (.int .u32 (y : Int)) rfl (fun w' hI K hK => ?_) ?_
  · have c := rB.out w' hI
    go_simp
    exact hK _ hI
  simp only [Act.put, List.setIfInBounds_toArray, List.set_cons_succ, List.set_cons_zero]
  refine wpG_plain (.pointer (some ⟨g, 0, none⟩)) rfl (fun t' w' hI K hK => ?_) ?_
  · go_simp
    exact hK _ hI
  simp only [Act.put, List.setIfInBounds_toArray, List.set_cons_succ, List.set_cons_zero]
  refine wpG_plain (.int .i64 (c : Int)) rfl (fun t' w' hI K hK => ?_) ?_
  · go_simp
    exact hK _ hI
  simp only [Act.put, List.setIfInBounds_toArray, List.set_cons_succ, List.set_cons_zero]
  refine wpG_plain (.pointer (some ⟨g, 0, none⟩)) rfl (fun t' w' hI K hK => ?_) ?_
  · go_simp
    exact hK _ hI
  simp only [Act.put, List.setIfInBounds_toArray, List.set_cons_succ, List.set_cons_zero]
  refine wpG_plain (.pointer (some ⟨g, c, none⟩)) rfl (fun t' w' hI K hK => ?_) ?_
  · go_simp
    exact hK _ hI
  simp only [Act.put, List.setIfInBounds_toArray, List.set_cons_succ, List.set_cons_zero]
  refine wpG_read (.int .u32 (z : Int)) rfl (fun w' hI K hK => ?_) ?_
  · have c := rC.out w' hI
    go_simp
    exact hK _ hI
  simp only [Act.put, List.setIfInBounds_toArray, List.set_cons_succ, List.set_cons_zero]
  refine wpG_plain (.pointer (some ⟨g, 0, none⟩)) rfl (fun t' w' hI K hK => ?_) ?_
  · go_simp
    exact hK _ hI
  simp only [Act.put, List.setIfInBounds_toArray, List.set_cons_succ, List.set_cons_zero]
  refine wpG_plain (.int .i64 (d : Int)) rfl (fun t' w' hI K hK => ?_) ?_
  · go_simp
    exact hK _ hI
  simp only [Act.put, List.setIfInBounds_toArray, List.set_cons_succ, List.set_cons_zero]
  refine wpG_plain (.pointer (some ⟨g, 0, none⟩)) rfl (fun t' w' hI K hK => ?_) ?_
  · go_simp
    exact hK _ hI
  simp only [Act.put, List.setIfInBounds_toArray, List.set_cons_succ, List.set_cons_zero]
  refine wpG_plain (.pointer (some ⟨g, d, none⟩)) rfl (fun t' w' hI K hK => ?_) ?_
  · go_simp
    exact hK _ hI
  simp only [Act.put, List.setIfInBounds_toArray, List.set_cons_succ, List.set_cons_zero]
  refine wpG_read (.int .u32 (u : Int)) rfl (fun w' hI K hK => ?_) ?_
  · have c := rD.out w' hI
    go_simp
    exact hK _ hI
  simp only [Act.put, List.setIfInBounds_toArray, List.set_cons_succ, List.set_cons_zero]
  refine wpG_plain (.tuple #[.int .u32 (a' : Int), .int .u32 (b' : Int), .int .u32 (c' : Int), .int .u32 (d' : Int)]) rfl (fun t' w' hI K hK => ?_) ?_
  · go_simp
    refine (quarter_any x y z u hY.out hU.out w').mono ?_
    rintro e w'' ⟨rfl, rfl⟩
    rw [hq.out]
    exact ⟨_, rfl, hK _ hI⟩
  simp only [Act.put, List.setIfInBounds_toArray, List.set_cons_succ, List.set_cons_zero]
  refine wpG_plain (.tuple #[.int .u32 (a' : Int), .int .u32 (b' : Int), .int .u32 (c' : Int), .int .u32 (d' : Int)]) rfl (fun t' w' hI K hK => ?_) ?_
  · go_simp
    exact hK _ hI
  simp only [Act.put, List.setIfInBounds_toArray, List.set_cons_succ, List.set_cons_zero]
  refine wpG_plain (.int .u32 (a' : Int)) rfl (fun t' w' hI K hK => ?_) ?_
  · go_simp
    exact hK _ hI
  simp only [Act.put, List.setIfInBounds_toArray, List.set_cons_succ, List.set_cons_zero]
  refine wpG_plain (.int .u32 (b' : Int)) rfl (fun t' w' hI K hK => ?_) ?_
  · go_simp
    exact hK _ hI
  simp only [Act.put, List.setIfInBounds_toArray, List.set_cons_succ, List.set_cons_zero]
  refine wpG_plain (.int .u32 (c' : Int)) rfl (fun t' w' hI K hK => ?_) ?_
  · go_simp
    exact hK _ hI
  simp only [Act.put, List.setIfInBounds_toArray, List.set_cons_succ, List.set_cons_zero]
  refine wpG_plain (.int .u32 (d' : Int)) rfl (fun t' w' hI K hK => ?_) ?_
  · go_simp
    exact hK _ hI
  simp only [Act.put, List.setIfInBounds_toArray, List.set_cons_succ, List.set_cons_zero]
  refine wpG_plain (.pointer (some ⟨g, 0, none⟩)) rfl (fun t' w' hI K hK => ?_) ?_
  · go_simp
    exact hK _ hI
  simp only [Act.put, List.setIfInBounds_toArray, List.set_cons_succ, List.set_cons_zero]
  refine wpG_plain (.pointer (some ⟨g, a, none⟩)) rfl (fun t' w' hI K hK => ?_) ?_
  · go_simp
    exact hK _ hI
  simp only [Act.put, List.setIfInBounds_toArray, List.set_cons_succ, List.set_cons_zero]
  refine wpG_store rfl (fun w' hI K hK => ?_) ?_
  · obtain ⟨v, cw⟩ := sA.out _ w' hI
    have fw := hI.frozen (i := a)
    go_simp
    exact hK _ hI.store
  simp only [Act.put]
  refine wpG_plain (.pointer (some ⟨g, 0, none⟩)) rfl (fun t' w' hI K hK => ?_) ?_
  · go_simp
    exact hK _ hI
  simp only [Act.put, List.setIfInBounds_toArray, List.set_cons_succ, List.set_cons_zero]
  refine wpG_plain (.pointer (some ⟨g, b, none⟩)) rfl (fun t' w' hI K hK => ?_) ?_
  · go_simp
    exact hK _ hI
  simp only [Act.put, List.setIfInBounds_toArray, List.set_cons_succ, List.set_cons_zero]
  refine wpG_store rfl (fun w' hI K hK => ?_) ?_
  · obtain ⟨v, cw⟩ := sB.out _ w' hI
    have fw := hI.frozen (i := b)
    go_simp
    exact hK _ hI.store
  simp only [Act.put]
  refine wpG_plain (.pointer (some ⟨g, 0, none⟩)) rfl (fun t' w' hI K hK => ?_) ?_
  · go_simp
    exact hK _ hI
  simp only [Act.put, List.setIfInBounds_toArray, List.set_cons_succ, List.set_cons_zero]
  refine wpG_plain (.pointer (some ⟨g, c, none⟩)) rfl (fun t' w' hI K hK => ?_) ?_
  · go_simp
    exact hK _ hI
  simp only [Act.put, List.setIfInBounds_toArray, List.set_cons_succ, List.set_cons_zero]
  refine wpG_store rfl (fun w' hI K hK => ?_) ?_
  · obtain ⟨v, cw⟩ := sC.out _ w' hI
    have fw := hI.frozen (i := c)
    go_simp
    exact hK _ hI.store
  simp only [Act.put]
  refine wpG_plain (.pointer (some ⟨g, 0, none⟩)) rfl (fun t' w' hI K hK => ?_) ?_
  · go_simp
    exact hK _ hI
  simp only [Act.put, List.setIfInBounds_toArray, List.set_cons_succ, List.set_cons_zero]
  refine wpG_plain (.pointer (some ⟨g, d, none⟩)) rfl (fun t' w' hI K hK => ?_) ?_
  · go_simp
    exact hK _ hI
  simp only [Act.put, List.setIfInBounds_toArray, List.set_cons_succ, List.set_cons_zero]
  refine wpG_store rfl (fun w' hI K hK => ?_) ?_
  · obtain ⟨v, cw⟩ := sD.out _ w' hI
    have fw := hI.frozen (i := d)
    go_simp
    exact hK _ hI.store
  simp only [Act.put]
  refine wpG_nil fun w' hI => ?_
  go_wp2
  go_end0
  exact ⟨rfl, hQ.out ▸ hI⟩
end Go.Proofs.Ythpjdgddpnpdpaa

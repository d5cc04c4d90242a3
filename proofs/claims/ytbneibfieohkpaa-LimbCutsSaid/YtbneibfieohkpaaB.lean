/- The walk of the reference's Cut. -/
import Derived.Test.YtbneibfieohkpaaA
namespace Go.Proofs.Ytbneibfieohkpaa
open Go.RowKit

/-- The reference's numbers, when the bytes from j on are in. -/
def restTo (bs : List Nat) (j : Nat) : List Nat :=
  (List.range 5).map fun k => lowN bs (max (k * 7) j) (min 32 (k * 7 + 7) - max (k * 7) j)
theorem restTo_length (bs : List Nat) (j : Nat) : (restTo bs j).length = 5 := by simp [restTo]
theorem restTo_get (bs : List Nat) (j k : Nat) (h : k < 5) : (restTo bs j).getD k 0 = lowN bs (max (k * 7) j) (min 32 (k * 7 + 7) - max (k * 7) j) := by
  simp [restTo, h]
theorem lowN_head (bs : List Nat) (off m : Nat) : lowN bs off (m + 1) = bs.getD off 0 + 256 * lowN bs (off + 1) m := by
  induction m with
  | zero => simp [lowN]
  | succ m ih =>
    rw [lowN, ih, lowN, Nat.mul_add, Nat.pow_succ]
    have : off + (m + 1) = off + 1 + m := by omega
    rw [this]
    have : bs.getD (off + 1 + m) 0 * (256 ^ m * 256) = 256 * (bs.getD (off + 1 + m) 0 * 256 ^ m) := by rw [← Nat.mul_assoc, Nat.mul_comm]
    omega
theorem restTo_end (bs : List Nat) : restTo bs 0 = cutTo bs 5 0 := by
  unfold restTo cutTo
  apply List.map_congr_left
  intro k hk
  have : k < 5 := by simpa using hk
  rw [if_pos this]
  unfold cutN sizeN
  have h : k = 0 ∨ k = 1 ∨ k = 2 ∨ k = 3 ∨ k = 4 := by omega
  rcases h with rfl | rfl | rfl | rfl | rfl <;> rfl
theorem restTo_start (bs : List Nat) : restTo bs 32 = [0, 0, 0, 0, 0] := by
  simp [restTo, lowN, List.range_succ]
/-- The number before a round, at the byte i. -/
theorem restTo_at (bs : List Nat) (i : Nat) (h : i < 32) : (restTo bs (i + 1)).getD (i / 7) 0 = lowN bs (i + 1) (min 32 (i / 7 * 7 + 7) - (i + 1)) := by
  rw [restTo_get _ _ _ (by omega)]
  have : max (i / 7 * 7) (i + 1) = i + 1 := by omega
  rw [this]
theorem restTo_set (bs : List Nat) (i : Nat) (h : i < 32) :
    (restTo bs (i + 1)).set (i / 7) (lowN bs (i + 1) (min 32 (i / 7 * 7 + 7) - (i + 1)) * 256 + bs.getD i 0) = restTo bs i := by
  apply List.ext_getElem (by simp [restTo])
  intro k h1 h2
  have h5 : k < 5 := by simpa [restTo] using h2
  simp only [restTo, List.getElem_set, List.getElem_map, List.getElem_range]
  by_cases hk : i / 7 = k
  · subst hk
    rw [if_pos rfl]
    have e1 : max (i / 7 * 7) i = i := by omega
    have e2 : min 32 (i / 7 * 7 + 7) - i = (min 32 (i / 7 * 7 + 7) - (i + 1)) + 1 := by omega
    rw [e1, e2, lowN_head]
    omega
  · rw [if_neg hk]
    by_cases hlt : i < k * 7
    · have : max (k * 7) (i + 1) = max (k * 7) i := by omega
      rw [this]
    · have e1 : min 32 (k * 7 + 7) - max (k * 7) (i + 1) = 0 := by omega
      have e2 : min 32 (k * 7 + 7) - max (k * 7) i = 0 := by omega
      rw [e1, e2, lowN, lowN]

structure RestW (bs : List Nat) (w wr : World) (j : Nat) : Prop where
  s : wr.heap[w.heap.size]? = some (.cells (av .u8 bs) 22)
  r : wr.heap[w.heap.size + 1]? = some (.cells (av .u64 [0, 0, 0, 0, 0]) 24)
  o : wr.heap[w.heap.size + 1 + 1]? = some (.cells (av .u64 (restTo bs j)) 24)
  b : Below w.heap.size w wr
  z : wr.heap.size = w.heap.size + 3
theorem restW_start (bs : List Nat) (w : World) : RestW bs w (((w.alloc (.cells (av .u8 bs) 22)).alloc (.cells #[Value.int .u64 0, Value.int .u64 0, Value.int .u64 0, Value.int .u64 0, Value.int .u64 0] 24)).alloc
    (.cells #[Value.int .u64 0, Value.int .u64 0, Value.int .u64 0, Value.int .u64 0, Value.int .u64 0] 24)) 32 := by
  have e : (#[Value.int .u64 0, Value.int .u64 0, Value.int .u64 0, Value.int .u64 0, Value.int .u64 0] : Array Value) = av .u64 [0, 0, 0, 0, 0] := rfl
  rw [e]
  have z1 : ¬ w.heap.size = w.heap.size + 1 + 1 := by omega
  refine ⟨?_, ?_, ?_, ?_, by simp⟩
  · show (((w.heap.push _).push _).push _)[_]? = _
    simp only [Array.getElem?_push, Array.size_push]; simp [z1]
  · show (((w.heap.push _).push _).push _)[_]? = _
    simp only [Array.getElem?_push, Array.size_push]; simp
  · rw [restTo_start]
    show (((w.heap.push _).push _).push _)[_]? = _
    simp only [Array.getElem?_push, Array.size_push]; simp
  · exact (((Below.refl _ _).alloc (Nat.le_refl _) _).alloc (by simp) _).alloc (by simp; omega) _
theorem RestW.step {bs : List Nat} {w wr : World} {i x a : Nat} (h : RestW bs w wr (i + 1)) (hi : i < 32) (hx : bs.getD i 0 = x) (ha : (restTo bs (i + 1)).getD (i / 7) 0 = a) {v : Int} (hv : v = ((a * 256 + x : Nat) : Int)) :
    RestW bs w (wr.setCell ⟨w.heap.size + 1 + 1, i / 7, none⟩ (.int .u64 v)).drew i := by
  subst hv hx ha
  refine ⟨?_, ?_, ?_, (h.b.setCell (by simp; omega) _).drew, by simp [h.z]⟩
  · rw [heap_drew, heap_setCell_other _ _ _ _ (by simp; omega)]; exact h.s
  · rw [heap_drew, heap_setCell_other _ _ _ _ (by simp)]; exact h.r
  · rw [heap_drew, heap_setCell_same _ _ _ _ _ _ h.o, av_set, restTo_at bs i hi]
    exact congrArg (fun l => some (Obj.cells (av .u64 l) 24)) (restTo_set bs i hi)
theorem RestW.last {bs : List Nat} {w wr : World} (h : RestW bs w wr 0) : wr.heap[w.heap.size + 1 + 1]? = some (.cells (av .u64 (cutTo bs 5 0)) 24) := by
  rw [← restTo_end]; exact h.o

set_option maxHeartbeats 1000000 in
theorem refcut_any (bs : List Nat) (hl : bs.length = 32) (hb : ∀ i, bs.getD i 0 < 256) (w : World) :
    Calls Try.prog 9 #[.agg (av .u8 bs)] w fun e w' => e = .returned (.agg (av .u64 (cutTo bs 5 0))) ∧ Below w.heap.size w w' := by
  go_enter Try.func9, Try.ntmps9
  have hbuild : ∀ w : World, (Instr.build 24 #[]).run Try.prog w = .ok (.agg (av .u64 [0, 0, 0, 0, 0])) w := fun _ => by kernel_rfl
  go_wp2
  go_loopw [4] (fun t wr => ∃ j : Nat, j ≤ 32 ∧ ∃ v : Int, v + 1 = j ∧ t = .int .i64 v ∧ RestW bs w wr j) (fun t _ => (intOf t + 1).toNat)
  case atStart =>
    exact ⟨32, by omega, 31, by omega, rfl, restW_start bs w⟩
  case round =>
    obtain ⟨j, hj, v, hv, rfl, hw⟩ := hrel
    match j, hj, hv, hw with
    | 0, hj, hv, hw =>
      obtain rfl : v = -1 := by omega
      have hlast := hw.last
      go_wp2_with (first
        | (refine wpList_load_row rfl 24 _ rfl _ rfl 24 _ (0, 0) _ hlast Try.underlying24 rfl (by kernel_rfl) ?_)
        | (refine wpList_store_row rfl 24 _ _ rfl _ _ rfl rfl 24 _ hw.r (by kernel_rfl) (by simp [av, cutTo_length]) (av_one _ _) ?_))
      refine bodyPost_ret (v := .agg (av .u64 (cutTo bs 5 0))) ?_ rfl ⟨rfl, below_setRow hw.b (by omega) _⟩
      exact results_cell_row rfl _ _ (w.heap.size + 1) 24 _ (0, 0) _ rfl (setRow_heap _ _ _ _ _ _ hw.r) Try.underlying24 rfl (by kernel_rfl)
    | i + 1, hj, hv, hw =>
      obtain rfl : v = (i : Int) := by omega
      obtain ⟨x, hx, hX⟩ : ∃ x : Nat, x < 256 ∧ Hid (bs.getD i 0 = x) := ⟨_, hb _, rfl⟩
      obtain ⟨a, ha, hA⟩ : ∃ a : Nat, a < 256 ^ 6 ∧ Hid ((restTo bs (i + 1)).getD (i / 7) 0 = a) :=
        ⟨_, by rw [restTo_at bs i (by omega)]; exact Nat.lt_of_lt_of_le (lowN_lt bs hb _ _) (Nat.pow_le_pow_right (by omega) (by omega)), rfl⟩
      have c1 : wr.cell? ⟨w.heap.size, i, none⟩ = some (.int .u8 (x : Int)) := by
        rw [cell_of_row _ _ _ _ _ _ hw.s, av_get _ _ _ (by omega), hX.out]
      have c2 : wr.cell? ⟨w.heap.size + 1 + 1, i / 7, none⟩ = some (.int .u64 (a : Int)) := by
        rw [cell_of_row _ _ _ _ _ _ hw.o, av_get _ _ _ (by rw [restTo_length]; omega), hA.out]
      have c3 : wr.frozen? ⟨w.heap.size + 1 + 1, i / 7, none⟩ = false := frozen_of_row _ _ _ _ _ hw.o
      go_wp2
      have j1 : 0 ≤ (i : Int) / 7 := by omega
      have j2 : (i : Int) / 7 < 5 := by omega
      have j3 : ((i : Int) / 7).toNat = i / 7 := by omega
      have j7 : (i : Int) < 32 := by omega
      have j4 : IntKind.u64.wrap (x : Int) = x := by rw [IntKind.wrap_u64]; omega
      have j5 : IntKind.u64.wrap ((a : Int) * 256) = (a : Int) * 256 := by rw [IntKind.wrap_u64]; omega
      have j6 : IntKind.u64.wrap ((a : Int) * 256 + (x : Int)) = (a : Int) * 256 + (x : Int) := by rw [IntKind.wrap_u64]; omega
      refine wp_region_still_tail 13 (by kernel_rfl) (by kernel_rfl) ?_
      simp only [List.take_succ_cons, List.take_zero, List.drop_succ_cons, List.drop_zero]
      rw [World.drew_eq]
      repeat (refine wpStill_step (fun K hK => ?_); go_simp; (try go_bits); (try (go_simp; go_bits)); refine hK _ ?_; clear hK K)
      refine wpStill_nil ?_
      clear j4 j5 j6 j1 j2 j3 j7
      go_wp2
      go_roundw
      case rel => exact ⟨i, by omega, (i : Int) - 1, by omega, by go_num, hw.step (by omega) hX.out hA.out (by simp)⟩
      case measure => simp [intOf]
end Go.Proofs.Ytbneibfieohkpaa

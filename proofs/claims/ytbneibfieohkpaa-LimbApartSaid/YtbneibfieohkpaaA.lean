/- Walks over limb: size. -/
import Derived.Test.YtbneibfieohkpaaRows
import Derived.Test.YtbneibfieohkpaaWords
namespace Go.Proofs.Ytbneibfieohkpaa
open Go.RowKit

def sizeN (n : Nat) : Nat := if n = 4 then 4 else 7
/-- A row of bytes from a place on, the lowest first. -/
def lowN (bs : List Nat) (off : Nat) : Nat → Nat
  | 0 => 0
  | i + 1 => lowN bs off i + bs.getD (off + i) 0 * 256 ^ i
def cutN (bs : List Nat) (n : Nat) : Nat := lowN bs (n * 7) (sizeN n)
/-- The numbers of a seed, when n of them are ready and i bytes of the next. -/
def cutTo (bs : List Nat) (n i : Nat) : List Nat :=
  (List.range 5).map fun k => if k < n then cutN bs k else if k = n then lowN bs (n * 7) i else 0

set_option maxHeartbeats 400000 in
theorem size_any (n : Nat) (w : World) (h1 : n < 5) :
    Calls Try.prog 12 #[.int .i64 n] w fun e w' => e = .returned (.int .i64 (sizeN n : Nat)) ∧ w = w' := by
  by_cases h : n = 4
  · subst h
    go_enter Try.func12, Try.ntmps12
    go_wp2
    go_ret
    exact ⟨rfl, rfl⟩
  · have hs : (sizeN n : Nat) = 7 := by simp [sizeN, h]
    rw [hs]
    clear hs
    go_enter Try.func12, Try.ntmps12
    go_wp2
    go_ret
    exact ⟨rfl, rfl⟩

theorem shl8 (x : Nat) (i : Nat) (hx : x < 256) (hi : i < 7) : IntKind.u64.wrap ((x : Int) * 2 ^ (8 * i)) = ((x * 256 ^ i : Nat) : Int) := by
  rw [IntKind.wrap_u64]
  have h : i = 0 ∨ i = 1 ∨ i = 2 ∨ i = 3 ∨ i = 4 ∨ i = 5 ∨ i = 6 := by omega
  rcases h with rfl | rfl | rfl | rfl | rfl | rfl | rfl <;> simp <;> omega


theorem cutTo_length (bs : List Nat) (n i : Nat) : (cutTo bs n i).length = 5 := by simp [cutTo]
theorem cutTo_get (bs : List Nat) (n i : Nat) (h : n < 5) : (cutTo bs n i).getD n 0 = lowN bs (n * 7) i := by
  simp [cutTo, h]
theorem cutTo_set (bs : List Nat) (n i : Nat) : (cutTo bs n i).set n (lowN bs (n * 7) (i + 1)) = cutTo bs n (i + 1) := by
  apply List.ext_getElem (by simp [cutTo])
  intro k h1 h2
  simp only [cutTo, List.getElem_set, List.getElem_map, List.getElem_range]
  by_cases h : n = k
  · subst h; simp
  · have : ¬ k = n := fun e => h e.symm
    simp [h, this]
theorem cutTo_next (bs : List Nat) (n : Nat) : cutTo bs n (sizeN n) = cutTo bs (n + 1) 0 := by
  unfold cutTo
  apply List.map_congr_left
  intro k _
  rcases Nat.lt_trichotomy k n with h | h | h
  · simp [h, Nat.lt_succ_of_lt h]
  · subst h; simp [cutN]
  · have h1 : ¬ k < n := by omega
    have h2 : ¬ k = n := by omega
    have h3 : ¬ k < n + 1 := by omega
    simp only [h1, h2, h3, if_false, lowN]
    split <;> rfl
theorem cutTo_zero (bs : List Nat) : cutTo bs 0 0 = [0, 0, 0, 0, 0] := by
  simp [cutTo, lowN, List.range_succ]
theorem lowN_lt (bs : List Nat) (hb : ∀ i, bs.getD i 0 < 256) (off : Nat) : ∀ i, lowN bs off i < 256 ^ i
  | 0 => by simp [lowN]
  | i + 1 => by
    have h1 := lowN_lt bs hb off i
    have h2 := hb (off + i)
    have h3 : bs.getD (off + i) 0 * 256 ^ i ≤ 255 * 256 ^ i := Nat.mul_le_mul_right _ (by omega)
    rw [lowN, Nat.pow_succ]
    omega
theorem or_low (a x i : Nat) (ha : a < 256 ^ i) (hx : x < 256) (hi : i < 7) :
    bits .or .u64 (a : Int) ((x : Int) * 256 ^ i) = ((a + x * 256 ^ i : Nat) : Int) := by
  have hp : (256 : Nat) ^ i = 2 ^ (8 * i) := by rw [Nat.pow_mul]
  have hb : (256 : Nat) ^ i ≤ 256 ^ 6 := Nat.pow_le_pow_right (by omega) (by omega)
  have h2 : x * 256 ^ i ≤ 255 * 256 ^ 6 := Nat.mul_le_mul (by omega) hb
  have hc : ((x : Int) * 256 ^ i) = ((x * 256 ^ i : Nat) : Int) := by simp
  rw [hc, u64_or_nat a (x * 256 ^ i) (by omega) (by omega), Nat.or_comm, nat_join (8 * i) (x * 256 ^ i) a (by rw [hp]; simp) (by rw [← hp]; exact ha), Nat.add_comm]

/-- What a round of the inner loop needs. -/
structure CutW (bs : List Nat) (w wr : World) (n i : Nat) : Prop where
  s : wr.heap[w.heap.size]? = some (.cells (av .u8 bs) 26)
  r : wr.heap[w.heap.size + 1]? = some (.cells (av .u64 [0, 0, 0, 0, 0]) 24)
  o : wr.heap[w.heap.size + 1 + 1]? = some (.cells (av .u64 (cutTo bs n i)) 24)
  b : Below w.heap.size w wr
  z : wr.heap.size = w.heap.size + 3

theorem CutW.cs {bs : List Nat} {w wr : World} {n i : Nat} (h : CutW bs w wr n i) (hl : bs.length = 32) (k : Nat) (hk : k < 32) :
    wr.cell? ⟨w.heap.size, k, none⟩ = some (.int .u8 (bs.getD k 0 : Nat)) := by
  rw [cell_of_row _ _ _ _ _ _ h.s, av_get _ _ _ (by omega)]
theorem CutW.co {bs : List Nat} {w wr : World} {n i : Nat} (h : CutW bs w wr n i) (hk : n < 5) :
    wr.cell? ⟨w.heap.size + 1 + 1, n, none⟩ = some (.int .u64 (lowN bs (n * 7) i : Nat)) := by
  rw [cell_of_row _ _ _ _ _ _ h.o, av_get _ _ _ (by rw [cutTo_length]; exact hk), cutTo_get _ _ _ hk]
theorem CutW.step {bs : List Nat} {w wr : World} {n i x : Nat} (h : CutW bs w wr n i) (hx : bs.getD (n * 7 + i) 0 = x) {v : Int} (hv : v = ((lowN bs (n * 7) i + x * 256 ^ i : Nat) : Int)) :
    CutW bs w (wr.setCell ⟨w.heap.size + 1 + 1, n, none⟩ (.int .u64 v)).drew n (i + 1) := by
  subst hv
  refine ⟨?_, ?_, ?_, (h.b.setCell (by simp; omega) _).drew, by simp [h.z]⟩
  · rw [heap_drew, heap_setCell_other _ _ _ _ (by simp; omega)]; exact h.s
  · rw [heap_drew, heap_setCell_other _ _ _ _ (by simp)]; exact h.r
  · rw [heap_drew, heap_setCell_same _ _ _ _ _ _ h.o, av_set, ← hx]
    exact congrArg (fun l => some (Obj.cells (av .u64 l) 24)) (cutTo_set bs n i)
theorem CutW.next {bs : List Nat} {w wr : World} {n i : Nat} (h : CutW bs w wr n i) (hi : i = sizeN n) : CutW bs w wr (n + 1) 0 := by
  subst hi
  exact ⟨h.s, h.r, by rw [← cutTo_next]; exact h.o, h.b, h.z⟩
theorem cutW_start (bs : List Nat) (w : World) : CutW bs w (((w.alloc (.cells (av .u8 bs) 26)).alloc (.cells #[Value.int .u64 0, Value.int .u64 0, Value.int .u64 0, Value.int .u64 0, Value.int .u64 0] 24)).alloc
    (.cells #[Value.int .u64 0, Value.int .u64 0, Value.int .u64 0, Value.int .u64 0, Value.int .u64 0] 24)) 0 0 := by
  have e : (#[Value.int .u64 0, Value.int .u64 0, Value.int .u64 0, Value.int .u64 0, Value.int .u64 0] : Array Value) = av .u64 [0, 0, 0, 0, 0] := rfl
  rw [e]
  have z1 : ¬ w.heap.size = w.heap.size + 1 + 1 := by omega
  refine ⟨?_, ?_, ?_, ?_, by simp⟩
  · show (((w.heap.push _).push _).push _)[_]? = _
    simp only [Array.getElem?_push, Array.size_push]; simp [z1]
  · show (((w.heap.push _).push _).push _)[_]? = _
    simp only [Array.getElem?_push, Array.size_push]; simp
  · rw [cutTo_zero]
    show (((w.heap.push _).push _).push _)[_]? = _
    simp only [Array.getElem?_push, Array.size_push]; simp
  · exact (((Below.refl _ _).alloc (Nat.le_refl _) _).alloc (by simp) _).alloc (by simp; omega) _

set_option maxHeartbeats 1000000 in
theorem cut_any (bs : List Nat) (hl : bs.length = 32) (hb : ∀ i, bs.getD i 0 < 256) (w : World) :
    Calls Try.prog 7 #[.agg (av .u8 bs)] w fun e w' => e = .returned (.agg (av .u64 (cutTo bs 5 0))) ∧ Below w.heap.size w w' := by
  go_enter Try.func7, Try.ntmps7
  go_wp2
  go_loopw [7] (fun t wr => ∃ n : Nat, n ≤ 5 ∧ t = .int .i64 n ∧ CutW bs w wr n 0) (fun t _ => 5 - (intOf t).toNat)
  case atStart =>
    exact ⟨0, by omega, rfl, cutW_start bs w⟩
  case round =>
    obtain ⟨n, hn, rfl, hw⟩ := hrel
    by_cases hlt : n < 5
    · go_wp2_with (go_at_call 12; refine (size_any n _ hlt).mono ?_; rintro e w' ⟨rfl, rfl⟩)
      go_loopw [14] (fun t wx => ∃ i : Nat, i ≤ sizeN n ∧ t = .int .i64 i ∧ CutW bs w wx n i) (fun t _ => sizeN n - (intOf t).toNat)
      case atStart => exact ⟨0, by omega, rfl, hw⟩
      case round =>
        obtain ⟨i, hi, rfl, hw⟩ := hrel
        have hs : sizeN n ≤ 7 := by unfold sizeN; split <;> omega
        have hsn : n * 7 + sizeN n ≤ 32 := by unfold sizeN; split <;> omega
        by_cases hlt2 : i < sizeN n
        · obtain ⟨x, hx, hX⟩ : ∃ x : Nat, x < 256 ∧ Hid (bs.getD (n * 7 + i) 0 = x) := ⟨_, hb _, rfl⟩
          have c1 : wr.cell? ⟨w.heap.size, n * 7 + i, none⟩ = some (.int .u8 (x : Int)) := hX.out ▸ hw.cs hl _ (by omega)
          have c2 : wr.cell? ⟨w.heap.size + 1 + 1, n, none⟩ = some (.int .u64 (lowN bs (n * 7) i : Nat)) := hw.co hlt
          have c3 : wr.frozen? ⟨w.heap.size + 1 + 1, n, none⟩ = false := frozen_of_row _ _ _ _ _ hw.o
          go_wp2
          have j1 : 0 ≤ (n : Int) * 7 + (i : Int) := by omega
          have j2 : (n : Int) * 7 + (i : Int) < 32 := by omega
          have j3 : ((n : Int) * 7 + (i : Int)).toNat = n * 7 + i := by omega
          have j4 : IntKind.u64.wrap (x : Int) = x := by rw [IntKind.wrap_u64]; omega
          have j5 : IntKind.u64.wrap ((x : Int) * 2 ^ (8 * i)) = ((x * 256 ^ i : Nat) : Int) := shl8 x i hx (by omega)
          have j6 : bits .or .u64 (lowN bs (n * 7) i : Nat) ((x : Int) * 256 ^ i) = ((lowN bs (n * 7) i + x * 256 ^ i : Nat) : Int) := or_low _ _ _ (lowN_lt bs hb _ _) hx (by omega)
          refine wp_region_still_tail 14 (by kernel_rfl) (by kernel_rfl) ?_
          simp only [List.take_succ_cons, List.take_zero, List.drop_succ_cons, List.drop_zero]
          rw [World.drew_eq]
          repeat (refine wpStill_step (fun K hK => ?_); go_simp; (try go_bits); (try (go_simp; go_bits)); refine hK _ ?_; clear hK K)
          refine wpStill_nil ?_
          clear j4 j5 j6 j1 j2 j3
          go_wp2
          go_roundw
          case rel => exact ⟨i + 1, by omega, by go_num, hw.step hX.out (by simp)⟩
          case measure => simp [intOf]; omega
        · go_wp2
          go_roundw
          case rel => exact ⟨n + 1, by omega, by go_num, hw.next (by omega)⟩
          case measure => simp [intOf]; omega
    · obtain rfl : n = 5 := by omega
      go_wp2_with (first
        | (refine wpList_load_row rfl 24 _ rfl _ rfl 24 _ (0, 0) _ hw.o Try.underlying24 rfl (by kernel_rfl) ?_)
        | (refine wpList_store_row rfl 24 _ _ rfl _ _ rfl rfl 24 _ hw.r (by kernel_rfl) (by simp [av, cutTo_length]) (av_one _ _) ?_))
      refine bodyPost_ret (v := .agg (av .u64 (cutTo bs 5 0))) ?_ rfl ⟨rfl, below_setRow hw.b (by omega) _⟩
      exact results_cell_row rfl _ _ (w.heap.size + 1) 24 _ (0, 0) _ rfl (setRow_heap _ _ _ _ _ _ hw.r) Try.underlying24 rfl (by kernel_rfl)
end Go.Proofs.Ytbneibfieohkpaa

/- The walk of Glue. -/
import Derived.Test.YtbneibfieohkpaaA
namespace Go.Proofs.Ytbneibfieohkpaa
open Go.RowKit

/-- The bytes of numbers, when j of them are in. -/
def glTo (ls : List Nat) (j : Nat) : List Nat := (List.range 32).map fun m => if m < j then ls.getD (m / 7) 0 / 256 ^ (m % 7) % 256 else 0
def zeros : List Nat := List.replicate 32 0
def okTo (ls : List Nat) (n : Nat) : Bool := (List.range n).all fun k => decide (ls.getD k 0 < 256 ^ sizeN k)
def glueR (ls : List Nat) : List Nat := if okTo ls 5 then glTo ls 32 else zeros
def glueE (ls : List Nat) : Int := if okTo ls 5 then 0 else 4
theorem glTo_length (ls : List Nat) (j : Nat) : (glTo ls j).length = 32 := by simp [glTo]
theorem zeros_length : zeros.length = 32 := by simp [zeros]
theorem glueR_length (ls : List Nat) : (glueR ls).length = 32 := by unfold glueR; split <;> first | exact glTo_length _ _ | exact zeros_length
theorem glTo_zero (ls : List Nat) : glTo ls 0 = zeros := by
  simp [glTo, zeros, List.range_succ]
theorem glTo_past (ls : List Nat) (j : Nat) (h : 32 ≤ j) : glTo ls j = glTo ls 32 := by
  unfold glTo
  apply List.map_congr_left
  intro m hm
  have : m < 32 := by simpa using hm
  rw [if_pos this, if_pos (by omega)]
theorem glTo_set (ls : List Nat) (j : Nat) : (glTo ls j).set j (ls.getD (j / 7) 0 / 256 ^ (j % 7) % 256) = glTo ls (j + 1) := by
  apply List.ext_getElem (by simp [glTo])
  intro k h1 h2
  simp only [glTo, List.getElem_set, List.getElem_map, List.getElem_range]
  by_cases h : j = k
  · subst h; simp
  · by_cases h3 : k < j
    · simp [h, h3, Nat.lt_succ_of_lt h3]
    · have : ¬ k < j + 1 := by omega
      simp [h, h3, this]
theorem okTo_succ (ls : List Nat) (n : Nat) : okTo ls (n + 1) = (okTo ls n && decide (ls.getD n 0 < 256 ^ sizeN n)) := by
  simp [okTo, List.range_succ]
theorem okTo_of (ls : List Nat) (n : Nat) (h : n < 5) (hn : ¬ ls.getD n 0 < 256 ^ sizeN n) : okTo ls 5 = false := by
  have : ¬ okTo ls 5 = true := by
    intro h5
    have := List.all_eq_true.1 h5 n (by simpa using h)
    exact hn (by simpa using this)
  simpa using this

structure GlueW (ls : List Nat) (w wr : World) (j : Nat) : Prop where
  s : wr.heap[w.heap.size]? = some (.cells (av .u64 ls) 24)
  r : wr.heap[w.heap.size + 1]? = some (.cells (av .u8 zeros) 26)
  o : wr.heap[w.heap.size + 1 + 1]? = some (.cells (av .u8 (glTo ls j)) 26)
  b : Below w.heap.size w wr
  z : wr.heap.size = w.heap.size + 3
theorem GlueW.step {ls : List Nat} {w wr : World} {j : Nat} (h : GlueW ls w wr j) {v : Int} (hv : v = ((ls.getD (j / 7) 0 / 256 ^ (j % 7) % 256 : Nat) : Int)) :
    GlueW ls w (wr.setCell ⟨w.heap.size + 1 + 1, j, none⟩ (.int .u8 v)) (j + 1) := by
  subst hv
  refine ⟨?_, ?_, ?_, h.b.setCell (by simp; omega) _, by simp [h.z]⟩
  · rw [heap_setCell_other _ _ _ _ (by simp; omega)]; exact h.s
  · rw [heap_setCell_other _ _ _ _ (by simp)]; exact h.r
  · rw [heap_setCell_same _ _ _ _ _ _ h.o, av_set, glTo_set]

theorem GlueW.step' {ls : List Nat} {w wr : World} {n i x : Nat} (h : GlueW ls w wr (n * 7 + i)) (hx : ls.getD n 0 = x) (hi : i < 7) {v : Int} (hv : v = (x : Int) / 2 ^ (8 * i) % 256) :
    GlueW ls w (wr.setCell ⟨w.heap.size + 1 + 1, n * 7 + i, none⟩ (.int .u8 v)) (n * 7 + (i + 1)) := by
  refine h.step ?_
  subst hv
  have h1 : (n * 7 + i) / 7 = n := by omega
  have h2 : (n * 7 + i) % 7 = i := by omega
  rw [h1, h2, hx, show (256 : Nat) ^ i = 2 ^ (8 * i) by rw [Nat.pow_mul]]
  simp
theorem fit_iff (x s : Nat) : x < 256 ^ s ↔ x / 2 ^ (8 * s) = 0 := by
  rw [Nat.div_eq_zero_iff, Nat.pow_mul]
  constructor
  · exact fun h => Or.inr h
  · rintro (h | h)
    · exact absurd h (Nat.ne_of_gt (Nat.pow_pos (by omega)))
    · exact h
theorem fit_int (x s : Nat) : ((x : Int) / 2 ^ (8 * s) != 0) = !decide (x < 256 ^ s) := by
  have h : (x : Int) / 2 ^ (8 * s) = ((x / 2 ^ (8 * s) : Nat) : Int) := by simp
  have hf := fit_iff x s
  rw [h]
  by_cases h0 : x < 256 ^ s
  · rw [hf.1 h0, decide_eq_true h0]; rfl
  · rw [decide_eq_false h0, Bool.not_false, bne_iff_ne]
    have := fun e => h0 (hf.2 e)
    omega
theorem GlueW.next {ls : List Nat} {w wr : World} {n : Nat} (h : GlueW ls w wr (n * 7 + sizeN n)) (hn : n < 5) : GlueW ls w wr ((n + 1) * 7) := by
  refine ⟨h.s, h.r, ?_, h.b, h.z⟩
  rw [h.o]
  unfold sizeN
  by_cases h4 : n = 4
  · subst h4
    rw [glTo_past ls ((4 + 1) * 7) (by omega)]
    rfl
  · rw [if_neg h4, Nat.succ_mul]
theorem GlueW.last {ls : List Nat} {w wr : World} (h : GlueW ls w wr (5 * 7)) : wr.heap[w.heap.size + 1 + 1]? = some (.cells (av .u8 (glTo ls 32)) 26) := by
  rw [h.o, glTo_past ls (5 * 7) (by omega)]
set_option maxHeartbeats 1000000 in
theorem glue_any (ls : List Nat) (hl : ls.length = 5) (hb : ∀ i, ls.getD i 0 < 18446744073709551616) (w : World) :
    Calls Try.prog 10 #[.agg (av .u64 ls)] w fun e w' => e = .returned (.tuple #[.agg (av .u8 (glueR ls)), .int .i64 (glueE ls)]) ∧ Below w.heap.size w w' := by
  have hs24 : Hid ((Try.prog.info? 24).map (·.size) = some (av .u64 ls).size) := by rw [Hid, av_size, hl]; kernel_rfl
  have hs26 : Hid ((Try.prog.info? 26).map (·.size) = some (av .u8 zeros).size) := by rw [Hid, av_size, zeros_length]; kernel_rfl
  have hb26 : Hid (Try.prog.built 26 [] = some (av .u8 zeros)) := by rw [Hid]; kernel_rfl
  have hz26 : Hid ((Try.prog.info? 26).bind (·.zero) = some (.agg (av .u8 zeros))) := by rw [Hid]; kernel_rfl
  go_enter Try.func10, Try.ntmps10
  go_wp2_with (first | (refine wpList_alloc_as rfl 26 rfl _ hz26.out ?_) | (refine wpList_load_row rfl 24 _ rfl _ rfl 24 _ (0, 0) _ (get3_0 _ _ _ _) Try.underlying24 rfl hs24.out ?_))
  go_loopw [10] (fun t wr => ∃ n : Nat, n ≤ 5 ∧ t = .int .i64 n ∧ okTo ls n = true ∧ GlueW ls w wr (n * 7)) (fun t _ => 5 - (intOf t).toNat)
  case atStart => exact ⟨0, by omega, rfl, rfl, ⟨get3_0 _ _ _ _, get3_1 _ _ _ _, by rw [Nat.zero_mul, glTo_zero]; exact get3_2 _ _ _ _, below3 _ _ _ _, by simp⟩⟩
  case round =>
    obtain ⟨n, hn, rfl, hok, hw⟩ := hrel
    have hOK : Hid (okTo ls n = true) := hok
    clear hok
    by_cases hlt : n < 5
    · obtain ⟨x, hx, hX⟩ : ∃ x : Nat, x < 18446744073709551616 ∧ Hid (ls.getD n 0 = x) := ⟨_, hb _, rfl⟩
      have hix : ∀ w : World, (Instr.index 24 (.agg (av .u64 ls)) (.int .i64 (n : Int))).run Try.prog w = .ok (.int .u64 (x : Int)) w := fun w => by
        rw [run_index_av 24 23 5 .u64 .u64 ls n Try.underlying24 Try.underlying23 (by kernel_rfl) hl hlt w, hX.out]
      go_wp2_with (go_at_call 12; refine (size_any n _ hlt).mono ?_; rintro e w' ⟨rfl, rfl⟩)
      go_loopw [18] (fun t wx => ∃ i : Nat, i ≤ sizeN n ∧ t = .int .i64 i ∧ GlueW ls w wx (n * 7 + i)) (fun t _ => sizeN n - (intOf t).toNat)
      case atStart => exact ⟨0, by omega, rfl, hw⟩
      case round =>
        obtain ⟨i, hi, rfl, hw⟩ := hrel
        have hs : sizeN n ≤ 7 := by unfold sizeN; split <;> omega
        have hsn : n * 7 + sizeN n ≤ 32 := by unfold sizeN; split <;> omega
        by_cases hlt2 : i < sizeN n
        · have c3 : wr.frozen? ⟨w.heap.size + 1 + 1, n * 7 + i, none⟩ = false := frozen_of_row _ _ _ _ _ hw.o
          have c2 : wr.cell? ⟨w.heap.size + 1 + 1, n * 7 + i, none⟩ = some (.int .u8 ((glTo ls (n * 7 + i)).getD (n * 7 + i) 0 : Nat)) := by
            rw [cell_of_row _ _ _ _ _ _ hw.o, av_get _ _ _ (by rw [glTo_length]; omega)]
          go_wp2
          go_roundw
          case rel => exact ⟨i + 1, by omega, by go_num, hw.step' hX.out (by omega) rfl⟩
          case measure => simp [intOf]; omega
        · obtain rfl : i = sizeN n := by omega
          by_cases hfit : x < 256 ^ sizeN n
          · have hq : ((x : Int) / 2 ^ (8 * sizeN n) != 0) = false := by rw [fit_int]; simpa using hfit
            have hfit' : Hid (x < 256 ^ sizeN n) := hfit
            clear hfit
            go_wp2_with (go_at_call 12; refine (size_any n _ hlt).mono ?_; rintro e w' ⟨rfl, rfl⟩)
            refine ⟨⟨n + 1, by omega, by go_num, ?_, hw.next hlt⟩, by simp [intOf]; omega⟩
            rw [okTo_succ, hOK.out, hX.out, Bool.true_and, decide_eq_true_eq]
            exact hfit'.out
          · have hq : ((x : Int) / 2 ^ (8 * sizeN n) != 0) = true := by rw [fit_int]; simpa using hfit
            have hno : Hid (okTo ls 5 = false) := okTo_of ls n hlt (by rw [hX.out]; exact hfit)
            clear hfit
            go_wp2_with (first
              | (go_at_call 12; refine (size_any n _ hlt).mono ?_; rintro e w' ⟨rfl, rfl⟩)
              | (refine wpList_build_as rfl 26 rfl _ hb26.out ?_)
              | (refine wpList_store_row rfl 26 _ _ rfl _ _ rfl rfl 26 _ hw.r hs26.out rfl (av_one _ _) ?_))
            refine bodyPost_ret (v := .tuple #[.agg (av .u8 zeros), .int .i64 4]) ?_ rfl ⟨?_, below_setRow hw.b (by omega) _⟩
            · exact results_row_tmp (p := 2) (u := 3) rfl _ _ (w.heap.size + 1) 26 _ (0, 0) _ rfl (setRow_heap _ _ _ _ _ _ hw.r) Try.underlying26 rfl hs26.out
            · rw [glueR, glueE, hno.out]; rfl
    · obtain rfl : n = 5 := by omega
      have hlast := hw.last
      go_wp2_with (first
        | (refine wpList_load_row rfl 26 _ rfl _ rfl 26 _ (0, 0) _ hlast Try.underlying26 rfl (by kernel_rfl) ?_)
        | (refine wpList_store_row rfl 26 _ _ rfl _ _ rfl rfl 26 _ hw.r (by kernel_rfl) (by rw [av_size, av_size, zeros_length, glTo_length]) (av_one _ _) ?_))
      refine bodyPost_ret (v := .tuple #[.agg (av .u8 (glTo ls 32)), .int .i64 0]) ?_ rfl ⟨?_, below_setRow hw.b (by omega) _⟩
      · exact results_row_tmp (p := 2) (u := 3) rfl _ _ (w.heap.size + 1) 26 _ (0, 0) _ rfl (setRow_heap _ _ _ _ _ _ hw.r) Try.underlying26 rfl (by kernel_rfl)
      · rw [glueR, glueE, hOK.out]; rfl
end Go.Proofs.Ytbneibfieohkpaa

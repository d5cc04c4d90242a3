/- Walks over stream's reference: Vector. -/
import Derived.Test.YthpjdgddpnpdpaaW
namespace Go.Proofs.Ythpjdgddpnpdpaa
open Go.RowKit
set_option maxRecDepth 100000 in
set_option maxHeartbeats 8000000 in
theorem refvector_any (key : List Nat) (tag : Nat) (n : Int) (M : Nat) (hk : key.length = 32) (hkb : W8 key) (hn : Clamp n 256 M) (w : World) :
    Calls Try.prog 27 #[.agg (av .u8 key), .int .u32 tag, .int .i64 n] w fun e w' =>
      ∃ g, e = .returned (.slice (some ⟨g, 0, none⟩) M M) ∧ w'.heap[g]? = some (.cells (av .u32 (vecN key tag M)) 22) ∧ Below w.heap.size w w' := by
  obtain ⟨i0, hi0, hz0, hz1, hz2⟩ := info_parts Try.info22
  have sK : Hid ((Try.prog.info? 29).map (·.size) = some (av .u8 key).size) := by rw [Hid, av_size, hk]; kernel_rfl
  have hM : M ≤ 256 := by rcases hn with h | h | h <;> omega
  obtain ⟨B, hB⟩ : ∃ B, Hid (∀ _ : Unit, bytesN key tag (4 * M) = B) := ⟨_, fun _ => rfl⟩
  have hBl : Hid (∀ _ : Unit, B.length = 4 * M) := fun _ => by rw [← hB.out (), bytesN_length]
  have hBb : Hid (W8 B) := by rw [← hB.out ()]; exact bytesN_w8 _ _ _
  have hV : Hid (∀ _ : Unit, rTo B M M = vecN key tag M) := fun _ => by rw [← hB.out ()]; rfl
  rw [← hV.out ()]
  clear hV
  have H : Hid (∀ (n' : Int) W, n' = ((4 * M : Nat) : Int) → Calls Try.prog 24 #[.agg (av .u8 key), .int .u32 tag, .int .i64 n'] W fun e w' =>
      ∃ g, e = .returned (.slice (some ⟨g, 0, none⟩) (4 * M) (4 * M)) ∧ w'.heap[g]? = some (.cells (av .u8 B) 5) ∧ Below W.heap.size W w') := fun n' W hn' => by
    rw [← hB.out ()]
    exact refbytes_any key tag n' (4 * M) hk hkb (.inr (.inl ⟨by omega, by omega, hn'.symm⟩)) W
  clear hB hk hkb
  rcases hn with h | h | h
  · obtain ⟨h1, rfl⟩ := h
    have hn1 : (n : Int) ≤ 0 := by omega
    have hx := heap_new w (.cells (av .u8 key) 29)
    go_enter Try.func27, Try.ntmps27
    go_wp2_with (refine wpList_load_row_if rfl 29 _ rfl _ rfl 29 _ (0, 0) _ hx Try.underlying29 rfl sK.out ?_)
    refine (H.out _ _ (by first | rfl | (push_cast; rfl) | omega)).mono ?_
    rintro e w1 ⟨gb, rfl, hr, hb1⟩
    have hb : Below w.heap.size w w1 := ((Below.refl _ _).alloc (Nat.le_refl _) _).trans (hb1.mono (by simp))
    clear hb1 H hx sK
    have hlb := (Array.getElem?_eq_some_iff.1 hr).1
    have hlw := hb.size
    go_wp2_with (at_make; refine wpList_make_full _ rfl _ _ 45 rfl w.heap.size 22 i0 (.int .u32 0) 1 Try.underlying45 hi0 hz0 hz1 _ _ _ _ 0 rfl rfl (by first | rfl | omega) (by first | rfl | omega) (by rw [hz2]; omega) (by unfold maxLen; omega) (by omega) ?_; intro w2 hown hgrow)
    have hI0 : Hid (VcI B (rTo B 0 0) gb w1.heap.size w w2) := by
      refine ⟨(hgrow.block _ hlb (by simp)).trans hr, ?_, hb.grown hgrow hlw (fun k h => by cases h), hlw, by omega⟩
      rw [← vTo_eq B 0 hBb.out 0 (by omega)]
      exact made_row32 (by simpa [Value.cells] using hown)
    clear hown hgrow hr hb hlb
    obtain ⟨go, hgo⟩ : ∃ go, w1.heap.size = go := ⟨_, rfl⟩
    rw [hgo] at hI0 ⊢
    clear hgo hlw
    go_loopw [9] (fun c9 wr => ∃ i : Nat, i ≤ 0 ∧ c9 = .int .i64 i ∧ Hid (VcI B (rTo B 0 i) gb go w wr)) (fun c9 _ => 0 - (intOf c9).toNat)
    case atStart => exact ⟨0, by omega, rfl, hI0.out⟩
    case round =>
    obtain ⟨i, hi, rfl, hI⟩ := hrel
    clear hI0
    by_cases him : i < 0
    · exact absurd him (by omega)
    · obtain rfl : i = 0 := by omega
      go_wp2
      go_ret
      exact ⟨go, rfl, hI.out.o, hI.out.b⟩
  · obtain ⟨h1, h2, rfl⟩ := h
    have hmax : ¬ (M : Int) < 0 := by omega
    have hmin : (M : Int) ≤ 256 := by omega
    have hmin2 : ¬ (256 : Int) < (M : Int) := by omega
    have hx := heap_new w (.cells (av .u8 key) 29)
    go_enter Try.func27, Try.ntmps27
    go_wp2_with (refine wpList_load_row_if rfl 29 _ rfl _ rfl 29 _ (0, 0) _ hx Try.underlying29 rfl sK.out ?_)
    refine (H.out _ _ (by first | rfl | (push_cast; rfl) | omega)).mono ?_
    rintro e w1 ⟨gb, rfl, hr, hb1⟩
    have hb : Below w.heap.size w w1 := ((Below.refl _ _).alloc (Nat.le_refl _) _).trans (hb1.mono (by simp))
    clear hb1 H hx sK
    have hlb := (Array.getElem?_eq_some_iff.1 hr).1
    have hlw := hb.size
    go_wp2_with (at_make; refine wpList_make_full _ rfl _ _ 45 rfl w.heap.size 22 i0 (.int .u32 0) 1 Try.underlying45 hi0 hz0 hz1 _ _ _ _ M rfl rfl (by first | rfl | omega) (by first | rfl | omega) (by rw [hz2]; omega) (by unfold maxLen; omega) (by omega) ?_; intro w2 hown hgrow)
    have hI0 : Hid (VcI B (rTo B M 0) gb w1.heap.size w w2) := by
      refine ⟨(hgrow.block _ hlb (by simp)).trans hr, ?_, hb.grown hgrow hlw (fun k h => by cases h), hlw, by omega⟩
      rw [← vTo_eq B M hBb.out 0 (by omega)]
      exact made_row32 (by simpa [Value.cells] using hown)
    clear hown hgrow hr hb hlb
    obtain ⟨go, hgo⟩ : ∃ go, w1.heap.size = go := ⟨_, rfl⟩
    rw [hgo] at hI0 ⊢
    clear hgo hlw
    go_loopw [9] (fun c9 wr => ∃ i : Nat, i ≤ M ∧ c9 = .int .i64 i ∧ Hid (VcI B (rTo B M i) gb go w wr)) (fun c9 _ => M - (intOf c9).toNat)
    case atStart => exact ⟨0, by omega, rfl, hI0.out⟩
    case round =>
    obtain ⟨i, hi, rfl, hI⟩ := hrel
    clear hI0
    by_cases him : i < M
    · have i1 : (i : Int) < (M : Nat) := by omega
      have i2 : (0 : Int) ≤ 4 * (i : Int) := by omega
      have i3 : 4 * (i : Int) + 4 ≤ 4 * (M : Nat) := by omega
      have i4 : (4 * (i : Int)).toNat = 4 * i := by omega
      have i5 : (4 * (i : Int) + 4).toNat = 4 * i + 4 := by omega
      have i6 : 4 * i < 4 * M := by omega
      go_wp2_with fail
      refine (refnumber_any gb 5 (4 * i) 4 _ B (by rw [hBl.out ()]; omega) hBb.out (by omega) _ hI.out.x).mono ?_
      rintro e w' ⟨rfl, hd⟩
      obtain ⟨z, hz⟩ : ∃ z, Hid (∀ _ : Unit, num B (4 * i) = z) := ⟨_, fun _ => rfl⟩
      rw [hz.out ()]
      have hI1 := Lib.hid (hI.out.dr hd)
      obtain ⟨v, cw⟩ : ∃ v, w'.cell? ⟨go, i, none⟩ = some v := ⟨_, by rw [cell_of_row _ _ _ _ _ _ hI1.out.o, av_get _ _ _ (by rw [rTo_length]; exact him)]⟩
      have fw : w'.frozen? ⟨go, i, none⟩ = false := frozen_of_row _ _ _ _ _ hI1.out.o
      have hI2 : Hid (VcI B (rTo B M (i + 1)) gb go w (w'.setCell ⟨go, i, none⟩ (.int .u32 (z : Int)))) := hI1.out.store (by rw [← hz.out ()]; exact rTo_set B M i)
      clear hI hd hI1
      go_wp2
      go_roundw
      case rel => exact ⟨i + 1, by omega, by go_num, hI2⟩
      case measure => simp [intOf]; omega
    · obtain rfl : i = M := by omega
      go_wp2
      go_ret
      exact ⟨go, rfl, hI.out.o, hI.out.b⟩
  · obtain ⟨h1, rfl⟩ := h
    have hmin : ¬ n ≤ 256 := by omega
    have hmax2 : (0 : Int) ≤ n := by omega
    have h1' : (256 : Int) < n := by omega
    have hx := heap_new w (.cells (av .u8 key) 29)
    go_enter Try.func27, Try.ntmps27
    go_wp2_with (refine wpList_load_row_if rfl 29 _ rfl _ rfl 29 _ (0, 0) _ hx Try.underlying29 rfl sK.out ?_)
    refine (H.out _ _ (by first | rfl | (push_cast; rfl) | omega)).mono ?_
    rintro e w1 ⟨gb, rfl, hr, hb1⟩
    have hb : Below w.heap.size w w1 := ((Below.refl _ _).alloc (Nat.le_refl _) _).trans (hb1.mono (by simp))
    clear hb1 H hx sK
    have hlb := (Array.getElem?_eq_some_iff.1 hr).1
    have hlw := hb.size
    go_wp2_with (at_make; refine wpList_make_full _ rfl _ _ 45 rfl w.heap.size 22 i0 (.int .u32 0) 1 Try.underlying45 hi0 hz0 hz1 _ _ _ _ 256 rfl rfl (by first | rfl | omega) (by first | rfl | omega) (by rw [hz2]; omega) (by unfold maxLen; omega) (by omega) ?_; intro w2 hown hgrow)
    have hI0 : Hid (VcI B (rTo B 256 0) gb w1.heap.size w w2) := by
      refine ⟨(hgrow.block _ hlb (by simp)).trans hr, ?_, hb.grown hgrow hlw (fun k h => by cases h), hlw, by omega⟩
      rw [← vTo_eq B 256 hBb.out 0 (by omega)]
      exact made_row32 (by simpa [Value.cells] using hown)
    clear hown hgrow hr hb hlb
    obtain ⟨go, hgo⟩ : ∃ go, w1.heap.size = go := ⟨_, rfl⟩
    rw [hgo] at hI0 ⊢
    clear hgo hlw
    go_loopw [9] (fun c9 wr => ∃ i : Nat, i ≤ 256 ∧ c9 = .int .i64 i ∧ Hid (VcI B (rTo B 256 i) gb go w wr)) (fun c9 _ => 256 - (intOf c9).toNat)
    case atStart => exact ⟨0, by omega, rfl, hI0.out⟩
    case round =>
    obtain ⟨i, hi, rfl, hI⟩ := hrel
    clear hI0
    by_cases him : i < 256
    · have i1 : (i : Int) < (256 : Nat) := by omega
      have i2 : (0 : Int) ≤ 4 * (i : Int) := by omega
      have i3 : 4 * (i : Int) + 4 ≤ 4 * (256 : Nat) := by omega
      have i4 : (4 * (i : Int)).toNat = 4 * i := by omega
      have i5 : (4 * (i : Int) + 4).toNat = 4 * i + 4 := by omega
      have i6 : 4 * i < 4 * 256 := by omega
      go_wp2_with fail
      refine (refnumber_any gb 5 (4 * i) 4 _ B (by rw [hBl.out ()]; omega) hBb.out (by omega) _ hI.out.x).mono ?_
      rintro e w' ⟨rfl, hd⟩
      obtain ⟨z, hz⟩ : ∃ z, Hid (∀ _ : Unit, num B (4 * i) = z) := ⟨_, fun _ => rfl⟩
      rw [hz.out ()]
      have hI1 := Lib.hid (hI.out.dr hd)
      obtain ⟨v, cw⟩ : ∃ v, w'.cell? ⟨go, i, none⟩ = some v := ⟨_, by rw [cell_of_row _ _ _ _ _ _ hI1.out.o, av_get _ _ _ (by rw [rTo_length]; exact him)]⟩
      have fw : w'.frozen? ⟨go, i, none⟩ = false := frozen_of_row _ _ _ _ _ hI1.out.o
      have hI2 : Hid (VcI B (rTo B 256 (i + 1)) gb go w (w'.setCell ⟨go, i, none⟩ (.int .u32 (z : Int)))) := hI1.out.store (by rw [← hz.out ()]; exact rTo_set B 256 i)
      clear hI hd hI1
      go_wp2
      go_roundw
      case rel => exact ⟨i + 1, by omega, by go_num, hI2⟩
      case measure => simp [intOf]; omega
    · obtain rfl : i = 256 := by omega
      go_wp2
      go_ret
      exact ⟨go, rfl, hI.out.o, hI.out.b⟩
end Go.Proofs.Ythpjdgddpnpdpaa

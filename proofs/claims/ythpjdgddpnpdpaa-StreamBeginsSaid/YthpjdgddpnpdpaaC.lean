/- Walks over cipher: columns and slopes. -/
import Derived.Test.YthpjdgddpnpdpaaB
namespace Go.Proofs.Ythpjdgddpnpdpaa
open Go.RowKit

/-- All numbers of 32 bits. -/
def W32 (st : List Nat) : Prop := ∀ i, st.getD i 0 < 4294967296
theorem w32_set (st : List Nat) (a v : Nat) (h : W32 st) (hv : v < 4294967296) : W32 (st.set a v) := by
  intro i
  by_cases hi : a = i
  · subst hi
    by_cases hl : a < st.length
    · simp [List.getD, hl, hv]
    · simp [List.getD, hl]
  · have := h i
    simpa [List.getD, List.getElem?_set_ne hi] using this
theorem qr_lt (a b c d : Nat) (hb : b < 4294967296) (hd : d < 4294967296) : (qr a b c d).1 < 4294967296 ∧ (qr a b c d).2.1 < 4294967296 ∧ (qr a b c d).2.2.1 < 4294967296 ∧ (qr a b c d).2.2.2 < 4294967296 :=
  ⟨sm_lt _ _, ro_lt _ _ (xo_lt _ _ (ro_lt _ _ (xo_lt _ _ hb (sm_lt _ _))) (sm_lt _ _)), sm_lt _ _, ro_lt _ _ (xo_lt _ _ (ro_lt _ _ (xo_lt _ _ hd (sm_lt _ _))) (sm_lt _ _))⟩
theorem qst_w32 (st : List Nat) (a b c d : Nat) (h : W32 st) : W32 (qst st a b c d) := by
  obtain ⟨h1, h2, h3, h4⟩ := qr_lt (st.getD a 0) (st.getD b 0) (st.getD c 0) (st.getD d 0) (h b) (h d)
  exact w32_set _ _ _ (w32_set _ _ _ (w32_set _ _ _ (w32_set _ _ _ h h1) h2) h3) h4
def colTo (st : List Nat) : Nat → List Nat
  | 0 => st
  | 1 => qst (st) 0 4 8 12
  | 2 => qst (qst (st) 0 4 8 12) 1 5 9 13
  | 3 => qst (qst (qst (st) 0 4 8 12) 1 5 9 13) 2 6 10 14
  | _ => qst (qst (qst (qst (st) 0 4 8 12) 1 5 9 13) 2 6 10 14) 3 7 11 15
theorem colTo_length (st : List Nat) : ∀ j, (colTo st j).length = st.length
  | 0 => rfl
  | 1 => by simp [colTo, qst_length]
  | 2 => by simp [colTo, qst_length]
  | 3 => by simp [colTo, qst_length]
  | _ + 4 => by simp [colTo, qst_length]
theorem colTo_w32 (st : List Nat) (h : W32 st) : ∀ j, W32 (colTo st j)
  | 0 => h
  | 1 => qst_w32 _ _ _ _ _ h
  | 2 => qst_w32 _ _ _ _ _ (qst_w32 _ _ _ _ _ h)
  | 3 => qst_w32 _ _ _ _ _ (qst_w32 _ _ _ _ _ (qst_w32 _ _ _ _ _ h))
  | _ + 4 => qst_w32 _ _ _ _ _ (qst_w32 _ _ _ _ _ (qst_w32 _ _ _ _ _ (qst_w32 _ _ _ _ _ h)))
set_option maxRecDepth 100000 in
set_option maxHeartbeats 4000000 in
theorem col_any (g t : Nat) (st : List Nat) (hl : st.length = 16) (hlt : W32 st) (w : World) (hg : w.heap[g]? = some (.cells (av .u32 st) t)) :
    Calls Try.prog 33 #[.pointer (some ⟨g, 0, none⟩)] w fun e w' => e = .returned (.tuple #[]) ∧ Rw .u32 g t (colTo st 4) w w' := by
  have L := Lib.hid (colTo_length st)
  have B := Lib.hid (colTo_w32 st hlt)
  have hG : Hid (Rw .u32 g t st w w) := Rw.start hg
  clear hg hlt
  go_enter Try.func33, Try.ntmps33
  go_wp2_with fail
  go_loopw [3] (fun v wr => ∃ j : Nat, j ≤ 4 ∧ v = .int .i64 j ∧ Rw .u32 g t (colTo st j) w wr) (fun v _ => 4 - (intOf v).toNat)
  case atStart => exact ⟨0, by omega, rfl, hG.out⟩
  case round =>
    obtain ⟨j, hj, rfl, hw⟩ := hrel
    match j, hj, hw with
    | 0, hj, hw =>
      go_wp2_with (refine (squarter_any g t (colTo st 0) ((L.out 0).trans hl) (B.out 0) 0 4 8 12 (by omega) (by omega) (by omega) (by omega) _ hw.row).mono ?_; rintro e w' ⟨rfl, hq⟩)
      go_roundw
      case rel => exact ⟨1, by omega, rfl, hw.trans hq⟩
      case measure => simp [intOf]
    | 1, hj, hw =>
      go_wp2_with (refine (squarter_any g t (colTo st 1) ((L.out 1).trans hl) (B.out 1) 1 5 9 13 (by omega) (by omega) (by omega) (by omega) _ hw.row).mono ?_; rintro e w' ⟨rfl, hq⟩)
      go_roundw
      case rel => exact ⟨2, by omega, rfl, hw.trans hq⟩
      case measure => simp [intOf]
    | 2, hj, hw =>
      go_wp2_with (refine (squarter_any g t (colTo st 2) ((L.out 2).trans hl) (B.out 2) 2 6 10 14 (by omega) (by omega) (by omega) (by omega) _ hw.row).mono ?_; rintro e w' ⟨rfl, hq⟩)
      go_roundw
      case rel => exact ⟨3, by omega, rfl, hw.trans hq⟩
      case measure => simp [intOf]
    | 3, hj, hw =>
      go_wp2_with (refine (squarter_any g t (colTo st 3) ((L.out 3).trans hl) (B.out 3) 3 7 11 15 (by omega) (by omega) (by omega) (by omega) _ hw.row).mono ?_; rintro e w' ⟨rfl, hq⟩)
      go_roundw
      case rel => exact ⟨4, by omega, rfl, hw.trans hq⟩
      case measure => simp [intOf]
    | 4, hj, hw =>
      go_wp2
      go_end0
      exact ⟨rfl, hw⟩
    | j + 5, hj, hw => omega
def slopeTo (st : List Nat) : Nat → List Nat
  | 0 => st
  | 1 => qst (st) 0 5 10 15
  | 2 => qst (qst (st) 0 5 10 15) 1 6 11 12
  | 3 => qst (qst (qst (st) 0 5 10 15) 1 6 11 12) 2 7 8 13
  | _ => qst (qst (qst (qst (st) 0 5 10 15) 1 6 11 12) 2 7 8 13) 3 4 9 14
theorem slopeTo_length (st : List Nat) : ∀ j, (slopeTo st j).length = st.length
  | 0 => rfl
  | 1 => by simp [slopeTo, qst_length]
  | 2 => by simp [slopeTo, qst_length]
  | 3 => by simp [slopeTo, qst_length]
  | _ + 4 => by simp [slopeTo, qst_length]
theorem slopeTo_w32 (st : List Nat) (h : W32 st) : ∀ j, W32 (slopeTo st j)
  | 0 => h
  | 1 => qst_w32 _ _ _ _ _ h
  | 2 => qst_w32 _ _ _ _ _ (qst_w32 _ _ _ _ _ h)
  | 3 => qst_w32 _ _ _ _ _ (qst_w32 _ _ _ _ _ (qst_w32 _ _ _ _ _ h))
  | _ + 4 => qst_w32 _ _ _ _ _ (qst_w32 _ _ _ _ _ (qst_w32 _ _ _ _ _ (qst_w32 _ _ _ _ _ h)))
set_option maxRecDepth 100000 in
set_option maxHeartbeats 4000000 in
theorem slope_any (g t : Nat) (st : List Nat) (hl : st.length = 16) (hlt : W32 st) (w : World) (hg : w.heap[g]? = some (.cells (av .u32 st) t)) :
    Calls Try.prog 34 #[.pointer (some ⟨g, 0, none⟩)] w fun e w' => e = .returned (.tuple #[]) ∧ Rw .u32 g t (slopeTo st 4) w w' := by
  have L := Lib.hid (slopeTo_length st)
  have B := Lib.hid (slopeTo_w32 st hlt)
  have hG : Hid (Rw .u32 g t st w w) := Rw.start hg
  clear hg hlt
  go_enter Try.func34, Try.ntmps34
  go_wp2_with fail
  go_loopw [3] (fun v wr => ∃ j : Nat, j ≤ 4 ∧ v = .int .i64 j ∧ Rw .u32 g t (slopeTo st j) w wr) (fun v _ => 4 - (intOf v).toNat)
  case atStart => exact ⟨0, by omega, rfl, hG.out⟩
  case round =>
    obtain ⟨j, hj, rfl, hw⟩ := hrel
    match j, hj, hw with
    | 0, hj, hw =>
      go_wp2_with (refine (squarter_any g t (slopeTo st 0) ((L.out 0).trans hl) (B.out 0) 0 5 10 15 (by omega) (by omega) (by omega) (by omega) _ hw.row).mono ?_; rintro e w' ⟨rfl, hq⟩)
      go_roundw
      case rel => exact ⟨1, by omega, rfl, hw.trans hq⟩
      case measure => simp [intOf]
    | 1, hj, hw =>
      go_wp2_with (refine (squarter_any g t (slopeTo st 1) ((L.out 1).trans hl) (B.out 1) 1 6 11 12 (by omega) (by omega) (by omega) (by omega) _ hw.row).mono ?_; rintro e w' ⟨rfl, hq⟩)
      go_roundw
      case rel => exact ⟨2, by omega, rfl, hw.trans hq⟩
      case measure => simp [intOf]
    | 2, hj, hw =>
      go_wp2_with (refine (squarter_any g t (slopeTo st 2) ((L.out 2).trans hl) (B.out 2) 2 7 8 13 (by omega) (by omega) (by omega) (by omega) _ hw.row).mono ?_; rintro e w' ⟨rfl, hq⟩)
      go_roundw
      case rel => exact ⟨3, by omega, rfl, hw.trans hq⟩
      case measure => simp [intOf]
    | 3, hj, hw =>
      go_wp2_with (refine (squarter_any g t (slopeTo st 3) ((L.out 3).trans hl) (B.out 3) 3 4 9 14 (by omega) (by omega) (by omega) (by omega) _ hw.row).mono ?_; rintro e w' ⟨rfl, hq⟩)
      go_roundw
      case rel => exact ⟨4, by omega, rfl, hw.trans hq⟩
      case measure => simp [intOf]
    | 4, hj, hw =>
      go_wp2
      go_end0
      exact ⟨rfl, hw⟩
    | j + 5, hj, hw => omega
end Go.Proofs.Ythpjdgddpnpdpaa

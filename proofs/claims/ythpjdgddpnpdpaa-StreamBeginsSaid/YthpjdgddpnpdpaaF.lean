/- Walks over cipher: start. -/
import Derived.Test.YthpjdgddpnpdpaaE
namespace Go.Proofs.Ythpjdgddpnpdpaa
open Go.RowKit

/-- The state of a key, a counter and a nonce, so far as it is written. -/
def keyTo (key : List Nat) (i : Nat) : List Nat :=
  [1634760805, 857760878, 2036477234, 1797285236] ++ (List.range 8).map (fun k => if k < i then num key (4 * k) else 0) ++ [0, 0, 0, 0]
def nonceTo (key : List Nat) (ctr : Nat) (nonce : List Nat) (i : Nat) : List Nat :=
  [1634760805, 857760878, 2036477234, 1797285236] ++ (List.range 8).map (fun k => num key (4 * k)) ++ [ctr] ++ (List.range 3).map (fun k => if k < i then num nonce (4 * k) else 0)
theorem keyTo_length (key : List Nat) (i : Nat) : (keyTo key i).length = 16 := by simp [keyTo]
theorem nonceTo_length (key : List Nat) (ctr : Nat) (nonce : List Nat) (i : Nat) : (nonceTo key ctr nonce i).length = 16 := by simp [nonceTo]
theorem keyTo_set (key : List Nat) (i : Nat) (h : i < 8) : (keyTo key i).set (4 + i) (num key (4 * i)) = keyTo key (i + 1) := by
  have h' : i = 0 ∨ i = 1 ∨ i = 2 ∨ i = 3 ∨ i = 4 ∨ i = 5 ∨ i = 6 ∨ i = 7 := by omega
  rcases h' with rfl | rfl | rfl | rfl | rfl | rfl | rfl | rfl <;> rfl
theorem keyTo_ctr (key nonce : List Nat) (ctr : Nat) : (keyTo key 8).set 12 ctr = nonceTo key ctr nonce 0 := rfl
theorem nonceTo_set (key nonce : List Nat) (ctr : Nat) (i : Nat) (h : i < 3) : (nonceTo key ctr nonce i).set (13 + i) (num nonce (4 * i)) = nonceTo key ctr nonce (i + 1) := by
  have h' : i = 0 ∨ i = 1 ∨ i = 2 := by omega
  rcases h' with rfl | rfl | rfl <;> rfl
def startN (key : List Nat) (ctr : Nat) (nonce : List Nat) : List Nat := nonceTo key ctr nonce 3

structure StI (key nonce st : List Nat) (w W : World) : Prop where
  k : W.heap[w.heap.size]? = some (.cells (av .u8 key) 33)
  n : W.heap[w.heap.size + 1]? = some (.cells (av .u8 nonce) 30)
  r : W.heap[w.heap.size + 1 + 1]? = some (.cells (av .u32 [0, 0, 0, 0, 0, 0, 0, 0, 0, 0, 0, 0, 0, 0, 0, 0]) 57)
  s : W.heap[w.heap.size + 1 + 1 + 1]? = some (.cells (av .u32 st) 57)
  b : Below w.heap.size w W
theorem StI.dr {key nonce st : List Nat} {w W W' : World} (h : StI key nonce st w W) (d : Dr W W') : StI key nonce st w W' :=
  ⟨by rw [d.heap]; exact h.k, by rw [d.heap]; exact h.n, by rw [d.heap]; exact h.r, by rw [d.heap]; exact h.s, h.b.trans d.below⟩
theorem StI.cw {key nonce st : List Nat} {i : Nat} {w W : World} (h : StI key nonce st w W) (hi : i < st.length) : ∃ v, W.cell? ⟨w.heap.size + 1 + 1 + 1, i, none⟩ = some v := ⟨_, by rw [cell_of_row _ _ _ _ _ _ h.s, av_get _ _ _ hi]⟩
theorem StI.fw {key nonce st : List Nat} {i : Nat} {w W : World} (h : StI key nonce st w W) : W.frozen? ⟨w.heap.size + 1 + 1 + 1, i, none⟩ = false := frozen_of_row _ _ _ _ _ h.s
theorem StI.store {key nonce st st' : List Nat} {i x : Nat} {w W : World} (h : StI key nonce st w W) (e : st.set i x = st') : StI key nonce st' w (W.setCell ⟨w.heap.size + 1 + 1 + 1, i, none⟩ (.int .u32 (x : Int))) :=
  ⟨by rw [heap_setCell_other _ _ _ _ (by simp; omega)]; exact h.k, by rw [heap_setCell_other _ _ _ _ (by simp)]; exact h.n, by rw [heap_setCell_other _ _ _ _ (by simp)]; exact h.r,
   by rw [heap_setCell_same _ _ _ _ _ _ h.s, av_set, e], h.b.setCell (by simp; omega) _⟩

set_option maxRecDepth 100000 in
set_option maxHeartbeats 4000000 in
theorem start_any (key nonce : List Nat) (ctr : Nat) (hk : key.length = 32) (hn : nonce.length = 12) (hkb : W8 key) (hnb : W8 nonce) (w : World) :
    Calls Try.prog 32 #[.agg (av .u8 key), .int .u32 ctr, .agg (av .u8 nonce)] w fun e w' => e = .returned (.agg (av .u32 (startN key ctr nonce))) ∧ Below w.heap.size w w' := by
  have H0 : Hid (StI key nonce (keyTo key 0) w ((((w.alloc (.cells (av .u8 key) 33)).alloc (.cells (av .u8 nonce) 30)).alloc (.cells (av .u32 [0, 0, 0, 0, 0, 0, 0, 0, 0, 0, 0, 0, 0, 0, 0, 0]) 57)).alloc (.cells (av .u32 (keyTo key 0)) 57))) := by
    refine ⟨?_, ?_, ?_, ?_, ?_⟩
    · exact old_alloc _ (get3_0 _ _ _ _)
    · exact old_alloc _ (get3_1 _ _ _ _)
    · exact old_alloc _ (get3_2 _ _ _ _)
    · rw [alloc_get, if_pos (by simp)]
    · exact (below3 _ _ _ _).alloc (by simp; omega) _
  have hk := Lib.hid hk
  have hn := Lib.hid hn
  have hkb := Lib.hid hkb
  have hnb := Lib.hid hnb
  go_enter Try.func32, Try.ntmps32
  go_wp2_with fail
  go_loopw [11] (fun v wr => ∃ j : Nat, j ≤ 8 ∧ v = .int .i64 j ∧ StI key nonce (keyTo key j) w wr) (fun v _ => 8 - (intOf v).toNat)
  case atStart => exact ⟨0, by omega, rfl, H0.out⟩
  case round =>
    obtain ⟨j, hj, rfl, hw⟩ := hrel
    clear H0
    match j, hj, hw with
    | 0, hj, hw =>
      go_wp2_with fail
      refine (number_any (w.heap.size) 33 0 32 32 key (by rw [hk.out]; omega) hkb.out (by omega) _ hw.k).mono ?_
      rintro e w' ⟨rfl, hd⟩
      have hI := hw.dr hd
      obtain ⟨v, cw⟩ := hI.cw (i := 4) (by rw [keyTo_length]; omega)
      have fw := hI.fw (i := 4)
      go_wp2
      go_roundw
      case rel => first | exact ⟨1, by omega, rfl, hI.store (keyTo_set key 0 (by omega))⟩ | exact ⟨_, _, _, _, _, _, _, _, _, _, _, _, ⟨1, by omega, rfl, hI.store (keyTo_set key 0 (by omega))⟩, rfl⟩
      case measure => simp [intOf]
    | 1, hj, hw =>
      go_wp2_with fail
      refine (number_any (w.heap.size) 33 4 28 28 key (by rw [hk.out]; omega) hkb.out (by omega) _ hw.k).mono ?_
      rintro e w' ⟨rfl, hd⟩
      have hI := hw.dr hd
      obtain ⟨v, cw⟩ := hI.cw (i := 5) (by rw [keyTo_length]; omega)
      have fw := hI.fw (i := 5)
      go_wp2
      go_roundw
      case rel => first | exact ⟨2, by omega, rfl, hI.store (keyTo_set key 1 (by omega))⟩ | exact ⟨_, _, _, _, _, _, _, _, _, _, _, _, ⟨2, by omega, rfl, hI.store (keyTo_set key 1 (by omega))⟩, rfl⟩
      case measure => simp [intOf]
    | 2, hj, hw =>
      go_wp2_with fail
      refine (number_any (w.heap.size) 33 8 24 24 key (by rw [hk.out]; omega) hkb.out (by omega) _ hw.k).mono ?_
      rintro e w' ⟨rfl, hd⟩
      have hI := hw.dr hd
      obtain ⟨v, cw⟩ := hI.cw (i := 6) (by rw [keyTo_length]; omega)
      have fw := hI.fw (i := 6)
      go_wp2
      go_roundw
      case rel => first | exact ⟨3, by omega, rfl, hI.store (keyTo_set key 2 (by omega))⟩ | exact ⟨_, _, _, _, _, _, _, _, _, _, _, _, ⟨3, by omega, rfl, hI.store (keyTo_set key 2 (by omega))⟩, rfl⟩
      case measure => simp [intOf]
    | 3, hj, hw =>
      go_wp2_with fail
      refine (number_any (w.heap.size) 33 12 20 20 key (by rw [hk.out]; omega) hkb.out (by omega) _ hw.k).mono ?_
      rintro e w' ⟨rfl, hd⟩
      have hI := hw.dr hd
      obtain ⟨v, cw⟩ := hI.cw (i := 7) (by rw [keyTo_length]; omega)
      have fw := hI.fw (i := 7)
      go_wp2
      go_roundw
      case rel => first | exact ⟨4, by omega, rfl, hI.store (keyTo_set key 3 (by omega))⟩ | exact ⟨_, _, _, _, _, _, _, _, _, _, _, _, ⟨4, by omega, rfl, hI.store (keyTo_set key 3 (by omega))⟩, rfl⟩
      case measure => simp [intOf]
    | 4, hj, hw =>
      go_wp2_with fail
      refine (number_any (w.heap.size) 33 16 16 16 key (by rw [hk.out]; omega) hkb.out (by omega) _ hw.k).mono ?_
      rintro e w' ⟨rfl, hd⟩
      have hI := hw.dr hd
      obtain ⟨v, cw⟩ := hI.cw (i := 8) (by rw [keyTo_length]; omega)
      have fw := hI.fw (i := 8)
      go_wp2
      go_roundw
      case rel => first | exact ⟨5, by omega, rfl, hI.store (keyTo_set key 4 (by omega))⟩ | exact ⟨_, _, _, _, _, _, _, _, _, _, _, _, ⟨5, by omega, rfl, hI.store (keyTo_set key 4 (by omega))⟩, rfl⟩
      case measure => simp [intOf]
    | 5, hj, hw =>
      go_wp2_with fail
      refine (number_any (w.heap.size) 33 20 12 12 key (by rw [hk.out]; omega) hkb.out (by omega) _ hw.k).mono ?_
      rintro e w' ⟨rfl, hd⟩
      have hI := hw.dr hd
      obtain ⟨v, cw⟩ := hI.cw (i := 9) (by rw [keyTo_length]; omega)
      have fw := hI.fw (i := 9)
      go_wp2
      go_roundw
      case rel => first | exact ⟨6, by omega, rfl, hI.store (keyTo_set key 5 (by omega))⟩ | exact ⟨_, _, _, _, _, _, _, _, _, _, _, _, ⟨6, by omega, rfl, hI.store (keyTo_set key 5 (by omega))⟩, rfl⟩
      case measure => simp [intOf]
    | 6, hj, hw =>
      go_wp2_with fail
      refine (number_any (w.heap.size) 33 24 8 8 key (by rw [hk.out]; omega) hkb.out (by omega) _ hw.k).mono ?_
      rintro e w' ⟨rfl, hd⟩
      have hI := hw.dr hd
      obtain ⟨v, cw⟩ := hI.cw (i := 10) (by rw [keyTo_length]; omega)
      have fw := hI.fw (i := 10)
      go_wp2
      go_roundw
      case rel => first | exact ⟨7, by omega, rfl, hI.store (keyTo_set key 6 (by omega))⟩ | exact ⟨_, _, _, _, _, _, _, _, _, _, _, _, ⟨7, by omega, rfl, hI.store (keyTo_set key 6 (by omega))⟩, rfl⟩
      case measure => simp [intOf]
    | 7, hj, hw =>
      go_wp2_with fail
      refine (number_any (w.heap.size) 33 28 4 4 key (by rw [hk.out]; omega) hkb.out (by omega) _ hw.k).mono ?_
      rintro e w' ⟨rfl, hd⟩
      have hI := hw.dr hd
      obtain ⟨v, cw⟩ := hI.cw (i := 11) (by rw [keyTo_length]; omega)
      have fw := hI.fw (i := 11)
      go_wp2
      go_roundw
      case rel => first | exact ⟨8, by omega, rfl, hI.store (keyTo_set key 7 (by omega))⟩ | exact ⟨_, _, _, _, _, _, _, _, _, _, _, _, ⟨8, by omega, rfl, hI.store (keyTo_set key 7 (by omega))⟩, rfl⟩
      case measure => simp [intOf]
    | 8, hj, hw =>
      obtain ⟨v, cw⟩ := hw.cw (i := 12) (by rw [keyTo_length]; omega)
      have fw := hw.fw (i := 12)
      have hs : Hid (StI key nonce (nonceTo key ctr nonce 0) w (wr.setCell ⟨w.heap.size + 1 + 1 + 1, 12, none⟩ (.int .u32 (ctr : Int)))) := hw.store (keyTo_ctr key nonce ctr)
      go_wp2_with fail
      go_loopw [24] (fun v wr => ∃ j : Nat, j ≤ 3 ∧ v = .int .i64 j ∧ StI key nonce (nonceTo key ctr nonce j) w wr) (fun v _ => 3 - (intOf v).toNat)
      case atStart => exact ⟨0, by omega, rfl, hs.out⟩
      case round =>
      obtain ⟨j, hj, rfl, hw⟩ := hrel
      clear hs
      match j, hj, hw with
      | 0, hj, hw =>
        go_wp2_with fail
        refine (number_any (w.heap.size + 1) 30 0 12 12 nonce (by rw [hn.out]; omega) hnb.out (by omega) _ hw.n).mono ?_
        rintro e w' ⟨rfl, hd⟩
        have hI := hw.dr hd
        obtain ⟨v, cw⟩ := hI.cw (i := 13) (by rw [nonceTo_length]; omega)
        have fw := hI.fw (i := 13)
        go_wp2
        go_roundw
        case rel => first | exact ⟨1, by omega, rfl, hI.store (nonceTo_set key nonce ctr 0 (by omega))⟩ | exact ⟨_, _, _, _, _, _, _, _, _, _, _, _, ⟨1, by omega, rfl, hI.store (nonceTo_set key nonce ctr 0 (by omega))⟩, rfl⟩
        case measure => simp [intOf]
      | 1, hj, hw =>
        go_wp2_with fail
        refine (number_any (w.heap.size + 1) 30 4 8 8 nonce (by rw [hn.out]; omega) hnb.out (by omega) _ hw.n).mono ?_
        rintro e w' ⟨rfl, hd⟩
        have hI := hw.dr hd
        obtain ⟨v, cw⟩ := hI.cw (i := 14) (by rw [nonceTo_length]; omega)
        have fw := hI.fw (i := 14)
        go_wp2
        go_roundw
        case rel => first | exact ⟨2, by omega, rfl, hI.store (nonceTo_set key nonce ctr 1 (by omega))⟩ | exact ⟨_, _, _, _, _, _, _, _, _, _, _, _, ⟨2, by omega, rfl, hI.store (nonceTo_set key nonce ctr 1 (by omega))⟩, rfl⟩
        case measure => simp [intOf]
      | 2, hj, hw =>
        go_wp2_with fail
        refine (number_any (w.heap.size + 1) 30 8 4 4 nonce (by rw [hn.out]; omega) hnb.out (by omega) _ hw.n).mono ?_
        rintro e w' ⟨rfl, hd⟩
        have hI := hw.dr hd
        obtain ⟨v, cw⟩ := hI.cw (i := 15) (by rw [nonceTo_length]; omega)
        have fw := hI.fw (i := 15)
        go_wp2
        go_roundw
        case rel => first | exact ⟨3, by omega, rfl, hI.store (nonceTo_set key nonce ctr 2 (by omega))⟩ | exact ⟨_, _, _, _, _, _, _, _, _, _, _, _, ⟨3, by omega, rfl, hI.store (nonceTo_set key nonce ctr 2 (by omega))⟩, rfl⟩
        case measure => simp [intOf]
      | 3, hj, hw =>
        have hz := hw.s
        have hsz : Hid ((Try.prog.info? 57).map (·.size) = some (av .u32 (nonceTo key ctr nonce 3)).size) := by rw [Hid, av_size, nonceTo_length]; kernel_rfl
        have hsz2 : Hid ((Try.prog.info? 57).map (·.size) = some (av .u32 [0, 0, 0, 0, 0, 0, 0, 0, 0, 0, 0, 0, 0, 0, 0, 0]).size) := by rw [Hid]; kernel_rfl
        go_wp2_with (first
          | (refine wpList_load_row_if rfl 57 _ rfl _ rfl 57 _ (0, 0) _ hz Try.underlying57 rfl hsz.out ?_)
          | (refine wpList_store_row rfl 57 _ _ rfl _ _ rfl rfl 57 _ hw.r hsz2.out (by rw [av_size, av_size, nonceTo_length]; rfl) (av_one _ _) ?_))
        refine bodyPost_ret (v := .agg (av .u32 (nonceTo key ctr nonce 3))) ?_ rfl ⟨rfl, below_setRow hw.b (by omega) _⟩
        exact results_cell_row rfl _ _ (w.heap.size + 1 + 1) 57 _ (0, 0) _ rfl (setRow_heap _ _ _ _ _ _ hw.r) Try.underlying57 rfl hsz.out
      | j + 4, hj, hw => omega
    | j + 9, hj, hw => omega
end Go.Proofs.Ythpjdgddpnpdpaa

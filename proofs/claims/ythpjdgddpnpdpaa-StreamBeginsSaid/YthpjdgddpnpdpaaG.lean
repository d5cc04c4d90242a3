/- Walks over cipher: Block. -/
import Derived.Test.YthpjdgddpnpdpaaF
namespace Go.Proofs.Ythpjdgddpnpdpaa
open Go.RowKit

def dbl (st : List Nat) : List Nat := slopeTo (colTo st 4) 4
def dblTo (st : List Nat) : Nat → List Nat
  | 0 => st
  | j + 1 => dbl (dblTo st j)
theorem dblTo_length (st : List Nat) : ∀ j, (dblTo st j).length = st.length
  | 0 => rfl
  | j + 1 => by rw [dblTo, dbl, slopeTo_length, colTo_length, dblTo_length st j]
theorem dblTo_w32 (st : List Nat) (h : W32 st) : ∀ j, W32 (dblTo st j)
  | 0 => h
  | j + 1 => slopeTo_w32 _ (colTo_w32 _ (dblTo_w32 st h j) 4) 4
def zeros16 : List Nat := List.replicate 16 0
def zeros64 : List Nat := List.replicate 64 0
/-- The block's bytes, so far as they are written. -/
def outTo (st first : List Nat) : Nat → List Nat
  | 0 => zeros64
  | i + 1 => putTo (outTo st first i) (4 * i) (sm (st.getD i 0) (first.getD i 0)) 4
theorem outTo_length (st first : List Nat) : ∀ i, (outTo st first i).length = 64
  | 0 => rfl
  | i + 1 => by rw [outTo, putTo_length, outTo_length st first i]
def blockN (key : List Nat) (ctr : Nat) (nonce : List Nat) : List Nat := outTo (dblTo (startN key ctr nonce) 10) (startN key ctr nonce) 16
theorem blockN_length (key : List Nat) (ctr : Nat) (nonce : List Nat) : (blockN key ctr nonce).length = 64 := outTo_length _ _ _

theorem startN_length (key : List Nat) (ctr : Nat) (nonce : List Nat) : (startN key ctr nonce).length = 16 := nonceTo_length _ _ _ _
theorem w32_mem (l : List Nat) (h : ∀ x ∈ l, x < 4294967296) : W32 l := by
  intro i
  by_cases hi : i < l.length
  · rw [List.getD, List.getElem?_eq_getElem hi]; exact h _ (List.getElem_mem hi)
  · rw [List.getD, List.getElem?_eq_none (by omega)]; exact (by decide : (0 : Nat) < 4294967296)
theorem startN_w32 (key : List Nat) (ctr : Nat) (nonce : List Nat) (hk : W8 key) (hn : W8 nonce) (hc : ctr < 4294967296) : W32 (startN key ctr nonce) := by
  refine w32_mem _ fun x hx => ?_
  unfold startN nonceTo at hx
  rcases List.mem_append.1 hx with hx | hx
  · rcases List.mem_append.1 hx with hx | hx
    · rcases List.mem_append.1 hx with hx | hx
      · have : ∀ x ∈ [1634760805, 857760878, 2036477234, 1797285236], x < 4294967296 := by decide
        exact this x hx
      · obtain ⟨k, _, rfl⟩ := List.mem_map.1 hx
        exact num_lt key hk _
    · rw [List.mem_singleton.1 hx]; exact hc
  · obtain ⟨k, _, rfl⟩ := List.mem_map.1 hx
    split
    · exact num_lt nonce hn _
    · exact (by decide : (0 : Nat) < 4294967296)

structure OutI (S st : List Nat) (w : World) (f o i : Nat) (W : World) : Prop where
  f : W.heap[f]? = some (.cells (av .u32 st) 57)
  o : W.heap[o]? = some (.cells (av .u8 (outTo S st i)) 31)
  r : W.heap[w.heap.size + 1 + 1]? = some (.cells (av .u8 zeros64) 31)
  b : Below w.heap.size w W
set_option maxRecDepth 100000 in
set_option maxHeartbeats 4000000 in
theorem block_any (key nonce : List Nat) (ctr : Nat) (hk : key.length = 32) (hn : nonce.length = 12) (hkb : W8 key) (hnb : W8 nonce) (hc : ctr < 4294967296) (w : World) :
    Calls Try.prog 16 #[.agg (av .u8 key), .int .u32 ctr, .agg (av .u8 nonce)] w fun e w' => e = .returned (.agg (av .u8 (blockN key ctr nonce))) ∧ Below w.heap.size w w' := by
  have hz : Hid ((Try.prog.info? 31).bind (·.zero) = some (.agg (av .u8 zeros64))) := by rw [Hid]; kernel_rfl
  have s33 : Hid ((Try.prog.info? 33).map (·.size) = some (av .u8 key).size) := by rw [Hid, av_size, hk]; kernel_rfl
  have s30 : Hid ((Try.prog.info? 30).map (·.size) = some (av .u8 nonce).size) := by rw [Hid, av_size, hn]; kernel_rfl
  have q1 := startN_length key ctr nonce
  have q2 := startN_w32 key ctr nonce hkb hnb hc
  have q3 := start_any key nonce ctr hk hn hkb hnb
  have hB : Hid (blockN key ctr nonce = outTo (dblTo (startN key ctr nonce) 10) (startN key ctr nonce) 16) := by rw [Hid, blockN]
  rw [hB.out]
  clear hB
  generalize startN key ctr nonce = st at q1 q2 q3 ⊢
  have hl : Hid (st.length = 16) := q1
  have h32 : Hid (W32 st) := q2
  have H1 : Hid (∀ w, Calls Try.prog 32 #[.agg (av .u8 key), .int .u32 ctr, .agg (av .u8 nonce)] w fun e w' => e = .returned (.agg (av .u32 st)) ∧ Below w.heap.size w w') := q3
  clear q1 q2 q3
  have hz57 : Hid ((Try.prog.info? 57).bind (·.zero) = some (.agg (av .u32 zeros16))) := by rw [Hid]; kernel_rfl
  have s57 : Hid ((Try.prog.info? 57).map (·.size) = some (av .u32 st).size) := by rw [Hid, av_size, hl.out]; kernel_rfl
  have s57e : Hid ((av .u32 st).size = (av .u32 zeros16).size) := by rw [Hid, av_size, av_size, hl.out]; rfl
  clear hk hn hkb hnb hc
  go_enter Try.func16, Try.ntmps16
  go_wp2_with (first
    | (refine wpList_alloc_as rfl 31 rfl (av .u8 zeros64) hz.out ?_)
    | (refine wpList_load_row_if rfl 33 _ rfl _ rfl 33 _ (0, 0) _ (get3_0 _ _ _ _) Try.underlying33 rfl s33.out ?_)
    | (refine wpList_load_row_if rfl 30 _ rfl _ rfl 30 _ (0, 0) _ (get3_1 _ _ _ _) Try.underlying30 rfl s30.out ?_))
  refine (H1.out _).mono ?_
  rintro e w1 ⟨rfl, hb1⟩
  have hb2 : Hid (Below w.heap.size w w1) := (below3 w _ _ _).trans (hb1.mono (by simp; omega))
  have hz1 : Hid (w1.heap[w.heap.size + 1 + 1]? = some (.cells (av .u8 zeros64) 31)) := old_row hb1 (by simp) (get3_2 _ _ _ _)
  have hsz : Hid (w.heap.size + 3 ≤ w1.heap.size) := by have := hb1.size; rw [Hid]; simp at this; omega
  clear hb1 s33 s30
  go_wp2_with (first
    | (refine wpList_alloc_as rfl 57 rfl (av .u32 zeros16) hz57.out ?_)
    | (refine wpList_store_row rfl 57 _ _ rfl _ _ rfl rfl 57 _ (heap_new w1 _) s57.out s57e.out.symm (av_one _ _) ?_; rw [alloc_setRow])
    | (refine wpList_store_row rfl 57 _ _ rfl _ _ rfl rfl 57 _ (heap_new (w1.alloc (.cells (av .u32 st) 57)) _) s57.out s57e.out.symm (av_one _ _) ?_; rw [alloc_setRow])
    | (refine wpList_load_row_if rfl 57 _ rfl _ rfl 57 _ (0, 0) _ (heap_new w1 _) Try.underlying57 rfl s57.out ?_))
  obtain ⟨W0, hW0⟩ : ∃ W0, W0 = (w1.alloc (.cells (av .u32 st) 57)).alloc (.cells (av .u32 st) 57) := ⟨_, rfl⟩
  have f0 : W0.heap[w1.heap.size]? = some (.cells (av .u32 st) 57) := by rw [hW0]; exact old_alloc _ (heap_new w1 _)
  have f1 : W0.heap[w1.heap.size + 1]? = some (.cells (av .u32 st) 57) := by rw [hW0, alloc_get, if_pos (by simp)]
  have f2 : W0.heap[w.heap.size + 1 + 1]? = some (.cells (av .u8 zeros64) 31) := by rw [hW0]; exact old_alloc _ (old_alloc _ hz1.out)
  have f3 : Below w.heap.size w W0 := by rw [hW0]; exact (hb2.out.alloc hb2.out.size _).alloc (by have := hb2.out.size; simp; omega) _
  have f4 : w.heap.size + 3 ≤ w1.heap.size := hsz.out
  rw [← hW0]
  clear hW0 hb2 hz1
  have F0 := Lib.hid f0
  have F1 := Lib.hid f1
  have F2 := Lib.hid f2
  have F3 := Lib.hid f3
  have F4 := Lib.hid f4
  clear f0 f1 f2 f3 f4
  have L := Lib.hid (dblTo_length st)
  have B := Lib.hid (dblTo_w32 st h32.out)
  go_loopw [17] (fun v wr => ∃ j : Nat, j ≤ 10 ∧ v = .int .i64 j ∧ Rw .u32 (w1.heap.size + 1) 57 (dblTo st j) W0 wr) (fun v _ => 10 - (intOf v).toNat)
  case atStart => exact ⟨0, by omega, rfl, Rw.start F1.out⟩
  case round =>
    obtain ⟨j, hj, rfl, hw⟩ := hrel
    by_cases hj10 : j < 10
    · go_wp2_with fail
      refine (col_any (w1.heap.size + 1) 57 (dblTo st j) ((L.out j).trans hl.out) (B.out j) _ hw.row).mono ?_
      rintro e wa ⟨rfl, ha⟩
      go_wp2_with fail
      refine (slope_any (w1.heap.size + 1) 57 (colTo (dblTo st j) 4) ((colTo_length _ 4).trans ((L.out j).trans hl.out)) (colTo_w32 _ (B.out j) 4) _ ha.row).mono ?_
      rintro e wb ⟨rfl, hb⟩
      go_wp2
      go_roundw
      case rel => exact ⟨j + 1, by omega, by go_num, (hw.trans ha).trans hb⟩
      case measure => simp [intOf]; omega
    · obtain rfl : j = 10 := by omega
      have g8 := hw.row
      have s57d : Hid ((Try.prog.info? 57).map (·.size) = some (av .u32 (dblTo st 10)).size) := by rw [Hid, av_size, L.out, hl.out]; kernel_rfl
      go_wp2_with (first
        | (refine wpList_alloc_as rfl 31 rfl (av .u8 zeros64) hz.out ?_)
        | (refine wpList_load_row_if rfl 57 _ rfl _ rfl 57 _ (0, 0) _ (old_alloc _ g8) Try.underlying57 rfl s57d.out ?_))
      obtain ⟨ob, hob⟩ : ∃ ob, wr.heap.size = ob := ⟨_, rfl⟩
      rw [hob]
      have hS : Hid ((dblTo st 10).length = 16) := (L.out 10).trans hl.out
      have hO : Hid (OutI (dblTo st 10) st w w1.heap.size ob 0 (wr.alloc (.cells (av .u8 zeros64) 31))) := by
        have z := hw.size
        subst hob
        refine ⟨?_, ?_, ?_, ?_⟩
        · rw [alloc_get, if_neg (by have := F0.out; have := (Array.getElem?_eq_some_iff.1 this).1; omega), hw.oth _ (by omega)]; exact F0.out
        · rw [alloc_get, if_pos rfl]; rfl
        · rw [alloc_get, if_neg (by have := F2.out; have := (Array.getElem?_eq_some_iff.1 this).1; omega), hw.oth _ (by have := F4.out; omega)]; exact F2.out
        · exact (F3.out.trans (hw.below (by have := F4.out; omega))).alloc (by rw [z]; exact F3.out.size) _
      have hsz2 : w1.heap.size + 2 ≤ ob := by
        have h1 := (Array.getElem?_eq_some_iff.1 F1.out).1
        have := hw.size
        omega
      have hlo : Hid (w.heap.size ≤ ob) := by have := F4.out; rw [Hid]; omega
      have hne1 : Hid (w1.heap.size ≠ ob) := by rw [Hid]; omega
      have hne2 : Hid (w.heap.size + 1 + 1 ≠ ob) := by have := F4.out; rw [Hid]; omega
      clear hsz2 hob
      go_loopw [23] (fun v W => ∃ i : Nat, i ≤ 16 ∧ v = .int .i64 i ∧ OutI (dblTo st 10) st w w1.heap.size ob i W) (fun v _ => 16 - (intOf v).toNat)
      case atStart => exact ⟨0, by omega, rfl, hO.out⟩
      case round =>
      obtain ⟨i, hi, rfl, hq⟩ := hrel
      by_cases hi16 : i < 16
      · obtain ⟨x, hX⟩ : ∃ x, Hid ((dblTo st 10).getD i 0 = x) := ⟨_, rfl⟩
        obtain ⟨y, hY⟩ : ∃ y, Hid (st.getD i 0 = y) := ⟨_, rfl⟩
        have hsm : ((x : Int) + (y : Int)) % 4294967296 = (sm x y : Nat) := sm_int x y
        obtain ⟨z, hZ⟩ : ∃ z, sm x y = z := ⟨_, rfl⟩
        rw [hZ] at hsm
        have hZ2 := Lib.hid hZ
        have e4 : IntKind.i64.wrap (4 * (i : Int)) = 4 * (i : Int) := by rw [IntKind.wrap_i64]; omega
        have e5 : IntKind.u32.wrap ((x : Int) + (y : Int)) = (z : Int) := by rw [IntKind.wrap_u32]; exact hsm
        have i6 : ¬ 64 = 4 * i := by omega
        have i1 : (0 : Int) ≤ 4 * (i : Int) := by omega
        have i2 : 4 * (i : Int) ≤ 64 := by omega
        have i3 : (4 * (i : Int)).toNat = 4 * i := by omega
        have i4 : (0 : Int) ≤ (i : Int) := by omega
        have i5 : (i : Int) < 16 := by omega
        have hrd : Hid (∀ W, OutI (dblTo st 10) st w w1.heap.size ob i W → W.cell? ⟨w1.heap.size, i, none⟩ = some (.int .u32 (y : Int))) := fun W h => by
          rw [cell_of_row _ _ _ _ _ _ h.f, av_get _ _ _ (by rw [hl.out]; exact hi16), hY.out]
        clear hZ
        go_wp2_with fail
        rw [run_index_av 57 22 16 .u32 .u32 (dblTo st 10) i Try.underlying57 Try.underlying22 (by kernel_rfl) hS.out hi16 _, hX.out]
        go_wp2_with fail
        refine wp_region_calm_g (fun s W => OutI (dblTo st 10) st w w1.heap.size ob (i + s) W) [0,0,0,0,0,0,1,0,2] (by kernel_rfl) (by kernel_rfl) (by kernel_rfl) ⟨hq.f, hq.o, hq.r, hq.b.drew⟩ ?_
        refine wpG_plain (.int .i64 (i : Int)) rfl (fun t' w' hI K hK => ?_) ?_
        · go_simp
          exact hK _ hI
        simp only [Act.put, List.setIfInBounds_toArray, List.set_cons_succ, List.set_cons_zero]
        refine wpG_plain (.int .i64 (4 * (i : Int))) rfl (fun t' w' hI K hK => ?_) ?_
        · go_simp
          exact hK _ hI
        simp only [Act.put, List.setIfInBounds_toArray, List.set_cons_succ, List.set_cons_zero]
        refine wpG_plain (.slice (some ⟨ob, 4 * i, none⟩) (64 - 4 * i) (64 - 4 * i)) rfl (fun t' w' hI K hK => ?_) ?_
        · go_simp
          exact hK _ hI
        simp only [Act.put, List.setIfInBounds_toArray, List.set_cons_succ, List.set_cons_zero]
        refine wpG_plain (.int .u32 (x : Int)) rfl (fun t' w' hI K hK => ?_) ?_
        · go_simp
          exact hK _ hI
        simp only [Act.put, List.setIfInBounds_toArray, List.set_cons_succ, List.set_cons_zero]
        refine wpG_plain (.int .i64 (i : Int)) rfl (fun t' w' hI K hK => ?_) ?_
        · go_simp
          exact hK _ hI
        simp only [Act.put, List.setIfInBounds_toArray, List.set_cons_succ, List.set_cons_zero]
        refine wpG_plain (.pointer (some ⟨w1.heap.size, i, none⟩)) rfl (fun t' w' hI K hK => ?_) ?_
        · go_simp
          exact hK _ hI
        simp only [Act.put, List.setIfInBounds_toArray, List.set_cons_succ, List.set_cons_zero]
        refine wpG_read (.int .u32 (y : Int)) rfl (fun w' hI K hK => ?_) ?_
        · have cw := hrd.out w' hI
          go_simp
          exact hK _ hI
        simp only [Act.put, List.setIfInBounds_toArray, List.set_cons_succ, List.set_cons_zero]
        refine wpG_plain (.int .u32 (z : Int)) rfl (fun t' w' hI K hK => ?_) ?_
        · go_simp
          exact hK _ hI
        simp only [Act.put, List.setIfInBounds_toArray, List.set_cons_succ, List.set_cons_zero]
        refine wpG_write (.tuple #[]) rfl (fun w' hI K hK => ?_) ?_
        · go_simp
          refine (put_any ob 31 (4 * i) (64 - 4 * i) (64 - 4 * i) z (outTo (dblTo st 10) st i) (by rw [outTo_length]; omega) (by omega) w' hI.o).mono ?_
          rintro e w'' ⟨rfl, hr⟩
          refine ⟨_, rfl, hK _ ?_⟩
          refine ⟨?_, ?_, ?_, hI.b.trans (hr.below hlo.out)⟩
          · rw [hr.oth _ hne1.out]; exact hI.f
          · rw [hr.row, ← hZ2.out, ← hX.out, ← hY.out]; rfl
          · rw [hr.oth _ hne2.out]; exact hI.r
        simp only [Act.put, List.setIfInBounds_toArray, List.set_cons_succ, List.set_cons_zero]
        refine wpG_nil fun w' hI => ?_
        clear e4 e5 hsm i6
        go_wp2
        go_roundw
        case rel => exact ⟨i + 1, by omega, by go_num, hI⟩
        case measure => simp [intOf]; omega
      · obtain rfl : i = 16 := by omega
        have s31 : Hid ((Try.prog.info? 31).map (·.size) = some (av .u8 (outTo (dblTo st 10) st 16)).size) := by rw [Hid, av_size, outTo_length]; kernel_rfl
        have s31e : Hid ((av .u8 zeros64).size = (av .u8 (outTo (dblTo st 10) st 16)).size) := by rw [Hid, av_size, av_size, outTo_length]; rfl
        have qo := hq.o
        have qr := hq.r
        go_wp2_with (first
          | (refine wpList_load_row_if rfl 31 _ rfl _ rfl 31 _ (0, 0) _ qo Try.underlying31 rfl s31.out ?_)
          | (refine wpList_store_row rfl 31 _ _ rfl _ _ rfl rfl 31 _ qr s31.out s31e.out (av_one _ _) ?_))
        refine bodyPost_ret (v := .agg (av .u8 (outTo (dblTo st 10) st 16))) ?_ rfl ⟨rfl, below_setRow hq.b (by omega) _⟩
        exact results_cell_row rfl _ _ (w.heap.size + 1 + 1) 31 _ (0, 0) _ rfl (setRow_heap _ _ _ _ _ _ qr) Try.underlying31 rfl s31.out
end Go.Proofs.Ythpjdgddpnpdpaa

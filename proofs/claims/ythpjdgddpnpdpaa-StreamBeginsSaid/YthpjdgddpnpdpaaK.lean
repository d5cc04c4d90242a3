/- Walks over cipher's reference: Xor. -/
import Derived.Test.YthpjdgddpnpdpaaJ
namespace Go.Proofs.Ythpjdgddpnpdpaa
open Go.RowKit

def outX (X : List Nat) (n i : Nat) : List Nat := X.take i ++ List.replicate (n - i) 0
theorem outX_length (X : List Nat) (n i : Nat) (h : X.length = n) (hi : i ≤ n) : (outX X n i).length = n := by simp [outX]; omega
theorem outX_set (X : List Nat) (n i : Nat) (h : X.length = n) (hi : i < n) : (outX X n i).set i (X.getD i 0) = outX X n (i + 1) := by
  have h1 : (X.take i).length = i := by simp; omega
  obtain ⟨d, hd⟩ : ∃ d, n - i = d + 1 := ⟨n - i - 1, by omega⟩
  have hd2 : n - (i + 1) = d := by omega
  rw [outX, outX, take_more X i (by omega), hd, hd2, List.set_append_right _ _ (by omega), h1, Nat.sub_self, List.replicate_succ, List.set_cons_zero, List.append_assoc]
  rfl
theorem outX_full (X : List Nat) (n : Nat) (h : X.length = n) : outX X n n = X := by simp [outX, ← h]
/-- The world of a round. -/
structure YI (key nonce out bl : List Nat) (qb : Nat) (w W : World) : Prop where
  k : W.heap[w.heap.size]? = some (.cells (av .u8 key) 29)
  m : W.heap[w.heap.size + 1]? = some (.cells (av .u8 nonce) 30)
  o : W.heap[w.heap.size + 1 + 1]? = some (.cells (av .u8 out) 5)
  q : W.heap[qb]? = some (.cells (av .u8 bl) 31)
  b : Below w.heap.size w W
  l : w.heap.size + 1 + 1 < qb
theorem YI.drew {qb : Nat} {key nonce out bl : List Nat} {w W : World} (h : YI key nonce out bl qb w W) : YI key nonce out bl qb w W.drew := ⟨h.k, h.m, h.o, h.q, h.b.drew, h.l⟩
theorem YI.old {qb : Nat} {key nonce out bl : List Nat} {w W W' : World} (h : YI key nonce out bl qb w W) (hb : Below W.heap.size W W') : YI key nonce out bl qb w W' :=
  ⟨old_row hb (Array.getElem?_eq_some_iff.1 h.k).1 h.k, old_row hb (Array.getElem?_eq_some_iff.1 h.m).1 h.m, old_row hb (Array.getElem?_eq_some_iff.1 h.o).1 h.o, old_row hb (Array.getElem?_eq_some_iff.1 h.q).1 h.q, h.b.trans (hb.mono h.b.size), h.l⟩
theorem YI.store {qb : Nat} {key nonce out bl : List Nat} {w W : World} {i v : Nat} (h : YI key nonce out bl qb w W) : YI key nonce (out.set i v) bl qb w (W.setCell ⟨w.heap.size + 1 + 1, i, none⟩ (.int .u8 (v : Int))) :=
  ⟨by rw [heap_setCell_other _ _ _ _ (by simp; omega)]; exact h.k, by rw [heap_setCell_other _ _ _ _ (by simp)]; exact h.m, by rw [heap_setCell_same _ _ _ _ _ _ h.o, av_set], by have := h.l; rw [heap_setCell_other _ _ _ _ (by simp; omega)]; exact h.q, h.b.setCell (by simp; omega) _, h.l⟩
theorem YI.turn {qb : Nat} {key nonce out bl : List Nat} {w W : World} (bl' : List Nat) (h : YI key nonce out bl qb w W) : YI key nonce out bl' qb w (W.setRow qb (av .u8 bl')) := by
  have l := h.l
  exact ⟨by rw [setRow_other _ _ _ _ (by omega)]; exact h.k, by rw [setRow_other _ _ _ _ (by omega)]; exact h.m, by rw [setRow_other _ _ _ _ (by omega)]; exact h.o, setRow_heap _ _ _ _ _ _ h.q, below_setRow h.b (by omega) _, l⟩
theorem made_row {W : World} {base g n : Nat} (h : W.ownsRow base 5 1 (.slice (some ⟨g, 0, none⟩) n n) n (madeCells (Value.int .u8 0).cells (n * 1)).toList) : W.heap[g]? = some (.cells (av .u8 (List.replicate n 0)) 5) := by
  obtain ⟨_, h2⟩ := h
  rcases h2 with ⟨h2, _⟩ | ⟨g', cap, cur, h2, h3, h4, h5, h6, h7, h8⟩
  · cases h2
  · cases h2
    rw [h4]
    rw [Nat.mul_one] at h7 h8
    rw [List.take_of_length_le (by simp; omega)] at h8
    congr 2
    apply Array.ext'
    rw [h8]
    apply List.ext_getElem?
    intro j
    by_cases hj : j < n
    · simp [av, madeCells, Value.cells, hj, Nat.mod_one]
    · simp [av, madeCells, Value.cells, hj]

set_option maxRecDepth 100000 in
set_option maxHeartbeats 8000000 in
theorem refxor_any (key nonce bs : List Nat) (ctr : Nat) (hk : key.length = 32) (hn : nonce.length = 12) (hkb : W8 key) (hnb : W8 nonce) (x : Option Addr) (n c g o : Nat) (hx : 0 < n → x = some ⟨g, o, none⟩)
    (hl : bs.length = n) (hb : W8 bs) (hN : n ≤ 16777216) (w : World) (hg : 0 < n → g < w.heap.size) (hcell : ∀ t, t < n → w.cell? ⟨g, o + t, none⟩ = some (.int .u8 (bs.getD t 0 : Nat))) :
    Calls Try.prog 19 #[.agg (av .u8 key), .int .u32 ctr, .agg (av .u8 nonce), .slice x n c] w fun e w' =>
      e = .returned (.slice (some ⟨w.heap.size + 1 + 1, 0, none⟩) n n) ∧ w'.heap[w.heap.size + 1 + 1]? = some (.cells (av .u8 (xorN key ctr nonce bs)) 5) ∧ Below w.heap.size w w' := by
  obtain ⟨i0, hi, hz0, hz1, hz2⟩ := info_parts Try.info5
  obtain ⟨X, hX⟩ : ∃ X, Hid (∀ _ : Unit, xorN key ctr nonce bs = X) := ⟨_, fun _ => rfl⟩
  have hXl : Hid (∀ _ : Unit, X.length = n) := fun _ => by rw [← hX.out (), xorN_length, hl]
  have hXg : Hid (∀ j, j < n → X.getD j 0 = bs.getD j 0 ^^^ (blockN key ((ctr + j / 64) % 4294967296) nonce).getD (j % 64) 0) := fun j hj => by rw [← hX.out (), xorN_get _ _ _ _ _ (by omega)]
  rw [hX.out ()]
  clear hX
  have s29 : Hid ((Try.prog.info? 29).map (·.size) = some (av .u8 key).size) := by rw [Hid, av_size, hk]; kernel_rfl
  have s30 : Hid ((Try.prog.info? 30).map (·.size) = some (av .u8 nonce).size) := by rw [Hid, av_size, hn]; kernel_rfl
  have hb' : Hid (W8 bs) := hb
  have hbl := Lib.hid (fun cc hcc => refblock_any key nonce cc hk hn hkb hnb hcc)
  have hcell' := Lib.hid hcell
  have hg' := Lib.hid hg
  have hx' := Lib.hid hx
  clear hk hn hkb hnb hb hl hcell hg hx
  go_enter Try.func19, Try.ntmps19
  go_wp2_with (at_make; refine wpList_make_full _ rfl _ _ 36 rfl w.heap.size 5 i0 (.int .u8 0) 1 Try.underlying36 hi hz0 hz1 _ _ _ _ n rfl rfl rfl rfl ?b2 ?b3 (by simp; omega) ?_)
  case b2 => rw [hz2]; omega
  case b3 => unfold maxLen; omega
  intro w0 hown0 hgrow0
  have hb0 : Below w.heap.size w w0 := (((Below.refl _ _).alloc (Nat.le_refl _) _).alloc (by simp) _).grown hgrow0 (by simp; omega) (fun k h => by cases h)
  have hr0 : w0.heap[w.heap.size + 1 + 1]? = some (.cells (av .u8 (List.replicate n 0)) 5) := made_row (by simpa [Value.cells] using hown0)
  have hI0 : Hid (YI key nonce (outX X n 0) zeros64 w0.heap.size w (w0.alloc (.cells (av .u8 zeros64) 31))) := by
    have hlt := (Array.getElem?_eq_some_iff.1 hr0).1
    refine ⟨?_, ?_, old_alloc _ (by rw [hr0, outX]; rfl), by rw [alloc_get, if_pos rfl], hb0.alloc hb0.size _, by omega⟩
    · refine old_alloc _ ?_
      rw [hgrow0.block _ (by simp; omega) (by simp), alloc_get, if_neg (by simp), alloc_get, if_pos rfl]
    · refine old_alloc _ ?_
      rw [hgrow0.block _ (by simp) (by simp), alloc_get, if_pos (by simp)]
  clear hown0 hgrow0 hb0 hr0
  obtain ⟨qb, hqb⟩ : ∃ qb, Hid (∀ _ : Unit, w0.heap.size = qb) := ⟨_, fun _ => rfl⟩
  have hz : Hid ((Try.prog.info? 31).bind (·.zero) = some (.agg (av .u8 zeros64))) := by rw [Hid]; kernel_rfl
  have hbu : Hid (Try.prog.built 31 [] = some (av .u8 zeros64)) := by rw [Hid]; kernel_rfl
  have s31z : Hid ((Try.prog.info? 31).map (·.size) = some (av .u8 zeros64).size) := by rw [Hid]; kernel_rfl
  go_wp2_with (first
    | (refine wpList_build_as rfl 31 rfl (av .u8 zeros64) hbu.out ?_)
    | (refine wpList_alloc_as rfl 31 rfl (av .u8 zeros64) hz.out ?_)
    | (refine wpList_store_row rfl 31 _ _ rfl _ _ rfl rfl 31 _ (heap_new w0 _) s31z.out rfl (av_one _ _) ?_; rw [alloc_setRow]))
  rw [hqb.out ()] at hI0 ⊢
  clear hz hbu s31z hqb
  go_loopw [11] (fun c11 wr => ∃ (i : Nat) (bl : List Nat), i ≤ n ∧ c11 = .int .i64 i ∧ Hid (YI key nonce (outX X n i) bl qb w wr ∧ bl.length = 64 ∧ (i % 64 ≠ 0 → bl = blockN key ((ctr + i / 64) % 4294967296) nonce)))
    (fun c11 _ => n - (intOf c11).toNat)
  case atStart => exact ⟨0, zeros64, by omega, rfl, hI0.out, rfl, fun h => absurd rfl h⟩
  case round =>
  obtain ⟨i, bl, hin, rfl, hI⟩ := hrel
  clear hI0
  by_cases hi' : i < n
  · obtain rfl := hx'.out (by omega)
    obtain ⟨a, hA⟩ : ∃ a, Hid (∀ _ : Unit, bs.getD i 0 = a) := ⟨_, fun _ => rfl⟩
    have la : a < 256 := by rw [← hA.out ()]; exact hb'.out _
    obtain ⟨bk, hK⟩ : ∃ bk, Hid (∀ _ : Unit, blockN key ((ctr + i / 64) % 4294967296) nonce = bk) := ⟨_, fun _ => rfl⟩
    have hkl : Hid (∀ _ : Unit, bk.length = 64) := fun _ => by rw [← hK.out (), blockN_length]
    obtain ⟨b, hBb⟩ : ∃ b, Hid (∀ _ : Unit, bk.getD (i % 64) 0 = b) := ⟨_, fun _ => rfl⟩
    have lb : b < 256 := by rw [← hBb.out (), ← hK.out ()]; exact blockN_w8 _ _ _ _
    obtain ⟨z, hz⟩ : ∃ z, a ^^^ b = z := ⟨_, rfl⟩
    have hx8 : Hid (∀ _ : Unit, bits .xor .u8 (a : Int) (b : Int) = (z : Int)) := fun _ => by rw [u8_xor a b la lb, hz]
    have hzX : Hid (∀ _ : Unit, X.getD i 0 = z) := fun _ => by
      rw [hXg.out _ hi', hA.out (), hK.out (), hBb.out (), hz]
    have rA : Hid (∀ W bl', YI key nonce (outX X n i) bl' qb w W → W.cell? ⟨g, o + i, none⟩ = some (.int .u8 (a : Int))) := fun W bl' h => by
      rw [← hA.out ()]; exact (h.b.cell (p := ⟨g, o + i, none⟩) (hg'.out (by omega))).trans (hcell'.out _ hi')
    have rB : Hid (∀ W, YI key nonce (outX X n i) bk qb w W → W.cell? ⟨qb, i % 64, none⟩ = some (.int .u8 (b : Int))) := fun W h => by
      rw [cell_of_row _ _ _ _ _ _ h.q, av_get _ _ _ (by rw [hkl.out ()]; omega), hBb.out ()]
    have rO : Hid (∀ s W, YI key nonce (one (outX X n i) i z s) bk qb w W → ∃ v, W.cell? ⟨w.heap.size + 1 + 1, i, none⟩ = some v) := fun s W h =>
      ⟨_, by rw [cell_of_row _ _ _ _ _ _ h.o, av_get _ _ _ (by rw [one_length, outX_length _ _ _ (hXl.out ()) hin]; exact hi')]⟩
    have hS : Hid (∀ _ : Unit, (outX X n i).set i z = outX X n (i + 1)) := fun _ => by rw [← hzX.out (), outX_set _ _ _ (hXl.out ()) hi']
    clear hz la lb hA
    by_cases h64 : i % 64 = 0
    · obtain ⟨cnt, hC⟩ : ∃ cnt, Hid (∀ _ : Unit, (ctr + i / 64) % 4294967296 = cnt) := ⟨_, fun _ => rfl⟩
      have hcl : cnt < 4294967296 := by rw [← hC.out ()]; exact Nat.mod_lt _ (by decide)
      have e1 : ((ctr : Int) + (i : Int) / 64) % 4294967296 = (cnt : Int) := by have := hC.out (); omega
      have e2 : IntKind.u32.wrap ((ctr : Int) + (i : Int) / 64) = (cnt : Int) := by rw [IntKind.wrap_u32, e1]
      have hk' := hI.out.1.k
      have hm' := hI.out.1.m
      go_wp2_with (first
        | (refine wpList_load_row_if rfl 29 _ rfl _ rfl 29 _ (0, 0) _ hk' Try.underlying29 rfl s29.out ?_)
        | (refine wpList_load_row_if rfl 30 _ rfl _ rfl 30 _ (0, 0) _ hm' Try.underlying30 rfl s30.out ?_))
      refine (hbl.out cnt hcl _).mono ?_
      rintro e w1 ⟨rfl, hb1⟩
      have hK2 : Hid (∀ _ : Unit, blockN key cnt nonce = bk) := fun _ => by rw [← hC.out ()]; exact hK.out ()
      rw [hK2.out ()]
      have hI1 := Lib.hid (hI.out.1.old hb1)
      have hq1 := hI1.out.q
      have s31 : Hid ((Try.prog.info? 31).map (·.size) = some (av .u8 bk).size) := by rw [Hid, av_size, hkl.out ()]; kernel_rfl
      have s31e : Hid ((av .u8 bl).size = (av .u8 bk).size) := by rw [Hid, av_size, av_size, hkl.out (), hI.out.2.1]
      clear hk' hm' hb1 e1 e2 h64
      go_wp2_with (refine wpList_store_row rfl 31 _ _ rfl _ _ rfl rfl 31 _ hq1 s31.out s31e.out (av_one _ _) ?_)
      clear s31 s31e hq1
      have hJ : Hid (YI key nonce (outX X n i) bk qb w (w1.setRow qb (av .u8 bk))) := hI1.out.turn bk
      clear hI hI1
      have hi0 : (0 : Int) ≤ (i : Int) := by omega
      have hin' : (i : Int) < (n : Int) := by omega
      have hm0 : (0 : Int) ≤ (i : Int) % 64 := by omega
      have hm1 : (i : Int) % 64 < 64 := by omega
      have hm2 : ((i : Int) % 64).toNat = i % 64 := by omega
      go_wp2_with fail
      refine wp_region_calm_g (fun s W => YI key nonce (one (outX X n i) i z s) bk qb w W) [0,0,0,0,0,1,0,0,0,1,0,0,2] (by kernel_rfl) (by kernel_rfl) (by kernel_rfl) hJ.out.drew ?_
      refine wpG_plain (.slice (some ⟨w.heap.size + 1 + 1, 0, none⟩) n n) rfl (fun t' w' hI K hK => ?_) ?_
      · go_simp
        exact hK _ hI
      simp only [Act.put, List.setIfInBounds_toArray, List.set_cons_succ, List.set_cons_zero]
      refine wpG_plain (.int .i64 (i : Int)) rfl (fun t' w' hI K hK => ?_) ?_
      · go_simp
        exact hK _ hI
      simp only [Act.put, List.setIfInBounds_toArray, List.set_cons_succ, List.set_cons_zero]
      refine wpG_plain (.slice (some ⟨g, o, none⟩) n c) rfl (fun t' w' hI K hK => ?_) ?_
      · go_simp
        exact hK _ hI
      simp only [Act.put, List.setIfInBounds_toArray, List.set_cons_succ, List.set_cons_zero]
      refine wpG_plain (.int .i64 (i : Int)) rfl (fun t' w' hI K hK => ?_) ?_
      · go_simp
        exact hK _ hI
      simp only [Act.put, List.setIfInBounds_toArray, List.set_cons_succ, List.set_cons_zero]
      refine wpG_plain (.pointer (some ⟨g, o + i, none⟩)) rfl (fun t' w' hI K hK => ?_) ?_
      · go_simp
        exact hK _ hI
      simp only [Act.put, List.setIfInBounds_toArray, List.set_cons_succ, List.set_cons_zero]
      refine wpG_read (.int .u8 (a : Int)) rfl (fun w' hI K hK => ?_) ?_
      · have cw := rA.out w' _ hI
        go_simp
        exact hK _ hI
      simp only [Act.put, List.setIfInBounds_toArray, List.set_cons_succ, List.set_cons_zero]
      refine wpG_plain (.int .i64 (i : Int)) rfl (fun t' w' hI K hK => ?_) ?_
      · go_simp
        exact hK _ hI
      simp only [Act.put, List.setIfInBounds_toArray, List.set_cons_succ, List.set_cons_zero]
      refine wpG_plain (.int .i64 ((i : Int) % 64)) rfl (fun t' w' hI K hK => ?_) ?_
      · go_simp
        exact hK _ hI
      simp only [Act.put, List.setIfInBounds_toArray, List.set_cons_succ, List.set_cons_zero]
      refine wpG_plain (.pointer (some ⟨qb, i % 64, none⟩)) rfl (fun t' w' hI K hK => ?_) ?_
      · go_simp
        exact hK _ hI
      simp only [Act.put, List.setIfInBounds_toArray, List.set_cons_succ, List.set_cons_zero]
      refine wpG_read (.int .u8 (b : Int)) rfl (fun w' hI K hK => ?_) ?_
      · have cw := rB.out w' hI
        go_simp
        exact hK _ hI
      simp only [Act.put, List.setIfInBounds_toArray, List.set_cons_succ, List.set_cons_zero]
      refine wpG_plain (.int .u8 (z : Int)) rfl (fun t' w' hI K hK => ?_) ?_
      · have hx := hx8.out ()
        go_simp
        exact hK _ hI
      simp only [Act.put, List.setIfInBounds_toArray, List.set_cons_succ, List.set_cons_zero]
      refine wpG_plain (.pointer (some ⟨w.heap.size + 1 + 1, i, none⟩)) rfl (fun t' w' hI K hK => ?_) ?_
      · go_simp
        exact hK _ hI
      simp only [Act.put, List.setIfInBounds_toArray, List.set_cons_succ, List.set_cons_zero]
      refine wpG_store rfl (fun w' hI K hK => ?_) ?_
      · obtain ⟨v, cw⟩ := rO.out _ w' hI
        have fw : w'.frozen? ⟨w.heap.size + 1 + 1, i, none⟩ = false := frozen_of_row _ _ _ _ _ hI.o
        go_simp
        exact hK _ hI.store
      simp only [Act.put]
      refine wpG_nil fun w' hI => ?_
      have hI2 : Hid (YI key nonce (outX X n (i + 1)) bk qb w w') := by rw [Hid, ← hS.out ()]; exact hI
      clear hI hJ
      go_wp2
      go_roundw
      case rel => exact ⟨i + 1, bk, by omega, by go_num, hI2.out, hkl.out (), fun h => by rw [← hK.out ()]; congr 2; omega⟩
      case measure => simp [intOf]; omega
    · have hE : Hid (∀ _ : Unit, bl = bk) := fun _ => by rw [hI.out.2.2 h64, hK.out ()]
      have hJ : Hid (YI key nonce (outX X n i) bk qb w wr) := by rw [Hid, ← hE.out ()]; exact hI.out.1
      clear hI
      have hi0 : (0 : Int) ≤ (i : Int) := by omega
      have hin' : (i : Int) < (n : Int) := by omega
      have hm0 : (0 : Int) ≤ (i : Int) % 64 := by omega
      have hm1 : (i : Int) % 64 < 64 := by omega
      have hm2 : ((i : Int) % 64).toNat = i % 64 := by omega
      go_wp2_with fail
      refine wp_region_calm_g (fun s W => YI key nonce (one (outX X n i) i z s) bk qb w W) [0,0,0,0,0,1,0,0,0,1,0,0,2] (by kernel_rfl) (by kernel_rfl) (by kernel_rfl) hJ.out.drew ?_
      refine wpG_plain (.slice (some ⟨w.heap.size + 1 + 1, 0, none⟩) n n) rfl (fun t' w' hI K hK => ?_) ?_
      · go_simp
        exact hK _ hI
      simp only [Act.put, List.setIfInBounds_toArray, List.set_cons_succ, List.set_cons_zero]
      refine wpG_plain (.int .i64 (i : Int)) rfl (fun t' w' hI K hK => ?_) ?_
      · go_simp
        exact hK _ hI
      simp only [Act.put, List.setIfInBounds_toArray, List.set_cons_succ, List.set_cons_zero]
      refine wpG_plain (.slice (some ⟨g, o, none⟩) n c) rfl (fun t' w' hI K hK => ?_) ?_
      · go_simp
        exact hK _ hI
      simp only [Act.put, List.setIfInBounds_toArray, List.set_cons_succ, List.set_cons_zero]
      refine wpG_plain (.int .i64 (i : Int)) rfl (fun t' w' hI K hK => ?_) ?_
      · go_simp
        exact hK _ hI
      simp only [Act.put, List.setIfInBounds_toArray, List.set_cons_succ, List.set_cons_zero]
      refine wpG_plain (.pointer (some ⟨g, o + i, none⟩)) rfl (fun t' w' hI K hK => ?_) ?_
      · go_simp
        exact hK _ hI
      simp only [Act.put, List.setIfInBounds_toArray, List.set_cons_succ, List.set_cons_zero]
      refine wpG_read (.int .u8 (a : Int)) rfl (fun w' hI K hK => ?_) ?_
      · have cw := rA.out w' _ hI
        go_simp
        exact hK _ hI
      simp only [Act.put, List.setIfInBounds_toArray, List.set_cons_succ, List.set_cons_zero]
      refine wpG_plain (.int .i64 (i : Int)) rfl (fun t' w' hI K hK => ?_) ?_
      · go_simp
        exact hK _ hI
      simp only [Act.put, List.setIfInBounds_toArray, List.set_cons_succ, List.set_cons_zero]
      refine wpG_plain (.int .i64 ((i : Int) % 64)) rfl (fun t' w' hI K hK => ?_) ?_
      · go_simp
        exact hK _ hI
      simp only [Act.put, List.setIfInBounds_toArray, List.set_cons_succ, List.set_cons_zero]
      refine wpG_plain (.pointer (some ⟨qb, i % 64, none⟩)) rfl (fun t' w' hI K hK => ?_) ?_
      · go_simp
        exact hK _ hI
      simp only [Act.put, List.setIfInBounds_toArray, List.set_cons_succ, List.set_cons_zero]
      refine wpG_read (.int .u8 (b : Int)) rfl (fun w' hI K hK => ?_) ?_
      · have cw := rB.out w' hI
        go_simp
        exact hK _ hI
      simp only [Act.put, List.setIfInBounds_toArray, List.set_cons_succ, List.set_cons_zero]
      refine wpG_plain (.int .u8 (z : Int)) rfl (fun t' w' hI K hK => ?_) ?_
      · have hx := hx8.out ()
        go_simp
        exact hK _ hI
      simp only [Act.put, List.setIfInBounds_toArray, List.set_cons_succ, List.set_cons_zero]
      refine wpG_plain (.pointer (some ⟨w.heap.size + 1 + 1, i, none⟩)) rfl (fun t' w' hI K hK => ?_) ?_
      · go_simp
        exact hK _ hI
      simp only [Act.put, List.setIfInBounds_toArray, List.set_cons_succ, List.set_cons_zero]
      refine wpG_store rfl (fun w' hI K hK => ?_) ?_
      · obtain ⟨v, cw⟩ := rO.out _ w' hI
        have fw : w'.frozen? ⟨w.heap.size + 1 + 1, i, none⟩ = false := frozen_of_row _ _ _ _ _ hI.o
        go_simp
        exact hK _ hI.store
      simp only [Act.put]
      refine wpG_nil fun w' hI => ?_
      have hI2 : Hid (YI key nonce (outX X n (i + 1)) bk qb w w') := by rw [Hid, ← hS.out ()]; exact hI
      clear hI hJ
      go_wp2
      go_roundw
      case rel => exact ⟨i + 1, bk, by omega, by go_num, hI2.out, hkl.out (), fun h => by rw [← hK.out ()]; congr 2; omega⟩
      case measure => simp [intOf]; omega
  · obtain rfl : i = n := by omega
    go_wp2
    go_ret
    exact ⟨rfl, by have := hI.out.1.o; rw [outX_full _ _ (hXl.out ())] at this; exact this, hI.out.1.b⟩
end Go.Proofs.Ythpjdgddpnpdpaa

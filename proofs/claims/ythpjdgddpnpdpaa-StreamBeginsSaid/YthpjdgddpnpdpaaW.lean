/- Walks over stream: Vector, the reference's Vector, and Cells. -/
import Derived.Test.YthpjdgddpnpdpaaV
namespace Go.Proofs.Ythpjdgddpnpdpaa
open Go.RowKit

theorem Try.info22 : (Try.prog.info? 22).map (fun i => (i.zero, i.size, i.bytes)) = some (some (.int .u32 0), 1, 4) := by kernel_rfl
theorem made_row32 {W : World} {base g n : Nat} (h : W.ownsRow base 22 1 (.slice (some ⟨g, 0, none⟩) n n) n (madeCells (Value.int .u32 0).cells (n * 1)).toList) : W.heap[g]? = some (.cells (av .u32 (List.replicate n 0)) 22) := by
  obtain ⟨_, h2⟩ := h
  rcases h2 with ⟨h2, _⟩ | ⟨g', cap, cur, h2, h3, h4, h5, h6, h7, h8⟩
  · cases h2
  · cases h2
    rw [h4]
    rw [Nat.mul_one] at h7 h8
    rw [List.take_of_length_le (by simp; omega)] at h8
    congr 2
    apply Array.ext'
    rw [h8]
    apply List.ext_getElem?
    intro j
    by_cases hj : j < n
    · simp [av, madeCells, Value.cells, hj, Nat.mod_one]
    · simp [av, madeCells, Value.cells, hj]
/-- Numbers of bytes, so far as the bytes are in. -/
def shB (b i : Nat) : Nat := b * 2 ^ (8 * (i % 4)) % 4294967296
def vTo (B : List Nat) (M : Nat) : Nat → List Nat
  | 0 => List.replicate M 0
  | i + 1 => (vTo B M i).set (i / 4) ((vTo B M i).getD (i / 4) 0 ||| shB (B.getD i 0) i)
theorem vTo_length (B : List Nat) (M : Nat) : ∀ i, (vTo B M i).length = M
  | 0 => by simp [vTo]
  | i + 1 => by rw [vTo, List.length_set, vTo_length B M i]
theorem shB_lt (b i : Nat) : shB b i < 4294967296 := Nat.mod_lt _ (by decide)
theorem w32_rep (M : Nat) : W32 (List.replicate M 0) := fun i => by
  rw [List.getD, List.getElem?_replicate]
  split <;> decide
theorem vTo_w32 (B : List Nat) (M : Nat) : ∀ i, W32 (vTo B M i)
  | 0 => w32_rep M
  | i + 1 => w32_set _ _ _ (vTo_w32 B M i) (Nat.or_lt_two_pow (n := 32) (vTo_w32 B M i _) (shB_lt _ _))
/-- Numbers of bytes, number by number. -/
def rTo (B : List Nat) (M j : Nat) : List Nat := (List.range M).map fun q => if q < j then num B (4 * q) else 0
theorem rTo_length (B : List Nat) (M j : Nat) : (rTo B M j).length = M := by simp [rTo]
theorem rTo_get (B : List Nat) (M j q : Nat) (h : q < M) : (rTo B M j).getD q 0 = if q < j then num B (4 * q) else 0 := by simp [rTo, List.getD, h]
theorem rTo_set (B : List Nat) (M j : Nat) : (rTo B M j).set j (num B (4 * j)) = rTo B M (j + 1) := by
  apply List.ext_getElem
  · simp [rTo]
  · intro i h1 h2
    simp only [List.getElem_set, rTo, List.getElem_map, List.getElem_range]
    by_cases e : j = i
    · subst e; simp
    · rw [if_neg e]
      by_cases e2 : i < j
      · rw [if_pos e2, if_pos (by omega)]
      · rw [if_neg e2, if_neg (by omega)]
def vecN (s : List Nat) (tag M : Nat) : List Nat := rTo (bytesN s tag (4 * M)) M M
theorem vecN_length (s : List Nat) (tag M : Nat) : (vecN s tag M).length = M := rTo_length _ _ _
theorem or4 (b0 b1 b2 b3 : Nat) (h0 : b0 < 256) (h1 : b1 < 256) (h2 : b2 < 256) : (((0 ||| b0) ||| b1 * 256) ||| b2 * 65536) ||| b3 * 16777216 = b0 + b1 * 256 + b2 * 65536 + b3 * 16777216 := by
  rw [Nat.zero_or, Nat.or_comm b0, nat_join 8 (b1 * 256) b0 (by omega) (by omega), Nat.or_comm _ (b2 * 65536), nat_join 16 (b2 * 65536) _ (by omega) (by omega), Nat.or_comm _ (b3 * 16777216), nat_join 24 (b3 * 16777216) _ (by omega) (by omega)]
  omega
theorem vTo_four (B : List Nat) (M j : Nat) (hb : W8 B) (hj : j < M) (h0 : (vTo B M (4 * j)).getD j 0 = 0) : vTo B M (4 * (j + 1)) = (vTo B M (4 * j)).set j (num B (4 * j)) := by
  have l := vTo_length B M (4 * j)
  have b0 := hb (4 * j)
  have b1 := hb (4 * j + 1)
  have b2 := hb (4 * j + 2)
  have b3 := hb (4 * j + 3)
  have g : ∀ v, ((vTo B M (4 * j)).set j v).getD j 0 = v := fun v => getD_same _ _ _ (by omega)
  have s0 : shB (B.getD (4 * j) 0) (4 * j) = B.getD (4 * j) 0 := by rw [shB, show (4 * j) % 4 = 0 by omega]; omega
  have s1 : shB (B.getD (4 * j + 1) 0) (4 * j + 1) = B.getD (4 * j + 1) 0 * 256 := by rw [shB, show (4 * j + 1) % 4 = 1 by omega]; omega
  have s2 : shB (B.getD (4 * j + 2) 0) (4 * j + 2) = B.getD (4 * j + 2) 0 * 65536 := by rw [shB, show (4 * j + 2) % 4 = 2 by omega]; omega
  have s3 : shB (B.getD (4 * j + 3) 0) (4 * j + 3) = B.getD (4 * j + 3) 0 * 16777216 := by rw [shB, show (4 * j + 3) % 4 = 3 by omega]; omega
  have e : ∀ i, vTo B M (i + 1) = (vTo B M i).set (i / 4) ((vTo B M i).getD (i / 4) 0 ||| shB (B.getD i 0) i) := fun _ => rfl
  have e1 : vTo B M (4 * j + 1) = (vTo B M (4 * j)).set j (0 ||| B.getD (4 * j) 0) := by
    rw [e (4 * j), show (4 * j) / 4 = j by omega, h0, s0]
  have e2 : vTo B M (4 * j + 2) = (vTo B M (4 * j)).set j ((0 ||| B.getD (4 * j) 0) ||| B.getD (4 * j + 1) 0 * 256) := by
    rw [e (4 * j + 1), show (4 * j + 1) / 4 = j by omega, e1, g, List.set_set, s1]
  have e3 : vTo B M (4 * j + 3) = (vTo B M (4 * j)).set j (((0 ||| B.getD (4 * j) 0) ||| B.getD (4 * j + 1) 0 * 256) ||| B.getD (4 * j + 2) 0 * 65536) := by
    rw [e (4 * j + 2), show (4 * j + 2) / 4 = j by omega, e2, g, List.set_set, s2]
  show vTo B M (4 * j + 3 + 1) = _
  rw [e (4 * j + 3), show (4 * j + 3) / 4 = j by omega, e3, g, List.set_set, s3, or4 _ _ _ _ b0 b1 b2, num]
theorem vTo_eq (B : List Nat) (M : Nat) (hb : W8 B) : ∀ j, j ≤ M → vTo B M (4 * j) = rTo B M j
  | 0, _ => by
    show List.replicate M 0 = _
    apply List.ext_getElem
    · simp [rTo]
    · intro i h1 h2
      simp [rTo]
  | j + 1, h => by
    have ih := vTo_eq B M hb j (by omega)
    rw [vTo_four B M j hb (by omega) (by rw [ih, rTo_get _ _ _ _ (by omega), if_neg (by omega)]), ih, rTo_set]
theorem vTo_full (s : List Nat) (tag M : Nat) : vTo (bytesN s tag (4 * M)) M (4 * M) = vecN s tag M := vTo_eq _ _ (bytesN_w8 _ _ _) M (Nat.le_refl _)

/-- The world of a round: the bytes; the numbers. -/
structure VcI (B out : List Nat) (gb go : Nat) (w W : World) : Prop where
  x : W.heap[gb]? = some (.cells (av .u8 B) 5)
  o : W.heap[go]? = some (.cells (av .u32 out) 22)
  b : Below w.heap.size w W
  l : w.heap.size ≤ go
  ne : gb ≠ go
theorem VcI.drew {B out : List Nat} {gb go : Nat} {w W : World} (h : VcI B out gb go w W) : VcI B out gb go w W.drew := ⟨h.x, h.o, h.b.drew, h.l, h.ne⟩
theorem VcI.dr {B out : List Nat} {gb go : Nat} {w W W' : World} (h : VcI B out gb go w W) (d : Dr W W') : VcI B out gb go w W' := ⟨by rw [d.heap]; exact h.x, by rw [d.heap]; exact h.o, h.b.trans d.below, h.l, h.ne⟩
theorem VcI.store {B out out' : List Nat} {gb go i v : Nat} {w W : World} (h : VcI B out gb go w W) (e : out.set i v = out') : VcI B out' gb go w (W.setCell ⟨go, i, none⟩ (.int .u32 (v : Int))) :=
  ⟨by rw [heap_setCell_other _ _ _ _ (by simpa using h.ne)]; exact h.x, by rw [heap_setCell_same _ _ _ _ _ _ h.o, av_set, e], h.b.setCell h.l _, h.l, h.ne⟩
theorem shB_int (b i : Nat) : IntKind.u32.wrap ((b : Int) * 2 ^ (8 * ((i : Int) % 4)).toNat) = (shB b i : Nat) := by
  rw [IntKind.wrap_u32, shB, show (8 * ((i : Int) % 4)).toNat = 8 * (i % 4) by omega]
  generalize 8 * (i % 4) = k
  rw [Int.natCast_emod, Int.natCast_mul, Int.natCast_pow]
  rfl
set_option maxRecDepth 100000 in
set_option maxHeartbeats 8000000 in
theorem vector_any (key : List Nat) (tag : Nat) (n : Int) (M : Nat) (hk : key.length = 32) (hkb : W8 key) (ht : tag < 4294967296) (hn : Clamp n 256 M) (w : World) :
    Calls Try.prog 25 #[.agg (av .u8 key), .int .u32 tag, .int .i64 n] w fun e w' =>
      ∃ g, e = .returned (.slice (some ⟨g, 0, none⟩) M M) ∧ w'.heap[g]? = some (.cells (av .u32 (vecN key tag M)) 22) ∧ Below w.heap.size w w' := by
  obtain ⟨i0, hi0, hz0, hz1, hz2⟩ := info_parts Try.info22
  have sK : Hid ((Try.prog.info? 33).map (·.size) = some (av .u8 key).size) := by rw [Hid, av_size, hk]; kernel_rfl
  have hM : M ≤ 256 := by rcases hn with h | h | h <;> omega
  obtain ⟨B, hB⟩ : ∃ B, Hid (∀ _ : Unit, bytesN key tag (4 * M) = B) := ⟨_, fun _ => rfl⟩
  have hBl : Hid (∀ _ : Unit, B.length = 4 * M) := fun _ => by rw [← hB.out (), bytesN_length]
  have hBb : Hid (W8 B) := by rw [← hB.out ()]; exact bytesN_w8 _ _ _
  have hV : Hid (∀ _ : Unit, vTo B M (4 * M) = vecN key tag M) := fun _ => by rw [← hB.out ()]; exact vTo_full _ _ _
  rw [← hV.out ()]
  clear hV
  have H : Hid (∀ (n' : Int) W, n' = ((4 * M : Nat) : Int) → Calls Try.prog 23 #[.agg (av .u8 key), .int .u32 tag, .int .i64 n'] W fun e w' =>
      ∃ g, e = .returned (.slice (some ⟨g, 0, none⟩) (4 * M) (4 * M)) ∧ w'.heap[g]? = some (.cells (av .u8 B) 5) ∧ Below W.heap.size W w') := fun n' W hn' => by
    rw [← hB.out ()]
    exact bytes_any key tag n' (4 * M) hk hkb ht (.inr (.inl ⟨by omega, by omega, hn'.symm⟩)) W
  clear hB hk hkb ht
  rcases hn with h | h | h
  · obtain ⟨h1, rfl⟩ := h
    have hn1 : (n : Int) ≤ 0 := by omega
    have hx := heap_new w (.cells (av .u8 key) 33)
    go_enter Try.func25, Try.ntmps25
    go_wp2_with (refine wpList_load_row_if rfl 33 _ rfl _ rfl 33 _ (0, 0) _ hx Try.underlying33 rfl sK.out ?_)
    refine (H.out _ _ (by first | rfl | (push_cast; rfl) | omega)).mono ?_
    rintro e w1 ⟨gb, rfl, hr, hb1⟩
    have hb : Below w.heap.size w w1 := ((Below.refl _ _).alloc (Nat.le_refl _) _).trans (hb1.mono (by simp))
    clear hb1 H hx sK
    have hlb := (Array.getElem?_eq_some_iff.1 hr).1
    have hlw := hb.size
    go_wp2_with (at_make; refine wpList_make_full _ rfl _ _ 45 rfl w.heap.size 22 i0 (.int .u32 0) 1 Try.underlying45 hi0 hz0 hz1 _ _ _ _ 0 rfl rfl (by first | rfl | omega) (by first | rfl | omega) (by rw [hz2]; omega) (by unfold maxLen; omega) (by omega) ?_; intro w2 hown hgrow)
    have hI0 : Hid (VcI B (vTo B 0 0) gb w1.heap.size w w2) := by
      refine ⟨(hgrow.block _ hlb (by simp)).trans hr, made_row32 (by simpa [Value.cells] using hown), hb.grown hgrow hlw (fun k h => by cases h), hlw, by omega⟩
    clear hown hgrow hr hb hlb
    obtain ⟨go, hgo⟩ : ∃ go, w1.heap.size = go := ⟨_, rfl⟩
    rw [hgo] at hI0 ⊢
    clear hgo hlw
    go_loopw [24] (fun c24 wr => ∃ i : Nat, i ≤ 4 * 0 ∧ c24 = .int .i64 i ∧ Hid (VcI B (vTo B 0 i) gb go w wr)) (fun c24 _ => 4 * 0 - (intOf c24).toNat)
    case atStart => exact ⟨0, by omega, rfl, hI0.out⟩
    case round =>
    obtain ⟨i, hi, rfl, hI⟩ := hrel
    clear hI0
    by_cases him : i < 4 * 0
    · exact absurd him (by omega)
    · obtain rfl : i = 4 * 0 := by omega
      go_wp2
      go_ret
      exact ⟨go, rfl, hI.out.o, hI.out.b⟩
  · obtain ⟨h1, h2, rfl⟩ := h
    have hmax : ¬ (M : Int) < 0 := by omega
    have hmin : (M : Int) ≤ 256 := by omega
    have hmin2 : ¬ (256 : Int) < (M : Int) := by omega
    have hx := heap_new w (.cells (av .u8 key) 33)
    go_enter Try.func25, Try.ntmps25
    go_wp2_with (refine wpList_load_row_if rfl 33 _ rfl _ rfl 33 _ (0, 0) _ hx Try.underlying33 rfl sK.out ?_)
    refine (H.out _ _ (by first | rfl | (push_cast; rfl) | omega)).mono ?_
    rintro e w1 ⟨gb, rfl, hr, hb1⟩
    have hb : Below w.heap.size w w1 := ((Below.refl _ _).alloc (Nat.le_refl _) _).trans (hb1.mono (by simp))
    clear hb1 H hx sK
    have hlb := (Array.getElem?_eq_some_iff.1 hr).1
    have hlw := hb.size
    go_wp2_with (at_make; refine wpList_make_full _ rfl _ _ 45 rfl w.heap.size 22 i0 (.int .u32 0) 1 Try.underlying45 hi0 hz0 hz1 _ _ _ _ M rfl rfl (by first | rfl | omega) (by first | rfl | omega) (by rw [hz2]; omega) (by unfold maxLen; omega) (by omega) ?_; intro w2 hown hgrow)
    have hI0 : Hid (VcI B (vTo B M 0) gb w1.heap.size w w2) := by
      refine ⟨(hgrow.block _ hlb (by simp)).trans hr, made_row32 (by simpa [Value.cells] using hown), hb.grown hgrow hlw (fun k h => by cases h), hlw, by omega⟩
    clear hown hgrow hr hb hlb
    obtain ⟨go, hgo⟩ : ∃ go, w1.heap.size = go := ⟨_, rfl⟩
    rw [hgo] at hI0 ⊢
    clear hgo hlw
    go_loopw [24] (fun c24 wr => ∃ i : Nat, i ≤ 4 * M ∧ c24 = .int .i64 i ∧ Hid (VcI B (vTo B M i) gb go w wr)) (fun c24 _ => 4 * M - (intOf c24).toNat)
    case atStart => exact ⟨0, by omega, rfl, hI0.out⟩
    case round =>
    obtain ⟨i, hi, rfl, hI⟩ := hrel
    clear hI0
    by_cases him : i < 4 * M
    · obtain ⟨b, hb⟩ : ∃ b, Hid (∀ _ : Unit, B.getD i 0 = b) := ⟨_, fun _ => rfl⟩
      have lb : b < 256 := by rw [← hb.out ()]; exact hBb.out _
      obtain ⟨q, hq⟩ : ∃ q : Nat, i / 4 = q := ⟨_, rfl⟩
      have hqM : q < M := by omega
      obtain ⟨acc, hacc⟩ : ∃ acc, Hid (∀ _ : Unit, (vTo B M i).getD q 0 = acc) := ⟨_, fun _ => rfl⟩
      have la : acc < 4294967296 := by rw [← hacc.out ()]; exact vTo_w32 _ _ _ _
      obtain ⟨y, hy⟩ : ∃ y, Hid (∀ _ : Unit, shB b i = y) := ⟨_, fun _ => rfl⟩
      have ly : y < 4294967296 := by rw [← hy.out ()]; exact shB_lt _ _
      obtain ⟨z, hz⟩ : ∃ z, Hid (∀ _ : Unit, acc ||| y = z) := ⟨_, fun _ => rfl⟩
      have hor : Hid (bits .or .u32 (acc : Int) (y : Int) = (z : Int)) := by rw [Hid, u32_or _ _ la ly, hz.out ()]
      have hsh : Hid (IntKind.u32.wrap ((b : Int) * 2 ^ (8 * ((i : Int) % 4)).toNat) = (y : Int)) := by rw [Hid, shB_int, hy.out ()]
      have hS : Hid (∀ _ : Unit, (vTo B M i).set q z = vTo B M (i + 1)) := fun _ => by rw [vTo, hq, hacc.out (), hb.out (), hy.out (), hz.out ()]
      have cb : wr.cell? ⟨gb, i, none⟩ = some (.int .u8 (b : Int)) := by rw [cell_of_row _ _ _ _ _ _ hI.out.x, av_get _ _ _ (by rw [hBl.out ()]; exact him), hb.out ()]
      have hl : Hid (∀ s, (one (vTo B M i) q z s).length = M) := fun s => by rw [one_length, vTo_length]
      have rO : Hid (∀ W, VcI B (vTo B M i) gb go w W → W.cell? ⟨go, q, none⟩ = some (.int .u32 (acc : Int))) := fun W h => by rw [cell_of_row _ _ _ _ _ _ h.o, av_get _ _ _ (by rw [vTo_length]; exact hqM), hacc.out ()]
      have sO : Hid (∀ s W, VcI B (one (vTo B M i) q z s) gb go w W → ∃ v, W.cell? ⟨go, q, none⟩ = some v) := fun s W h => ⟨_, by rw [cell_of_row _ _ _ _ _ _ h.o, av_get _ _ _ (by rw [hl.out]; exact hqM)]⟩
      have i1 : (i : Int) < 4 * (M : Int) := by omega
      have i2 : (i : Int) / 4 = (q : Int) := by omega
      have i3 : (q : Int) < (M : Int) := by omega
      have w1 : IntKind.i64.wrap (q : Int) = (q : Int) := by rw [IntKind.wrap_i64]; omega
      have w2 : IntKind.u32.wrap (b : Int) = (b : Int) := by rw [IntKind.wrap_u32]; omega
      have w3 : IntKind.i64.wrap (8 * ((i : Int) % 4)) = 8 * ((i : Int) % 4) := by rw [IntKind.wrap_i64]; omega
      have i5 : (0 : Int) ≤ (i : Int) % 4 := by omega
      have i6 : (i : Int) % 4 < 4 := by omega
      clear hb hacc hy hz hq hl la ly
      go_wp2_with fail
      refine wp_region_calm_g (fun s W => VcI B (one (vTo B M i) q z s) gb go w W) [0,0,0,0,1,0,0,0,0,0,0,0,0,2] (by kernel_rfl) (by kernel_rfl) (by kernel_rfl) hI.out.drew ?_
      refine wpG_plain (.slice (some ⟨go, 0, none⟩) M M) rfl (fun t' w' hI K hK => ?_) ?_
      · go_simp
        exact hK _ hI
      simp only [Act.put, List.setIfInBounds_toArray, List.set_cons_succ, List.set_cons_zero]
      refine wpG_plain (.int .i64 (i : Int)) rfl (fun t' w' hI K hK => ?_) ?_
      · go_simp
        exact hK _ hI
      simp only [Act.put, List.setIfInBounds_toArray, List.set_cons_succ, List.set_cons_zero]
      refine wpG_plain (.int .i64 (q : Int)) rfl (fun t' w' hI K hK => ?_) ?_
      · go_simp
        exact hK _ hI
      simp only [Act.put, List.setIfInBounds_toArray, List.set_cons_succ, List.set_cons_zero]
      refine wpG_plain (.pointer (some ⟨go, q, none⟩)) rfl (fun t' w' hI K hK => ?_) ?_
      · go_simp
        exact hK _ hI
      simp only [Act.put, List.setIfInBounds_toArray, List.set_cons_succ, List.set_cons_zero]
      refine wpG_read (.int .u32 (acc : Int)) rfl (fun w' hI K hK => ?_) ?_
      · have cw := rO.out w' hI
        go_simp
        exact hK _ hI
      simp only [Act.put, List.setIfInBounds_toArray, List.set_cons_succ, List.set_cons_zero]
      refine wpG_plain (.int .u8 (b : Int)) rfl (fun t' w' hI K hK => ?_) ?_
      · go_simp
        exact hK _ hI
      simp only [Act.put, List.setIfInBounds_toArray, List.set_cons_succ, List.set_cons_zero]
      refine wpG_plain (.int .u32 (b : Int)) rfl (fun t' w' hI K hK => ?_) ?_
      · go_simp
        exact hK _ hI
      simp only [Act.put, List.setIfInBounds_toArray, List.set_cons_succ, List.set_cons_zero]
      refine wpG_plain (.int .i64 (i : Int)) rfl (fun t' w' hI K hK => ?_) ?_
      · go_simp
        exact hK _ hI
      simp only [Act.put, List.setIfInBounds_toArray, List.set_cons_succ, List.set_cons_zero]
      refine wpG_plain (.int .i64 ((i : Int) % 4)) rfl (fun t' w' hI K hK => ?_) ?_
      · go_simp
        exact hK _ hI
      simp only [Act.put, List.setIfInBounds_toArray, List.set_cons_succ, List.set_cons_zero]
      refine wpG_plain (.int .i64 (8 * ((i : Int) % 4))) rfl (fun t' w' hI K hK => ?_) ?_
      · go_simp
        exact hK _ hI
      simp only [Act.put, List.setIfInBounds_toArray, List.set_cons_succ, List.set_cons_zero]
      refine wpG_plain (.int .u32 (y : Int)) rfl (fun t' w' hI K hK => ?_) ?_
      · have hs := hsh.out
        go_simp
        exact hK _ hI
      simp only [Act.put, List.setIfInBounds_toArray, List.set_cons_succ, List.set_cons_zero]
      refine wpG_plain (.int .u32 (z : Int)) rfl (fun t' w' hI K hK => ?_) ?_
      · have ho := hor.out
        go_simp
        exact hK _ hI
      simp only [Act.put, List.setIfInBounds_toArray, List.set_cons_succ, List.set_cons_zero]
      refine wpG_plain (.pointer (some ⟨go, q, none⟩)) rfl (fun t' w' hI K hK => ?_) ?_
      · go_simp
        exact hK _ hI
      simp only [Act.put, List.setIfInBounds_toArray, List.set_cons_succ, List.set_cons_zero]
      refine wpG_store rfl (fun w' hI K hK => ?_) ?_
      · obtain ⟨v, cw⟩ := sO.out _ w' hI
        have fw : w'.frozen? ⟨go, q, none⟩ = false := frozen_of_row _ _ _ _ _ hI.o
        go_simp
        exact hK _ (hI.store rfl)
      simp only [Act.put]
      refine wpG_nil fun w' hI => ?_
      have hI2 : Hid (VcI B (vTo B M (i + 1)) gb go w w') := by rw [Hid, ← hS.out ()]; exact hI
      clear hI cb
      go_wp2
      go_roundw
      case rel => exact ⟨i + 1, by omega, by go_num, hI2⟩
      case measure => simp [intOf]; omega
    · obtain rfl : i = 4 * M := by omega
      go_wp2
      go_ret
      exact ⟨go, rfl, hI.out.o, hI.out.b⟩
  · obtain ⟨h1, rfl⟩ := h
    have hmin : ¬ n ≤ 256 := by omega
    have hmax2 : (0 : Int) ≤ n := by omega
    have h1' : (256 : Int) < n := by omega
    have hx := heap_new w (.cells (av .u8 key) 33)
    go_enter Try.func25, Try.ntmps25
    go_wp2_with (refine wpList_load_row_if rfl 33 _ rfl _ rfl 33 _ (0, 0) _ hx Try.underlying33 rfl sK.out ?_)
    refine (H.out _ _ (by first | rfl | (push_cast; rfl) | omega)).mono ?_
    rintro e w1 ⟨gb, rfl, hr, hb1⟩
    have hb : Below w.heap.size w w1 := ((Below.refl _ _).alloc (Nat.le_refl _) _).trans (hb1.mono (by simp))
    clear hb1 H hx sK
    have hlb := (Array.getElem?_eq_some_iff.1 hr).1
    have hlw := hb.size
    go_wp2_with (at_make; refine wpList_make_full _ rfl _ _ 45 rfl w.heap.size 22 i0 (.int .u32 0) 1 Try.underlying45 hi0 hz0 hz1 _ _ _ _ 256 rfl rfl (by first | rfl | omega) (by first | rfl | omega) (by rw [hz2]; omega) (by unfold maxLen; omega) (by omega) ?_; intro w2 hown hgrow)
    have hI0 : Hid (VcI B (vTo B 256 0) gb w1.heap.size w w2) := by
      refine ⟨(hgrow.block _ hlb (by simp)).trans hr, made_row32 (by simpa [Value.cells] using hown), hb.grown hgrow hlw (fun k h => by cases h), hlw, by omega⟩
    clear hown hgrow hr hb hlb
    obtain ⟨go, hgo⟩ : ∃ go, w1.heap.size = go := ⟨_, rfl⟩
    rw [hgo] at hI0 ⊢
    clear hgo hlw
    go_loopw [24] (fun c24 wr => ∃ i : Nat, i ≤ 4 * 256 ∧ c24 = .int .i64 i ∧ Hid (VcI B (vTo B 256 i) gb go w wr)) (fun c24 _ => 4 * 256 - (intOf c24).toNat)
    case atStart => exact ⟨0, by omega, rfl, hI0.out⟩
    case round =>
    obtain ⟨i, hi, rfl, hI⟩ := hrel
    clear hI0
    by_cases him : i < 4 * 256
    · obtain ⟨b, hb⟩ : ∃ b, Hid (∀ _ : Unit, B.getD i 0 = b) := ⟨_, fun _ => rfl⟩
      have lb : b < 256 := by rw [← hb.out ()]; exact hBb.out _
      obtain ⟨q, hq⟩ : ∃ q : Nat, i / 4 = q := ⟨_, rfl⟩
      have hqM : q < 256 := by omega
      obtain ⟨acc, hacc⟩ : ∃ acc, Hid (∀ _ : Unit, (vTo B 256 i).getD q 0 = acc) := ⟨_, fun _ => rfl⟩
      have la : acc < 4294967296 := by rw [← hacc.out ()]; exact vTo_w32 _ _ _ _
      obtain ⟨y, hy⟩ : ∃ y, Hid (∀ _ : Unit, shB b i = y) := ⟨_, fun _ => rfl⟩
      have ly : y < 4294967296 := by rw [← hy.out ()]; exact shB_lt _ _
      obtain ⟨z, hz⟩ : ∃ z, Hid (∀ _ : Unit, acc ||| y = z) := ⟨_, fun _ => rfl⟩
      have hor : Hid (bits .or .u32 (acc : Int) (y : Int) = (z : Int)) := by rw [Hid, u32_or _ _ la ly, hz.out ()]
      have hsh : Hid (IntKind.u32.wrap ((b : Int) * 2 ^ (8 * ((i : Int) % 4)).toNat) = (y : Int)) := by rw [Hid, shB_int, hy.out ()]
      have hS : Hid (∀ _ : Unit, (vTo B 256 i).set q z = vTo B 256 (i + 1)) := fun _ => by rw [vTo, hq, hacc.out (), hb.out (), hy.out (), hz.out ()]
      have cb : wr.cell? ⟨gb, i, none⟩ = some (.int .u8 (b : Int)) := by rw [cell_of_row _ _ _ _ _ _ hI.out.x, av_get _ _ _ (by rw [hBl.out ()]; exact him), hb.out ()]
      have hl : Hid (∀ s, (one (vTo B 256 i) q z s).length = 256) := fun s => by rw [one_length, vTo_length]
      have rO : Hid (∀ W, VcI B (vTo B 256 i) gb go w W → W.cell? ⟨go, q, none⟩ = some (.int .u32 (acc : Int))) := fun W h => by rw [cell_of_row _ _ _ _ _ _ h.o, av_get _ _ _ (by rw [vTo_length]; exact hqM), hacc.out ()]
      have sO : Hid (∀ s W, VcI B (one (vTo B 256 i) q z s) gb go w W → ∃ v, W.cell? ⟨go, q, none⟩ = some v) := fun s W h => ⟨_, by rw [cell_of_row _ _ _ _ _ _ h.o, av_get _ _ _ (by rw [hl.out]; exact hqM)]⟩
      have i1 : (i : Int) < 4 * 256 := by omega
      have i2 : (i : Int) / 4 = (q : Int) := by omega
      have i3 : (q : Int) < 256 := by omega
      have w1 : IntKind.i64.wrap (q : Int) = (q : Int) := by rw [IntKind.wrap_i64]; omega
      have w2 : IntKind.u32.wrap (b : Int) = (b : Int) := by rw [IntKind.wrap_u32]; omega
      have w3 : IntKind.i64.wrap (8 * ((i : Int) % 4)) = 8 * ((i : Int) % 4) := by rw [IntKind.wrap_i64]; omega
      have i5 : (0 : Int) ≤ (i : Int) % 4 := by omega
      have i6 : (i : Int) % 4 < 4 := by omega
      clear hb hacc hy hz hq hl la ly
      go_wp2_with fail
      refine wp_region_calm_g (fun s W => VcI B (one (vTo B 256 i) q z s) gb go w W) [0,0,0,0,1,0,0,0,0,0,0,0,0,2] (by kernel_rfl) (by kernel_rfl) (by kernel_rfl) hI.out.drew ?_
      refine wpG_plain (.slice (some ⟨go, 0, none⟩) 256 256) rfl (fun t' w' hI K hK => ?_) ?_
      · go_simp
        exact hK _ hI
      simp only [Act.put, List.setIfInBounds_toArray, List.set_cons_succ, List.set_cons_zero]
      refine wpG_plain (.int .i64 (i : Int)) rfl (fun t' w' hI K hK => ?_) ?_
      · go_simp
        exact hK _ hI
      simp only [Act.put, List.setIfInBounds_toArray, List.set_cons_succ, List.set_cons_zero]
      refine wpG_plain (.int .i64 (q : Int)) rfl (fun t' w' hI K hK => ?_) ?_
      · go_simp
        exact hK _ hI
      simp only [Act.put, List.setIfInBounds_toArray, List.set_cons_succ, List.set_cons_zero]
      refine wpG_plain (.pointer (some ⟨go, q, none⟩)) rfl (fun t' w' hI K hK => ?_) ?_
      · go_simp
        exact hK _ hI
      simp only [Act.put, List.setIfInBounds_toArray, List.set_cons_succ, List.set_cons_zero]
      refine wpG_read (.int .u32 (acc : Int)) rfl (fun w' hI K hK => ?_) ?_
      · have cw := rO.out w' hI
        go_simp
        exact hK _ hI
      simp only [Act.put, List.setIfInBounds_toArray, List.set_cons_succ, List.set_cons_zero]
      refine wpG_plain (.int .u8 (b : Int)) rfl (fun t' w' hI K hK => ?_) ?_
      · go_simp
        exact hK _ hI
      simp only [Act.put, List.setIfInBounds_toArray, List.set_cons_succ, List.set_cons_zero]
      refine wpG_plain (.int .u32 (b : Int)) rfl (fun t' w' hI K hK => ?_) ?_
      · go_simp
        exact hK _ hI
      simp only [Act.put, List.setIfInBounds_toArray, List.set_cons_succ, List.set_cons_zero]
      refine wpG_plain (.int .i64 (i : Int)) rfl (fun t' w' hI K hK => ?_) ?_
      · go_simp
        exact hK _ hI
      simp only [Act.put, List.setIfInBounds_toArray, List.set_cons_succ, List.set_cons_zero]
      refine wpG_plain (.int .i64 ((i : Int) % 4)) rfl (fun t' w' hI K hK => ?_) ?_
      · go_simp
        exact hK _ hI
      simp only [Act.put, List.setIfInBounds_toArray, List.set_cons_succ, List.set_cons_zero]
      refine wpG_plain (.int .i64 (8 * ((i : Int) % 4))) rfl (fun t' w' hI K hK => ?_) ?_
      · go_simp
        exact hK _ hI
      simp only [Act.put, List.setIfInBounds_toArray, List.set_cons_succ, List.set_cons_zero]
      refine wpG_plain (.int .u32 (y : Int)) rfl (fun t' w' hI K hK => ?_) ?_
      · have hs := hsh.out
        go_simp
        exact hK _ hI
      simp only [Act.put, List.setIfInBounds_toArray, List.set_cons_succ, List.set_cons_zero]
      refine wpG_plain (.int .u32 (z : Int)) rfl (fun t' w' hI K hK => ?_) ?_
      · have ho := hor.out
        go_simp
        exact hK _ hI
      simp only [Act.put, List.setIfInBounds_toArray, List.set_cons_succ, List.set_cons_zero]
      refine wpG_plain (.pointer (some ⟨go, q, none⟩)) rfl (fun t' w' hI K hK => ?_) ?_
      · go_simp
        exact hK _ hI
      simp only [Act.put, List.setIfInBounds_toArray, List.set_cons_succ, List.set_cons_zero]
      refine wpG_store rfl (fun w' hI K hK => ?_) ?_
      · obtain ⟨v, cw⟩ := sO.out _ w' hI
        have fw : w'.frozen? ⟨go, q, none⟩ = false := frozen_of_row _ _ _ _ _ hI.o
        go_simp
        exact hK _ (hI.store rfl)
      simp only [Act.put]
      refine wpG_nil fun w' hI => ?_
      have hI2 : Hid (VcI B (vTo B 256 (i + 1)) gb go w w') := by rw [Hid, ← hS.out ()]; exact hI
      clear hI cb
      go_wp2
      go_roundw
      case rel => exact ⟨i + 1, by omega, by go_num, hI2⟩
      case measure => simp [intOf]; omega
    · obtain rfl : i = 4 * 256 := by omega
      go_wp2
      go_ret
      exact ⟨go, rfl, hI.out.o, hI.out.b⟩
end Go.Proofs.Ythpjdgddpnpdpaa

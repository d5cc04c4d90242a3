/- StreamBegins: a shorter stream is the beginning of a longer one; numbers are its bytes. -/
import Derived.Test.YthpjdgddpnpdpaaS5
import Derived.Test.YthpjdgddpnpdpaaRow
namespace Go.Proofs.Ythpjdgddpnpdpaa
open Go.ChangeShapes Go.WideShapes Go.ChangeAt Go.RowKit

theorem bytesN_get (s : List Nat) (tag n j : Nat) (h : j < n) : (bytesN s tag n).getD j 0 = (blockN s ((0 + j / 64) % 4294967296) (nonceN tag)).getD (j % 64) 0 := by
  rw [bytesN, xorN_get _ _ _ _ _ (by rw [List.length_replicate]; exact h)]
  rw [show (List.replicate n 0).getD j 0 = 0 by rw [List.getD, List.getElem?_replicate, if_pos h]; rfl, Nat.zero_xor]
theorem bytesN_more (s : List Nat) (tag n k j : Nat) (h : j < n) : (bytesN s tag (n + k)).getD j 0 = (bytesN s tag n).getD j 0 := by
  rw [bytesN_get _ _ _ _ (by omega), bytesN_get _ _ _ _ h]
theorem bytesN_take (s : List Nat) (tag n k : Nat) : (bytesN s tag (n + k)).take n = bytesN s tag n := by
  apply List.ext_getElem
  · rw [List.length_take, bytesN_length, bytesN_length]; omega
  · intro j h1 h2
    have hj : j < n := by rw [bytesN_length] at h2; exact h2
    have h3 : j < (bytesN s tag (n + k)).length := by rw [bytesN_length]; omega
    have := bytesN_more s tag n k j hj
    simp only [List.getD, List.getElem?_eq_getElem h2, List.getElem?_eq_getElem h3, Option.getD_some] at this
    rw [List.getElem_take]
    exact this
theorem vecN_num (s : List Nat) (tag n m i : Nat) (h : i < m) : (vecN s tag m).getD i 0 = num (bytesN s tag (n + 4 * m)) (4 * i) := by
  rw [vecN, rTo_get _ _ _ _ h, if_pos h]
  have e : ∀ j, j < 4 * m → (bytesN s tag (4 * m)).getD j 0 = (bytesN s tag (n + 4 * m)).getD j 0 := fun j hj => by
    rw [bytesN_get _ _ _ _ hj, bytesN_get _ _ _ _ (by omega)]
  unfold num
  rw [e _ (by omega), e _ (by omega), e _ (by omega), e _ (by omega)]

structure BgI (A B V : List Nat) (g1 g2 g3 : Nat) (w W : World) : Prop where
  a : W.heap[g1]? = some (.cells (av .u8 A) 5)
  r : W.heap[g2]? = some (.cells (av .u8 B) 5)
  v : W.heap[g3]? = some (.cells (av .u32 V) 22)
  b : Below w.heap.size w W
theorem BgI.old {A B V : List Nat} {g1 g2 g3 : Nat} {w W W' : World} (h : BgI A B V g1 g2 g3 w W) (hb : Below W.heap.size W W') : BgI A B V g1 g2 g3 w W' :=
  ⟨old_row hb (Array.getElem?_eq_some_iff.1 h.a).1 h.a, old_row hb (Array.getElem?_eq_some_iff.1 h.r).1 h.r, old_row hb (Array.getElem?_eq_some_iff.1 h.v).1 h.v, h.b.trans (hb.mono h.b.size)⟩

set_option maxRecDepth 100000 in
set_option maxHeartbeats 8000000 in
theorem begins_walk (key : List Nat) (tag n m : Nat) (hk : key.length = 32) (hkb : W8 key) (ht : tag < 4294967296) (hn : n < 256) (hm : m < 256) (w : World) :
    Calls Try.prog 12 #[.agg (av .u8 key), .int .u32 tag, .int .u8 n, .int .u8 m] w fun e w' => e = .returned (.bool true) ∧ Below w.heap.size w w' := by
  have s29 : Hid ((Try.prog.info? 29).map (·.size) = some (av .u8 key).size) := by rw [Hid, av_size, hk]; kernel_rfl
  obtain ⟨L, hL⟩ : ∃ L, n + 4 * m = L := ⟨_, rfl⟩
  have H1 := Lib.hid (fun w => bytes_any key tag (n : Int) n hk hkb ht (.inr (.inl ⟨by omega, by omega, rfl⟩)) w)
  have H2 := Lib.hid (fun w => bytes_any key tag (L : Int) L hk hkb ht (.inr (.inl ⟨by omega, by omega, rfl⟩)) w)
  have H3 := Lib.hid (fun w => vector_any key tag (m : Int) m hk hkb ht (.inr (.inl ⟨by omega, by omega, rfl⟩)) w)
  obtain ⟨A, hA⟩ : ∃ A, bytesN key tag n = A := ⟨_, rfl⟩
  obtain ⟨B, hB⟩ : ∃ B, bytesN key tag L = B := ⟨_, rfl⟩
  obtain ⟨V, hV⟩ : ∃ V, vecN key tag m = V := ⟨_, rfl⟩
  have hAl : Hid (∀ _ : Unit, A.length = n) := fun _ => by rw [← hA, bytesN_length]
  have hBl : Hid (∀ _ : Unit, B.length = L) := fun _ => by rw [← hB, bytesN_length]
  have hVl : Hid (∀ _ : Unit, V.length = m) := fun _ => by rw [← hV, vecN_length]
  have hBb : Hid (W8 B) := by rw [← hB]; exact bytesN_w8 _ _ _
  have hBA : Hid (∀ _ : Unit, B.take n = A) := fun _ => by rw [← hB, ← hA, ← hL, bytesN_take]
  have hVn : Hid (∀ i, i < m → V.getD i 0 = num B (4 * i)) := fun i hi => by rw [← hV, ← hB, ← hL, vecN_num _ _ n m i hi]
  rw [hA] at H1
  rw [hB] at H2
  rw [hV] at H3
  clear hA hB hV hk hkb ht
  obtain ⟨S, hS⟩ : ∃ S, Hid (∀ _ : Unit, strN A = S) := ⟨_, fun _ => rfl⟩
  have hI0 : Hid (ByI 29 key w [] (w.alloc (.cells (av .u8 key) 29))) := ⟨heap_new w _, (Below.refl _ _).alloc (Nat.le_refl _) _, fun p hp => by cases hp⟩
  have a1 : (n : Int) < 256 := by omega
  have a2 : (m : Int) < 256 := by omega
  have a3 : (n : Int) + 4 * (m : Int) = (L : Int) := by omega
  have a4 : (L : Int) < 2000 := by omega
  have w1 : IntKind.i64.wrap (n : Int) = (n : Int) := by rw [IntKind.wrap_i64]; omega
  have w2 : IntKind.i64.wrap (m : Int) = (m : Int) := by rw [IntKind.wrap_i64]; omega
  have w3 : IntKind.i64.wrap (4 * (m : Int)) = 4 * (m : Int) := by rw [IntKind.wrap_i64]; omega
  have w4 : IntKind.i64.wrap (L : Int) = (L : Int) := by rw [IntKind.wrap_i64]; omega
  have hnL : Hid (n ≤ L) := by rw [Hid]; omega
  have hmL : Hid (4 * m ≤ L) := by rw [Hid]; omega
  have hLs := Lib.hid hL
  clear hL
  go_enter Try.func12, Try.ntmps12
  have qx := hI0.out.x
  go_wp2_with (refine wpList_load_row_if rfl 29 _ rfl _ rfl 29 _ (0, 0) _ qx Try.underlying29 rfl s29.out ?_)
  refine (H1.out _).mono ?_
  rintro e W1 ⟨g1, rfl, hr1, hb1⟩
  have hI1 : Hid (ByI 29 key w [(g1, A)] W1) := hI0.out.more hb1 hr1
  clear hI0 hb1 hr1 qx H1
  have qx := hI1.out.x
  go_wp2_with (refine wpList_load_row_if rfl 29 _ rfl _ rfl 29 _ (0, 0) _ qx Try.underlying29 rfl s29.out ?_)
  refine (H2.out _).mono ?_
  rintro e W2 ⟨g2, rfl, hr2, hb2⟩
  have hI2 : Hid (ByI 29 key w [(g2, B), (g1, A)] W2) := hI1.out.more hb2 hr2
  clear hI1 hb2 hr2 qx H2
  have qx := hI2.out.x
  go_wp2_with (refine wpList_load_row_if rfl 29 _ rfl _ rfl 29 _ (0, 0) _ qx Try.underlying29 rfl s29.out ?_)
  refine (H3.out _).mono ?_
  rintro e W3 ⟨g3, rfl, hr3, hb3⟩
  have hI3 : Hid (BgI A B V g1 g2 g3 w W3) := by
    have h := hI2.out.old hb3
    exact ⟨h.rows (g1, A) (by simp), h.rows (g2, B) (by simp), hr3, h.b⟩
  clear hI2 hb3 hr3 qx H3 s29
  have V1 : Hid (∀ W, BgI A B V g1 g2 g3 w W → (convert 36 9 (.slice (some ⟨g1, 0, none⟩) n n)).run Try.prog W = .ok (.string S) W) := fun W h => by
    rw [← hS.out ()]; exact row_string n (hAl.out ()) h.a
  have V2 : Hid (∀ W, BgI A B V g1 g2 g3 w W → (convert 36 9 (.slice (some ⟨g2, 0, none⟩) n L)).run Try.prog W = .ok (.string S) W) := fun W h => by
    rw [← hS.out ()]
    exact run_string 36 9 5 Try.underlying36 Try.underlying5 Try.underlying9 _ n L g2 0 A (hAl.out ()) (fun _ => rfl) (fun i hi => by
      rw [Nat.zero_add, cell_of_row _ _ _ _ _ _ h.r, av_get _ _ _ (by rw [hBl.out ()]; have := hnL.out; omega), ← hBA.out (), take_getD _ _ _ hi])
  go_wp2_with fail
  refine wp_region_calm (BgI A B V g1 g2 g3 w) (by kernel_rfl) (by kernel_rfl) (hI3.out.old (Below.refl _ _).drew) ?_
  refine wpCalm_step (.bool true) rfl (fun w' hI K hK => ?_) ?_
  · go_simp
    refine (awake5_any w').mono ?_
    rintro e w'' ⟨rfl, hb⟩
    exact ⟨_, rfl, hK _ (hI.old hb)⟩
  simp only [Act.put, List.setIfInBounds_toArray, List.set_cons_succ, List.set_cons_zero]
  refine wpCalm_step (.bool false) rfl (fun w' hI K hK => ?_) ?_
  · go_simp
    exact hK _ hI
  simp only [Act.put, List.setIfInBounds_toArray, List.set_cons_succ, List.set_cons_zero]
  refine wpCalm_step (.bool false) rfl (fun w' hI K hK => ?_) ?_
  · go_simp
    exact hK _ hI
  simp only [Act.put, List.setIfInBounds_toArray, List.set_cons_succ, List.set_cons_zero]
  refine wpCalm_step (.slice (some ⟨g1, 0, none⟩) n n) rfl (fun w' hI K hK => ?_) ?_
  · go_simp
    exact hK _ hI
  simp only [Act.put, List.setIfInBounds_toArray, List.set_cons_succ, List.set_cons_zero]
  refine wpCalm_step (.int .i64 (n : Int)) rfl (fun w' hI K hK => ?_) ?_
  · go_simp
    exact hK _ hI
  simp only [Act.put, List.setIfInBounds_toArray, List.set_cons_succ, List.set_cons_zero]
  refine wpCalm_step (.int .u8 (n : Int)) rfl (fun w' hI K hK => ?_) ?_
  · go_simp
    exact hK _ hI
  simp only [Act.put, List.setIfInBounds_toArray, List.set_cons_succ, List.set_cons_zero]
  refine wpCalm_step (.int .i64 (n : Int)) rfl (fun w' hI K hK => ?_) ?_
  · go_simp
    exact hK _ hI
  simp only [Act.put, List.setIfInBounds_toArray, List.set_cons_succ, List.set_cons_zero]
  refine wpCalm_step (.bool false) rfl (fun w' hI K hK => ?_) ?_
  · go_simp
    exact hK _ hI
  simp only [Act.put, List.setIfInBounds_toArray, List.set_cons_succ, List.set_cons_zero]
  refine wpCalm_step (.bool false) rfl (fun w' hI K hK => ?_) ?_
  · go_simp
    exact hK _ hI
  simp only [Act.put, List.setIfInBounds_toArray, List.set_cons_succ, List.set_cons_zero]
  refine wpCalm_step (.bool false) rfl (fun w' hI K hK => ?_) ?_
  · go_simp
    exact hK _ hI
  simp only [Act.put, List.setIfInBounds_toArray, List.set_cons_succ, List.set_cons_zero]
  refine wpCalm_step (.slice (some ⟨g2, 0, none⟩) L L) rfl (fun w' hI K hK => ?_) ?_
  · go_simp
    exact hK _ hI
  simp only [Act.put, List.setIfInBounds_toArray, List.set_cons_succ, List.set_cons_zero]
  refine wpCalm_step (.int .i64 (L : Int)) rfl (fun w' hI K hK => ?_) ?_
  · go_simp
    exact hK _ hI
  simp only [Act.put, List.setIfInBounds_toArray, List.set_cons_succ, List.set_cons_zero]
  refine wpCalm_step (.int .u8 (n : Int)) rfl (fun w' hI K hK => ?_) ?_
  · go_simp
    exact hK _ hI
  simp only [Act.put, List.setIfInBounds_toArray, List.set_cons_succ, List.set_cons_zero]
  refine wpCalm_step (.int .i64 (n : Int)) rfl (fun w' hI K hK => ?_) ?_
  · go_simp
    exact hK _ hI
  simp only [Act.put, List.setIfInBounds_toArray, List.set_cons_succ, List.set_cons_zero]
  refine wpCalm_step (.int .u8 (m : Int)) rfl (fun w' hI K hK => ?_) ?_
  · go_simp
    exact hK _ hI
  simp only [Act.put, List.setIfInBounds_toArray, List.set_cons_succ, List.set_cons_zero]
  refine wpCalm_step (.int .i64 (m : Int)) rfl (fun w' hI K hK => ?_) ?_
  · go_simp
    exact hK _ hI
  simp only [Act.put, List.setIfInBounds_toArray, List.set_cons_succ, List.set_cons_zero]
  refine wpCalm_step (.int .i64 (4 * (m : Int))) rfl (fun w' hI K hK => ?_) ?_
  · go_simp
    exact hK _ hI
  simp only [Act.put, List.setIfInBounds_toArray, List.set_cons_succ, List.set_cons_zero]
  refine wpCalm_step (.int .i64 (L : Int)) rfl (fun w' hI K hK => ?_) ?_
  · go_simp
    exact hK _ hI
  simp only [Act.put, List.setIfInBounds_toArray, List.set_cons_succ, List.set_cons_zero]
  refine wpCalm_step (.bool false) rfl (fun w' hI K hK => ?_) ?_
  · go_simp
    exact hK _ hI
  simp only [Act.put, List.setIfInBounds_toArray, List.set_cons_succ, List.set_cons_zero]
  refine wpCalm_step (.bool false) rfl (fun w' hI K hK => ?_) ?_
  · go_simp
    exact hK _ hI
  simp only [Act.put, List.setIfInBounds_toArray, List.set_cons_succ, List.set_cons_zero]
  refine wpCalm_step (.bool false) rfl (fun w' hI K hK => ?_) ?_
  · go_simp
    exact hK _ hI
  simp only [Act.put, List.setIfInBounds_toArray, List.set_cons_succ, List.set_cons_zero]
  refine wpCalm_step (.slice (some ⟨g3, 0, none⟩) m m) rfl (fun w' hI K hK => ?_) ?_
  · go_simp
    exact hK _ hI
  simp only [Act.put, List.setIfInBounds_toArray, List.set_cons_succ, List.set_cons_zero]
  refine wpCalm_step (.int .i64 (m : Int)) rfl (fun w' hI K hK => ?_) ?_
  · go_simp
    exact hK _ hI
  simp only [Act.put, List.setIfInBounds_toArray, List.set_cons_succ, List.set_cons_zero]
  refine wpCalm_step (.int .u8 (m : Int)) rfl (fun w' hI K hK => ?_) ?_
  · go_simp
    exact hK _ hI
  simp only [Act.put, List.setIfInBounds_toArray, List.set_cons_succ, List.set_cons_zero]
  refine wpCalm_step (.int .i64 (m : Int)) rfl (fun w' hI K hK => ?_) ?_
  · go_simp
    exact hK _ hI
  simp only [Act.put, List.setIfInBounds_toArray, List.set_cons_succ, List.set_cons_zero]
  refine wpCalm_step (.bool false) rfl (fun w' hI K hK => ?_) ?_
  · go_simp
    exact hK _ hI
  simp only [Act.put, List.setIfInBounds_toArray, List.set_cons_succ, List.set_cons_zero]
  refine wpCalm_step (.bool false) rfl (fun w' hI K hK => ?_) ?_
  · go_simp
    exact hK _ hI
  simp only [Act.put, List.setIfInBounds_toArray, List.set_cons_succ, List.set_cons_zero]
  refine wpCalm_step (.bool false) rfl (fun w' hI K hK => ?_) ?_
  · go_simp
    exact hK _ hI
  simp only [Act.put, List.setIfInBounds_toArray, List.set_cons_succ, List.set_cons_zero]
  refine wpCalm_step (.slice (some ⟨g2, 0, none⟩) L L) rfl (fun w' hI K hK => ?_) ?_
  · go_simp
    exact hK _ hI
  simp only [Act.put, List.setIfInBounds_toArray, List.set_cons_succ, List.set_cons_zero]
  refine wpCalm_step (.int .u8 (n : Int)) rfl (fun w' hI K hK => ?_) ?_
  · go_simp
    exact hK _ hI
  simp only [Act.put, List.setIfInBounds_toArray, List.set_cons_succ, List.set_cons_zero]
  refine wpCalm_step (.slice (some ⟨g2, 0, none⟩) n L) rfl (fun w' hI K hK => ?_) ?_
  · have q := hnL.out
    have q2 : (n : Int) ≤ (L : Int) := by omega
    go_simp
    exact hK _ hI
  simp only [Act.put, List.setIfInBounds_toArray, List.set_cons_succ, List.set_cons_zero]
  refine wpCalm_step (.string S) rfl (fun w' hI K hK => ?_) ?_
  · exact calm_convert 36 9 _ rfl (V2.out _ hI) (hK _ hI)
  simp only [Act.put, List.setIfInBounds_toArray, List.set_cons_succ, List.set_cons_zero]
  refine wpCalm_step (.slice (some ⟨g1, 0, none⟩) n n) rfl (fun w' hI K hK => ?_) ?_
  · go_simp
    exact hK _ hI
  simp only [Act.put, List.setIfInBounds_toArray, List.set_cons_succ, List.set_cons_zero]
  refine wpCalm_step (.string S) rfl (fun w' hI K hK => ?_) ?_
  · exact calm_convert 36 9 _ rfl (V1.out _ hI) (hK _ hI)
  simp only [Act.put, List.setIfInBounds_toArray, List.set_cons_succ, List.set_cons_zero]
  refine wpCalm_step (.bool false) rfl (fun w' hI K hK => ?_) ?_
  · go_simp
    exact hK _ hI
  simp only [Act.put, List.setIfInBounds_toArray, List.set_cons_succ, List.set_cons_zero]
  refine wpCalm_step (.bool false) rfl (fun w' hI K hK => ?_) ?_
  · go_simp
    exact hK _ hI
  simp only [Act.put, List.setIfInBounds_toArray, List.set_cons_succ, List.set_cons_zero]
  refine wpCalm_nil fun W4 hI4 => ?_
  have hI5 : Hid (BgI A B V g1 g2 g3 w W4) := hI4
  clear hI4 hI3 V1 V2
  go_wp2_with fail
  go_loopw [12] (fun c12 wr => ∃ i : Nat, i ≤ m ∧ c12 = .int .i64 i ∧ Hid (BgI A B V g1 g2 g3 w wr)) (fun c12 _ => m - (intOf c12).toNat)
  case atStart => exact ⟨0, by omega, rfl, hI5⟩
  case round =>
  obtain ⟨i, hi, rfl, hI⟩ := hrel
  clear hI5
  by_cases him : i < m
  · have i1 : (i : Int) < (m : Int) := by omega
    have iL : 4 * i + 3 < L := by have := hmL.out; omega
    have k0 : 4 * (i : Int) < (L : Int) := by omega
    have k1 : 4 * (i : Int) + 1 < (L : Int) := by omega
    have k2 : 4 * (i : Int) + 2 < (L : Int) := by omega
    have k3 : 4 * (i : Int) + 3 < (L : Int) := by omega
    have p0 : (0 : Int) ≤ 4 * (i : Int) := by omega
    have p1 : (0 : Int) ≤ 4 * (i : Int) + 1 := by omega
    have p2 : (0 : Int) ≤ 4 * (i : Int) + 2 := by omega
    have p3 : (0 : Int) ≤ 4 * (i : Int) + 3 := by omega
    have t0 : (4 * (i : Int)).toNat = 4 * i := by omega
    have t1 : (4 * (i : Int) + 1).toNat = 4 * i + 1 := by omega
    have t2 : (4 * (i : Int) + 2).toNat = 4 * i + 2 := by omega
    have t3 : (4 * (i : Int) + 3).toNat = 4 * i + 3 := by omega
    have u0 : IntKind.i64.wrap (4 * (i : Int)) = 4 * (i : Int) := by rw [IntKind.wrap_i64]; omega
    have u1 : IntKind.i64.wrap (4 * (i : Int) + 1) = 4 * (i : Int) + 1 := by rw [IntKind.wrap_i64]; omega
    have u2 : IntKind.i64.wrap (4 * (i : Int) + 2) = 4 * (i : Int) + 2 := by rw [IntKind.wrap_i64]; omega
    have u3 : IntKind.i64.wrap (4 * (i : Int) + 3) = 4 * (i : Int) + 3 := by rw [IntKind.wrap_i64]; omega
    obtain ⟨x0, hx0, hX0⟩ : ∃ x, x < 256 ∧ B.getD (4 * i) 0 = x := ⟨_, hBb.out _, rfl⟩
    have r0 : Hid (∀ W, BgI A B V g1 g2 g3 w W → W.cell? ⟨g2, 4 * i, none⟩ = some (.int .u8 (x0 : Int))) := fun W h => by rw [cell_of_row _ _ _ _ _ _ h.r, av_get _ _ _ (by rw [hBl.out ()]; omega), hX0]
    have b0 : IntKind.u32.wrap (x0 : Int) = (x0 : Int) := by rw [IntKind.wrap_u32]; omega
    obtain ⟨x1, hx1, hX1⟩ : ∃ x, x < 256 ∧ B.getD (4 * i + 1) 0 = x := ⟨_, hBb.out _, rfl⟩
    have r1 : Hid (∀ W, BgI A B V g1 g2 g3 w W → W.cell? ⟨g2, 4 * i + 1, none⟩ = some (.int .u8 (x1 : Int))) := fun W h => by rw [cell_of_row _ _ _ _ _ _ h.r, av_get _ _ _ (by rw [hBl.out ()]; omega), hX1]
    have b1 : IntKind.u32.wrap (x1 : Int) = (x1 : Int) := by rw [IntKind.wrap_u32]; omega
    obtain ⟨x2, hx2, hX2⟩ : ∃ x, x < 256 ∧ B.getD (4 * i + 2) 0 = x := ⟨_, hBb.out _, rfl⟩
    have r2 : Hid (∀ W, BgI A B V g1 g2 g3 w W → W.cell? ⟨g2, 4 * i + 2, none⟩ = some (.int .u8 (x2 : Int))) := fun W h => by rw [cell_of_row _ _ _ _ _ _ h.r, av_get _ _ _ (by rw [hBl.out ()]; omega), hX2]
    have b2 : IntKind.u32.wrap (x2 : Int) = (x2 : Int) := by rw [IntKind.wrap_u32]; omega
    obtain ⟨x3, hx3, hX3⟩ : ∃ x, x < 256 ∧ B.getD (4 * i + 3) 0 = x := ⟨_, hBb.out _, rfl⟩
    have r3 : Hid (∀ W, BgI A B V g1 g2 g3 w W → W.cell? ⟨g2, 4 * i + 3, none⟩ = some (.int .u8 (x3 : Int))) := fun W h => by rw [cell_of_row _ _ _ _ _ _ h.r, av_get _ _ _ (by rw [hBl.out ()]; omega), hX3]
    have b3 : IntKind.u32.wrap (x3 : Int) = (x3 : Int) := by rw [IntKind.wrap_u32]; omega
    have hN : Hid (∀ _ : Unit, V.getD i 0 = x0 + x1 * 256 + x2 * 65536 + x3 * 16777216) := fun _ => by rw [hVn.out i him, num, hX0, hX1, hX2, hX3]
    obtain ⟨z1, hz1⟩ : ∃ z, z = x1 * 256 := ⟨_, rfl⟩
    have m1 : (x1 : Int) * 256 = (z1 : Int) := by omega
    have v1 : IntKind.u32.wrap (z1 : Int) = (z1 : Int) := by rw [IntKind.wrap_u32]; omega
    have q1 : (z1 : Int) % 4294967296 = (z1 : Int) := by omega
    obtain ⟨z2, hz2⟩ : ∃ z, z = x2 * 65536 := ⟨_, rfl⟩
    have m2 : (x2 : Int) * 65536 = (z2 : Int) := by omega
    have v2 : IntKind.u32.wrap (z2 : Int) = (z2 : Int) := by rw [IntKind.wrap_u32]; omega
    have q2 : (z2 : Int) % 4294967296 = (z2 : Int) := by omega
    obtain ⟨z3, hz3⟩ : ∃ z, z = x3 * 16777216 := ⟨_, rfl⟩
    have m3 : (x3 : Int) * 16777216 = (z3 : Int) := by omega
    have v3 : IntKind.u32.wrap (z3 : Int) = (z3 : Int) := by rw [IntKind.wrap_u32]; omega
    have q3 : (z3 : Int) % 4294967296 = (z3 : Int) := by omega
    obtain ⟨y1, hy1⟩ : ∃ y, y = x0 + z1 := ⟨_, rfl⟩
    have e1 : bits .or .u32 (x0 : Int) (z1 : Int) = (y1 : Int) := by rw [hy1, hz1]; exact u32_join 8 x0 x1 (by omega) (by omega)
    obtain ⟨y2, hy2⟩ : ∃ y, y = y1 + z2 := ⟨_, rfl⟩
    have e2 : bits .or .u32 (y1 : Int) (z2 : Int) = (y2 : Int) := by rw [hy2, hz2]; exact u32_join 16 y1 x2 (by omega) (by omega)
    obtain ⟨y3, hy3⟩ : ∃ y, y = y2 + z3 := ⟨_, rfl⟩
    have e3 : bits .or .u32 (y2 : Int) (z3 : Int) = (y3 : Int) := by rw [hy3, hz3]; exact u32_join 24 y2 x3 (by omega) (by omega)
    have hY : Hid (∀ _ : Unit, V.getD i 0 = y3) := fun _ => by rw [hN.out (), hy3, hy2, hy1, hz1, hz2, hz3]
    have rv : Hid (∀ W, BgI A B V g1 g2 g3 w W → W.cell? ⟨g3, i, none⟩ = some (.int .u32 (y3 : Int))) := fun W h => by rw [cell_of_row _ _ _ _ _ _ h.v, av_get _ _ _ (by rw [hVl.out ()]; exact him), hY.out ()]
    clear hN hY hz1 hz2 hz3 hy1 hy2 hy3 hx0 hx1 hx2 hx3 hX0 hX1 hX2 hX3 iL
    go_wp2_with fail
    refine wp_region_calm (BgI A B V g1 g2 g3 w) (by kernel_rfl) (by kernel_rfl) (hI.out.old (Below.refl _ _).drew) ?_
    refine wpCalm_step (.slice (some ⟨g3, 0, none⟩) m m) rfl (fun w' hI K hK => ?_) ?_
    · go_simp
      exact hK _ hI
    simp only [Act.put, List.setIfInBounds_toArray, List.set_cons_succ, List.set_cons_zero]
    refine wpCalm_step (.int .i64 (i : Int)) rfl (fun w' hI K hK => ?_) ?_
    · go_simp
      exact hK _ hI
    simp only [Act.put, List.setIfInBounds_toArray, List.set_cons_succ, List.set_cons_zero]
    refine wpCalm_step (.pointer (some ⟨g3, i, none⟩)) rfl (fun w' hI K hK => ?_) ?_
    · go_simp
      exact hK _ hI
    simp only [Act.put, List.setIfInBounds_toArray, List.set_cons_succ, List.set_cons_zero]
    refine wpCalm_step (.int .u32 (y3 : Int)) rfl (fun w' hI K hK => ?_) ?_
    · have cw := rv.out w' hI
      go_simp
      exact hK _ hI
    simp only [Act.put, List.setIfInBounds_toArray, List.set_cons_succ, List.set_cons_zero]
    refine wpCalm_step (.slice (some ⟨g2, 0, none⟩) L L) rfl (fun w' hI K hK => ?_) ?_
    · go_simp
      exact hK _ hI
    simp only [Act.put, List.setIfInBounds_toArray, List.set_cons_succ, List.set_cons_zero]
    refine wpCalm_step (.int .i64 (i : Int)) rfl (fun w' hI K hK => ?_) ?_
    · go_simp
      exact hK _ hI
    simp only [Act.put, List.setIfInBounds_toArray, List.set_cons_succ, List.set_cons_zero]
    refine wpCalm_step (.int .i64 (4 * (i : Int))) rfl (fun w' hI K hK => ?_) ?_
    · go_simp
      exact hK _ hI
    simp only [Act.put, List.setIfInBounds_toArray, List.set_cons_succ, List.set_cons_zero]
    refine wpCalm_step (.pointer (some ⟨g2, 4 * i, none⟩)) rfl (fun w' hI K hK => ?_) ?_
    · go_simp
      exact hK _ hI
    simp only [Act.put, List.setIfInBounds_toArray, List.set_cons_succ, List.set_cons_zero]
    refine wpCalm_step (.int .u8 (x0 : Int)) rfl (fun w' hI K hK => ?_) ?_
    · have cw := r0.out w' hI
      go_simp
      exact hK _ hI
    simp only [Act.put, List.setIfInBounds_toArray, List.set_cons_succ, List.set_cons_zero]
    refine wpCalm_step (.int .u32 (x0 : Int)) rfl (fun w' hI K hK => ?_) ?_
    · go_simp
      exact hK _ hI
    simp only [Act.put, List.setIfInBounds_toArray, List.set_cons_succ, List.set_cons_zero]
    refine wpCalm_step (.slice (some ⟨g2, 0, none⟩) L L) rfl (fun w' hI K hK => ?_) ?_
    · go_simp
      exact hK _ hI
    simp only [Act.put, List.setIfInBounds_toArray, List.set_cons_succ, List.set_cons_zero]
    refine wpCalm_step (.int .i64 (i : Int)) rfl (fun w' hI K hK => ?_) ?_
    · go_simp
      exact hK _ hI
    simp only [Act.put, List.setIfInBounds_toArray, List.set_cons_succ, List.set_cons_zero]
    refine wpCalm_step (.int .i64 (4 * (i : Int))) rfl (fun w' hI K hK => ?_) ?_
    · go_simp
      exact hK _ hI
    simp only [Act.put, List.setIfInBounds_toArray, List.set_cons_succ, List.set_cons_zero]
    refine wpCalm_step (.int .i64 (4 * (i : Int) + 1)) rfl (fun w' hI K hK => ?_) ?_
    · go_simp
      exact hK _ hI
    simp only [Act.put, List.setIfInBounds_toArray, List.set_cons_succ, List.set_cons_zero]
    refine wpCalm_step (.pointer (some ⟨g2, 4 * i + 1, none⟩)) rfl (fun w' hI K hK => ?_) ?_
    · go_simp
      exact hK _ hI
    simp only [Act.put, List.setIfInBounds_toArray, List.set_cons_succ, List.set_cons_zero]
    refine wpCalm_step (.int .u8 (x1 : Int)) rfl (fun w' hI K hK => ?_) ?_
    · have cw := r1.out w' hI
      go_simp
      exact hK _ hI
    simp only [Act.put, List.setIfInBounds_toArray, List.set_cons_succ, List.set_cons_zero]
    refine wpCalm_step (.int .u32 (x1 : Int)) rfl (fun w' hI K hK => ?_) ?_
    · go_simp
      exact hK _ hI
    simp only [Act.put, List.setIfInBounds_toArray, List.set_cons_succ, List.set_cons_zero]
    refine wpCalm_step (.int .u32 (z1 : Int)) rfl (fun w' hI K hK => ?_) ?_
    · go_simp
      exact hK _ hI
    simp only [Act.put, List.setIfInBounds_toArray, List.set_cons_succ, List.set_cons_zero]
    refine wpCalm_step (.int .u32 (y1 : Int)) rfl (fun w' hI K hK => ?_) ?_
    · go_simp
      exact hK _ hI
    simp only [Act.put, List.setIfInBounds_toArray, List.set_cons_succ, List.set_cons_zero]
    refine wpCalm_step (.slice (some ⟨g2, 0, none⟩) L L) rfl (fun w' hI K hK => ?_) ?_
    · go_simp
      exact hK _ hI
    simp only [Act.put, List.setIfInBounds_toArray, List.set_cons_succ, List.set_cons_zero]
    refine wpCalm_step (.int .i64 (i : Int)) rfl (fun w' hI K hK => ?_) ?_
    · go_simp
      exact hK _ hI
    simp only [Act.put, List.setIfInBounds_toArray, List.set_cons_succ, List.set_cons_zero]
    refine wpCalm_step (.int .i64 (4 * (i : Int))) rfl (fun w' hI K hK => ?_) ?_
    · go_simp
      exact hK _ hI
    simp only [Act.put, List.setIfInBounds_toArray, List.set_cons_succ, List.set_cons_zero]
    refine wpCalm_step (.int .i64 (4 * (i : Int) + 2)) rfl (fun w' hI K hK => ?_) ?_
    · go_simp
      exact hK _ hI
    simp only [Act.put, List.setIfInBounds_toArray, List.set_cons_succ, List.set_cons_zero]
    refine wpCalm_step (.pointer (some ⟨g2, 4 * i + 2, none⟩)) rfl (fun w' hI K hK => ?_) ?_
    · go_simp
      exact hK _ hI
    simp only [Act.put, List.setIfInBounds_toArray, List.set_cons_succ, List.set_cons_zero]
    refine wpCalm_step (.int .u8 (x2 : Int)) rfl (fun w' hI K hK => ?_) ?_
    · have cw := r2.out w' hI
      go_simp
      exact hK _ hI
    simp only [Act.put, List.setIfInBounds_toArray, List.set_cons_succ, List.set_cons_zero]
    refine wpCalm_step (.int .u32 (x2 : Int)) rfl (fun w' hI K hK => ?_) ?_
    · go_simp
      exact hK _ hI
    simp only [Act.put, List.setIfInBounds_toArray, List.set_cons_succ, List.set_cons_zero]
    refine wpCalm_step (.int .u32 (z2 : Int)) rfl (fun w' hI K hK => ?_) ?_
    · go_simp
      exact hK _ hI
    simp only [Act.put, List.setIfInBounds_toArray, List.set_cons_succ, List.set_cons_zero]
    refine wpCalm_step (.int .u32 (y2 : Int)) rfl (fun w' hI K hK => ?_) ?_
    · go_simp
      exact hK _ hI
    simp only [Act.put, List.setIfInBounds_toArray, List.set_cons_succ, List.set_cons_zero]
    refine wpCalm_step (.slice (some ⟨g2, 0, none⟩) L L) rfl (fun w' hI K hK => ?_) ?_
    · go_simp
      exact hK _ hI
    simp only [Act.put, List.setIfInBounds_toArray, List.set_cons_succ, List.set_cons_zero]
    refine wpCalm_step (.int .i64 (i : Int)) rfl (fun w' hI K hK => ?_) ?_
    · go_simp
      exact hK _ hI
    simp only [Act.put, List.setIfInBounds_toArray, List.set_cons_succ, List.set_cons_zero]
    refine wpCalm_step (.int .i64 (4 * (i : Int))) rfl (fun w' hI K hK => ?_) ?_
    · go_simp
      exact hK _ hI
    simp only [Act.put, List.setIfInBounds_toArray, List.set_cons_succ, List.set_cons_zero]
    refine wpCalm_step (.int .i64 (4 * (i : Int) + 3)) rfl (fun w' hI K hK => ?_) ?_
    · go_simp
      exact hK _ hI
    simp only [Act.put, List.setIfInBounds_toArray, List.set_cons_succ, List.set_cons_zero]
    refine wpCalm_step (.pointer (some ⟨g2, 4 * i + 3, none⟩)) rfl (fun w' hI K hK => ?_) ?_
    · go_simp
      exact hK _ hI
    simp only [Act.put, List.setIfInBounds_toArray, List.set_cons_succ, List.set_cons_zero]
    refine wpCalm_step (.int .u8 (x3 : Int)) rfl (fun w' hI K hK => ?_) ?_
    · have cw := r3.out w' hI
      go_simp
      exact hK _ hI
    simp only [Act.put, List.setIfInBounds_toArray, List.set_cons_succ, List.set_cons_zero]
    refine wpCalm_step (.int .u32 (x3 : Int)) rfl (fun w' hI K hK => ?_) ?_
    · go_simp
      exact hK _ hI
    simp only [Act.put, List.setIfInBounds_toArray, List.set_cons_succ, List.set_cons_zero]
    refine wpCalm_step (.int .u32 (z3 : Int)) rfl (fun w' hI K hK => ?_) ?_
    · go_simp
      exact hK _ hI
    simp only [Act.put, List.setIfInBounds_toArray, List.set_cons_succ, List.set_cons_zero]
    refine wpCalm_step (.int .u32 (y3 : Int)) rfl (fun w' hI K hK => ?_) ?_
    · go_simp
      exact hK _ hI
    simp only [Act.put, List.setIfInBounds_toArray, List.set_cons_succ, List.set_cons_zero]
    refine wpCalm_step (.bool false) rfl (fun w' hI K hK => ?_) ?_
    · go_simp
      exact hK _ hI
    simp only [Act.put, List.setIfInBounds_toArray, List.set_cons_succ, List.set_cons_zero]
    refine wpCalm_nil fun w' hI' => ?_
    have hI2 := Lib.hid hI'
    clear hI' hI r0 r1 r2 r3 rv
    go_wp2
    go_roundw
    case rel => exact ⟨i + 1, by omega, by go_num, hI2⟩
    case measure => simp [intOf]; omega
  · obtain rfl : i = m := by omega
    go_wp2
    go_ret
    exact ⟨rfl, hI.out.b⟩

set_option maxRecDepth 100000 in
theorem streamBegins_lifted (os : Os) (started : os.Started) (H : Type) (enc : TypeId × Value → H) :
    ReturnsInHanded {} Try.checked os 12 .any (Rows.streamBeginsSpec.pre6 enc Try.prog Try.f12 Rows.streamBeginsRow.domain false) (Rows.streamBeginsSpec.post enc Try.prog Try.f12 false true false false) := by
  refine returnsInHanded_of_change (C := Try.checked) ownKnob_none started (by kernel_rfl) Try.func12
    (ChangeSpec.witness6 (enc := enc) (C := Try.checked) false ⟨#[], #[.agg (av .u8 zeros32), .int .u32 0, .int .u8 0, .int .u8 0], []⟩ 8 (by kernel_rfl) (by kernel_rfl) (by kernel_rfl) (by kernel_rfl)) ?_
  intro W base args ds gs before hval0 hW _ _
  have hval : ∀ (j : Nat) t v, Try.f12.params[j]? = some t → args[j]? = some v → Value.okWide Try.prog W .any base t v := hval0
  have hWhole := hW
  obtain ⟨p, q, hA0, hV, rfl, hfz, hnd⟩ := hW
  have hA : DataW.TrodAll enc Try.prog W 0 (fun _ => true) true Try.f12.params.toList args.toList ds p := hA0
  rw [Try.params12] at hA hval
  obtain ⟨v0, vs0, d0, ds0, p0, q0, hargs0, rfl, rfl, h0, r0⟩ := trodAll_cons hA
  obtain ⟨v1, vs1, d1, ds1, p1, q1, hargs1, rfl, rfl, h1, r1⟩ := trodAll_cons r0
  obtain ⟨v2, vs2, d2, ds2, p2, q2, hargs2, rfl, rfl, h2, r2⟩ := trodAll_cons r1
  obtain ⟨v3, vs3, d3, ds3, p3, q3, hargs3, rfl, rfl, h3, r3⟩ := trodAll_cons r2
  obtain ⟨rfl, rfl, rfl⟩ := trodAll_nil r3
  subst hargs1
  subst hargs2
  subst hargs3
  obtain rfl : args = #[v0, v1, v2, v3] := by cases args; simp_all
  obtain ⟨rfl, rfl⟩ := trodVars_none hV
  obtain ⟨x0, rfl, hl0, hb0⟩ := open_nats 256 Try.underlying29 Try.underlying5 (by kernel_rfl) (by kernel_rfl) wf_u8' (hval 0 29 v0 rfl rfl) h0
  obtain ⟨x1, rfl, hb1⟩ := open_nat 4294967296 Try.underlying22 wf_u32' (hval 1 22 v1 rfl rfl) h1
  obtain ⟨x2, rfl, hb2⟩ := open_nat 256 Try.underlying5 wf_u8' (hval 2 5 v2 rfl rfl) h2
  obtain ⟨x3, rfl, hb3⟩ := open_nat 256 Try.underlying5 wf_u8' (hval 3 5 v3 rfl rfl) h3
  refine (begins_walk x0 x1 x2 x3 hl0 (fun i => getD_lt x0 256 (by decide) hb0 i) hb1 hb2 hb3 W).mono fun e W' ⟨he, hB⟩ => ?_
  subst he
  exact ⟨_, rfl, law_post laidOut (by rw [Try.params12]; decide +kernel) rfl (by kernel_rfl) Try.underlying4 hWhole rfl rfl rfl hB⟩

theorem streamBegins : Rows.StreamBeginsSaid :=
  OpenClaim.holds_of_wide 12 Try.f12 rfl rfl rfl rfl rfl rfl rfl ⟨rfl, rfl, rfl, rfl, rfl⟩ rfl rfl rfl rfl rfl (by kernel_rfl) Try.func12 (by kernel_rfl)
    (of_decide_eq_true (by kernel_rfl)) (by unfold Func.isWrapper; first | (rw [if_pos (by decide +kernel)]; kernel_rfl) | (rw [if_neg (by decide +kernel)]; exact ⟨rfl, rfl⟩))
    (fun os started H enc _ => streamBegins_lifted os started H enc)
end Go.Proofs.Ythpjdgddpnpdpaa

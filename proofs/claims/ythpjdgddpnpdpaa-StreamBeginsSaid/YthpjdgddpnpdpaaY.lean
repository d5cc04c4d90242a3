/- Walks over stream: Cells, Derive, and the reference's Derive. -/
import Derived.Test.YthpjdgddpnpdpaaX
namespace Go.Proofs.Ythpjdgddpnpdpaa
open Go.RowKit

set_option maxRecDepth 100000 in
set_option maxHeartbeats 4000000 in
theorem cells_any (X : List Nat) (M ga gb : Nat) (hl : X.length = M) (hM : M ≤ 256) (w : World) (ha : w.heap[ga]? = some (.cells (av .u32 X) 22)) (hb : w.heap[gb]? = some (.cells (av .u32 X) 22)) :
    Calls Try.prog 26 #[.slice (some ⟨ga, 0, none⟩) M M, .slice (some ⟨gb, 0, none⟩) M M] w fun e w' => e = .returned (.bool true) ∧ Dr w w' := by
  have rA : Hid (∀ i W, i < M → Dr w W → W.cell? ⟨ga, i, none⟩ = some (.int .u32 (X.getD i 0 : Nat))) := fun i W hi h => by rw [cell_of_row _ _ _ _ _ _ (by rw [h.heap]; exact ha), av_get _ _ _ (by omega)]
  have rB : Hid (∀ i W, i < M → Dr w W → W.cell? ⟨gb, i, none⟩ = some (.int .u32 (X.getD i 0 : Nat))) := fun i W hi h => by rw [cell_of_row _ _ _ _ _ _ (by rw [h.heap]; exact hb), av_get _ _ _ (by omega)]
  clear ha hb hl
  go_enter Try.func26, Try.ntmps26
  go_wp2_with fail
  go_loopw [5] (fun c5 wr => ∃ i : Nat, i ≤ M ∧ c5 = .int .i64 i ∧ Hid (Dr w wr)) (fun c5 _ => M - (intOf c5).toNat)
  case atStart => exact ⟨0, by omega, rfl, Dr.refl w⟩
  case round =>
    obtain ⟨i, hi, rfl, hI⟩ := hrel
    by_cases him : i < M
    · obtain ⟨x, hx⟩ : ∃ x, Hid (∀ _ : Unit, X.getD i 0 = x) := ⟨_, fun _ => rfl⟩
      have qA : Hid (∀ W, Dr w W → W.cell? ⟨ga, i, none⟩ = some (.int .u32 (x : Int))) := fun W h => by rw [← hx.out ()]; exact rA.out i W him h
      have qB : Hid (∀ W, Dr w W → W.cell? ⟨gb, i, none⟩ = some (.int .u32 (x : Int))) := fun W h => by rw [← hx.out ()]; exact rB.out i W him h
      have i1 : (i : Int) < (M : Int) := by omega
      clear hx
      go_wp2_with fail
      refine wp_region_calm_g (fun _ W => Dr w W) [0,0,0,1,0,0,0,1,0] (by kernel_rfl) (by kernel_rfl) (by kernel_rfl) (hI.out.trans (Dr.start _)) ?_
      refine wpG_plain (.slice (some ⟨ga, 0, none⟩) M M) rfl (fun t' w' hI K hK => ?_) ?_
      · go_simp
        exact hK _ hI
      simp only [Act.put, List.setIfInBounds_toArray, List.set_cons_succ, List.set_cons_zero]
      refine wpG_plain (.int .i64 (i : Int)) rfl (fun t' w' hI K hK => ?_) ?_
      · go_simp
        exact hK _ hI
      simp only [Act.put, List.setIfInBounds_toArray, List.set_cons_succ, List.set_cons_zero]
      refine wpG_plain (.pointer (some ⟨ga, i, none⟩)) rfl (fun t' w' hI K hK => ?_) ?_
      · go_simp
        exact hK _ hI
      simp only [Act.put, List.setIfInBounds_toArray, List.set_cons_succ, List.set_cons_zero]
      refine wpG_read (.int .u32 (x : Int)) rfl (fun w' hI K hK => ?_) ?_
      · have cw := qA.out w' hI
        go_simp
        exact hK _ hI
      simp only [Act.put, List.setIfInBounds_toArray, List.set_cons_succ, List.set_cons_zero]
      refine wpG_plain (.slice (some ⟨gb, 0, none⟩) M M) rfl (fun t' w' hI K hK => ?_) ?_
      · go_simp
        exact hK _ hI
      simp only [Act.put, List.setIfInBounds_toArray, List.set_cons_succ, List.set_cons_zero]
      refine wpG_plain (.int .i64 (i : Int)) rfl (fun t' w' hI K hK => ?_) ?_
      · go_simp
        exact hK _ hI
      simp only [Act.put, List.setIfInBounds_toArray, List.set_cons_succ, List.set_cons_zero]
      refine wpG_plain (.pointer (some ⟨gb, i, none⟩)) rfl (fun t' w' hI K hK => ?_) ?_
      · go_simp
        exact hK _ hI
      simp only [Act.put, List.setIfInBounds_toArray, List.set_cons_succ, List.set_cons_zero]
      refine wpG_read (.int .u32 (x : Int)) rfl (fun w' hI K hK => ?_) ?_
      · have cw := qB.out w' hI
        go_simp
        exact hK _ hI
      simp only [Act.put, List.setIfInBounds_toArray, List.set_cons_succ, List.set_cons_zero]
      refine wpG_plain (.bool false) rfl (fun t' w' hI K hK => ?_) ?_
      · go_simp
        exact hK _ hI
      simp only [Act.put, List.setIfInBounds_toArray, List.set_cons_succ, List.set_cons_zero]
      refine wpG_nil fun w' hI => ?_
      have hI2 := Lib.hid hI
      clear hI
      go_wp2
      go_roundw
      case rel => exact ⟨i + 1, by omega, by go_num, hI2⟩
      case measure => simp [intOf]; omega
    · obtain rfl : i = M := by omega
      go_wp2
      go_ret
      exact ⟨rfl, hI.out⟩

/-- A seed of a number. -/
def seedN (n : Nat) : List Nat := putTo zeros32 0 n 8
theorem seedN_length (n : Nat) : (seedN n).length = 32 := by rw [seedN, putTo_length]; rfl
theorem seedN_w8 (n : Nat) : W8 (seedN n) := putTo_w8 _ _ _ zeros32_w8 8
def deriveN (n tag : Nat) : List Nat := bytesN (seedN n) tag 32
theorem deriveN_length (n tag : Nat) : (deriveN n tag).length = 32 := bytesN_length _ _ _
theorem calm_copy {o : Oper} {a : Act} {w : World} {K : Value → World → Prop} (d x : Operand) (ho : o.op = .call { callee := .builtin .copy, args := #[d, x], argTypes := #[36, 36] }) (g t h n : Nat) (cur bs : List Nat) (hd : a.eval d = .slice (some ⟨g, 0, none⟩) n n)
    (hx : a.eval x = .slice (some ⟨h, 0, none⟩) n n) (hg : w.heap[g]? = some (.cells (av .u8 cur) t)) (hh : w.heap[h]? = some (.cells (av .u8 bs) 5)) (hc : cur.length = n) (hb : bs.length = n)
    (hK : K (goInt (n : Int)) (w.setRow g (av .u8 bs))) : calm Try.prog o a w K := by
  have hrun := run_copy_row (P := Try.prog) w 36 36 o.type 5 g 0 n n ⟨h, 0, none⟩ n n (av .u8 cur) t (av .u8 bs).toList Try.underlying36 (by kernel_rfl) hg (by rw [Array.length_toList, av_size, hb]; exact (Nat.min_self n).symm)
    (fun j v hj => by
      have hplain : (⟨h, 0, none⟩ : Addr).add j = ⟨h, j, none⟩ := by unfold Addr.add; split <;> simp_all
      rw [hplain, cell_of_row _ _ _ _ _ _ hh]
      simpa using hj) (by rw [Array.length_toList, av_size, av_size, hc, hb]; omega) (fun u hu => by
      simp only [av, List.toList_toArray] at hu
      obtain ⟨b, _, rfl⟩ := List.mem_map.1 hu
      rfl)
  have e1 : ((av .u8 cur).toList.take 0 ++ (av .u8 bs).toList ++ (av .u8 cur).toList.drop (0 + (av .u8 bs).toList.length)).toArray = av .u8 bs := by
    rw [List.drop_eq_nil_of_le (by rw [Array.length_toList, Array.length_toList, av_size, av_size, hc, hb]; omega)]
    simp
  have e2 : (av .u8 bs).toList.length = n := by rw [Array.length_toList, av_size, hb]
  rw [e1, e2] at hrun
  unfold calm execOp
  simp only [ho, resolve, invoke, builtin, Sem.run_bind, Sem.run_pure, Result.andThen_ok, List.map_toArray, List.map_cons, List.map_nil, hd, hx, hrun]
  exact hK
structure DvI (seed : List Nat) (w : World) (s : List (Nat × List Nat) × List Nat) (W : World) : Prop where
  r : W.heap[w.heap.size]? = some (.cells (av .u8 zeros32) 33)
  x : W.heap[w.heap.size + 1]? = some (.cells (av .u8 seed) 33)
  o : W.heap[w.heap.size + 1 + 1]? = some (.cells (av .u8 s.2) 33)
  rows : ∀ p ∈ s.1, W.heap[p.1]? = some (.cells (av .u8 p.2) 5)
  b : Below w.heap.size w W
theorem DvI.old {seed : List Nat} {w W W' : World} {s : List (Nat × List Nat) × List Nat} (h : DvI seed w s W) (hb : Below W.heap.size W W') : DvI seed w s W' :=
  ⟨old_row hb (Array.getElem?_eq_some_iff.1 h.r).1 h.r, old_row hb (Array.getElem?_eq_some_iff.1 h.x).1 h.x, old_row hb (Array.getElem?_eq_some_iff.1 h.o).1 h.o,
    fun p hp => old_row hb (Array.getElem?_eq_some_iff.1 (h.rows p hp)).1 (h.rows p hp), h.b.trans (hb.mono h.b.size)⟩
theorem DvI.more {seed X : List Nat} {w W W' : World} {s : List (Nat × List Nat) × List Nat} {g : Nat} (h : DvI seed w s W) (hb : Below W.heap.size W W') (hr : W'.heap[g]? = some (.cells (av .u8 X) 5)) : DvI seed w ((g, X) :: s.1, s.2) W' :=
  ⟨(h.old hb).r, (h.old hb).x, (h.old hb).o, fun p hp => by
    rcases List.mem_cons.1 hp with rfl | hp
    · exact hr
    · exact (h.old hb).rows p hp, (h.old hb).b⟩
theorem DvI.copy {seed D : List Nat} {w W : World} {s : List (Nat × List Nat) × List Nat} (h : DvI seed w s W) : DvI seed w (s.1, D) (W.setRow (w.heap.size + 1 + 1) (av .u8 D)) := by
  refine ⟨by rw [setRow_other _ _ _ _ (by omega)]; exact h.r, by rw [setRow_other _ _ _ _ (by omega)]; exact h.x, setRow_heap _ _ _ _ _ _ h.o, fun p hp => ?_, below_setRow h.b (by omega) _⟩
  have hr := h.rows p hp
  by_cases hq : w.heap.size + 1 + 1 = p.1
  · exfalso
    have ho := h.o
    rw [hq] at ho
    rw [ho] at hr
    simp only [Option.some.injEq, Obj.cells.injEq] at hr
    exact absurd hr.2.1 (by decide)
  · rw [setRow_other _ _ _ _ (by omega)]; exact hr

set_option maxRecDepth 100000 in
set_option maxHeartbeats 4000000 in
theorem derive_any (n tag : Nat) (ht : tag < 4294967296) (w : World) :
    Calls Try.prog 28 #[.int .u64 n, .int .u32 tag] w fun e w' => e = .returned (.agg (av .u8 (deriveN n tag))) ∧ Below w.heap.size w w' := by
  have hz : Hid ((Try.prog.info? 33).bind (·.zero) = some (.agg (av .u8 zeros32))) := by rw [Hid]; kernel_rfl
  have sS : Hid ((Try.prog.info? 33).map (·.size) = some (av .u8 (seedN n)).size) := by rw [Hid, av_size, seedN_length]; kernel_rfl
  have sD : Hid ((Try.prog.info? 33).map (·.size) = some (av .u8 (deriveN n tag)).size) := by rw [Hid, av_size, deriveN_length]; kernel_rfl
  have sE : Hid ((av .u8 zeros32).size = (av .u8 (deriveN n tag)).size) := by rw [Hid, av_size, av_size, deriveN_length]; rfl
  have H := Lib.hid (fun w => bytes_any (seedN n) tag 32 32 (seedN_length n) (seedN_w8 n) ht (.inr (.inl ⟨by decide, by decide, rfl⟩)) w)
  have hE : Hid (∀ _ : Unit, bytesN (seedN n) tag 32 = deriveN n tag) := fun _ => rfl
  have hDl : Hid (∀ _ : Unit, (deriveN n tag).length = 32) := fun _ => deriveN_length _ _
  rw [hE.out ()] at H
  clear hE
  obtain ⟨D, hD⟩ : ∃ D, deriveN n tag = D := ⟨_, rfl⟩
  rw [hD] at sD sE H hDl ⊢
  clear hD
  obtain ⟨W, hW⟩ : ∃ W, W = (w.alloc (.cells (av .u8 zeros32) 33)).alloc (.cells (av .u8 zeros32) 33) := ⟨_, rfl⟩
  have e1 : (w.alloc (.cells (av .u8 zeros32) 33)).heap.size = w.heap.size + 1 := by simp
  have hsz : Hid (W.heap.size = w.heap.size + 1 + 1) := by rw [Hid, hW]; simp
  have r0 : Hid (W.heap[w.heap.size]? = some (.cells (av .u8 zeros32) 33)) := by rw [Hid, hW]; exact old_alloc _ (heap_new w _)
  have r1 : Hid (W.heap[w.heap.size + 1]? = some (.cells (av .u8 zeros32) 33)) := by rw [Hid, hW, alloc_get, if_pos (by simp)]
  have hb : Hid (Below w.heap.size w W) := by rw [Hid, hW]; exact ((Below.refl _ _).alloc (Nat.le_refl _) _).alloc (by simp) _
  go_enter Try.func28, Try.ntmps28
  go_wp2_with (refine wpList_alloc_as rfl 33 rfl (av .u8 zeros32) hz.out ?_)
  try rw [e1]
  rw [← hW]
  clear hW e1
  refine (place8_any (w.heap.size + 1) 33 0 32 n zeros32 (by decide) W r1.out).mono ?_
  rintro e W1 ⟨rfl, hr⟩
  have hS1 : Hid (W1.heap.size = w.heap.size + 1 + 1) := hr.size.trans hsz.out
  have hI0 : Hid (DvI (seedN n) w ([], zeros32) (W1.alloc (.cells (av .u8 zeros32) 33))) := by
    refine ⟨old_alloc _ ((hr.oth _ (by omega)).trans r0.out), old_alloc _ hr.row, by rw [alloc_get, if_pos hS1.out.symm], fun p hp => (by cases hp), (hb.out.trans (hr.below (by omega))).alloc (by have := hS1.out; omega) _⟩
  clear hr r0 r1 hb hsz
  obtain ⟨sd, hsd⟩ : ∃ sd, seedN n = sd := ⟨_, rfl⟩
  rw [hsd] at sS H hI0
  clear hsd
  go_wp2_with (refine wpList_alloc_as rfl 33 rfl (av .u8 zeros32) hz.out ?_)
  rw [hS1.out]
  clear hz hS1
  refine wp_region_calm_h (DvI sd w) (fun a b => ∀ p ∈ a.1, p ∈ b.1) (fun _ _ h => h) (fun _ _ _ h k p hp => k p (h p hp)) ([], zeros32)
    [.any (.slice (some ⟨w.heap.size + 1 + 1, 0, none⟩) 32 32), .any (.agg (av .u8 sd)), .any (.int .u32 tag), .turn, .turn]
    (by kernel_rfl) (by kernel_rfl) (by kernel_rfl) (hI0.out.old (Below.refl _ _).drew) ?_
  refine wpH_any rfl (fun t' w' hI K hK => ?_) ?_
  · go_simp
    exact hK _ hI
  simp only [Act.put, List.setIfInBounds_toArray, List.set_cons_succ, List.set_cons_zero]
  refine wpH_any rfl (fun t' w' hI K hK => ?_) ?_
  · exact calm_load_row 33 _ rfl _ rfl 33 _ (0, 0) _ hI.x Try.underlying33 rfl sS.out (hK _ hI)
  simp only [Act.put, List.setIfInBounds_toArray, List.set_cons_succ, List.set_cons_zero]
  refine wpH_any rfl (fun t' w' hI K hK => ?_) ?_
  · go_simp
    exact hK _ hI
  simp only [Act.put, List.setIfInBounds_toArray, List.set_cons_succ, List.set_cons_zero]
  refine wpH_turn (fun s' v' => ∃ g, s' = ((g, D) :: [], zeros32) ∧ v' = .slice (some ⟨g, 0, none⟩) 32 32) rfl ⟨((0, D) :: [], zeros32), _, fun p hp => List.mem_cons_of_mem _ hp, 0, rfl, rfl⟩ (fun w' hI K hK => ?_) ?_
  · go_simp
    refine (H.out w').mono ?_
    rintro e w'' ⟨g, rfl, hr, hb⟩
    exact ⟨_, rfl, hK ((g, D) :: [], zeros32) _ _ (fun p hp => List.mem_cons_of_mem _ hp) ⟨_, rfl, rfl⟩ (hI.more hb hr)⟩
  rintro s' v' hle ⟨g1, rfl, rfl⟩
  clear hle
  simp only [Act.put, List.setIfInBounds_toArray, List.set_cons_succ, List.set_cons_zero]
  refine wpH_turn (fun s' v' => s' = ((g1, D) :: [], D) ∧ v' = goInt 32) rfl ⟨((g1, D) :: [], D), _, fun p hp => hp, rfl, rfl⟩ (fun w' hI K hK => ?_) ?_
  · exact calm_copy _ _ rfl (w.heap.size + 1 + 1) 33 g1 32 zeros32 D rfl rfl hI.o (hI.rows (g1, D) List.mem_cons_self) (by decide) (hDl.out ()) (hK ((g1, D) :: [], D) _ _ (fun p hp => hp) ⟨rfl, rfl⟩ hI.copy)
  rintro s' v' hle ⟨rfl, rfl⟩
  clear hle
  simp only [Act.put, List.setIfInBounds_toArray, List.set_cons_succ, List.set_cons_zero]
  refine wpH_nil fun w' hI => ?_
  have q0 := hI.r
  have q2 := hI.o
  have hB := Lib.hid hI.b
  clear hI hI0 H
  go_wp2_with (first
    | (refine wpList_load_row_if rfl 33 _ rfl _ rfl 33 _ (0, 0) _ q2 Try.underlying33 rfl sD.out ?_)
    | (refine wpList_store_row rfl 33 _ _ rfl _ _ rfl rfl 33 _ q0 sD.out sE.out (av_one _ _) ?_))
  refine bodyPost_ret (v := .agg (av .u8 D)) ?_ rfl ⟨rfl, below_setRow hB.out (by omega) _⟩
  exact results_cell_row rfl _ _ w.heap.size 33 _ (0, 0) _ rfl (setRow_heap _ _ _ _ _ _ q0) Try.underlying33 rfl sD.out

/-- The reference's Derive: its rows. -/
structure RdI (seed : List Nat) (w W : World) : Prop where
  r : W.heap[w.heap.size]? = some (.cells (av .u8 zeros32) 29)
  x : W.heap[w.heap.size + 1]? = some (.cells (av .u8 seed) 29)
  b : Below w.heap.size w W
structure RoutI (D out : List Nat) (gb go : Nat) (w W : World) : Prop where
  r : W.heap[w.heap.size]? = some (.cells (av .u8 zeros32) 29)
  y : W.heap[gb]? = some (.cells (av .u8 D) 5)
  o : W.heap[go]? = some (.cells (av .u8 out) 29)
  b : Below w.heap.size w W
  l : w.heap.size < go
  ne : gb ≠ go
theorem RoutI.store {D out out' : List Nat} {gb go i v : Nat} {w W : World} (h : RoutI D out gb go w W) (e : out.set i v = out') : RoutI D out' gb go w (W.setCell ⟨go, i, none⟩ (.int .u8 (v : Int))) := by
  have l := h.l
  exact ⟨by rw [heap_setCell_other _ _ _ _ (by simp; omega)]; exact h.r, by rw [heap_setCell_other _ _ _ _ (by simpa using h.ne)]; exact h.y, by rw [heap_setCell_same _ _ _ _ _ _ h.o, av_set, e], h.b.setCell (by simp; omega) _, l, h.ne⟩
theorem shr_byte (n i : Nat) : IntKind.u8.wrap ((n : Int) / 2 ^ (8 * i)) = ((n / 256 ^ i % 256 : Nat) : Int) := by
  rw [IntKind.wrap_u8, show (256 : Nat) ^ i = 2 ^ (8 * i) by rw [Nat.pow_mul]]
  generalize 8 * i = k
  rw [Int.natCast_emod, Int.natCast_ediv, Int.natCast_pow]
  rfl
set_option maxRecDepth 100000 in
set_option maxHeartbeats 4000000 in
theorem refderive_any (n tag : Nat) (w : World) :
    Calls Try.prog 29 #[.int .u64 n, .int .u32 tag] w fun e w' => e = .returned (.agg (av .u8 (deriveN n tag))) ∧ Below w.heap.size w w' := by
  have hz : Hid ((Try.prog.info? 29).bind (·.zero) = some (.agg (av .u8 zeros32))) := by rw [Hid]; kernel_rfl
  have hbu : Hid (Try.prog.built 29 [] = some (av .u8 zeros32)) := by rw [Hid]; kernel_rfl
  have sZ : Hid ((Try.prog.info? 29).map (·.size) = some (av .u8 zeros32).size) := by rw [Hid]; kernel_rfl
  have sS : Hid ((Try.prog.info? 29).map (·.size) = some (av .u8 (seedN n)).size) := by rw [Hid, av_size, seedN_length]; kernel_rfl
  have sD : Hid ((Try.prog.info? 29).map (·.size) = some (av .u8 (deriveN n tag)).size) := by rw [Hid, av_size, deriveN_length]; kernel_rfl
  have sE : Hid ((av .u8 zeros32).size = (av .u8 (deriveN n tag)).size) := by rw [Hid, av_size, av_size, deriveN_length]; rfl
  have H := Lib.hid (fun w => refbytes_any (seedN n) tag 32 32 (seedN_length n) (seedN_w8 n) (.inr (.inl ⟨by decide, by decide, rfl⟩)) w)
  have hE : Hid (∀ _ : Unit, bytesN (seedN n) tag 32 = deriveN n tag) := fun _ => rfl
  have hDl : Hid (∀ _ : Unit, (deriveN n tag).length = 32) := fun _ => deriveN_length _ _
  have hDb : Hid (W8 (deriveN n tag)) := bytesN_w8 _ _ _
  rw [hE.out ()] at H
  clear hE
  obtain ⟨D, hD⟩ : ∃ D, deriveN n tag = D := ⟨_, rfl⟩
  rw [hD] at sD sE H hDl hDb ⊢
  clear hD
  have hI0 : Hid (RdI (putTo zeros32 0 n 0) w ((w.alloc (.cells (av .u8 zeros32) 29)).alloc (.cells (av .u8 zeros32) 29))) := by
    refine ⟨old_alloc _ (heap_new w _), ?_, ((Below.refl _ _).alloc (Nat.le_refl _) _).alloc (by simp) _⟩
    rw [alloc_get, if_pos (by simp)]; rfl
  have e1 : (w.alloc (.cells (av .u8 zeros32) 29)).heap.size = w.heap.size + 1 := by simp
  go_enter Try.func29, Try.ntmps29
  go_wp2_with (first
    | (refine wpList_build_as rfl 29 rfl (av .u8 zeros32) hbu.out ?_)
    | (refine wpList_alloc_as rfl 29 rfl (av .u8 zeros32) hz.out ?_)
    | (refine wpList_store_row rfl 29 _ _ rfl _ _ rfl rfl 29 _ (heap_new (w.alloc (.cells (av .u8 zeros32) 29)) _) sZ.out rfl (av_one _ _) ?_; rw [alloc_setRow]))
  try rw [e1]
  clear e1
  go_loopw [6] (fun c6 wr => ∃ i : Nat, i ≤ 8 ∧ c6 = .int .i64 i ∧ Hid (RdI (putTo zeros32 0 n i) w wr)) (fun c6 _ => 8 - (intOf c6).toNat)
  case atStart => exact ⟨0, by omega, rfl, hI0.out⟩
  case round =>
  obtain ⟨i, hi, rfl, hI⟩ := hrel
  clear hI0
  by_cases hi8 : i < 8
  · obtain ⟨x, hx⟩ : ∃ x, Hid (∀ _ : Unit, n / 256 ^ i % 256 = x) := ⟨_, fun _ => rfl⟩
    have d1 : IntKind.u8.wrap ((n : Int) / 2 ^ (8 * i)) = (x : Int) := by rw [shr_byte, hx.out ()]
    have hlen : (putTo zeros32 0 n i).length = 32 := by rw [putTo_length]; rfl
    obtain ⟨v, cw⟩ : ∃ v, wr.cell? ⟨w.heap.size + 1, i, none⟩ = some v := ⟨_, by rw [cell_of_row _ _ _ _ _ _ hI.out.x, av_get _ _ _ (by rw [hlen]; omega)]⟩
    have fw : wr.frozen? ⟨w.heap.size + 1, i, none⟩ = false := frozen_of_row _ _ _ _ _ hI.out.x
    have hI2 : Hid (RdI (putTo zeros32 0 n (i + 1)) w (wr.setCell ⟨w.heap.size + 1, i, none⟩ (.int .u8 (x : Int)))) := by
      refine ⟨by rw [heap_setCell_other _ _ _ _ (by simp)]; exact hI.out.r, ?_, hI.out.b.setCell (by simp) _⟩
      rw [heap_setCell_same _ _ _ _ _ _ hI.out.x, av_set, putTo, hx.out (), Nat.zero_add]
    have i1 : (i : Int) < 8 := by omega
    have i2 : (0 : Int) ≤ 8 * (i : Int) := by omega
    have i3 : (8 * (i : Int)).toNat = 8 * i := by omega
    have i4 : IntKind.u64.wrap (8 * (i : Int)) = 8 * (i : Int) := by rw [IntKind.wrap_u64]; omega
    clear hlen hx hI
    go_wp2
    go_roundw
    case rel => exact ⟨i + 1, by omega, by go_num, hI2⟩
    case measure => simp [intOf]; omega
  · obtain rfl : i = 8 := by omega
    have hI1 : Hid (RdI (seedN n) w wr) := hI
    clear hI
    obtain ⟨sd, hsd⟩ : ∃ sd, seedN n = sd := ⟨_, rfl⟩
    rw [hsd] at sS H hI1
    clear hsd
    have qx := hI1.out.x
    go_wp2_with (refine wpList_load_row_if rfl 29 _ rfl _ rfl 29 _ (0, 0) _ qx Try.underlying29 rfl sS.out ?_)
    refine (H.out _).mono ?_
    rintro e w1 ⟨gb, rfl, hr, hb1⟩
    have hr0 := Lib.hid (old_row hb1 (Array.getElem?_eq_some_iff.1 hI1.out.r).1 hI1.out.r)
    have hB1 := Lib.hid (hI1.out.b.trans (hb1.mono hI1.out.b.size))
    have hlb := (Array.getElem?_eq_some_iff.1 hr).1
    have hlw : w.heap.size < w1.heap.size := (Array.getElem?_eq_some_iff.1 hr0.out).1
    clear hI1 H hb1 qx sS
    go_wp2_with (first
      | (refine wpList_build_as rfl 29 rfl (av .u8 zeros32) hbu.out ?_)
      | (refine wpList_alloc_as rfl 29 rfl (av .u8 zeros32) hz.out ?_)
      | (refine wpList_store_row rfl 29 _ _ rfl _ _ rfl rfl 29 _ (heap_new w1 _) sZ.out rfl (av_one _ _) ?_; rw [alloc_setRow]))
    have hJ0 : Hid (RoutI D (outX D 32 0) gb w1.heap.size w (w1.alloc (.cells (av .u8 zeros32) 29))) :=
      ⟨old_alloc _ hr0.out, old_alloc _ hr, by rw [alloc_get, if_pos rfl]; rfl, hB1.out.alloc (by omega) _, hlw, by omega⟩
    obtain ⟨go, hgo⟩ : ∃ go, w1.heap.size = go := ⟨_, rfl⟩
    rw [hgo] at hJ0 ⊢
    clear hgo hlw hlb hr hr0 hB1 hz hbu sZ
    go_loopw [9] (fun c9 wr => ∃ i : Nat, i ≤ 32 ∧ c9 = .int .i64 i ∧ Hid (RoutI D (outX D 32 i) gb go w wr)) (fun c9 _ => 32 - (intOf c9).toNat)
    case atStart => exact ⟨0, by omega, rfl, hJ0.out⟩
    case round =>
    obtain ⟨i, hi, rfl, hI⟩ := hrel
    clear hJ0
    by_cases hi32 : i < 32
    · obtain ⟨x, hx⟩ : ∃ x, Hid (∀ _ : Unit, D.getD i 0 = x) := ⟨_, fun _ => rfl⟩
      have cb : wr.cell? ⟨gb, i, none⟩ = some (.int .u8 (x : Int)) := by rw [cell_of_row _ _ _ _ _ _ hI.out.y, av_get _ _ _ (by rw [hDl.out ()]; exact hi32), hx.out ()]
      obtain ⟨v, cw⟩ : ∃ v, wr.cell? ⟨go, i, none⟩ = some v := ⟨_, by rw [cell_of_row _ _ _ _ _ _ hI.out.o, av_get _ _ _ (by rw [outX_length _ _ _ (hDl.out ()) hi]; exact hi32)]⟩
      have fw : wr.frozen? ⟨go, i, none⟩ = false := frozen_of_row _ _ _ _ _ hI.out.o
      have hI2 : Hid (RoutI D (outX D 32 (i + 1)) gb go w (wr.setCell ⟨go, i, none⟩ (.int .u8 (x : Int)))) := hI.out.store (by rw [← hx.out (), outX_set _ _ _ (hDl.out ()) hi32])
      have i1 : (i : Int) < 32 := by omega
      clear hx hI
      go_wp2
      go_roundw
      case rel => exact ⟨i + 1, by omega, by go_num, hI2⟩
      case measure => simp [intOf]; omega
    · obtain rfl : i = 32 := by omega
      have hJ : Hid (RoutI D D gb go w wr) := by have := hI.out; rw [outX_full _ _ (hDl.out ())] at this; exact this
      clear hI
      have q0 := hJ.out.r
      have q2 := hJ.out.o
      go_wp2_with (first
        | (refine wpList_load_row_if rfl 29 _ rfl _ rfl 29 _ (0, 0) _ q2 Try.underlying29 rfl sD.out ?_)
        | (refine wpList_store_row rfl 29 _ _ rfl _ _ rfl rfl 29 _ q0 sD.out sE.out (av_one _ _) ?_))
      refine bodyPost_ret (v := .agg (av .u8 D)) ?_ rfl ⟨rfl, below_setRow hJ.out.b (by omega) _⟩
      exact results_cell_row rfl _ _ w.heap.size 29 _ (0, 0) _ rfl (setRow_heap _ _ _ _ _ _ q0) Try.underlying29 rfl sD.out
end Go.Proofs.Ythpjdgddpnpdpaa

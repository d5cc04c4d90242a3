/- Walks over stream: place, Nonce, and the reference's Nonce. -/
import Derived.Test.YthpjdgddpnpdpaaL
import Derived.Test.YthpjdgddpnpdpaaSlice
namespace Go.Proofs.Ythpjdgddpnpdpaa
open Go.RowKit

set_option maxRecDepth 100000 in
set_option maxHeartbeats 4000000 in
theorem place4_any (g t o c x : Nat) (bs : List Nat) (hl : o + 4 ≤ bs.length) (w : World) (hg : w.heap[g]? = some (.cells (av .u8 bs) t)) :
    Calls Try.prog 37 #[.slice (some ⟨g, o, none⟩) 4 c, .int .u64 x] w fun e w' => e = .returned (.tuple #[]) ∧ Rw .u8 g t (putTo bs o x 4) w w' := by
  have hG : Hid (Rw .u8 g t bs w w) := Rw.start hg
  have L := Lib.hid (putTo_length bs o x)
  have d0 : Hid (IntKind.u8.wrap ((x : Int)) = ((x / 256 ^ 0 % 256 : Nat) : Int)) := by rw [Hid, IntKind.wrap_u8]; omega
  obtain ⟨b0, B0⟩ : ∃ b, Hid (∀ _ : Unit, x / 256 ^ 0 % 256 = b) := ⟨_, fun _ => rfl⟩
  rw [B0.out ()] at d0
  have d1 : Hid (IntKind.u8.wrap ((x : Int) / 256) = ((x / 256 ^ 1 % 256 : Nat) : Int)) := by rw [Hid, IntKind.wrap_u8]; omega
  obtain ⟨b1, B1⟩ : ∃ b, Hid (∀ _ : Unit, x / 256 ^ 1 % 256 = b) := ⟨_, fun _ => rfl⟩
  rw [B1.out ()] at d1
  have d2 : Hid (IntKind.u8.wrap ((x : Int) / 65536) = ((x / 256 ^ 2 % 256 : Nat) : Int)) := by rw [Hid, IntKind.wrap_u8]; omega
  obtain ⟨b2, B2⟩ : ∃ b, Hid (∀ _ : Unit, x / 256 ^ 2 % 256 = b) := ⟨_, fun _ => rfl⟩
  rw [B2.out ()] at d2
  have d3 : Hid (IntKind.u8.wrap ((x : Int) / 16777216) = ((x / 256 ^ 3 % 256 : Nat) : Int)) := by rw [Hid, IntKind.wrap_u8]; omega
  obtain ⟨b3, B3⟩ : ∃ b, Hid (∀ _ : Unit, x / 256 ^ 3 % 256 = b) := ⟨_, fun _ => rfl⟩
  rw [B3.out ()] at d3
  have hl' := Lib.hid hl
  clear hg hl
  go_enter Try.func37, Try.ntmps37
  go_wp2_with fail
  go_loopw [7] (fun v wr => ∃ j : Nat, j ≤ 4 ∧ v = .int .i64 j ∧ Rw .u8 g t (putTo bs o x j) w wr) (fun v _ => 4 - (intOf v).toNat)
  case atStart => exact ⟨0, by omega, rfl, hG.out⟩
  case round =>
    obtain ⟨j, hj, rfl, hw⟩ := hrel
    match j, hj, hw with
    | 0, hj, hw =>
      obtain ⟨v, cw⟩ := cell_some hw (i := o) (by rw [L.out]; have := hl'.out; omega)
      have fw := hw.frozen (i := o)
      have d := d0.out
      go_wp2_with fail
      refine ⟨⟨1, by omega, rfl, ?_⟩, by simp [intOf]⟩
      have := hw.store (i := o + 0) (v := x / 256 ^ 0 % 256)
      rw [B0.out ()] at this
      show Rw .u8 g t ((putTo bs o x 0).set (o + 0) (x / 256 ^ 0 % 256)) w _
      rw [B0.out ()]
      exact this
    | 1, hj, hw =>
      obtain ⟨v, cw⟩ := cell_some hw (i := o + 1) (by rw [L.out]; have := hl'.out; omega)
      have fw := hw.frozen (i := o + 1)
      have d := d1.out
      go_wp2_with fail
      refine ⟨⟨2, by omega, rfl, ?_⟩, by simp [intOf]⟩
      have := hw.store (i := o + 1) (v := x / 256 ^ 1 % 256)
      rw [B1.out ()] at this
      show Rw .u8 g t ((putTo bs o x 1).set (o + 1) (x / 256 ^ 1 % 256)) w _
      rw [B1.out ()]
      exact this
    | 2, hj, hw =>
      obtain ⟨v, cw⟩ := cell_some hw (i := o + 2) (by rw [L.out]; have := hl'.out; omega)
      have fw := hw.frozen (i := o + 2)
      have d := d2.out
      go_wp2_with fail
      refine ⟨⟨3, by omega, rfl, ?_⟩, by simp [intOf]⟩
      have := hw.store (i := o + 2) (v := x / 256 ^ 2 % 256)
      rw [B2.out ()] at this
      show Rw .u8 g t ((putTo bs o x 2).set (o + 2) (x / 256 ^ 2 % 256)) w _
      rw [B2.out ()]
      exact this
    | 3, hj, hw =>
      obtain ⟨v, cw⟩ := cell_some hw (i := o + 3) (by rw [L.out]; have := hl'.out; omega)
      have fw := hw.frozen (i := o + 3)
      have d := d3.out
      go_wp2_with fail
      refine ⟨⟨4, by omega, rfl, ?_⟩, by simp [intOf]⟩
      have := hw.store (i := o + 3) (v := x / 256 ^ 3 % 256)
      rw [B3.out ()] at this
      show Rw .u8 g t ((putTo bs o x 3).set (o + 3) (x / 256 ^ 3 % 256)) w _
      rw [B3.out ()]
      exact this
    | 4, hj, hw =>
      go_wp2
      go_end0
      exact ⟨rfl, hw⟩
    | j + 5, hj, hw => omega
set_option maxRecDepth 100000 in
set_option maxHeartbeats 4000000 in
theorem place8_any (g t o c x : Nat) (bs : List Nat) (hl : o + 8 ≤ bs.length) (w : World) (hg : w.heap[g]? = some (.cells (av .u8 bs) t)) :
    Calls Try.prog 37 #[.slice (some ⟨g, o, none⟩) 8 c, .int .u64 x] w fun e w' => e = .returned (.tuple #[]) ∧ Rw .u8 g t (putTo bs o x 8) w w' := by
  have hG : Hid (Rw .u8 g t bs w w) := Rw.start hg
  have L := Lib.hid (putTo_length bs o x)
  have d0 : Hid (IntKind.u8.wrap ((x : Int)) = ((x / 256 ^ 0 % 256 : Nat) : Int)) := by rw [Hid, IntKind.wrap_u8]; omega
  obtain ⟨b0, B0⟩ : ∃ b, Hid (∀ _ : Unit, x / 256 ^ 0 % 256 = b) := ⟨_, fun _ => rfl⟩
  rw [B0.out ()] at d0
  have d1 : Hid (IntKind.u8.wrap ((x : Int) / 256) = ((x / 256 ^ 1 % 256 : Nat) : Int)) := by rw [Hid, IntKind.wrap_u8]; omega
  obtain ⟨b1, B1⟩ : ∃ b, Hid (∀ _ : Unit, x / 256 ^ 1 % 256 = b) := ⟨_, fun _ => rfl⟩
  rw [B1.out ()] at d1
  have d2 : Hid (IntKind.u8.wrap ((x : Int) / 65536) = ((x / 256 ^ 2 % 256 : Nat) : Int)) := by rw [Hid, IntKind.wrap_u8]; omega
  obtain ⟨b2, B2⟩ : ∃ b, Hid (∀ _ : Unit, x / 256 ^ 2 % 256 = b) := ⟨_, fun _ => rfl⟩
  rw [B2.out ()] at d2
  have d3 : Hid (IntKind.u8.wrap ((x : Int) / 16777216) = ((x / 256 ^ 3 % 256 : Nat) : Int)) := by rw [Hid, IntKind.wrap_u8]; omega
  obtain ⟨b3, B3⟩ : ∃ b, Hid (∀ _ : Unit, x / 256 ^ 3 % 256 = b) := ⟨_, fun _ => rfl⟩
  rw [B3.out ()] at d3
  have d4 : Hid (IntKind.u8.wrap ((x : Int) / 4294967296) = ((x / 256 ^ 4 % 256 : Nat) : Int)) := by rw [Hid, IntKind.wrap_u8]; omega
  obtain ⟨b4, B4⟩ : ∃ b, Hid (∀ _ : Unit, x / 256 ^ 4 % 256 = b) := ⟨_, fun _ => rfl⟩
  rw [B4.out ()] at d4
  have d5 : Hid (IntKind.u8.wrap ((x : Int) / 1099511627776) = ((x / 256 ^ 5 % 256 : Nat) : Int)) := by rw [Hid, IntKind.wrap_u8]; omega
  obtain ⟨b5, B5⟩ : ∃ b, Hid (∀ _ : Unit, x / 256 ^ 5 % 256 = b) := ⟨_, fun _ => rfl⟩
  rw [B5.out ()] at d5
  have d6 : Hid (IntKind.u8.wrap ((x : Int) / 281474976710656) = ((x / 256 ^ 6 % 256 : Nat) : Int)) := by rw [Hid, IntKind.wrap_u8]; omega
  obtain ⟨b6, B6⟩ : ∃ b, Hid (∀ _ : Unit, x / 256 ^ 6 % 256 = b) := ⟨_, fun _ => rfl⟩
  rw [B6.out ()] at d6
  have d7 : Hid (IntKind.u8.wrap ((x : Int) / 72057594037927936) = ((x / 256 ^ 7 % 256 : Nat) : Int)) := by rw [Hid, IntKind.wrap_u8]; omega
  obtain ⟨b7, B7⟩ : ∃ b, Hid (∀ _ : Unit, x / 256 ^ 7 % 256 = b) := ⟨_, fun _ => rfl⟩
  rw [B7.out ()] at d7
  have hl' := Lib.hid hl
  clear hg hl
  go_enter Try.func37, Try.ntmps37
  go_wp2_with fail
  go_loopw [7] (fun v wr => ∃ j : Nat, j ≤ 8 ∧ v = .int .i64 j ∧ Rw .u8 g t (putTo bs o x j) w wr) (fun v _ => 8 - (intOf v).toNat)
  case atStart => exact ⟨0, by omega, rfl, hG.out⟩
  case round =>
    obtain ⟨j, hj, rfl, hw⟩ := hrel
    match j, hj, hw with
    | 0, hj, hw =>
      obtain ⟨v, cw⟩ := cell_some hw (i := o) (by rw [L.out]; have := hl'.out; omega)
      have fw := hw.frozen (i := o)
      have d := d0.out
      go_wp2_with fail
      refine ⟨⟨1, by omega, rfl, ?_⟩, by simp [intOf]⟩
      have := hw.store (i := o + 0) (v := x / 256 ^ 0 % 256)
      rw [B0.out ()] at this
      show Rw .u8 g t ((putTo bs o x 0).set (o + 0) (x / 256 ^ 0 % 256)) w _
      rw [B0.out ()]
      exact this
    | 1, hj, hw =>
      obtain ⟨v, cw⟩ := cell_some hw (i := o + 1) (by rw [L.out]; have := hl'.out; omega)
      have fw := hw.frozen (i := o + 1)
      have d := d1.out
      go_wp2_with fail
      refine ⟨⟨2, by omega, rfl, ?_⟩, by simp [intOf]⟩
      have := hw.store (i := o + 1) (v := x / 256 ^ 1 % 256)
      rw [B1.out ()] at this
      show Rw .u8 g t ((putTo bs o x 1).set (o + 1) (x / 256 ^ 1 % 256)) w _
      rw [B1.out ()]
      exact this
    | 2, hj, hw =>
      obtain ⟨v, cw⟩ := cell_some hw (i := o + 2) (by rw [L.out]; have := hl'.out; omega)
      have fw := hw.frozen (i := o + 2)
      have d := d2.out
      go_wp2_with fail
      refine ⟨⟨3, by omega, rfl, ?_⟩, by simp [intOf]⟩
      have := hw.store (i := o + 2) (v := x / 256 ^ 2 % 256)
      rw [B2.out ()] at this
      show Rw .u8 g t ((putTo bs o x 2).set (o + 2) (x / 256 ^ 2 % 256)) w _
      rw [B2.out ()]
      exact this
    | 3, hj, hw =>
      obtain ⟨v, cw⟩ := cell_some hw (i := o + 3) (by rw [L.out]; have := hl'.out; omega)
      have fw := hw.frozen (i := o + 3)
      have d := d3.out
      go_wp2_with fail
      refine ⟨⟨4, by omega, rfl, ?_⟩, by simp [intOf]⟩
      have := hw.store (i := o + 3) (v := x / 256 ^ 3 % 256)
      rw [B3.out ()] at this
      show Rw .u8 g t ((putTo bs o x 3).set (o + 3) (x / 256 ^ 3 % 256)) w _
      rw [B3.out ()]
      exact this
    | 4, hj, hw =>
      obtain ⟨v, cw⟩ := cell_some hw (i := o + 4) (by rw [L.out]; have := hl'.out; omega)
      have fw := hw.frozen (i := o + 4)
      have d := d4.out
      go_wp2_with fail
      refine ⟨⟨5, by omega, rfl, ?_⟩, by simp [intOf]⟩
      have := hw.store (i := o + 4) (v := x / 256 ^ 4 % 256)
      rw [B4.out ()] at this
      show Rw .u8 g t ((putTo bs o x 4).set (o + 4) (x / 256 ^ 4 % 256)) w _
      rw [B4.out ()]
      exact this
    | 5, hj, hw =>
      obtain ⟨v, cw⟩ := cell_some hw (i := o + 5) (by rw [L.out]; have := hl'.out; omega)
      have fw := hw.frozen (i := o + 5)
      have d := d5.out
      go_wp2_with fail
      refine ⟨⟨6, by omega, rfl, ?_⟩, by simp [intOf]⟩
      have := hw.store (i := o + 5) (v := x / 256 ^ 5 % 256)
      rw [B5.out ()] at this
      show Rw .u8 g t ((putTo bs o x 5).set (o + 5) (x / 256 ^ 5 % 256)) w _
      rw [B5.out ()]
      exact this
    | 6, hj, hw =>
      obtain ⟨v, cw⟩ := cell_some hw (i := o + 6) (by rw [L.out]; have := hl'.out; omega)
      have fw := hw.frozen (i := o + 6)
      have d := d6.out
      go_wp2_with fail
      refine ⟨⟨7, by omega, rfl, ?_⟩, by simp [intOf]⟩
      have := hw.store (i := o + 6) (v := x / 256 ^ 6 % 256)
      rw [B6.out ()] at this
      show Rw .u8 g t ((putTo bs o x 6).set (o + 6) (x / 256 ^ 6 % 256)) w _
      rw [B6.out ()]
      exact this
    | 7, hj, hw =>
      obtain ⟨v, cw⟩ := cell_some hw (i := o + 7) (by rw [L.out]; have := hl'.out; omega)
      have fw := hw.frozen (i := o + 7)
      have d := d7.out
      go_wp2_with fail
      refine ⟨⟨8, by omega, rfl, ?_⟩, by simp [intOf]⟩
      have := hw.store (i := o + 7) (v := x / 256 ^ 7 % 256)
      rw [B7.out ()] at this
      show Rw .u8 g t ((putTo bs o x 7).set (o + 7) (x / 256 ^ 7 % 256)) w _
      rw [B7.out ()]
      exact this
    | 8, hj, hw =>
      go_wp2
      go_end0
      exact ⟨rfl, hw⟩
    | j + 9, hj, hw => omega
def nonceN (tag : Nat) : List Nat := putTo zeros12 0 tag 4
theorem nonceN_length (tag : Nat) : (nonceN tag).length = 12 := by rw [nonceN, putTo_length]; rfl
theorem nonceN_w8 (tag : Nat) : W8 (nonceN tag) := putTo_w8 _ _ _ zeros12_w8 4
set_option maxRecDepth 100000 in
set_option maxHeartbeats 4000000 in
theorem nonce_any (tag : Nat) (ht : tag < 4294967296) (w : World) :
    Calls Try.prog 21 #[.int .u32 tag] w fun e w' => e = .returned (.agg (av .u8 (nonceN tag))) ∧ Below w.heap.size w w' := by
  have hz : Hid ((Try.prog.info? 30).bind (·.zero) = some (.agg (av .u8 zeros12))) := by rw [Hid]; kernel_rfl
  have s30 : Hid ((Try.prog.info? 30).map (·.size) = some (av .u8 (nonceN tag)).size) := by rw [Hid, av_size, nonceN_length]; kernel_rfl
  have s30e : Hid ((av .u8 zeros12).size = (av .u8 (nonceN tag)).size) := by rw [Hid, av_size, av_size, nonceN_length]; rfl
  go_enter Try.func21, Try.ntmps21
  go_wp2_with (refine wpList_alloc_as rfl 30 rfl (av .u8 zeros12) hz.out ?_)
  obtain ⟨W, hW⟩ : ∃ W, W = (w.alloc (.cells (av .u8 zeros12) 30)).alloc (.cells (av .u8 zeros12) 30) := ⟨_, rfl⟩
  have e1 : (w.alloc (.cells (av .u8 zeros12) 30)).heap.size = w.heap.size + 1 := by simp
  have r0 : Hid (W.heap[w.heap.size]? = some (.cells (av .u8 zeros12) 30)) := by rw [Hid, hW]; exact old_alloc _ (heap_new w _)
  have r1 : Hid (W.heap[w.heap.size + 1]? = some (.cells (av .u8 zeros12) 30)) := by rw [Hid, hW, alloc_get, if_pos (by simp)]
  have hb : Hid (Below w.heap.size w W) := by rw [Hid, hW]; exact ((Below.refl _ _).alloc (Nat.le_refl _) _).alloc (by simp) _
  try rw [e1]
  rw [← hW]
  clear hW e1 hz
  refine (place4_any (w.heap.size + 1) 30 0 12 tag zeros12 (by decide) W r1.out).mono ?_
  rintro e W1 ⟨rfl, hr⟩
  have q1 := hr.row
  have q0 := (hr.oth w.heap.size (by omega)).trans r0.out
  have hB := Lib.hid (hb.out.trans (hr.below (B := w.heap.size) (by omega)))
  have hE : Hid (∀ _ : Unit, putTo zeros12 0 tag 4 = nonceN tag) := fun _ => rfl
  rw [hE.out ()] at q1
  clear hr r0 r1 hb
  go_wp2_with (first
    | (refine wpList_load_row_if rfl 30 _ rfl _ rfl 30 _ (0, 0) _ q1 Try.underlying30 rfl s30.out ?_)
    | (refine wpList_store_row rfl 30 _ _ rfl _ _ rfl rfl 30 _ q0 s30.out s30e.out (av_one _ _) ?_))
  refine bodyPost_ret (v := .agg (av .u8 (nonceN tag))) ?_ rfl ⟨rfl, below_setRow hB.out (by omega) _⟩
  exact results_cell_row rfl _ _ w.heap.size 30 _ (0, 0) _ rfl (setRow_heap _ _ _ _ _ _ q0) Try.underlying30 rfl s30.out
set_option maxRecDepth 100000 in
set_option maxHeartbeats 4000000 in
theorem refnonce_any (tag : Nat) (w : World) :
    Calls Try.prog 22 #[.int .u32 tag] w fun e w' => e = .returned (.agg (av .u8 (nonceN tag))) ∧ Below w.heap.size w w' := by
  have hz : Hid ((Try.prog.info? 30).bind (·.zero) = some (.agg (av .u8 zeros12))) := by rw [Hid]; kernel_rfl
  have s30 : Hid ((Try.prog.info? 30).map (·.size) = some (av .u8 (nonceN tag)).size) := by rw [Hid, av_size, nonceN_length]; kernel_rfl
  have s30e : Hid ((av .u8 zeros12).size = (av .u8 (nonceN tag)).size) := by rw [Hid, av_size, av_size, nonceN_length]; rfl
  have d0 : IntKind.u8.wrap ((tag : Int)) = ((tag / 256 ^ 0 % 256 : Nat) : Int) := by rw [IntKind.wrap_u8]; omega
  obtain ⟨b0, B0⟩ : ∃ b, Hid (∀ _ : Unit, tag / 256 ^ 0 % 256 = b) := ⟨_, fun _ => rfl⟩
  rw [B0.out ()] at d0
  have d1 : IntKind.u8.wrap ((tag : Int) / 256) = ((tag / 256 ^ 1 % 256 : Nat) : Int) := by rw [IntKind.wrap_u8]; omega
  obtain ⟨b1, B1⟩ : ∃ b, Hid (∀ _ : Unit, tag / 256 ^ 1 % 256 = b) := ⟨_, fun _ => rfl⟩
  rw [B1.out ()] at d1
  have d2 : IntKind.u8.wrap ((tag : Int) / 65536) = ((tag / 256 ^ 2 % 256 : Nat) : Int) := by rw [IntKind.wrap_u8]; omega
  obtain ⟨b2, B2⟩ : ∃ b, Hid (∀ _ : Unit, tag / 256 ^ 2 % 256 = b) := ⟨_, fun _ => rfl⟩
  rw [B2.out ()] at d2
  have d3 : IntKind.u8.wrap ((tag : Int) / 16777216) = ((tag / 256 ^ 3 % 256 : Nat) : Int) := by rw [IntKind.wrap_u8]; omega
  obtain ⟨b3, B3⟩ : ∃ b, Hid (∀ _ : Unit, tag / 256 ^ 3 % 256 = b) := ⟨_, fun _ => rfl⟩
  rw [B3.out ()] at d3
  have hE : Hid (∀ _ : Unit, nonceN tag = [b0, b1, b2, b3, 0, 0, 0, 0, 0, 0, 0, 0]) := fun _ => by rw [← B0.out (), ← B1.out (), ← B2.out (), ← B3.out ()]; rfl
  have hbu : Hid (Try.prog.built 30 [(0, .int .u8 b0), (1, .int .u8 b1), (2, .int .u8 b2), (3, .int .u8 b3)] = some (av .u8 (nonceN tag))) := by rw [Hid, hE.out ()]; kernel_rfl
  go_enter Try.func22, Try.ntmps22
  go_wp2_with (first
    | (refine wpList_alloc_as rfl 30 rfl (av .u8 zeros12) hz.out ?_)
    | (refine wpList_build_to rfl 30 _ rfl _ rfl (av .u8 (nonceN tag)) hbu.out ?_)
    | (refine wpList_store_row rfl 30 _ _ rfl _ _ rfl rfl 30 _ (heap_new w _) s30.out s30e.out (av_one _ _) ?_; rw [alloc_setRow]))
  refine bodyPost_ret (v := .agg (av .u8 (nonceN tag))) ?_ rfl ⟨rfl, (Below.refl _ _).alloc (Nat.le_refl _) _⟩
  exact results_cell_row rfl _ _ w.heap.size 30 _ (0, 0) _ rfl (heap_new w _) Try.underlying30 rfl s30.out
end Go.Proofs.Ythpjdgddpnpdpaa

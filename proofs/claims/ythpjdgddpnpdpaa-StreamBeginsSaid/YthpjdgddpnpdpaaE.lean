/- Walks over cipher: put. -/
import Derived.Test.YthpjdgddpnpdpaaD
namespace Go.Proofs.Ythpjdgddpnpdpaa
open Go.RowKit

/-- Bytes from a place on, up to a number of them, turned to a number's. -/
def putTo (bs : List Nat) (o x : Nat) : Nat → List Nat
  | 0 => bs
  | i + 1 => (putTo bs o x i).set (o + i) (x / 256 ^ i % 256)
theorem putTo_length (bs : List Nat) (o x : Nat) : ∀ i, (putTo bs o x i).length = bs.length
  | 0 => rfl
  | i + 1 => by simp [putTo, putTo_length bs o x i]
set_option maxRecDepth 100000 in
set_option maxHeartbeats 4000000 in
theorem put_any (g t o n c x : Nat) (bs : List Nat) (hl : o + 4 ≤ bs.length) (hn : 4 ≤ n) (w : World) (hg : w.heap[g]? = some (.cells (av .u8 bs) t)) :
    Calls Try.prog 35 #[.slice (some ⟨g, o, none⟩) n c, .int .u32 x] w fun e w' => e = .returned (.tuple #[]) ∧ Rw .u8 g t (putTo bs o x 4) w w' := by
  have hG : Hid (Rw .u8 g t bs w w) := Rw.start hg
  have L := Lib.hid (putTo_length bs o x)
  have n0 : 0 < n := by omega
  have n1 : (1 : Int) < (n : Int) := by omega
  have n2 : (2 : Int) < (n : Int) := by omega
  have n3 : (3 : Int) < (n : Int) := by omega
  have d0 : IntKind.u8.wrap (x : Int) = ((x / 256 ^ 0 % 256 : Nat) : Int) := by rw [IntKind.wrap_u8]; omega
  have d1 : IntKind.u8.wrap ((x : Int) / 256) = ((x / 256 ^ 1 % 256 : Nat) : Int) := by rw [IntKind.wrap_u8]; omega
  have d2 : IntKind.u8.wrap ((x : Int) / 65536) = ((x / 256 ^ 2 % 256 : Nat) : Int) := by rw [IntKind.wrap_u8]; omega
  have d3 : IntKind.u8.wrap ((x : Int) / 16777216) = ((x / 256 ^ 3 % 256 : Nat) : Int) := by rw [IntKind.wrap_u8]; omega
  obtain ⟨b0, hb0⟩ : ∃ b, x / 256 ^ 0 % 256 = b := ⟨_, rfl⟩
  obtain ⟨b1, hb1⟩ : ∃ b, x / 256 ^ 1 % 256 = b := ⟨_, rfl⟩
  obtain ⟨b2, hb2⟩ : ∃ b, x / 256 ^ 2 % 256 = b := ⟨_, rfl⟩
  obtain ⟨b3, hb3⟩ : ∃ b, x / 256 ^ 3 % 256 = b := ⟨_, rfl⟩
  rw [hb0] at d0
  rw [hb1] at d1
  rw [hb2] at d2
  rw [hb3] at d3
  have B0 := Lib.hid hb0
  have B1 := Lib.hid hb1
  have B2 := Lib.hid hb2
  have B3 := Lib.hid hb3
  have hl' := Lib.hid hl
  clear hg hn hb0 hb1 hb2 hb3 hl
  go_enter Try.func35, Try.ntmps35
  go_wp2_with fail
  go_loopw [5] (fun v wr => ∃ j : Nat, j ≤ 4 ∧ v = .int .i64 j ∧ Rw .u8 g t (putTo bs o x j) w wr) (fun v _ => 4 - (intOf v).toNat)
  case atStart => exact ⟨0, by omega, rfl, hG.out⟩
  case round =>
    obtain ⟨j, hj, rfl, hw⟩ := hrel
    match j, hj, hw with
    | 0, hj, hw =>
      obtain ⟨v, cw⟩ := cell_some hw (i := o) (by rw [L.out]; have := hl'.out; omega)
      have fw := hw.frozen (i := o)
      go_wp2_with fail
      refine ⟨⟨1, by omega, rfl, ?_⟩, by simp [intOf]⟩
      have := hw.store (i := o + 0) (v := x / 256 ^ 0 % 256)
      rw [B0.out] at this
      show Rw .u8 g t ((putTo bs o x 0).set (o + 0) (x / 256 ^ 0 % 256)) w _
      rw [B0.out]
      exact this
    | 1, hj, hw =>
      obtain ⟨v, cw⟩ := cell_some hw (i := o + 1) (by rw [L.out]; have := hl'.out; omega)
      have fw := hw.frozen (i := o + 1)
      go_wp2_with fail
      refine ⟨⟨2, by omega, rfl, ?_⟩, by simp [intOf]⟩
      have := hw.store (i := o + 1) (v := x / 256 ^ 1 % 256)
      rw [B1.out] at this
      show Rw .u8 g t ((putTo bs o x 1).set (o + 1) (x / 256 ^ 1 % 256)) w _
      rw [B1.out]
      exact this
    | 2, hj, hw =>
      obtain ⟨v, cw⟩ := cell_some hw (i := o + 2) (by rw [L.out]; have := hl'.out; omega)
      have fw := hw.frozen (i := o + 2)
      go_wp2_with fail
      refine ⟨⟨3, by omega, rfl, ?_⟩, by simp [intOf]⟩
      have := hw.store (i := o + 2) (v := x / 256 ^ 2 % 256)
      rw [B2.out] at this
      show Rw .u8 g t ((putTo bs o x 2).set (o + 2) (x / 256 ^ 2 % 256)) w _
      rw [B2.out]
      exact this
    | 3, hj, hw =>
      obtain ⟨v, cw⟩ := cell_some hw (i := o + 3) (by rw [L.out]; have := hl'.out; omega)
      have fw := hw.frozen (i := o + 3)
      go_wp2_with fail
      refine ⟨⟨4, by omega, rfl, ?_⟩, by simp [intOf]⟩
      have := hw.store (i := o + 3) (v := x / 256 ^ 3 % 256)
      rw [B3.out] at this
      show Rw .u8 g t ((putTo bs o x 3).set (o + 3) (x / 256 ^ 3 % 256)) w _
      rw [B3.out]
      exact this
    | 4, hj, hw =>
      go_wp2
      go_end0
      exact ⟨rfl, hw⟩
    | j + 5, hj, hw => omega
end Go.Proofs.Ythpjdgddpnpdpaa

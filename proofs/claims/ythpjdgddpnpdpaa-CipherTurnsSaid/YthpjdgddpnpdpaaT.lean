/- A turn to the left can be turned back. -/
import Derived.Test.YthpjdgddpnpdpaaA
namespace Go.Proofs.Ythpjdgddpnpdpaa
open Go.RowKit

theorem ro16_eq (x : Nat) (hx : x < 4294967296) : ro 16 x = (x % 65536) * 65536 + x / 65536 := by
  unfold ro
  rw [show x * 2 ^ 16 % 4294967296 = (x % 65536) * 2 ^ 16 by omega, nat_join 16 ((x % 65536) * 2 ^ 16) (x / 2 ^ (32 - 16)) (by simp) (by omega)]
theorem back16 (x : Nat) (hx : x < 4294967296) : (ro 16 x / 65536) ||| (ro 16 x * 65536 % 4294967296) = x := by
  rw [ro16_eq x hx]
  obtain ⟨a, ha⟩ : ∃ a, x % 65536 = a := ⟨_, rfl⟩
  obtain ⟨b, hb⟩ : ∃ b, x / 65536 = b := ⟨_, rfl⟩
  rw [ha, hb]
  have h1 : (a * 65536 + b) / 65536 = a := by omega
  have h2 : (a * 65536 + b) * 65536 % 4294967296 = b * 2 ^ 16 := by omega
  rw [h1, h2, Nat.or_comm, nat_join 16 (b * 2 ^ 16) a (by simp) (by omega)]
  omega

theorem ro12_eq (x : Nat) (hx : x < 4294967296) : ro 12 x = (x % 1048576) * 4096 + x / 1048576 := by
  unfold ro
  rw [show x * 2 ^ 12 % 4294967296 = (x % 1048576) * 2 ^ 12 by omega, nat_join 12 ((x % 1048576) * 2 ^ 12) (x / 2 ^ (32 - 12)) (by simp) (by omega)]
theorem back12 (x : Nat) (hx : x < 4294967296) : (ro 12 x / 4096) ||| (ro 12 x * 1048576 % 4294967296) = x := by
  rw [ro12_eq x hx]
  obtain ⟨a, ha⟩ : ∃ a, x % 1048576 = a := ⟨_, rfl⟩
  obtain ⟨b, hb⟩ : ∃ b, x / 1048576 = b := ⟨_, rfl⟩
  rw [ha, hb]
  have h1 : (a * 4096 + b) / 4096 = a := by omega
  have h2 : (a * 4096 + b) * 1048576 % 4294967296 = b * 2 ^ 20 := by omega
  rw [h1, h2, Nat.or_comm, nat_join 20 (b * 2 ^ 20) a (by simp) (by omega)]
  omega

theorem ro8_eq (x : Nat) (hx : x < 4294967296) : ro 8 x = (x % 16777216) * 256 + x / 16777216 := by
  unfold ro
  rw [show x * 2 ^ 8 % 4294967296 = (x % 16777216) * 2 ^ 8 by omega, nat_join 8 ((x % 16777216) * 2 ^ 8) (x / 2 ^ (32 - 8)) (by simp) (by omega)]
theorem back8 (x : Nat) (hx : x < 4294967296) : (ro 8 x / 256) ||| (ro 8 x * 16777216 % 4294967296) = x := by
  rw [ro8_eq x hx]
  obtain ⟨a, ha⟩ : ∃ a, x % 16777216 = a := ⟨_, rfl⟩
  obtain ⟨b, hb⟩ : ∃ b, x / 16777216 = b := ⟨_, rfl⟩
  rw [ha, hb]
  have h1 : (a * 256 + b) / 256 = a := by omega
  have h2 : (a * 256 + b) * 16777216 % 4294967296 = b * 2 ^ 24 := by omega
  rw [h1, h2, Nat.or_comm, nat_join 24 (b * 2 ^ 24) a (by simp) (by omega)]
  omega

theorem ro7_eq (x : Nat) (hx : x < 4294967296) : ro 7 x = (x % 33554432) * 128 + x / 33554432 := by
  unfold ro
  rw [show x * 2 ^ 7 % 4294967296 = (x % 33554432) * 2 ^ 7 by omega, nat_join 7 ((x % 33554432) * 2 ^ 7) (x / 2 ^ (32 - 7)) (by simp) (by omega)]
theorem back7 (x : Nat) (hx : x < 4294967296) : (ro 7 x / 128) ||| (ro 7 x * 33554432 % 4294967296) = x := by
  rw [ro7_eq x hx]
  obtain ⟨a, ha⟩ : ∃ a, x % 33554432 = a := ⟨_, rfl⟩
  obtain ⟨b, hb⟩ : ∃ b, x / 33554432 = b := ⟨_, rfl⟩
  rw [ha, hb]
  have h1 : (a * 128 + b) / 128 = a := by omega
  have h2 : (a * 128 + b) * 33554432 % 4294967296 = b * 2 ^ 25 := by omega
  rw [h1, h2, Nat.or_comm, nat_join 25 (b * 2 ^ 25) a (by simp) (by omega)]
  omega
theorem xo_back (a b : Nat) : xo (xo a b) b = a := by simp [xo, Nat.xor_assoc]
theorem sm_back (a b : Nat) (ha : a < 4294967296) : ((sm a b : Int) - (b : Int)) % 4294967296 = (a : Int) := by
  unfold sm
  omega
end Go.Proofs.Ythpjdgddpnpdpaa

/- Walks over cipher and its reference: a quarter round. -/
import Derived.Test.YthpjdgddpnpdpaaRows
import Derived.Test.YthpjdgddpnpdpaaWords
import Derived.Lib.Hide
namespace Go.Proofs.Ythpjdgddpnpdpaa
open Go.RowKit

theorem u32_nat (a : Nat) (h : a < 4294967296) : (BitVec.ofInt 32 (a : Int)).toNat = a := by
  rw [BitVec.ofInt_natCast, BitVec.toNat_ofNat]; exact Nat.mod_eq_of_lt (by omega)
theorem u32_xor (a b : Nat) (ha : a < 4294967296) (hb : b < 4294967296) : bits .xor .u32 (a : Int) (b : Int) = ((a ^^^ b : Nat) : Int) := by
  have hx : a ^^^ b < 2 ^ 32 := Nat.xor_lt_two_pow (by omega) (by omega)
  show IntKind.u32.wrap ((BitVec.ofInt 32 (a : Int) ^^^ BitVec.ofInt 32 (b : Int)).toNat : Int) = _
  rw [BitVec.toNat_xor, u32_nat a ha, u32_nat b hb, IntKind.wrap_u32]
  omega
theorem u32_or (a b : Nat) (ha : a < 4294967296) (hb : b < 4294967296) : bits .or .u32 (a : Int) (b : Int) = ((a ||| b : Nat) : Int) := by
  have hx : a ||| b < 2 ^ 32 := Nat.or_lt_two_pow (by omega) (by omega)
  show IntKind.u32.wrap ((BitVec.ofInt 32 (a : Int) ||| BitVec.ofInt 32 (b : Int)).toNat : Int) = _
  rw [BitVec.toNat_or, u32_nat a ha, u32_nat b hb, IntKind.wrap_u32]
  omega
/-- Sums, and turns to the left, of numbers of 32 bits. -/
def sm (a b : Nat) : Nat := (a + b) % 4294967296
def xo (a b : Nat) : Nat := a ^^^ b
def ro (n x : Nat) : Nat := (x * 2 ^ n % 4294967296) ||| (x / 2 ^ (32 - n))
theorem sm_lt (a b : Nat) : sm a b < 4294967296 := Nat.mod_lt _ (by decide)
theorem xo_lt (a b : Nat) (ha : a < 4294967296) (hb : b < 4294967296) : xo a b < 4294967296 := Nat.xor_lt_two_pow (n := 32) ha hb
theorem ro_lt (n x : Nat) (hx : x < 4294967296) : ro n x < 4294967296 :=
  Nat.or_lt_two_pow (n := 32) (Nat.mod_lt _ (by decide)) (Nat.lt_of_le_of_lt (Nat.div_le_self _ _) hx)
theorem sm_int (a b : Nat) : ((a : Int) + (b : Int)) % 4294967296 = (sm a b : Nat) := by
  rw [sm, ← Int.natCast_add]; rfl
theorem xo_int (a b : Nat) (ha : a < 4294967296) (hb : b < 4294967296) : bits .xor .u32 (a : Int) (b : Int) = (xo a b : Nat) := u32_xor a b ha hb
/-- The first of two like halves of a quarter round: the sum, and how what is turned turns. -/
def hf (n a b d : Nat) : Nat × Nat := (sm a b, ro n (xo d (sm a b)))
/-- A quarter round. -/
def qr (a b c d : Nat) : Nat × Nat × Nat × Nat :=
  let a1 := sm a b; let d1 := ro 16 (xo d a1)
  let c1 := sm c d1; let b1 := ro 12 (xo b c1)
  let a2 := sm a1 b1; let d2 := ro 8 (xo d1 a2)
  let c2 := sm c1 d2; let b2 := ro 7 (xo b1 c2)
  (a2, b2, c2, d2)

theorem ro_int16 (x : Nat) (hx : x < 4294967296) : bits .or .u32 ((x : Int) * 65536 % 4294967296) ((x : Int) / 65536) = (ro 16 x : Nat) := by
  have h1 : ((x : Int) * 65536 % 4294967296) = ((x * 65536 % 4294967296 : Nat) : Int) := by omega
  have h2 : ((x : Int) / 65536) = ((x / 65536 : Nat) : Int) := by omega
  rw [h1, h2]
  exact u32_or _ _ (Nat.mod_lt _ (by decide)) (Nat.lt_of_le_of_lt (Nat.div_le_self _ _) hx)
set_option maxHeartbeats 400000 in
theorem rotl16_any (x : Nat) (hx : x < 4294967296) (w : World) :
    Calls Try.prog 38 #[.int .u32 x, .int .i64 16] w fun e w' => e = .returned (.int .u32 (ro 16 x : Nat)) ∧ w = w' := by
  have hb : bits .and .u64 16 31 = 16 := by decide
  have hr : Hid (bits .or .u32 ((x : Int) * 65536 % 4294967296) ((x : Int) / 65536) = (ro 16 x : Nat)) := ro_int16 x hx
  go_enter Try.func38, Try.ntmps38
  go_wp2
  rw [hr.out]
  go_wp2
  go_ret
  exact ⟨rfl, rfl⟩
set_option maxHeartbeats 400000 in
theorem turn16_any (x : Nat) (hx : x < 4294967296) (w : World) :
    Calls Try.prog 31 #[.int .u32 x, .int .u64 16] w fun e w' => e = .returned (.int .u32 (ro 16 x : Nat)) ∧ w = w' := by
  have hr : Hid (bits .or .u32 ((x : Int) * 65536 % 4294967296) ((x : Int) / 65536) = (ro 16 x : Nat)) := ro_int16 x hx
  go_enter Try.func31, Try.ntmps31
  go_wp2
  rw [hr.out]
  go_ret
  exact ⟨rfl, rfl⟩
set_option maxHeartbeats 400000 in
theorem half16_any (a b d : Nat) (hd : d < 4294967296) (w : World) :
    Calls Try.prog 30 #[.int .u32 a, .int .u32 b, .int .u32 d, .int .i64 16] w fun e w' => e = .returned (.tuple #[.int .u32 ((hf 16 a b d).1 : Nat), .int .u32 ((hf 16 a b d).2 : Nat)]) ∧ w = w' := by
  obtain ⟨s, hs, hS⟩ : ∃ s, s < 4294967296 ∧ sm a b = s := ⟨_, sm_lt a b, rfl⟩
  obtain ⟨x, hx, hX⟩ : ∃ x, x < 4294967296 ∧ xo d s = x := ⟨_, xo_lt d s hd hs, rfl⟩
  have e1 : ((a : Int) + (b : Int)) % 4294967296 = (s : Int) := by rw [sm_int, hS]
  have e2 : bits .xor .u32 (d : Int) (s : Int) = (x : Int) := by rw [xo_int d s hd hs, hX]
  have h3 : hf 16 a b d = (s, ro 16 x) := by rw [hf, hS, hX]
  rw [h3]
  have hx' : Hid (x < 4294967296) := hx
  clear hS hX h3 hx hs hd
  go_enter Try.func30, Try.ntmps30
  go_wp2_with fail
  refine (rotl16_any x hx'.out _).mono ?_
  rintro e w' ⟨rfl, rfl⟩
  go_wp2
  go_ret2
  exact ⟨rfl, rfl⟩

theorem ro_int12 (x : Nat) (hx : x < 4294967296) : bits .or .u32 ((x : Int) * 4096 % 4294967296) ((x : Int) / 1048576) = (ro 12 x : Nat) := by
  have h1 : ((x : Int) * 4096 % 4294967296) = ((x * 4096 % 4294967296 : Nat) : Int) := by omega
  have h2 : ((x : Int) / 1048576) = ((x / 1048576 : Nat) : Int) := by omega
  rw [h1, h2]
  exact u32_or _ _ (Nat.mod_lt _ (by decide)) (Nat.lt_of_le_of_lt (Nat.div_le_self _ _) hx)
set_option maxHeartbeats 400000 in
theorem rotl12_any (x : Nat) (hx : x < 4294967296) (w : World) :
    Calls Try.prog 38 #[.int .u32 x, .int .i64 12] w fun e w' => e = .returned (.int .u32 (ro 12 x : Nat)) ∧ w = w' := by
  have hb : bits .and .u64 12 31 = 12 := by decide
  have hr : Hid (bits .or .u32 ((x : Int) * 4096 % 4294967296) ((x : Int) / 1048576) = (ro 12 x : Nat)) := ro_int12 x hx
  go_enter Try.func38, Try.ntmps38
  go_wp2
  rw [hr.out]
  go_wp2
  go_ret
  exact ⟨rfl, rfl⟩
set_option maxHeartbeats 400000 in
theorem turn12_any (x : Nat) (hx : x < 4294967296) (w : World) :
    Calls Try.prog 31 #[.int .u32 x, .int .u64 12] w fun e w' => e = .returned (.int .u32 (ro 12 x : Nat)) ∧ w = w' := by
  have hr : Hid (bits .or .u32 ((x : Int) * 4096 % 4294967296) ((x : Int) / 1048576) = (ro 12 x : Nat)) := ro_int12 x hx
  go_enter Try.func31, Try.ntmps31
  go_wp2
  rw [hr.out]
  go_ret
  exact ⟨rfl, rfl⟩
set_option maxHeartbeats 400000 in
theorem half12_any (a b d : Nat) (hd : d < 4294967296) (w : World) :
    Calls Try.prog 30 #[.int .u32 a, .int .u32 b, .int .u32 d, .int .i64 12] w fun e w' => e = .returned (.tuple #[.int .u32 ((hf 12 a b d).1 : Nat), .int .u32 ((hf 12 a b d).2 : Nat)]) ∧ w = w' := by
  obtain ⟨s, hs, hS⟩ : ∃ s, s < 4294967296 ∧ sm a b = s := ⟨_, sm_lt a b, rfl⟩
  obtain ⟨x, hx, hX⟩ : ∃ x, x < 4294967296 ∧ xo d s = x := ⟨_, xo_lt d s hd hs, rfl⟩
  have e1 : ((a : Int) + (b : Int)) % 4294967296 = (s : Int) := by rw [sm_int, hS]
  have e2 : bits .xor .u32 (d : Int) (s : Int) = (x : Int) := by rw [xo_int d s hd hs, hX]
  have h3 : hf 12 a b d = (s, ro 12 x) := by rw [hf, hS, hX]
  rw [h3]
  have hx' : Hid (x < 4294967296) := hx
  clear hS hX h3 hx hs hd
  go_enter Try.func30, Try.ntmps30
  go_wp2_with fail
  refine (rotl12_any x hx'.out _).mono ?_
  rintro e w' ⟨rfl, rfl⟩
  go_wp2
  go_ret2
  exact ⟨rfl, rfl⟩

theorem ro_int8 (x : Nat) (hx : x < 4294967296) : bits .or .u32 ((x : Int) * 256 % 4294967296) ((x : Int) / 16777216) = (ro 8 x : Nat) := by
  have h1 : ((x : Int) * 256 % 4294967296) = ((x * 256 % 4294967296 : Nat) : Int) := by omega
  have h2 : ((x : Int) / 16777216) = ((x / 16777216 : Nat) : Int) := by omega
  rw [h1, h2]
  exact u32_or _ _ (Nat.mod_lt _ (by decide)) (Nat.lt_of_le_of_lt (Nat.div_le_self _ _) hx)
set_option maxHeartbeats 400000 in
theorem rotl8_any (x : Nat) (hx : x < 4294967296) (w : World) :
    Calls Try.prog 38 #[.int .u32 x, .int .i64 8] w fun e w' => e = .returned (.int .u32 (ro 8 x : Nat)) ∧ w = w' := by
  have hb : bits .and .u64 8 31 = 8 := by decide
  have hr : Hid (bits .or .u32 ((x : Int) * 256 % 4294967296) ((x : Int) / 16777216) = (ro 8 x : Nat)) := ro_int8 x hx
  go_enter Try.func38, Try.ntmps38
  go_wp2
  rw [hr.out]
  go_wp2
  go_ret
  exact ⟨rfl, rfl⟩
set_option maxHeartbeats 400000 in
theorem turn8_any (x : Nat) (hx : x < 4294967296) (w : World) :
    Calls Try.prog 31 #[.int .u32 x, .int .u64 8] w fun e w' => e = .returned (.int .u32 (ro 8 x : Nat)) ∧ w = w' := by
  have hr : Hid (bits .or .u32 ((x : Int) * 256 % 4294967296) ((x : Int) / 16777216) = (ro 8 x : Nat)) := ro_int8 x hx
  go_enter Try.func31, Try.ntmps31
  go_wp2
  rw [hr.out]
  go_ret
  exact ⟨rfl, rfl⟩
set_option maxHeartbeats 400000 in
theorem half8_any (a b d : Nat) (hd : d < 4294967296) (w : World) :
    Calls Try.prog 30 #[.int .u32 a, .int .u32 b, .int .u32 d, .int .i64 8] w fun e w' => e = .returned (.tuple #[.int .u32 ((hf 8 a b d).1 : Nat), .int .u32 ((hf 8 a b d).2 : Nat)]) ∧ w = w' := by
  obtain ⟨s, hs, hS⟩ : ∃ s, s < 4294967296 ∧ sm a b = s := ⟨_, sm_lt a b, rfl⟩
  obtain ⟨x, hx, hX⟩ : ∃ x, x < 4294967296 ∧ xo d s = x := ⟨_, xo_lt d s hd hs, rfl⟩
  have e1 : ((a : Int) + (b : Int)) % 4294967296 = (s : Int) := by rw [sm_int, hS]
  have e2 : bits .xor .u32 (d : Int) (s : Int) = (x : Int) := by rw [xo_int d s hd hs, hX]
  have h3 : hf 8 a b d = (s, ro 8 x) := by rw [hf, hS, hX]
  rw [h3]
  have hx' : Hid (x < 4294967296) := hx
  clear hS hX h3 hx hs hd
  go_enter Try.func30, Try.ntmps30
  go_wp2_with fail
  refine (rotl8_any x hx'.out _).mono ?_
  rintro e w' ⟨rfl, rfl⟩
  go_wp2
  go_ret2
  exact ⟨rfl, rfl⟩

theorem ro_int7 (x : Nat) (hx : x < 4294967296) : bits .or .u32 ((x : Int) * 128 % 4294967296) ((x : Int) / 33554432) = (ro 7 x : Nat) := by
  have h1 : ((x : Int) * 128 % 4294967296) = ((x * 128 % 4294967296 : Nat) : Int) := by omega
  have h2 : ((x : Int) / 33554432) = ((x / 33554432 : Nat) : Int) := by omega
  rw [h1, h2]
  exact u32_or _ _ (Nat.mod_lt _ (by decide)) (Nat.lt_of_le_of_lt (Nat.div_le_self _ _) hx)
set_option maxHeartbeats 400000 in
theorem rotl7_any (x : Nat) (hx : x < 4294967296) (w : World) :
    Calls Try.prog 38 #[.int .u32 x, .int .i64 7] w fun e w' => e = .returned (.int .u32 (ro 7 x : Nat)) ∧ w = w' := by
  have hb : bits .and .u64 7 31 = 7 := by decide
  have hr : Hid (bits .or .u32 ((x : Int) * 128 % 4294967296) ((x : Int) / 33554432) = (ro 7 x : Nat)) := ro_int7 x hx
  go_enter Try.func38, Try.ntmps38
  go_wp2
  rw [hr.out]
  go_wp2
  go_ret
  exact ⟨rfl, rfl⟩
set_option maxHeartbeats 400000 in
theorem turn7_any (x : Nat) (hx : x < 4294967296) (w : World) :
    Calls Try.prog 31 #[.int .u32 x, .int .u64 7] w fun e w' => e = .returned (.int .u32 (ro 7 x : Nat)) ∧ w = w' := by
  have hr : Hid (bits .or .u32 ((x : Int) * 128 % 4294967296) ((x : Int) / 33554432) = (ro 7 x : Nat)) := ro_int7 x hx
  go_enter Try.func31, Try.ntmps31
  go_wp2
  rw [hr.out]
  go_ret
  exact ⟨rfl, rfl⟩
set_option maxHeartbeats 400000 in
theorem half7_any (a b d : Nat) (hd : d < 4294967296) (w : World) :
    Calls Try.prog 30 #[.int .u32 a, .int .u32 b, .int .u32 d, .int .i64 7] w fun e w' => e = .returned (.tuple #[.int .u32 ((hf 7 a b d).1 : Nat), .int .u32 ((hf 7 a b d).2 : Nat)]) ∧ w = w' := by
  obtain ⟨s, hs, hS⟩ : ∃ s, s < 4294967296 ∧ sm a b = s := ⟨_, sm_lt a b, rfl⟩
  obtain ⟨x, hx, hX⟩ : ∃ x, x < 4294967296 ∧ xo d s = x := ⟨_, xo_lt d s hd hs, rfl⟩
  have e1 : ((a : Int) + (b : Int)) % 4294967296 = (s : Int) := by rw [sm_int, hS]
  have e2 : bits .xor .u32 (d : Int) (s : Int) = (x : Int) := by rw [xo_int d s hd hs, hX]
  have h3 : hf 7 a b d = (s, ro 7 x) := by rw [hf, hS, hX]
  rw [h3]
  have hx' : Hid (x < 4294967296) := hx
  clear hS hX h3 hx hs hd
  go_enter Try.func30, Try.ntmps30
  go_wp2_with fail
  refine (rotl7_any x hx'.out _).mono ?_
  rintro e w' ⟨rfl, rfl⟩
  go_wp2
  go_ret2
  exact ⟨rfl, rfl⟩

theorem results_tmp4 {fn : Func} {t u v x : Tmp} (h : fn.results = #[.tmp t, .tmp u, .tmp v, .tmp x]) (tmps : Array Value) (P : Program) (w : World) :
    (results fn tmps).run P w = .ok (.tuple #[tmps.getD t undef, tmps.getD u undef, tmps.getD v undef, tmps.getD x undef]) w := by
  simp [results, h]
set_option maxHeartbeats 1000000 in
theorem quarter_any (a b c d : Nat) (hb : b < 4294967296) (hd : d < 4294967296) (w : World) :
    Calls Try.prog 13 #[.int .u32 a, .int .u32 b, .int .u32 c, .int .u32 d] w fun e w' =>
      e = .returned (.tuple #[.int .u32 ((qr a b c d).1 : Nat), .int .u32 ((qr a b c d).2.1 : Nat), .int .u32 ((qr a b c d).2.2.1 : Nat), .int .u32 ((qr a b c d).2.2.2 : Nat)]) ∧ w = w' := by
  obtain ⟨a1, A1⟩ : ∃ a1, sm a b = a1 := ⟨_, rfl⟩
  obtain ⟨d1, D1⟩ : ∃ d1, ro 16 (xo d a1) = d1 := ⟨_, rfl⟩
  obtain ⟨c1, C1⟩ : ∃ c1, sm c d1 = c1 := ⟨_, rfl⟩
  obtain ⟨b1, B1⟩ : ∃ b1, ro 12 (xo b c1) = b1 := ⟨_, rfl⟩
  obtain ⟨a2, A2⟩ : ∃ a2, sm a1 b1 = a2 := ⟨_, rfl⟩
  obtain ⟨d2, D2⟩ : ∃ d2, ro 8 (xo d1 a2) = d2 := ⟨_, rfl⟩
  obtain ⟨c2, C2⟩ : ∃ c2, sm c1 d2 = c2 := ⟨_, rfl⟩
  obtain ⟨b2, B2⟩ : ∃ b2, ro 7 (xo b1 c2) = b2 := ⟨_, rfl⟩
  have h1 : hf 16 a b d = (a1, d1) := by rw [hf, A1, D1]
  have h2 : hf 12 c d1 b = (c1, b1) := by rw [hf, C1, B1]
  have h3 : hf 8 a1 b1 d1 = (a2, d2) := by rw [hf, A2, D2]
  have h4 : hf 7 c1 d2 b1 = (c2, b2) := by rw [hf, C2, B2]
  have l1 : Hid (d1 < 4294967296) := by rw [← D1, ← A1]; exact ro_lt _ _ (xo_lt _ _ hd (sm_lt _ _))
  have l2 : Hid (b1 < 4294967296) := by rw [← B1, ← C1]; exact ro_lt _ _ (xo_lt _ _ hb (sm_lt _ _))
  have hq : qr a b c d = (a2, b2, c2, d2) := by
    simp only [qr, A1, D1, C1, B1, A2, D2, C2, B2]
  rw [hq]
  have H1 : Hid (hf 16 a b d = (a1, d1)) := h1
  have H2 : Hid (hf 12 c d1 b = (c1, b1)) := h2
  have H3 : Hid (hf 8 a1 b1 d1 = (a2, d2)) := h3
  have H4 : Hid (hf 7 c1 d2 b1 = (c2, b2)) := h4
  have hb' : Hid (b < 4294967296) := hb
  have hd' : Hid (d < 4294967296) := hd
  clear hq h1 h2 h3 h4 hb hd A1 D1 C1 B1 A2 D2 C2 B2
  go_enter Try.func13, Try.ntmps13
  go_wp2_with fail
  refine (half16_any a b d hd'.out _).mono ?_
  rintro e w' ⟨rfl, rfl⟩
  rw [H1.out]
  go_wp2_with fail
  refine (half12_any c d1 b hb'.out _).mono ?_
  rintro e w' ⟨rfl, rfl⟩
  rw [H2.out]
  go_wp2_with fail
  refine (half8_any a1 b1 d1 l1.out _).mono ?_
  rintro e w' ⟨rfl, rfl⟩
  rw [H3.out]
  go_wp2_with fail
  refine (half7_any c1 d2 b1 l2.out _).mono ?_
  rintro e w' ⟨rfl, rfl⟩
  rw [H4.out]
  go_wp2
  exact bodyPost_ret (results_tmp4 rfl _ _ _) rfl ⟨rfl, rfl⟩
end Go.Proofs.Ythpjdgddpnpdpaa

/- The walk of the reference's inverse, by division with rest. -/
import Derived.Test.YtcamniadkackdaaC
namespace Go.Proofs.Ytcamniadkackdaa
open Go.RowKit

theorem sub_mod_eq (u s : Nat) : subP ((u + s) % Pn) (u % Pn) = s % Pn := by
  unfold subP
  rw [show Pn = 2305843009213693951 from rfl]
  omega
theorem neg_part (y a : Nat) (hy : y ≤ 2305843009213693951) : ((2305843009213693951 - y) * a) % 2305843009213693951 = (2305843009213693951 - y * a % 2305843009213693951) % 2305843009213693951 := by
  have h : (2305843009213693951 - y) * a + y * a = 2305843009213693951 * a := by rw [← Nat.add_mul, Nat.sub_add_cancel hy]
  generalize (2305843009213693951 - y) * a = m at *
  generalize y * a = n at *
  omega
theorem mulP_sub (x y a : Nat) : mulP (subP x y) a = subP (mulP x a) (mulP y a) := by
  have hy := mod_lt' y
  have e1 : mulP (subP x y) a = (x % Pn * a + (Pn - y % Pn) * a) % Pn := by
    unfold mulP subP
    rw [Nat.mul_mod, Nat.mod_mod, ← Nat.mul_mod, Nat.add_mul]
  have e2 : subP (mulP x a) (mulP y a) = (mulP x a + (Pn - mulP y a) % Pn) % Pn := by
    unfold subP mulP
    rw [Nat.mod_mod, Nat.mod_mod, Nat.add_mod_mod]
  have e3 : mulP y a = y % Pn * a % Pn := by rw [← mulP_base]; rfl
  have e4 : mulP x a = x % Pn * a % Pn := by rw [← mulP_base]; rfl
  rw [e1, e2, e3, e4, Nat.add_mod, show Pn = 2305843009213693951 from rfl, neg_part _ a (by rw [show Pn = 2305843009213693951 from rfl] at hy; omega)]
theorem inv_round (a o r wa t : Nat) (hw : mulP wa a = o % Pn) (ht : mulP t a = r % Pn) : mulP (subP wa (mulP (o / r) t)) a = (o - o / r * r) % Pn := by
  rw [mulP_sub, hw, mulP_assoc, ht, mulP_base_right]
  have h : o / r * r + (o - o / r * r) = o := Nat.add_sub_cancel' (Nat.div_mul_le_self o r)
  have := sub_mod_eq (o / r * r) (o - o / r * r)
  rw [h] at this
  exact this
theorem gcd_P (x : Nat) (h : x % Pn ≠ 0) : Nat.gcd Pn (x % Pn) = 1 := by
  have h1 := inv_turns x h
  rw [← mulP_base_right] at h1
  have hd1 : Nat.gcd Pn (x % Pn) ∣ Pn := Nat.gcd_dvd_left _ _
  have hd2 : Nat.gcd Pn (x % Pn) ∣ invP x * (x % Pn) := Nat.dvd_mul_left_of_dvd (Nat.gcd_dvd_right _ _) _
  have h3 : Nat.gcd Pn (x % Pn) ∣ 1 := by
    have := (Nat.dvd_mod_iff hd1).2 hd2
    unfold mulP at h1
    rwa [h1] at this
  exact Nat.dvd_one.1 h3

set_option maxHeartbeats 1000000 in
theorem refinv_any (a : Nat) (ha : a < 18446744073709551616) (h0 : a % Pn ≠ 0) (w : World) :
    Calls Try.prog 25 #[.int .u64 a] w fun e w' => e = .returned (.int .u64 (invP a : Nat)) ∧ w = w' := by
  obtain ⟨x, hx, hX⟩ : ∃ x, x < 2305843009213693951 ∧ Hid (a % Pn = x) := ⟨_, mod_lt' a, rfl⟩
  have E1 : Hid ((a : Int) % 2305843009213693951 = (x : Int)) := by rw [Hid, ← hX.out]; rfl
  have hU := inv_unique a
  have hI : Hid (mulP (invP a) a = 1) := inv_turns a h0
  have hG : Hid (Nat.gcd Pn x = 1) := by rw [Hid, ← hX.out]; exact gcd_P a h0
  clear h0
  go_enter Try.func25, Try.ntmps25
  go_wp2
  rw [E1.out]
  go_loop [3, 4, 5, 6] (fun o r wa t => ∃ o' r' wa' t' : Nat, o' ≤ 2305843009213693951 ∧ r' < 2305843009213693951 ∧ wa' < 2305843009213693951 ∧ t' < 2305843009213693951 ∧ o = .int .u64 o' ∧ r = .int .u64 r' ∧ wa = .int .u64 wa' ∧ t = .int .u64 t' ∧
      mulP wa' a = o' % Pn ∧ mulP t' a = r' % Pn ∧ Nat.gcd o' r' = 1) (fun _ r _ _ => (intOf r).toNat)
  case atStart =>
    refine ⟨2305843009213693951, x, 0, 1, by omega, hx, by omega, by omega, rfl, rfl, rfl, rfl, ?_, ?_, hG.out⟩
    · unfold mulP; rw [Nat.zero_mul]; rfl
    · rw [← hX.out, Nat.mod_mod]; unfold mulP; rw [Nat.one_mul]
  case round =>
    obtain ⟨o, r, wa, t, ho, hr, hwa, ht, rfl, rfl, rfl, rfl, i1, i2, i3⟩ := hrel
    have I1 : Hid (mulP wa a = o % Pn) := i1
    have I2 : Hid (mulP t a = r % Pn) := i2
    have I3 : Hid (Nat.gcd o r = 1) := i3
    clear i1 i2 i3
    by_cases hz : r = 0
    · subst hz
      go_wp2
      go_ret
      refine ⟨ret_u64 ?_, rfl⟩
      have h1 : o = 1 := by have := I3.out; rwa [Nat.gcd_zero_right] at this
      have h2 : mulP wa a = 1 := by rw [I1.out, h1]; rfl
      exact congrArg Nat.cast (hU wa (invP a) hwa (powP_lt' _ _) h2 hI.out)
    · obtain ⟨q, hq, hQ⟩ : ∃ q, q ≤ o ∧ Hid (o / r = q) := ⟨_, Nat.div_le_self _ _, rfl⟩
      obtain ⟨u, hu, hUu⟩ : ∃ u, u ≤ o ∧ Hid (o / r * r = u) := ⟨_, Nat.div_mul_le_self _ _, rfl⟩
      have hlt : o - u < r := by
        rw [← hUu.out, Nat.mul_comm, ← Nat.mod_eq_sub]
        exact Nat.mod_lt _ (by omega)
      have n1 : ((r : Int) != 0) = true := by rw [bne_iff_ne]; omega
      have n2 : (o : Int) / (r : Int) = (q : Int) := by rw [← hQ.out]; rfl
      have n3 : IntKind.u64.wrap ((q : Int) * (r : Int)) = (u : Int) := by rw [← Int.natCast_mul, ← hQ.out, hUu.out]; exact wrap_nat u (by omega)
      have hr1 : 1 ≤ (r : Int) := by omega
      go_wp2_with fail
      refine (refmul_any q t (by omega) (by omega) _).mono ?_
      rintro e w' ⟨rfl, rfl⟩
      go_wp2_with fail
      refine (refsub_any wa (mulP q t) (by omega) (Nat.lt_trans (mulP_lt q t) (by omega)) _).mono ?_
      rintro e w' ⟨rfl, rfl⟩
      go_wp2
      refine ⟨⟨r, o - u, t, subP wa (mulP q t), by omega, by omega, ht, subP_lt _ _, rfl, by go_num, rfl, rfl, I2.out, ?_, ?_⟩, by simp [intOf]; omega⟩
      · rw [← hQ.out, ← hUu.out]
        exact inv_round a o r wa t I1.out I2.out
      · have h1 : o - u = o % r := by rw [← hUu.out, Nat.mul_comm, ← Nat.mod_eq_sub]
        rw [h1, Nat.gcd_comm, ← Nat.gcd_rec, Nat.gcd_comm]
        exact I3.out
end Go.Proofs.Ytcamniadkackdaa

/- GroupOrders: the least power of any number that is 1. -/
import Derived.Test.YtcamniadkackdaaO
namespace Go.Proofs.Ytcamniadkackdaa
open Go.ChangeShapes Go.WideShapes Go.ChangeAt Go.RowKit

set_option maxHeartbeats 4000000 in
theorem orders_yes (a k : Nat) (ha : 1 ≤ a) (hb : a ≤ 2305843009213693950) (hk : k < 65536) (w : World) :
    Calls Try.prog 11 #[.int .u64 a, .int .u16 k] w fun e w' => e = .returned (.bool true) ∧ Below w.heap.size w w' := by
  have hne : a % Pn ≠ 0 := by rw [Nat.mod_eq_of_lt (show a < Pn from Nat.lt_of_le_of_lt hb (by decide))]; omega
  obtain ⟨n, hN⟩ : ∃ n, Hid (orderN a = n) := ⟨_, rfl⟩
  have o1 := order_pos a hne
  have o2 := Nat.le_of_dvd (by decide) (order_dvd a hne)
  have o3 := Nat.mod_eq_zero_of_dvd (order_dvd a hne)
  have o4 : Hid (powP a (orderN a) = 1) := order_one a hne
  have hkey : Hid (∀ f, 1 < f → n % f = 0 → powP a (n / f) ≠ 1) := fun f hf hd => by
    have := order_over a f hne hf
    rw [hN.out] at this
    exact this hd
  have hleast : Hid (∀ k, 0 < k → k < n → powP a k ≠ 1) := fun k h0 hk => order_least a hne k h0 (by rw [hN.out]; exact hk)
  rw [hN.out] at o1 o2 o3 o4
  have hA1 : Hid (1 ≤ a) := ha
  have hA2 : Hid (a ≤ 2305843009213693950) := hb
  have hA3 : Hid (a < 18446744073709551616) := by rw [Hid]; omega
  have hN3 : Hid (n < 18446744073709551616) := by rw [Hid]; omega
  have g1 : ¬ (a : Int) < 1 := by omega
  have g2 : ¬ (2305843009213693950 : Int) < (a : Int) := by omega
  have g3 : ¬ (n : Int) < 1 := by omega
  have g4 : ¬ n = 0 := by omega
  have g5 : (2305843009213693950 : Int) % (n : Int) = 0 := (Int.natCast_emod 2305843009213693950 n).symm.trans (by rw [o3]; rfl)
  clear ha hb hne o1 o2 o3
  go_enter Try.func11, Try.ntmps11
  go_wp2_with fail
  refine (order_yes a hA1.out hA2.out _).mono ?_
  rintro e w1 ⟨rfl, hW⟩
  rw [hN.out]
  go_wp2_with fail
  refine (refpow_any a n hA3.out hN3.out _).mono ?_
  rintro e w' ⟨rfl, rfl⟩
  rw [o4.out]
  go_wp2_with fail
  go_loop [8] (fun t => ∃ j : Nat, j ≤ 12 ∧ t = .int .i64 j) (fun t => (12 - intOf t).toNat)
  case atStart => exact ⟨0, by omega, rfl⟩
  case round =>
    obtain ⟨j, hj, rfl⟩ := hrel
    match j, hj, hW with
    | 0, hj, hW =>
      by_cases h : n % 2 = 0
      · obtain ⟨q, hq, hQ⟩ : ∃ q : Nat, q ≤ n ∧ n / 2 = q := ⟨_, Nat.div_le_self _ _, rfl⟩
        obtain ⟨p, hP, hp⟩ : ∃ p : Nat, Hid (powP a q = p) ∧ ((p : Int) == 1) = false := ⟨_, rfl, by
          have := hkey.out 2 (by omega) h
          rw [hQ] at this
          rw [beq_eq_false_iff_ne]; omega⟩
        have e1 : (n : Int) % 2 = 0 := by omega
        have e2 : (n : Int) / 2 = (q : Int) := by omega
        have hq3 : Hid (q < 18446744073709551616) := by have := hN3.out; rw [Hid]; omega
        have hq4 : (q : Int) < 18446744073709551616 := by have := hq3.out; omega
        clear h hQ hq
        go_wp2_with (refine (refpow_any a q hA3.out hq3.out _).mono ?_; rintro e w' ⟨rfl, rfl⟩; rw [hP.out])
        exact ⟨⟨1, by omega, rfl⟩, by simp [intOf]⟩
      · have e1 : ((n : Int) % 2 == 0) = false := by rw [beq_eq_false_iff_ne]; omega
        clear h
        go_wp2
        exact ⟨⟨1, by omega, rfl⟩, by simp [intOf]⟩
    | 1, hj, hW =>
      by_cases h : n % 3 = 0
      · obtain ⟨q, hq, hQ⟩ : ∃ q : Nat, q ≤ n ∧ n / 3 = q := ⟨_, Nat.div_le_self _ _, rfl⟩
        obtain ⟨p, hP, hp⟩ : ∃ p : Nat, Hid (powP a q = p) ∧ ((p : Int) == 1) = false := ⟨_, rfl, by
          have := hkey.out 3 (by omega) h
          rw [hQ] at this
          rw [beq_eq_false_iff_ne]; omega⟩
        have e1 : (n : Int) % 3 = 0 := by omega
        have e2 : (n : Int) / 3 = (q : Int) := by omega
        have hq3 : Hid (q < 18446744073709551616) := by have := hN3.out; rw [Hid]; omega
        have hq4 : (q : Int) < 18446744073709551616 := by have := hq3.out; omega
        clear h hQ hq
        go_wp2_with (refine (refpow_any a q hA3.out hq3.out _).mono ?_; rintro e w' ⟨rfl, rfl⟩; rw [hP.out])
        exact ⟨⟨2, by omega, rfl⟩, by simp [intOf]⟩
      · have e1 : ((n : Int) % 3 == 0) = false := by rw [beq_eq_false_iff_ne]; omega
        clear h
        go_wp2
        exact ⟨⟨2, by omega, rfl⟩, by simp [intOf]⟩
    | 2, hj, hW =>
      by_cases h : n % 5 = 0
      · obtain ⟨q, hq, hQ⟩ : ∃ q : Nat, q ≤ n ∧ n / 5 = q := ⟨_, Nat.div_le_self _ _, rfl⟩
        obtain ⟨p, hP, hp⟩ : ∃ p : Nat, Hid (powP a q = p) ∧ ((p : Int) == 1) = false := ⟨_, rfl, by
          have := hkey.out 5 (by omega) h
          rw [hQ] at this
          rw [beq_eq_false_iff_ne]; omega⟩
        have e1 : (n : Int) % 5 = 0 := by omega
        have e2 : (n : Int) / 5 = (q : Int) := by omega
        have hq3 : Hid (q < 18446744073709551616) := by have := hN3.out; rw [Hid]; omega
        have hq4 : (q : Int) < 18446744073709551616 := by have := hq3.out; omega
        clear h hQ hq
        go_wp2_with (refine (refpow_any a q hA3.out hq3.out _).mono ?_; rintro e w' ⟨rfl, rfl⟩; rw [hP.out])
        exact ⟨⟨3, by omega, rfl⟩, by simp [intOf]⟩
      · have e1 : ((n : Int) % 5 == 0) = false := by rw [beq_eq_false_iff_ne]; omega
        clear h
        go_wp2
        exact ⟨⟨3, by omega, rfl⟩, by simp [intOf]⟩
    | 3, hj, hW =>
      by_cases h : n % 7 = 0
      · obtain ⟨q, hq, hQ⟩ : ∃ q : Nat, q ≤ n ∧ n / 7 = q := ⟨_, Nat.div_le_self _ _, rfl⟩
        obtain ⟨p, hP, hp⟩ : ∃ p : Nat, Hid (powP a q = p) ∧ ((p : Int) == 1) = false := ⟨_, rfl, by
          have := hkey.out 7 (by omega) h
          rw [hQ] at this
          rw [beq_eq_false_iff_ne]; omega⟩
        have e1 : (n : Int) % 7 = 0 := by omega
        have e2 : (n : Int) / 7 = (q : Int) := by omega
        have hq3 : Hid (q < 18446744073709551616) := by have := hN3.out; rw [Hid]; omega
        have hq4 : (q : Int) < 18446744073709551616 := by have := hq3.out; omega
        clear h hQ hq
        go_wp2_with (refine (refpow_any a q hA3.out hq3.out _).mono ?_; rintro e w' ⟨rfl, rfl⟩; rw [hP.out])
        exact ⟨⟨4, by omega, rfl⟩, by simp [intOf]⟩
      · have e1 : ((n : Int) % 7 == 0) = false := by rw [beq_eq_false_iff_ne]; omega
        clear h
        go_wp2
        exact ⟨⟨4, by omega, rfl⟩, by simp [intOf]⟩
    | 4, hj, hW =>
      by_cases h : n % 11 = 0
      · obtain ⟨q, hq, hQ⟩ : ∃ q : Nat, q ≤ n ∧ n / 11 = q := ⟨_, Nat.div_le_self _ _, rfl⟩
        obtain ⟨p, hP, hp⟩ : ∃ p : Nat, Hid (powP a q = p) ∧ ((p : Int) == 1) = false := ⟨_, rfl, by
          have := hkey.out 11 (by omega) h
          rw [hQ] at this
          rw [beq_eq_false_iff_ne]; omega⟩
        have e1 : (n : Int) % 11 = 0 := by omega
        have e2 : (n : Int) / 11 = (q : Int) := by omega
        have hq3 : Hid (q < 18446744073709551616) := by have := hN3.out; rw [Hid]; omega
        have hq4 : (q : Int) < 18446744073709551616 := by have := hq3.out; omega
        clear h hQ hq
        go_wp2_with (refine (refpow_any a q hA3.out hq3.out _).mono ?_; rintro e w' ⟨rfl, rfl⟩; rw [hP.out])
        exact ⟨⟨5, by omega, rfl⟩, by simp [intOf]⟩
      · have e1 : ((n : Int) % 11 == 0) = false := by rw [beq_eq_false_iff_ne]; omega
        clear h
        go_wp2
        exact ⟨⟨5, by omega, rfl⟩, by simp [intOf]⟩
    | 5, hj, hW =>
      by_cases h : n % 13 = 0
      · obtain ⟨q, hq, hQ⟩ : ∃ q : Nat, q ≤ n ∧ n / 13 = q := ⟨_, Nat.div_le_self _ _, rfl⟩
        obtain ⟨p, hP, hp⟩ : ∃ p : Nat, Hid (powP a q = p) ∧ ((p : Int) == 1) = false := ⟨_, rfl, by
          have := hkey.out 13 (by omega) h
          rw [hQ] at this
          rw [beq_eq_false_iff_ne]; omega⟩
        have e1 : (n : Int) % 13 = 0 := by omega
        have e2 : (n : Int) / 13 = (q : Int) := by omega
        have hq3 : Hid (q < 18446744073709551616) := by have := hN3.out; rw [Hid]; omega
        have hq4 : (q : Int) < 18446744073709551616 := by have := hq3.out; omega
        clear h hQ hq
        go_wp2_with (refine (refpow_any a q hA3.out hq3.out _).mono ?_; rintro e w' ⟨rfl, rfl⟩; rw [hP.out])
        exact ⟨⟨6, by omega, rfl⟩, by simp [intOf]⟩
      · have e1 : ((n : Int) % 13 == 0) = false := by rw [beq_eq_false_iff_ne]; omega
        clear h
        go_wp2
        exact ⟨⟨6, by omega, rfl⟩, by simp [intOf]⟩
    | 6, hj, hW =>
      by_cases h : n % 31 = 0
      · obtain ⟨q, hq, hQ⟩ : ∃ q : Nat, q ≤ n ∧ n / 31 = q := ⟨_, Nat.div_le_self _ _, rfl⟩
        obtain ⟨p, hP, hp⟩ : ∃ p : Nat, Hid (powP a q = p) ∧ ((p : Int) == 1) = false := ⟨_, rfl, by
          have := hkey.out 31 (by omega) h
          rw [hQ] at this
          rw [beq_eq_false_iff_ne]; omega⟩
        have e1 : (n : Int) % 31 = 0 := by omega
        have e2 : (n : Int) / 31 = (q : Int) := by omega
        have hq3 : Hid (q < 18446744073709551616) := by have := hN3.out; rw [Hid]; omega
        have hq4 : (q : Int) < 18446744073709551616 := by have := hq3.out; omega
        clear h hQ hq
        go_wp2_with (refine (refpow_any a q hA3.out hq3.out _).mono ?_; rintro e w' ⟨rfl, rfl⟩; rw [hP.out])
        exact ⟨⟨7, by omega, rfl⟩, by simp [intOf]⟩
      · have e1 : ((n : Int) % 31 == 0) = false := by rw [beq_eq_false_iff_ne]; omega
        clear h
        go_wp2
        exact ⟨⟨7, by omega, rfl⟩, by simp [intOf]⟩
    | 7, hj, hW =>
      by_cases h : n % 41 = 0
      · obtain ⟨q, hq, hQ⟩ : ∃ q : Nat, q ≤ n ∧ n / 41 = q := ⟨_, Nat.div_le_self _ _, rfl⟩
        obtain ⟨p, hP, hp⟩ : ∃ p : Nat, Hid (powP a q = p) ∧ ((p : Int) == 1) = false := ⟨_, rfl, by
          have := hkey.out 41 (by omega) h
          rw [hQ] at this
          rw [beq_eq_false_iff_ne]; omega⟩
        have e1 : (n : Int) % 41 = 0 := by omega
        have e2 : (n : Int) / 41 = (q : Int) := by omega
        have hq3 : Hid (q < 18446744073709551616) := by have := hN3.out; rw [Hid]; omega
        have hq4 : (q : Int) < 18446744073709551616 := by have := hq3.out; omega
        clear h hQ hq
        go_wp2_with (refine (refpow_any a q hA3.out hq3.out _).mono ?_; rintro e w' ⟨rfl, rfl⟩; rw [hP.out])
        exact ⟨⟨8, by omega, rfl⟩, by simp [intOf]⟩
      · have e1 : ((n : Int) % 41 == 0) = false := by rw [beq_eq_false_iff_ne]; omega
        clear h
        go_wp2
        exact ⟨⟨8, by omega, rfl⟩, by simp [intOf]⟩
    | 8, hj, hW =>
      by_cases h : n % 61 = 0
      · obtain ⟨q, hq, hQ⟩ : ∃ q : Nat, q ≤ n ∧ n / 61 = q := ⟨_, Nat.div_le_self _ _, rfl⟩
        obtain ⟨p, hP, hp⟩ : ∃ p : Nat, Hid (powP a q = p) ∧ ((p : Int) == 1) = false := ⟨_, rfl, by
          have := hkey.out 61 (by omega) h
          rw [hQ] at this
          rw [beq_eq_false_iff_ne]; omega⟩
        have e1 : (n : Int) % 61 = 0 := by omega
        have e2 : (n : Int) / 61 = (q : Int) := by omega
        have hq3 : Hid (q < 18446744073709551616) := by have := hN3.out; rw [Hid]; omega
        have hq4 : (q : Int) < 18446744073709551616 := by have := hq3.out; omega
        clear h hQ hq
        go_wp2_with (refine (refpow_any a q hA3.out hq3.out _).mono ?_; rintro e w' ⟨rfl, rfl⟩; rw [hP.out])
        exact ⟨⟨9, by omega, rfl⟩, by simp [intOf]⟩
      · have e1 : ((n : Int) % 61 == 0) = false := by rw [beq_eq_false_iff_ne]; omega
        clear h
        go_wp2
        exact ⟨⟨9, by omega, rfl⟩, by simp [intOf]⟩
    | 9, hj, hW =>
      by_cases h : n % 151 = 0
      · obtain ⟨q, hq, hQ⟩ : ∃ q : Nat, q ≤ n ∧ n / 151 = q := ⟨_, Nat.div_le_self _ _, rfl⟩
        obtain ⟨p, hP, hp⟩ : ∃ p : Nat, Hid (powP a q = p) ∧ ((p : Int) == 1) = false := ⟨_, rfl, by
          have := hkey.out 151 (by omega) h
          rw [hQ] at this
          rw [beq_eq_false_iff_ne]; omega⟩
        have e1 : (n : Int) % 151 = 0 := by omega
        have e2 : (n : Int) / 151 = (q : Int) := by omega
        have hq3 : Hid (q < 18446744073709551616) := by have := hN3.out; rw [Hid]; omega
        have hq4 : (q : Int) < 18446744073709551616 := by have := hq3.out; omega
        clear h hQ hq
        go_wp2_with (refine (refpow_any a q hA3.out hq3.out _).mono ?_; rintro e w' ⟨rfl, rfl⟩; rw [hP.out])
        exact ⟨⟨10, by omega, rfl⟩, by simp [intOf]⟩
      · have e1 : ((n : Int) % 151 == 0) = false := by rw [beq_eq_false_iff_ne]; omega
        clear h
        go_wp2
        exact ⟨⟨10, by omega, rfl⟩, by simp [intOf]⟩
    | 10, hj, hW =>
      by_cases h : n % 331 = 0
      · obtain ⟨q, hq, hQ⟩ : ∃ q : Nat, q ≤ n ∧ n / 331 = q := ⟨_, Nat.div_le_self _ _, rfl⟩
        obtain ⟨p, hP, hp⟩ : ∃ p : Nat, Hid (powP a q = p) ∧ ((p : Int) == 1) = false := ⟨_, rfl, by
          have := hkey.out 331 (by omega) h
          rw [hQ] at this
          rw [beq_eq_false_iff_ne]; omega⟩
        have e1 : (n : Int) % 331 = 0 := by omega
        have e2 : (n : Int) / 331 = (q : Int) := by omega
        have hq3 : Hid (q < 18446744073709551616) := by have := hN3.out; rw [Hid]; omega
        have hq4 : (q : Int) < 18446744073709551616 := by have := hq3.out; omega
        clear h hQ hq
        go_wp2_with (refine (refpow_any a q hA3.out hq3.out _).mono ?_; rintro e w' ⟨rfl, rfl⟩; rw [hP.out])
        exact ⟨⟨11, by omega, rfl⟩, by simp [intOf]⟩
      · have e1 : ((n : Int) % 331 == 0) = false := by rw [beq_eq_false_iff_ne]; omega
        clear h
        go_wp2
        exact ⟨⟨11, by omega, rfl⟩, by simp [intOf]⟩
    | 11, hj, hW =>
      by_cases h : n % 1321 = 0
      · obtain ⟨q, hq, hQ⟩ : ∃ q : Nat, q ≤ n ∧ n / 1321 = q := ⟨_, Nat.div_le_self _ _, rfl⟩
        obtain ⟨p, hP, hp⟩ : ∃ p : Nat, Hid (powP a q = p) ∧ ((p : Int) == 1) = false := ⟨_, rfl, by
          have := hkey.out 1321 (by omega) h
          rw [hQ] at this
          rw [beq_eq_false_iff_ne]; omega⟩
        have e1 : (n : Int) % 1321 = 0 := by omega
        have e2 : (n : Int) / 1321 = (q : Int) := by omega
        have hq3 : Hid (q < 18446744073709551616) := by have := hN3.out; rw [Hid]; omega
        have hq4 : (q : Int) < 18446744073709551616 := by have := hq3.out; omega
        clear h hQ hq
        go_wp2_with (refine (refpow_any a q hA3.out hq3.out _).mono ?_; rintro e w' ⟨rfl, rfl⟩; rw [hP.out])
        exact ⟨⟨12, by omega, rfl⟩, by simp [intOf]⟩
      · have e1 : ((n : Int) % 1321 == 0) = false := by rw [beq_eq_false_iff_ne]; omega
        clear h
        go_wp2
        exact ⟨⟨12, by omega, rfl⟩, by simp [intOf]⟩
    | 12, hj, hW =>
      by_cases hk0 : k = 0
      · subst hk0
        go_wp2_with (refine (awake3_any _).mono ?_; rintro e wA ⟨rfl, hWA⟩)
        go_ret
        exact ⟨rfl, (hW.alloc hW.size _).trans (hWA.mono (by simp; have := hW.size; omega))⟩
      by_cases hkn : n ≤ k
      · have e1 : ((k : Int) == 0) = false := by rw [beq_eq_false_iff_ne]; omega
        have e2 : (n : Int) ≤ (k : Int) := by omega
        have e3 : decide ((n : Int) ≤ (k : Int)) = true := decide_eq_true e2
        clear hk0 hkn
        go_wp2_with (refine (awake3_any _).mono ?_; rintro e wA ⟨rfl, hWA⟩)
        go_ret
        exact ⟨rfl, (hW.alloc hW.size _).trans (hWA.mono (by simp; have := hW.size; omega))⟩
      · have e1 : ((k : Int) == 0) = false := by rw [beq_eq_false_iff_ne]; omega
        have e2 : ¬ (n : Int) ≤ (k : Int) := by omega
        have e3 : decide ((n : Int) ≤ (k : Int)) = false := decide_eq_false e2
        have hk3 : Hid (k < 18446744073709551616) := by rw [Hid]; omega
        obtain ⟨p, hP, hp⟩ : ∃ p : Nat, Hid (powP a k = p) ∧ ((p : Int) == 1) = false := ⟨_, rfl, by
          have := hleast.out k (by omega) (by omega)
          rw [beq_eq_false_iff_ne]; omega⟩
        clear hk0 hkn
        go_wp2_with (first | (refine (awake3_any _).mono ?_; rintro e wA ⟨rfl, hWA⟩) | (refine (refpow_any a k hA3.out hk3.out _).mono ?_; rintro e w' ⟨rfl, rfl⟩; rw [hP.out]))
        go_ret
        exact ⟨congrArg (fun b => Ending.returned (.bool b)) (show (decide (n ≤ k) || ((p : Int) != 1)) = true by rw [bne, hp]; exact Bool.or_true _), (hW.alloc hW.size _).trans (hWA.mono (by simp; have := hW.size; omega))⟩
    | j + 13, hj, hW => omega
theorem orders_no (a k : Nat) (ha : ¬ (1 ≤ a ∧ a ≤ 2305843009213693950)) (w : World) :
    Calls Try.prog 11 #[.int .u64 a, .int .u16 k] w fun e w' => e = .returned (.bool true) ∧ Below w.heap.size w w' := by
  by_cases h0 : a = 0
  · subst h0
    clear ha
    go_enter Try.func11, Try.ntmps11
    go_wp2_with fail
    refine (order_low _).mono ?_
    rintro e w1 ⟨rfl, hW⟩
    go_wp2_with (refine (awake3_any _).mono ?_; rintro e wA ⟨rfl, hWA⟩)
    go_ret
    exact ⟨rfl, hW.trans (hWA.mono hW.size)⟩
  · have g1 : ¬ (a : Int) < 1 := by omega
    have g2 : (2305843009213693950 : Int) < (a : Int) := by omega
    have hh : Hid (2305843009213693950 < a) := by rw [Hid]; omega
    clear ha h0
    go_enter Try.func11, Try.ntmps11
    go_wp2_with fail
    refine (order_high a hh.out _).mono ?_
    rintro e w1 ⟨rfl, hW⟩
    go_wp2_with (refine (awake3_any _).mono ?_; rintro e wA ⟨rfl, hWA⟩)
    go_ret
    exact ⟨rfl, hW.trans (hWA.mono hW.size)⟩
theorem orders_walk (a k : Nat) (_ : a < 18446744073709551616) (hk : k < 65536) (w : World) :
    Calls Try.prog 11 #[.int .u64 a, .int .u16 k] w fun e w' => e = .returned (.bool true) ∧ Below w.heap.size w w' := by
  by_cases h : 1 ≤ a ∧ a ≤ 2305843009213693950
  · exact orders_yes a k h.1 h.2 hk w
  · exact orders_no a k h w

set_option maxRecDepth 100000 in
theorem groupOrders_lifted (os : Os) (started : os.Started) (H : Type) (enc : TypeId × Value → H) :
    ReturnsInHanded {} Try.checked os 11 .any (Rows.groupOrdersSpec.pre6 enc Try.prog Try.f11 Rows.groupOrdersRow.domain false) (Rows.groupOrdersSpec.post enc Try.prog Try.f11 false true false false) := by
  refine returnsInHanded_of_change (C := Try.checked) ownKnob_none started (by kernel_rfl) Try.func11
    (ChangeSpec.witness6 (enc := enc) (C := Try.checked) false ⟨#[], #[.int .u64 0, .int .u16 0], []⟩ 8 (by kernel_rfl) (by kernel_rfl) (by kernel_rfl) (by kernel_rfl)) ?_
  intro W base args ds gs before hval0 hW _ _
  have hval : ∀ (j : Nat) t v, Try.f11.params[j]? = some t → args[j]? = some v → Value.okWide Try.prog W .any base t v := hval0
  have hWhole := hW
  obtain ⟨p, q, hA0, hV, rfl, hfz, hnd⟩ := hW
  have hA : DataW.TrodAll enc Try.prog W 0 (fun _ => true) true Try.f11.params.toList args.toList ds p := hA0
  rw [Try.params11] at hA hval
  obtain ⟨v0, vs0, d0, ds0, p0, q0, hargs0, rfl, rfl, h0, r0⟩ := trodAll_cons hA
  obtain ⟨v1, vs1, d1, ds1, p1, q1, hargs1, rfl, rfl, h1, r1⟩ := trodAll_cons r0
  obtain ⟨rfl, rfl, rfl⟩ := trodAll_nil r1
  subst hargs1
  obtain rfl : args = #[v0, v1] := by cases args; simp_all
  obtain ⟨rfl, rfl⟩ := trodVars_none hV
  obtain ⟨x0, rfl, hb0⟩ := open_nat 18446744073709551616 Try.underlying22 wf_u64' (hval 0 22 v0 rfl rfl) h0
  obtain ⟨x1, rfl, hb1⟩ := open_nat 65536 Try.underlying34 wf_u16' (hval 1 34 v1 rfl rfl) h1
  refine (orders_walk x0 x1 hb0 hb1 W).mono fun e W' ⟨he, hB⟩ => ?_
  subst he
  exact ⟨_, rfl, law_post laidOut (by rw [Try.params11]; decide +kernel) rfl (by kernel_rfl) Try.underlying4 hWhole rfl rfl rfl hB⟩

theorem groupOrders : Rows.GroupOrdersSaid :=
  OpenClaim.holds_of_wide 11 Try.f11 rfl rfl rfl rfl rfl rfl rfl ⟨rfl, rfl, rfl, rfl, rfl⟩ rfl rfl rfl rfl rfl (by kernel_rfl) Try.func11 (by kernel_rfl)
    (of_decide_eq_true (by kernel_rfl)) (by unfold Func.isWrapper; first | (rw [if_pos (by decide +kernel)]; kernel_rfl) | (rw [if_neg (by decide +kernel)]; exact ⟨rfl, rfl⟩))
    (fun os started H enc _ => groupOrders_lifted os started H enc)
end Go.Proofs.Ytcamniadkackdaa

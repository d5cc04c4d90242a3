/- The least power that is 1: the plain law; Order for no number; the fixed fact of layer 3. -/
import Derived.Test.YtcamniadkackdaaN
import Derived.Test.YtcamniadkackdaaE
namespace Go.Proofs.Ytcamniadkackdaa
open Go.RowKit

theorem mem_dvd : ∀ (l : List Nat) (f : Nat), f ∈ l → f ∣ prodL l
  | x :: l, f, h => by
    show f ∣ x * prodL l
    rcases List.mem_cons.1 h with rfl | h
    · exact Nat.dvd_mul_right _ _
    · exact Nat.dvd_trans (mem_dvd l f h) (Nat.dvd_mul_left _ _)
theorem div_up (a o f g : Nat) (hg : 0 < g) (hd : g ∣ o) (h : powP a (o / g) = 1) : powP a (f * o / g) = 1 := by
  obtain ⟨c, rfl⟩ := hd
  rw [Nat.mul_div_cancel_left c hg] at h
  rw [show f * (g * c) = g * (c * f) by rw [Nat.mul_left_comm, Nat.mul_comm f c], Nat.mul_div_cancel_left _ hg, powP_mul, h, powP_one_pow]
theorem greedy (a : Nat) : ∀ (t s : List Nat) (o : Nat), o = prodL t * prodL s → (∀ f ∈ t, 0 < f) → (∀ f ∈ s, 0 < f ∧ powP a (o / f) ≠ 1) → powP a o = 1 →
    ∃ s', (∀ f ∈ s', f ∈ t ∨ f ∈ s) ∧ t.foldl (stepO a) o = prodL s' ∧ (∀ f ∈ s', powP a (prodL s' / f) ≠ 1) ∧ powP a (prodL s') = 1 ∧ prodL s' ∣ o
  | [], s, o, ho, _, hs, h1 => by
    have e : o = prodL s := by rw [ho]; exact Nat.one_mul _
    subst e
    exact ⟨s, fun f h => Or.inr h, rfl, fun f h => (hs f h).2, h1, Nat.dvd_refl _⟩
  | f :: t, s, o, ho, ht, hs, h1 => by
    have hf : 0 < f := ht f (by simp)
    have ho' : o = f * (prodL t * prodL s) := by rw [ho, ← Nat.mul_assoc]; rfl
    have hq : o / f = prodL t * prodL s := by rw [ho']; exact Nat.mul_div_cancel_left _ hf
    have ht' : ∀ g ∈ t, 0 < g := fun g hg => ht g (List.mem_cons_of_mem _ hg)
    show ∃ s', _ ∧ t.foldl (stepO a) (stepO a o f) = _ ∧ _
    by_cases hp : powP a (o / f) = 1
    · rw [show stepO a o f = o / f from if_pos hp]
      obtain ⟨s', m, e, n, p, d⟩ := greedy a t s (o / f) hq ht' (fun g hg => ⟨(hs g hg).1, fun e => (hs g hg).2 (by
        rw [ho']
        rw [hq] at e
        exact div_up a _ f g (hs g hg).1 (Nat.dvd_trans (mem_dvd s g hg) (Nat.dvd_mul_left _ _)) e)⟩) hp
      exact ⟨s', fun g hg => (m g hg).elim (fun h => Or.inl (List.mem_cons_of_mem _ h)) Or.inr, e, n, p, Nat.dvd_trans d (by rw [hq, ho']; exact Nat.dvd_mul_left _ _)⟩
    · rw [show stepO a o f = o from if_neg hp]
      obtain ⟨s', m, e, n, p, d⟩ := greedy a t (f :: s) o (by rw [ho']; exact Nat.mul_left_comm _ _ _) ht' (fun g hg => by
        rcases List.mem_cons.1 hg with rfl | hg
        · exact ⟨hf, hp⟩
        · exact hs g hg) h1
      refine ⟨s', fun g hg => ?_, e, n, p, d⟩
      rcases m g hg with h | h
      · exact Or.inl (List.mem_cons_of_mem _ h)
      · rcases List.mem_cons.1 h with rfl | h
        · exact Or.inl (by simp)
        · exact Or.inr h
theorem foldl_map' (a : Nat) : ∀ (l : List Fac) (o : Nat), l.foldl (fun o x => stepO a o x.1.2) o = (l.map fun x => x.1.2).foldl (stepO a) o
  | [], _ => rfl
  | _ :: l, _ => foldl_map' a l _
theorem upto_facs : (upto 14).map (fun x => x.1.2) = facs.reverse := by decide
theorem orderN_eq (a : Nat) : orderN a = facs.reverse.foldl (stepO a) 2305843009213693950 := by
  rw [← upto_facs, ← foldl_map']; rfl
theorem order_all (a : Nat) (h : a % Pn ≠ 0) : ∃ s, (∀ f ∈ s, f ∈ facs) ∧ orderN a = prodL s ∧ (∀ f ∈ s, powP a (prodL s / f) ≠ 1) ∧ powP a (prodL s) = 1 ∧ prodL s ∣ 2305843009213693950 := by
  obtain ⟨s, m, e, n, p, d⟩ := greedy a facs.reverse [] 2305843009213693950 (by decide) (by decide) (by simp) (fermat a h)
  exact ⟨s, fun f hf => (m f hf).elim (fun h => List.mem_reverse.1 h) (fun h => by cases h), by rw [orderN_eq, e], n, p, d⟩
theorem order_dvd (a : Nat) (h : a % Pn ≠ 0) : orderN a ∣ 2305843009213693950 := by
  obtain ⟨s, m, e, n, p, d⟩ := order_all a h; rw [e]; exact d
theorem order_pos (a : Nat) (h : a % Pn ≠ 0) : 0 < orderN a := Nat.pos_of_dvd_of_pos (order_dvd a h) (by decide)
theorem order_one (a : Nat) (h : a % Pn ≠ 0) : powP a (orderN a) = 1 := by
  obtain ⟨s, m, e, n, p, d⟩ := order_all a h; rw [e]; exact p
theorem order_least (a : Nat) (h : a % Pn ≠ 0) (k : Nat) (h0 : 0 < k) (hk : k < orderN a) : powP a k ≠ 1 := by
  obtain ⟨s, m, e, n, p, d⟩ := order_all a h
  have hs0 : 0 < prodL s := Nat.pos_of_dvd_of_pos d (by decide)
  rw [e] at hk
  intro hc
  have h1 := powP_gcd a k _ hc p
  have h3 : Nat.gcd k (prodL s) ≤ k := Nat.le_of_dvd h0 (Nat.gcd_dvd_left _ _)
  obtain ⟨f, hf, _, c, hc⟩ := divisor_step s (fun f hf => facs_prime f (m f hf)) (Nat.gcd k (prodL s)) (Nat.gcd_dvd_right _ _) (by omega) hs0
  exact n f hf (by rw [hc, powP_mul, h1, powP_one_pow])
theorem order_over (a f : Nat) (h : a % Pn ≠ 0) (hf : 1 < f) (hd : orderN a % f = 0) : powP a (orderN a / f) ≠ 1 := by
  have h0 := order_pos a h
  have h1 := Nat.le_of_dvd h0 (Nat.dvd_of_mod_eq_zero hd)
  exact order_least a h _ (Nat.div_pos h1 (by omega)) (Nat.div_lt_self h0 hf)

set_option maxHeartbeats 4000000 in
theorem order_low (w : World) :
    Calls Try.prog 30 #[.int .u64 0] w fun e w' => e = .returned (.tuple #[.int .u64 0, .int .i64 1]) ∧ Below w.heap.size w w' := by
  refine (callsIn_wide (n := 3)).1 ?_
  refine callsIn_of_wp_marks Try.func30 rfl trivial ?_ rfl
  simp only [Try.ntmps30, List.size_toArray, List.length_cons, List.length_nil, Nat.reduceAdd, Nat.reduceSub, Array.replicate_succ, Array.replicate_zero, List.push_toArray, List.append_toArray, List.nil_append, List.cons_append]
  gi_wp2
  exact ⟨_, results_tmp2 rfl _ _ _, rfl, (Below.refl _ _).alloc (Nat.le_refl _) _⟩
set_option maxHeartbeats 4000000 in
theorem order_high (a : Nat) (h : 2305843009213693950 < a) (w : World) :
    Calls Try.prog 30 #[.int .u64 a] w fun e w' => e = .returned (.tuple #[.int .u64 0, .int .i64 1]) ∧ Below w.heap.size w w' := by
  have g3 : decide ((a : Int) < 1) = false := decide_eq_false (by omega)
  have g4 : decide ((2305843009213693950 : Int) < (a : Int)) = true := decide_eq_true (by omega)
  clear h
  refine (callsIn_wide (n := 3)).1 ?_
  refine callsIn_of_wp_marks Try.func30 rfl trivial ?_ rfl
  simp only [Try.ntmps30, List.size_toArray, List.length_cons, List.length_nil, Nat.reduceAdd, Nat.reduceSub, Array.replicate_succ, Array.replicate_zero, List.push_toArray, List.append_toArray, List.nil_append, List.cons_append]
  gi_wp2
  exact ⟨_, results_tmp2 rfl _ _ _, rfl, (Below.refl _ _).alloc (Nat.le_refl _) _⟩
theorem order_2 : orderN 2305843009213693950 = 2 := by
  have h : ∀ k, k < 2 ^ 61 → powP 2305843009213693950 k = powD 61 2305843009213693950 k := fun k hk => (powD_eq 61 _ k hk).symm
  have e : ∀ o f, o < 2 ^ 61 → stepO 2305843009213693950 o f = if powD 61 2305843009213693950 (o / f) = 1 then o / f else o := fun o f ho => by
    rw [stepO, h _ (Nat.lt_of_le_of_lt (Nat.div_le_self _ _) ho)]
  have e2 : ∀ (l : List Nat) (o : Nat), o < 2 ^ 61 → l.foldl (stepO 2305843009213693950) o = l.foldl (fun o f => if powD 61 2305843009213693950 (o / f) = 1 then o / f else o) o := by
    intro l
    induction l with
    | nil => intro o _; rfl
    | cons f l ih =>
      intro o ho
      rw [List.foldl_cons, List.foldl_cons, ih _ (Nat.lt_of_le_of_lt (stepO_le _ _ _) ho), e o f ho]
  rw [orderN_eq, e2 _ _ (by decide)]
  decide +kernel
theorem pub5 : powP 37 5 = 69343957 := by decide
theorem below_same {n : Nat} {w a b : World} (h : Below n w a) (e : a = b) : Below n w b := e ▸ h
theorem swap57 : powP (powP 37 7) 5 = powP (powP 37 5) 7 := by rw [← powP_mul, ← powP_mul]
set_option maxHeartbeats 4000000 in
theorem awake3_any (w : World) : Calls Try.prog 27 #[] w fun e w' => e = .returned (.bool true) ∧ Below w.heap.size w w' := by
  obtain ⟨b, hb, hB⟩ : ∃ b, goodB b = true ∧ Hid (powP 37 7 = b) := ⟨powP 37 7, by decide, rfl⟩
  have hb2 : b < 18446744073709551616 := by rw [← hB.out]; exact Nat.lt_trans (powP_lt _ _) (by decide)
  obtain ⟨x, hX, hY⟩ : ∃ x, Hid (powP b 5 = x) ∧ Hid (powP 69343957 7 = x) := ⟨_, rfl, by rw [Hid, ← pub5, ← swap57, hB.out]⟩
  have p1 : Hid (pubV 5 = 69343957) := pub5
  have p2 : Hid (pubE 5 = 0) := rfl
  have p3 : Hid (pubV 7 = b) := hB
  have p4 : Hid (pubE 7 = 0) := rfl
  have p5 : Hid (agrV 5 b = x) := by rw [Hid, agrV, if_pos (by decide), if_pos hb, hX.out]
  have p6 : Hid (agrE 5 b = 0) := by rw [Hid, agrE, if_pos (by decide), if_pos hb]
  have p7 : Hid (agrV 7 69343957 = x) := by rw [Hid, agrV, if_pos (by decide), if_pos (by decide), hY.out]
  have p8 : Hid (agrE 7 69343957 = 0) := by rw [Hid, agrE, if_pos (by decide), if_pos (by decide)]
  clear hb
  go_enter Try.func27, Try.ntmps27
  go_wp2_with fail
  refine (public_any 5 (by omega) _).mono ?_
  rintro e w' ⟨rfl, rfl⟩
  rw [p1.out, p2.out]
  go_wp2_with fail
  refine (public_any 7 (by omega) _).mono ?_
  rintro e w' ⟨rfl, rfl⟩
  rw [p3.out, p4.out]
  go_wp2_with fail
  refine (agree_any 5 b (by omega) hb2 _).mono ?_
  rintro e w' ⟨rfl, rfl⟩
  rw [p5.out, p6.out]
  go_wp2_with fail
  refine (agree_any 7 69343957 (by omega) (by omega) _).mono ?_
  rintro e w' ⟨rfl, rfl⟩
  rw [p7.out, p8.out]
  go_wp2_with fail
  refine (order_yes 2305843009213693950 (by omega) (by omega) _).mono ?_
  rintro e w' ⟨rfl, hW⟩
  rw [order_2]
  go_wp2_with fail
  refine (good_any 2 _).mono ?_
  rintro e w'' ⟨rfl, rfl⟩
  rw [show goodB 2 = true by decide]
  go_wp2_with fail
  refine (good_any 1 _).mono ?_
  rintro e w'' ⟨rfl, rfl⟩
  rw [show goodB 1 = false by decide]
  go_wp2
  go_ret
  exact ⟨rfl, hW⟩
end Go.Proofs.Ytcamniadkackdaa

/- The walk of group's factors and of the library's iterator that goes through them from behind. -/
import Derived.Test.YtcamniadkackdaaL
import Derived.Test.YtcamniadkackdaaCalmIn
namespace Go.Proofs.Ytcamniadkackdaa
open Go.RowKit Go.Shelf
attribute [local go_sem] Oper.semAt_some

abbrev Fac := { x : Nat × Nat // 1 ≤ x.2 ∧ x.2 < 18446744073709551616 }
def facV (j : Nat) : Nat := facs[j]?.getD 2
theorem facV_ok (j : Nat) : 1 ≤ facV j ∧ facV j < 18446744073709551616 := by
  unfold facV
  by_cases h : j < facs.length
  · have hall : ∀ x ∈ facs, 1 ≤ x ∧ x < 18446744073709551616 := by decide +kernel
    rw [List.getElem?_eq_getElem h]
    exact hall _ (List.getElem_mem h)
  · rw [List.getElem?_eq_none (by omega)]
    decide
def facAt (k : Nat) : Fac := ⟨(13 - k, facV (13 - k)), facV_ok _⟩
def upto (k : Nat) : List Fac := (List.range k).map facAt
theorem upto_succ (k : Nat) : upto (k + 1) = upto k ++ [facAt k] := by simp [upto, List.range_succ]
theorem upto_length (k : Nat) : (upto k).length = k := by simp [upto]

/-- What a round keeps: all blocks that were there, but one. -/
def KpG (n₁ g : Nat) (A B : World) : Prop := ∀ b, b < n₁ → b ≠ g → B.heap[b]? = A.heap[b]?
theorem KpG.trans {n₁ g : Nat} {A B C : World} (h : KpG n₁ g A B) (k : KpG n₁ g B C) : KpG n₁ g A C := fun b hb hg => (k b hb hg).trans (h b hb hg)
theorem KpG.refl (n₁ g : Nat) (A : World) : KpG n₁ g A A := fun _ _ _ => rfl

set_option maxHeartbeats 400000 in
theorem factors_any (w : World) : Calls Try.prog 38 #[] w fun e w' => e = .returned (.slice (some ⟨w.heap.size, 0, none⟩) 14 14) ∧ w' = w.alloc (.cells (av .u64 facs) 22) := by
  have hf : Hid (av .u64 facs = #[.int .u64 2, .int .u64 3, .int .u64 3, .int .u64 5, .int .u64 5, .int .u64 7, .int .u64 11, .int .u64 13, .int .u64 31, .int .u64 41, .int .u64 61, .int .u64 151, .int .u64 331, .int .u64 1321]) := rfl
  rw [hf.out]
  go_enter Try.func38, Try.ntmps38
  go_wp2
  go_ret
  exact ⟨rfl, rfl⟩
set_option maxHeartbeats 400000 in
theorem backward_any (a : Option Addr) (len cap : Nat) (w : World) :
    Calls Try.prog 37 #[.slice a len cap] w fun e w' => e = .returned (.func (.func 41) #[] #[.pointer (some ⟨w.heap.size, 0, none⟩)]) ∧ w' = w.alloc (.cells #[.slice a len cap] 35) := by
  go_enter Try.func37, Try.ntmps37
  go_wp2
  go_ret
  exact ⟨rfl, rfl⟩

set_option maxRecDepth 100000 in
set_option maxHeartbeats 2000000 in
theorem back1_in (F : Fence) (n : Nat) (h41 : F.fn 41) (hro : F.round = none) (hn : 1 ≤ n) (l Bs n₁ g b : Nat) (hB1 : Bs < n₁) (hB2 : Bs ≠ g) (hb1 : b < n₁) (hb2 : b ≠ g) (J Jx : List Fac → World → Prop)
    (hY : ∀ pre x W, J pre W → pre.length < 14 → YieldAt F (n - 1) Try.prog l #[.int .i64 (x.1.1 : Int), .int .u64 (x.1.2 : Int)] W fun e W' =>
      (e = .returned (.bool true) ∧ J (pre ++ [x]) W' ∧ KpG n₁ g W W') ∨ (e = .returned (.bool false) ∧ Jx (pre ++ [x]) W'))
    (W : World) (hBs : W.heap[Bs]? = some (.cells #[.slice (some ⟨b, 0, none⟩) 14 14] 35)) (hc : W.heap[b]? = some (.cells (av .u64 facs) 22)) (h0 : J [] W) :
    CallsIn F n Try.prog 41 #[.func (.yield l) #[] #[], .pointer (some ⟨Bs, 0, none⟩)] W fun e W' => (∃ v, e = .returned v) ∧
      ((∃ ys, ys = upto 14 ∧ J ys W') ∨ (∃ pre, True ∧ Jx pre W')) := by
  refine callsIn_of_wp Try.func41 rfl h41 ?_ hro
  simp only [Try.ntmps41, List.size_toArray, List.length_cons, List.length_nil, Nat.reduceAdd, Nat.reduceSub, Array.replicate_succ, Array.replicate_zero, List.push_toArray, List.append_toArray, List.nil_append, List.cons_append]
  have hcb : W.cell? ⟨Bs, 0, none⟩ = some (.slice (some ⟨b, 0, none⟩) 14 14) := by rw [cell_of_row _ _ _ _ _ _ hBs]; rfl
  gi_wp2
  clear hcb
  gi_loopw [3] (fun i wr => ∃ k : Nat, k ≤ 14 ∧ ∃ v : Int, v + 1 + k = 14 ∧ i = .int .i64 v ∧ J (upto k) wr ∧ KpG n₁ g W wr) (fun i _ => (intOf i + 1).toNat)
  case atStart => exact ⟨0, Nat.zero_le _, 13, by omega, rfl, h0, KpG.refl _ _ _⟩
  case round =>
    obtain ⟨k, hk, v, hv, rfl, hJs, hnx⟩ := hrel
    by_cases hlt : k < 14
    · obtain ⟨i, hi⟩ : ∃ i : Nat, i = 13 - k := ⟨_, rfl⟩
      obtain rfl : v = (i : Int) := by omega
      have hcx : wr.cell? ⟨Bs, 0, none⟩ = some (.slice (some ⟨b, 0, none⟩) 14 14) := by
        rw [cell_of_row _ _ _ _ _ _ ((hnx Bs hB1 hB2).trans hBs)]; rfl
      have hce : wr.cell? ⟨b, i, none⟩ = some (.int .u64 (facV i : Int)) := by
        rw [cell_of_row _ _ _ _ _ _ ((hnx b hb1 hb2).trans hc), av_get _ _ _ (by have : facs.length = 14 := rfl; omega)]
        have hl : i < facs.length := by have : facs.length = 14 := rfl; omega
        simp [facV, List.getD, List.getElem?_eq_getElem hl]
      obtain ⟨fn, tmps, assign, body, hy, hR⟩ := hY _ (facAt k) wr hJs (by rw [upto_length]; exact hlt)
      have e1 : (facAt k).1 = (i, facV i) := by rw [hi]; rfl
      rw [e1] at hy
      dsimp only at hy
      have hI : Hid (i = 13 - k) := hi
      clear e1 hi
      have hi14 : (i : Int) < 14 := by omega
      gi_wp2
      refine hR.mono ?_
      rintro e W3 (⟨rfl, hJ3, hk3⟩ | ⟨rfl, hJx3⟩)
      · gi_wp2
        go_roundw
        case rel => exact ⟨k + 1, by omega, (i : Int) - 1, by omega, by simp, by rw [upto_succ]; exact hJ3, hnx.trans hk3⟩
        case measure => simp [intOf]
      · gi_wp2
        refine bodyPost_ret (results_none rfl _ _ _) rfl ?_
        exact ⟨⟨_, rfl⟩, .inr ⟨_, trivial, hJx3⟩⟩
    · obtain rfl : k = 14 := by omega
      obtain rfl : v = -1 := by omega
      gi_wp2
      go_end0
      exact ⟨⟨_, rfl⟩, .inl ⟨_, rfl, hJs⟩⟩
end Go.Proofs.Ytcamniadkackdaa

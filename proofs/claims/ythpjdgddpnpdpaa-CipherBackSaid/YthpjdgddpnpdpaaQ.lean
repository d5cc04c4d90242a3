/- CipherBack: twice under a stream is nothing; from a block's end on it is the stream of the next counter. -/
import Derived.Test.YthpjdgddpnpdpaaP
namespace Go.Proofs.Ythpjdgddpnpdpaa
open Go.ChangeShapes Go.WideShapes Go.ChangeAt Go.RowKit

theorem xorN_twice (key : List Nat) (ctr : Nat) (nonce bs : List Nat) : xorN key ctr nonce (xorN key ctr nonce bs) = bs := by
  apply List.ext_getElem
  · rw [xorN_length, xorN_length]
  · intro j h1 h2
    have e1 : (xorN key ctr nonce (xorN key ctr nonce bs)).getD j 0 = bs.getD j 0 := by
      rw [xorN_get _ _ _ _ _ (by rw [xorN_length]; exact h2), xorN_get _ _ _ _ _ h2, Nat.xor_assoc, Nat.xor_self, Nat.xor_zero]
    simpa [List.getD, h1, h2] using e1
theorem xorN_next (key : List Nat) (ctr : Nat) (nonce bs : List Nat) : xorN key ((ctr + 1) % 4294967296) nonce (bs.drop 64) = (xorN key ctr nonce bs).drop 64 := by
  apply List.ext_getElem
  · rw [xorN_length, List.length_drop, List.length_drop, xorN_length]
  · intro j h1 h2
    have hj : 64 + j < bs.length := by rw [List.length_drop, xorN_length] at h2; omega
    have e1 : (xorN key ((ctr + 1) % 4294967296) nonce (bs.drop 64)).getD j 0 = (xorN key ctr nonce bs).getD (64 + j) 0 := by
      rw [xorN_get _ _ _ _ _ (by rw [List.length_drop]; omega), xorN_get _ _ _ _ _ hj]
      have : (bs.drop 64).getD j 0 = bs.getD (64 + j) 0 := by simp [List.getD]
      rw [this, show ((ctr + 1) % 4294967296 + j / 64) % 4294967296 = (ctr + (64 + j) / 64) % 4294967296 by omega, show (64 + j) % 64 = j % 64 by omega]
    have l2 : 64 + j < (xorN key ctr nonce bs).length := by rw [xorN_length]; exact hj
    simpa [List.getD, h1, l2] using e1
theorem drop_getD (bs : List Nat) (m t : Nat) : (bs.drop m).getD t 0 = bs.getD (m + t) 0 := by simp [List.getD]
theorem w8_drop (bs : List Nat) (m : Nat) (h : W8 bs) : W8 (bs.drop m) := fun t => by rw [drop_getD]; exact h _

set_option maxRecDepth 100000 in
set_option maxHeartbeats 8000000 in
theorem back_walk (key nonce bs : List Nat) (ctr : Nat) (hk : key.length = 32) (hn : nonce.length = 12) (hkb : W8 key) (hnb : W8 nonce) (hct : ctr < 4294967296) (x : Option Addr) (n c g o : Nat) (hx : 0 < n → x = some ⟨g, o, none⟩)
    (hcap : n ≤ c) (hl : bs.length = n) (hb : W8 bs) (hc : c ≤ 9223372036854775807) (w : World) (hg : 0 < n → g < w.heap.size) (hcell : ∀ t, t < n → w.cell? ⟨g, o + t, none⟩ = some (.int .u8 (bs.getD t 0 : Nat))) :
    Calls Try.prog 6 #[.agg (av .u8 key), .int .u32 ctr, .agg (av .u8 nonce), .slice x n c] w fun e w' => e = .returned (.bool true) ∧ Below w.heap.size w w' := by
  have s29 : Hid ((Try.prog.info? 29).map (·.size) = some (av .u8 key).size) := by rw [Hid, av_size, hk]; kernel_rfl
  have s30 : Hid ((Try.prog.info? 30).map (·.size) = some (av .u8 nonce).size) := by rw [Hid, av_size, hn]; kernel_rfl
  have hI0 : Hid (XsI key nonce w [] ((w.alloc (.cells (av .u8 key) 29)).alloc (.cells (av .u8 nonce) 30))) := by
    refine ⟨⟨?_, ?_, ?_⟩, fun p hp => by cases hp⟩
    · exact old_alloc _ (heap_new w _)
    · exact (congrArg (fun n => ((w.alloc (.cells (av .u8 key) 29)).alloc (.cells (av .u8 nonce) 30)).heap[n]?) (by simp)).trans (heap_new (w.alloc _) _)
    · exact ((Below.refl _ _).alloc (Nat.le_refl _) _).alloc (by simp) _
  by_cases h3 : 3000 < n
  · obtain rfl := hx (by omega)
    clear hx
    have hct3 : Hid ((bs.take 3000).length = 3000) := by rw [Hid, List.length_take]; omega
    obtain ⟨cs, hcs⟩ : ∃ cs, Hid (∀ _ : Unit, cs = (bs.take 3000)) := ⟨_, fun _ => rfl⟩
    obtain ⟨y, hy⟩ : ∃ y : Option Addr, y = (some ⟨g, o, none⟩) := ⟨_, rfl⟩
    obtain ⟨m, hm⟩ : ∃ m : Nat, m = 3000 := ⟨_, rfl⟩
    have hcl : Hid (∀ _ : Unit, cs.length = m) := fun _ => by rw [hcs.out (), hm]; exact hct3.out
    have hcb : Hid (W8 cs) := by rw [hcs.out ()]; exact (w8_take _ _ hb)
    have hyx : Hid (0 < m → y = some ⟨g, o, none⟩) := by rw [hy, hm]; exact (fun _ => rfl)
    have hmc : m ≤ c := by omega
    have hm3 : m ≤ 3000 := by omega
    have hgm : Hid (0 < m → g < w.heap.size) := fun h0 => hg (by omega)
    have hcm : Hid (∀ t, t < m → w.cell? ⟨g, o + t, none⟩ = some (.int .u8 (cs.getD t 0 : Nat))) := by rw [hcs.out (), hm]; exact (fun t ht => by rw [take_getD _ _ _ ht]; exact hcell t (by omega))
    obtain ⟨X, hX⟩ : ∃ X, Hid (∀ _ : Unit, xorN key ctr nonce cs = X) := ⟨_, fun _ => rfl⟩
    have hXl : Hid (∀ _ : Unit, X.length = m) := fun _ => by rw [← hX.out (), xorN_length, hcl.out ()]
    have hXb : Hid (W8 X) := by rw [← hX.out ()]; exact xorN_w8 _ _ _ _ hcb.out
    have hXX : Hid (∀ _ : Unit, xorN key ctr nonce X = cs) := fun _ => by rw [← hX.out (), xorN_twice]
    have hX1 : Hid (∀ _ : Unit, xorN key ((ctr + 1) % 4294967296) nonce (cs.drop 64) = X.drop 64) := fun _ => by rw [← hX.out (), xorN_next]
    have H := Lib.hid (fun (bs : List Nat) (ct : Nat) (h1 : ct < 4294967296) (x : Option Addr) (n c g o : Nat) hx hcap hl hb hN hc w hg hcell => xor_any key nonce bs ct hk hn hkb hnb h1 x n c g o hx hcap hl hb hN hc w hg hcell)
    have hk' := hI0.out.base.x
    have hn' := hI0.out.base.y
    clear hk hn hkb hnb hl hb hg hcell hcs hcap
    go_enter Try.func6, Try.ntmps6
    go_wp2_with (first
      | (refine wpList_load_row_if rfl 29 _ rfl _ rfl 29 _ (0, 0) _ hk' Try.underlying29 rfl s29.out ?_)
      | (refine wpList_load_row_if rfl 30 _ rfl _ rfl 30 _ (0, 0) _ hn' Try.underlying30 rfl s30.out ?_))
    rw [← hm, ← hy]
    clear hm hy hk' hn'
    obtain ⟨W0, hW0⟩ : ∃ W0, W0 = (w.alloc (.cells (av .u8 key) 29)).alloc (.cells (av .u8 nonce) 30) := ⟨_, rfl⟩
    rw [← hW0] at hI0 ⊢
    clear hW0
    refine (H.out cs ctr hct y m c g o hyx.out hmc (hcl.out ()) hcb.out (by omega) hc W0 (hI0.out.src hgm.out hcm.out).1 (hI0.out.src hgm.out hcm.out).2).mono ?_
    rintro e W1 ⟨rfl, hr1, hb1⟩
    rw [hX.out ()] at hr1
    obtain ⟨g1, hg1⟩ : ∃ g1, W0.heap.size + 1 + 1 = g1 := ⟨_, rfl⟩
    rw [hg1] at hr1 ⊢
    have hI1 : Hid (XsI key nonce w [(g1, X)] W1) := hI0.out.more hb1 hr1
    clear hg1 hb1 hI0 hr1
    have hk' := hI1.out.base.x
    have hn' := hI1.out.base.y
    go_wp2_with (first
      | (refine wpList_load_row_if rfl 29 _ rfl _ rfl 29 _ (0, 0) _ hk' Try.underlying29 rfl s29.out ?_)
      | (refine wpList_load_row_if rfl 30 _ rfl _ rfl 30 _ (0, 0) _ hn' Try.underlying30 rfl s30.out ?_))
    clear hk' hn'
    have hr1 := hI1.out.rows (g1, X) List.mem_cons_self
    refine (H.out X ctr hct (some ⟨g1, 0, none⟩) m m g1 0 (fun _ => rfl) (Nat.le_refl _) (hXl.out ()) hXb.out (by omega) (by omega) W1 (fun _ => (Array.getElem?_eq_some_iff.1 hr1).1)
      (fun t ht => by rw [Nat.zero_add, cell_of_row _ _ _ _ _ _ hr1, av_get _ _ _ (by rw [hXl.out ()]; exact ht)])).mono ?_
    rintro e W2 ⟨rfl, hr2, hb2⟩
    rw [hXX.out ()] at hr2
    obtain ⟨g2, hg2⟩ : ∃ g2, W1.heap.size + 1 + 1 = g2 := ⟨_, rfl⟩
    rw [hg2] at hr2 ⊢
    have hI2 : Hid (XsI key nonce w [(g2, cs), (g1, X)] W2) := hI1.out.more hb2 hr2
    clear hg2 hb2 hI1 hr2 hr1
    go_wp2_with fail
    refine (awake4_any _).mono ?_
    rintro e W3 ⟨rfl, hb3⟩
    have hI3 : Hid (XsI key nonce w [(g2, cs), (g1, X)] W3) := hI2.out.old hb3
    clear hI2 hb3
    obtain ⟨S, hS⟩ : ∃ S, Hid (∀ _ : Unit, strN cs = S) := ⟨_, fun _ => rfl⟩
    have v1 : (convert 36 9 (.slice (some ⟨g2, 0, none⟩) m m)).run Try.prog W3 = .ok (.string S) W3 := by rw [← hS.out ()]; exact row_string _ (hcl.out ()) (hI3.out.rows (g2, cs) List.mem_cons_self)
    have v2 : (convert 36 9 (.slice y m c)).run Try.prog W3 = .ok (.string S) W3 := by
      rw [← hS.out ()]
      exact run_string 36 9 5 Try.underlying36 Try.underlying5 Try.underlying9 y m c g o cs (hcl.out ()) hyx.out (hI3.out.src hgm.out hcm.out).2
    have V1 := Lib.hid v1
    have V2 := Lib.hid v2
    clear v1 v2
    by_cases h64 : m < 64
    · have h64' : (m : Int) < 64 := by omega
      go_wp2_with (first
        | (refine wpList_convert rfl 36 9 _ rfl V1.out ?_)
        | (refine wpList_convert rfl 36 9 _ rfl V2.out ?_))
      refine (awake4_any _).mono ?_
      rintro e W4 ⟨rfl, hb4⟩
      have hI4 : Hid (XsI key nonce w [(g2, cs), (g1, X)] W4) := hI3.out.old hb4
      have V3 : Hid ((convert 36 9 (.slice (some ⟨g2, 0, none⟩) m m)).run Try.prog W4 = .ok (.string S) W4) := by rw [Hid, ← hS.out ()]; exact row_string _ (hcl.out ()) (hI4.out.rows (g2, cs) List.mem_cons_self)
      have V4 : Hid ((convert 36 9 (.slice y m c)).run Try.prog W4 = .ok (.string S) W4) := by
        rw [Hid, ← hS.out ()]
        exact run_string 36 9 5 Try.underlying36 Try.underlying5 Try.underlying9 y m c g o cs (hcl.out ()) hyx.out (hI4.out.src hgm.out hcm.out).2
      clear V1 V2 hI3 hb4
      go_wp2_with (first
        | (refine wpList_convert rfl 36 9 _ rfl V3.out ?_)
        | (refine wpList_convert rfl 36 9 _ rfl V4.out ?_))
      go_ret
      exact ⟨rfl, hI4.out.base.b⟩
    · have h64' : ¬ (m : Int) < 64 := by omega
      go_wp2_with (first
        | (refine wpList_convert rfl 36 9 _ rfl V1.out ?_)
        | (refine wpList_convert rfl 36 9 _ rfl V2.out ?_))
      clear V1 V2
      obtain rfl := hyx.out (by omega)
      obtain ⟨c1, hc1⟩ : ∃ c1, (ctr + 1) % 4294967296 = c1 := ⟨_, rfl⟩
      have hc1l : c1 < 4294967296 := by rw [← hc1]; exact Nat.mod_lt _ (by decide)
      have e1 : ((ctr : Int) + 1) % 4294967296 = (c1 : Int) := by omega
      have e2 : IntKind.u32.wrap ((ctr : Int) + 1) = (c1 : Int) := by rw [IntKind.wrap_u32, e1]
      rw [hc1] at hX1
      have m0 : (64 : Int) ≤ (m : Int) := by omega
      have m1 : (m : Int) ≤ (c : Int) := by omega
      have H3 : Hid (∀ t W, XsI key nonce w (t ++ [(g2, cs), (g1, X)]) W → Calls Try.prog 18 #[.agg (av .u8 key), .int .u32 c1, .agg (av .u8 nonce), .slice (if c = 64 then some ⟨g, o, none⟩ else some ⟨g, o + 64, none⟩) (m - 64) (c - 64)] W fun e w' =>
          e = .returned (.slice (some ⟨W.heap.size + 1 + 1, 0, none⟩) (m - 64) (m - 64)) ∧ w'.heap[W.heap.size + 1 + 1]? = some (.cells (av .u8 (X.drop 64)) 5) ∧ Below W.heap.size W w') := fun t W h => by
        have hs := h.src hgm.out hcm.out
        have := H.out (cs.drop 64) c1 hc1l (if c = 64 then some ⟨g, o, none⟩ else some ⟨g, o + 64, none⟩) (m - 64) (c - 64) g (o + 64) (fun h0 => by rw [if_neg (by omega)]) (by omega) (by rw [List.length_drop, hcl.out ()]) (w8_drop _ _ hcb.out) (by omega) (by omega) W (fun _ => hs.1 (by omega))
          (fun t ht => by rw [drop_getD, Nat.add_assoc]; exact hs.2 (64 + t) (by omega))
        rw [hX1.out ()] at this
        exact this
      have hDl : Hid (∀ _ : Unit, (X.drop 64).length = m - 64) := fun _ => by rw [List.length_drop, hXl.out ()]
      obtain ⟨R, hR⟩ : ∃ R, Hid (∀ _ : Unit, strN (X.drop 64) = R) := ⟨_, fun _ => rfl⟩
      obtain ⟨D, hD⟩ : ∃ D, Hid (∀ _ : Unit, X.drop 64 = D) := ⟨_, fun _ => rfl⟩
      rw [hD.out ()] at H3 hDl hR
      have VX : Hid (∀ t W, XsI key nonce w (t ++ [(g2, cs), (g1, X)]) W → (convert 36 9 (.slice (if m = 64 then some ⟨g1, 0, none⟩ else some ⟨g1, 64, none⟩) (m - 64) (m - 64))).run Try.prog W = .ok (.string R) W) := fun t W h => by
        have hr := h.rows (g1, X) (by simp)
        rw [← hR.out ()]
        exact run_string 36 9 5 Try.underlying36 Try.underlying5 Try.underlying9 _ (m - 64) (m - 64) g1 64 D (hDl.out ()) (fun h0 => by rw [if_neg (by omega)])
          (fun i hi => by rw [cell_of_row _ _ _ _ _ _ hr, av_get _ _ _ (by rw [hXl.out ()]; omega), ← hD.out (), drop_getD])
      clear hc1 hX hXX hX1 hXb hXl hcl hcb hcm hgm hyx hS hD H
      refine wp_region_calm_h (fun t W => XsI key nonce w (t ++ [(g2, cs), (g1, X)]) W) (fun a b => ∀ p ∈ a, p ∈ b) (fun _ _ h => h) (fun _ _ _ h k p hp => k p (h p hp)) []
        [.any (.agg (av .u8 key)), .any (.int .u32 ctr), .any (.int .u32 c1), .any (.agg (av .u8 nonce)), .any (.slice (some ⟨g, o, none⟩) m c), .any (.slice (if c = 64 then some ⟨g, o, none⟩ else some ⟨g, o + 64, none⟩) (m - 64) (c - 64)), .turn, .held,
         .any (.slice (some ⟨g1, 0, none⟩) m m), .any (.slice (if m = 64 then some ⟨g1, 0, none⟩ else some ⟨g1, 64, none⟩) (m - 64) (m - 64)), .any (.string R), .any (.bool true), .any (.bool true)]
        (by kernel_rfl) (by kernel_rfl) (by kernel_rfl) (hI3.out.old (Below.refl _ _).drew) ?_
      refine wpH_any rfl (fun t' w' hI K hK => ?_) ?_
      · exact calm_load_row 29 _ rfl _ rfl 29 _ (0, 0) _ hI.base.x Try.underlying29 rfl s29.out (hK _ hI)
      simp only [Act.put, List.setIfInBounds_toArray, List.set_cons_succ, List.set_cons_zero]
      refine wpH_any rfl (fun t' w' hI K hK => ?_) ?_
      · go_simp
        exact hK _ hI
      simp only [Act.put, List.setIfInBounds_toArray, List.set_cons_succ, List.set_cons_zero]
      refine wpH_any rfl (fun t' w' hI K hK => ?_) ?_
      · go_simp
        exact hK _ hI
      simp only [Act.put, List.setIfInBounds_toArray, List.set_cons_succ, List.set_cons_zero]
      refine wpH_any rfl (fun t' w' hI K hK => ?_) ?_
      · exact calm_load_row 30 _ rfl _ rfl 30 _ (0, 0) _ hI.base.y Try.underlying30 rfl s30.out (hK _ hI)
      simp only [Act.put, List.setIfInBounds_toArray, List.set_cons_succ, List.set_cons_zero]
      refine wpH_any rfl (fun t' w' hI K hK => ?_) ?_
      · go_simp
        exact hK _ hI
      simp only [Act.put, List.setIfInBounds_toArray, List.set_cons_succ, List.set_cons_zero]
      refine wpH_any rfl (fun t' w' hI K hK => ?_) ?_
      · go_simp
        exact hK _ hI
      simp only [Act.put, List.setIfInBounds_toArray, List.set_cons_succ, List.set_cons_zero]
      refine wpH_turn (fun s' v' => ∃ g, s' = (g, D) :: [] ∧ v' = .slice (some ⟨g, 0, none⟩) (m - 64) (m - 64)) rfl ⟨(0, D) :: [], _, fun p hp => List.mem_cons_of_mem _ hp, 0, rfl, rfl⟩ (fun w' hI K hK => ?_) ?_
      · go_simp
        refine (H3.out _ w' hI).mono ?_
        rintro e w'' ⟨rfl, hr, hb⟩
        exact ⟨_, rfl, hK ((w'.heap.size + 1 + 1, D) :: []) _ _ (fun p hp => List.mem_cons_of_mem _ hp) ⟨_, rfl, rfl⟩ (hI.more hb hr)⟩
      rintro s' v' hle ⟨g3, rfl, rfl⟩
      clear hle
      simp only [Act.put, List.setIfInBounds_toArray, List.set_cons_succ, List.set_cons_zero]
      refine wpH_held (.string R) rfl (fun t' w' hle hI K hK => ?_) ?_
      · exact calm_convert 36 9 _ rfl (by rw [← hR.out ()]; exact row_string _ (hDl.out ()) (hI.rows (g3, D) (List.mem_append_left _ (hle _ List.mem_cons_self)))) (hK _ hI)
      simp only [Act.put, List.setIfInBounds_toArray, List.set_cons_succ, List.set_cons_zero]
      refine wpH_any rfl (fun t' w' hI K hK => ?_) ?_
      · go_simp
        exact hK _ hI
      simp only [Act.put, List.setIfInBounds_toArray, List.set_cons_succ, List.set_cons_zero]
      refine wpH_any rfl (fun t' w' hI K hK => ?_) ?_
      · go_simp
        exact hK _ hI
      simp only [Act.put, List.setIfInBounds_toArray, List.set_cons_succ, List.set_cons_zero]
      refine wpH_any rfl (fun t' w' hI K hK => ?_) ?_
      · exact calm_convert 36 9 _ rfl (VX.out _ _ hI) (hK _ hI)
      simp only [Act.put, List.setIfInBounds_toArray, List.set_cons_succ, List.set_cons_zero]
      refine wpH_any rfl (fun t' w' hI K hK => ?_) ?_
      · go_simp
        exact hK _ hI
      simp only [Act.put, List.setIfInBounds_toArray, List.set_cons_succ, List.set_cons_zero]
      refine wpH_any rfl (fun t' w' hI K hK => ?_) ?_
      · go_simp
        exact hK _ hI
      simp only [Act.put, List.setIfInBounds_toArray, List.set_cons_succ, List.set_cons_zero]
      refine wpH_nil fun w' hI => ?_
      go_wp2
      all_goals go_ret
      all_goals exact ⟨rfl, hI.base.b⟩
  · have hx' := Lib.hid hx
    clear hx
    obtain ⟨cs, hcs⟩ : ∃ cs, Hid (∀ _ : Unit, cs = bs) := ⟨_, fun _ => rfl⟩
    obtain ⟨y, hy⟩ : ∃ y : Option Addr, y = x := ⟨_, rfl⟩
    obtain ⟨m, hm⟩ : ∃ m : Nat, m = n := ⟨_, rfl⟩
    have hcl : Hid (∀ _ : Unit, cs.length = m) := fun _ => by rw [hcs.out (), hm]; exact hl
    have hcb : Hid (W8 cs) := by rw [hcs.out ()]; exact hb
    have hyx : Hid (0 < m → y = some ⟨g, o, none⟩) := by rw [hy, hm]; exact hx'.out
    have hmc : m ≤ c := by omega
    have hm3 : m ≤ 3000 := by omega
    have hgm : Hid (0 < m → g < w.heap.size) := fun h0 => hg (by omega)
    have hcm : Hid (∀ t, t < m → w.cell? ⟨g, o + t, none⟩ = some (.int .u8 (cs.getD t 0 : Nat))) := by rw [hcs.out (), hm]; exact hcell
    obtain ⟨X, hX⟩ : ∃ X, Hid (∀ _ : Unit, xorN key ctr nonce cs = X) := ⟨_, fun _ => rfl⟩
    have hXl : Hid (∀ _ : Unit, X.length = m) := fun _ => by rw [← hX.out (), xorN_length, hcl.out ()]
    have hXb : Hid (W8 X) := by rw [← hX.out ()]; exact xorN_w8 _ _ _ _ hcb.out
    have hXX : Hid (∀ _ : Unit, xorN key ctr nonce X = cs) := fun _ => by rw [← hX.out (), xorN_twice]
    have hX1 : Hid (∀ _ : Unit, xorN key ((ctr + 1) % 4294967296) nonce (cs.drop 64) = X.drop 64) := fun _ => by rw [← hX.out (), xorN_next]
    have H := Lib.hid (fun (bs : List Nat) (ct : Nat) (h1 : ct < 4294967296) (x : Option Addr) (n c g o : Nat) hx hcap hl hb hN hc w hg hcell => xor_any key nonce bs ct hk hn hkb hnb h1 x n c g o hx hcap hl hb hN hc w hg hcell)
    have hk' := hI0.out.base.x
    have hn' := hI0.out.base.y
    clear hk hn hkb hnb hl hb hg hcell hcs hcap
    go_enter Try.func6, Try.ntmps6
    go_wp2_with (first
      | (refine wpList_load_row_if rfl 29 _ rfl _ rfl 29 _ (0, 0) _ hk' Try.underlying29 rfl s29.out ?_)
      | (refine wpList_load_row_if rfl 30 _ rfl _ rfl 30 _ (0, 0) _ hn' Try.underlying30 rfl s30.out ?_))
    rw [← hm, ← hy]
    clear hm hy hk' hn'
    obtain ⟨W0, hW0⟩ : ∃ W0, W0 = (w.alloc (.cells (av .u8 key) 29)).alloc (.cells (av .u8 nonce) 30) := ⟨_, rfl⟩
    rw [← hW0] at hI0 ⊢
    clear hW0
    refine (H.out cs ctr hct y m c g o hyx.out hmc (hcl.out ()) hcb.out (by omega) hc W0 (hI0.out.src hgm.out hcm.out).1 (hI0.out.src hgm.out hcm.out).2).mono ?_
    rintro e W1 ⟨rfl, hr1, hb1⟩
    rw [hX.out ()] at hr1
    obtain ⟨g1, hg1⟩ : ∃ g1, W0.heap.size + 1 + 1 = g1 := ⟨_, rfl⟩
    rw [hg1] at hr1 ⊢
    have hI1 : Hid (XsI key nonce w [(g1, X)] W1) := hI0.out.more hb1 hr1
    clear hg1 hb1 hI0 hr1
    have hk' := hI1.out.base.x
    have hn' := hI1.out.base.y
    go_wp2_with (first
      | (refine wpList_load_row_if rfl 29 _ rfl _ rfl 29 _ (0, 0) _ hk' Try.underlying29 rfl s29.out ?_)
      | (refine wpList_load_row_if rfl 30 _ rfl _ rfl 30 _ (0, 0) _ hn' Try.underlying30 rfl s30.out ?_))
    clear hk' hn'
    have hr1 := hI1.out.rows (g1, X) List.mem_cons_self
    refine (H.out X ctr hct (some ⟨g1, 0, none⟩) m m g1 0 (fun _ => rfl) (Nat.le_refl _) (hXl.out ()) hXb.out (by omega) (by omega) W1 (fun _ => (Array.getElem?_eq_some_iff.1 hr1).1)
      (fun t ht => by rw [Nat.zero_add, cell_of_row _ _ _ _ _ _ hr1, av_get _ _ _ (by rw [hXl.out ()]; exact ht)])).mono ?_
    rintro e W2 ⟨rfl, hr2, hb2⟩
    rw [hXX.out ()] at hr2
    obtain ⟨g2, hg2⟩ : ∃ g2, W1.heap.size + 1 + 1 = g2 := ⟨_, rfl⟩
    rw [hg2] at hr2 ⊢
    have hI2 : Hid (XsI key nonce w [(g2, cs), (g1, X)] W2) := hI1.out.more hb2 hr2
    clear hg2 hb2 hI1 hr2 hr1
    go_wp2_with fail
    refine (awake4_any _).mono ?_
    rintro e W3 ⟨rfl, hb3⟩
    have hI3 : Hid (XsI key nonce w [(g2, cs), (g1, X)] W3) := hI2.out.old hb3
    clear hI2 hb3
    obtain ⟨S, hS⟩ : ∃ S, Hid (∀ _ : Unit, strN cs = S) := ⟨_, fun _ => rfl⟩
    have v1 : (convert 36 9 (.slice (some ⟨g2, 0, none⟩) m m)).run Try.prog W3 = .ok (.string S) W3 := by rw [← hS.out ()]; exact row_string _ (hcl.out ()) (hI3.out.rows (g2, cs) List.mem_cons_self)
    have v2 : (convert 36 9 (.slice y m c)).run Try.prog W3 = .ok (.string S) W3 := by
      rw [← hS.out ()]
      exact run_string 36 9 5 Try.underlying36 Try.underlying5 Try.underlying9 y m c g o cs (hcl.out ()) hyx.out (hI3.out.src hgm.out hcm.out).2
    have V1 := Lib.hid v1
    have V2 := Lib.hid v2
    clear v1 v2
    by_cases h64 : m < 64
    · have h64' : (m : Int) < 64 := by omega
      go_wp2_with (first
        | (refine wpList_convert rfl 36 9 _ rfl V1.out ?_)
        | (refine wpList_convert rfl 36 9 _ rfl V2.out ?_))
      refine (awake4_any _).mono ?_
      rintro e W4 ⟨rfl, hb4⟩
      have hI4 : Hid (XsI key nonce w [(g2, cs), (g1, X)] W4) := hI3.out.old hb4
      have V3 : Hid ((convert 36 9 (.slice (some ⟨g2, 0, none⟩) m m)).run Try.prog W4 = .ok (.string S) W4) := by rw [Hid, ← hS.out ()]; exact row_string _ (hcl.out ()) (hI4.out.rows (g2, cs) List.mem_cons_self)
      have V4 : Hid ((convert 36 9 (.slice y m c)).run Try.prog W4 = .ok (.string S) W4) := by
        rw [Hid, ← hS.out ()]
        exact run_string 36 9 5 Try.underlying36 Try.underlying5 Try.underlying9 y m c g o cs (hcl.out ()) hyx.out (hI4.out.src hgm.out hcm.out).2
      clear V1 V2 hI3 hb4
      go_wp2_with (first
        | (refine wpList_convert rfl 36 9 _ rfl V3.out ?_)
        | (refine wpList_convert rfl 36 9 _ rfl V4.out ?_))
      go_ret
      exact ⟨rfl, hI4.out.base.b⟩
    · have h64' : ¬ (m : Int) < 64 := by omega
      go_wp2_with (first
        | (refine wpList_convert rfl 36 9 _ rfl V1.out ?_)
        | (refine wpList_convert rfl 36 9 _ rfl V2.out ?_))
      clear V1 V2
      obtain rfl := hyx.out (by omega)
      obtain ⟨c1, hc1⟩ : ∃ c1, (ctr + 1) % 4294967296 = c1 := ⟨_, rfl⟩
      have hc1l : c1 < 4294967296 := by rw [← hc1]; exact Nat.mod_lt _ (by decide)
      have e1 : ((ctr : Int) + 1) % 4294967296 = (c1 : Int) := by omega
      have e2 : IntKind.u32.wrap ((ctr : Int) + 1) = (c1 : Int) := by rw [IntKind.wrap_u32, e1]
      rw [hc1] at hX1
      have m0 : (64 : Int) ≤ (m : Int) := by omega
      have m1 : (m : Int) ≤ (c : Int) := by omega
      have H3 : Hid (∀ t W, XsI key nonce w (t ++ [(g2, cs), (g1, X)]) W → Calls Try.prog 18 #[.agg (av .u8 key), .int .u32 c1, .agg (av .u8 nonce), .slice (if c = 64 then some ⟨g, o, none⟩ else some ⟨g, o + 64, none⟩) (m - 64) (c - 64)] W fun e w' =>
          e = .returned (.slice (some ⟨W.heap.size + 1 + 1, 0, none⟩) (m - 64) (m - 64)) ∧ w'.heap[W.heap.size + 1 + 1]? = some (.cells (av .u8 (X.drop 64)) 5) ∧ Below W.heap.size W w') := fun t W h => by
        have hs := h.src hgm.out hcm.out
        have := H.out (cs.drop 64) c1 hc1l (if c = 64 then some ⟨g, o, none⟩ else some ⟨g, o + 64, none⟩) (m - 64) (c - 64) g (o + 64) (fun h0 => by rw [if_neg (by omega)]) (by omega) (by rw [List.length_drop, hcl.out ()]) (w8_drop _ _ hcb.out) (by omega) (by omega) W (fun _ => hs.1 (by omega))
          (fun t ht => by rw [drop_getD, Nat.add_assoc]; exact hs.2 (64 + t) (by omega))
        rw [hX1.out ()] at this
        exact this
      have hDl : Hid (∀ _ : Unit, (X.drop 64).length = m - 64) := fun _ => by rw [List.length_drop, hXl.out ()]
      obtain ⟨R, hR⟩ : ∃ R, Hid (∀ _ : Unit, strN (X.drop 64) = R) := ⟨_, fun _ => rfl⟩
      obtain ⟨D, hD⟩ : ∃ D, Hid (∀ _ : Unit, X.drop 64 = D) := ⟨_, fun _ => rfl⟩
      rw [hD.out ()] at H3 hDl hR
      have VX : Hid (∀ t W, XsI key nonce w (t ++ [(g2, cs), (g1, X)]) W → (convert 36 9 (.slice (if m = 64 then some ⟨g1, 0, none⟩ else some ⟨g1, 64, none⟩) (m - 64) (m - 64))).run Try.prog W = .ok (.string R) W) := fun t W h => by
        have hr := h.rows (g1, X) (by simp)
        rw [← hR.out ()]
        exact run_string 36 9 5 Try.underlying36 Try.underlying5 Try.underlying9 _ (m - 64) (m - 64) g1 64 D (hDl.out ()) (fun h0 => by rw [if_neg (by omega)])
          (fun i hi => by rw [cell_of_row _ _ _ _ _ _ hr, av_get _ _ _ (by rw [hXl.out ()]; omega), ← hD.out (), drop_getD])
      clear hc1 hX hXX hX1 hXb hXl hcl hcb hcm hgm hyx hS hD H
      refine wp_region_calm_h (fun t W => XsI key nonce w (t ++ [(g2, cs), (g1, X)]) W) (fun a b => ∀ p ∈ a, p ∈ b) (fun _ _ h => h) (fun _ _ _ h k p hp => k p (h p hp)) []
        [.any (.agg (av .u8 key)), .any (.int .u32 ctr), .any (.int .u32 c1), .any (.agg (av .u8 nonce)), .any (.slice (some ⟨g, o, none⟩) m c), .any (.slice (if c = 64 then some ⟨g, o, none⟩ else some ⟨g, o + 64, none⟩) (m - 64) (c - 64)), .turn, .held,
         .any (.slice (some ⟨g1, 0, none⟩) m m), .any (.slice (if m = 64 then some ⟨g1, 0, none⟩ else some ⟨g1, 64, none⟩) (m - 64) (m - 64)), .any (.string R), .any (.bool true), .any (.bool true)]
        (by kernel_rfl) (by kernel_rfl) (by kernel_rfl) (hI3.out.old (Below.refl _ _).drew) ?_
      refine wpH_any rfl (fun t' w' hI K hK => ?_) ?_
      · exact calm_load_row 29 _ rfl _ rfl 29 _ (0, 0) _ hI.base.x Try.underlying29 rfl s29.out (hK _ hI)
      simp only [Act.put, List.setIfInBounds_toArray, List.set_cons_succ, List.set_cons_zero]
      refine wpH_any rfl (fun t' w' hI K hK => ?_) ?_
      · go_simp
        exact hK _ hI
      simp only [Act.put, List.setIfInBounds_toArray, List.set_cons_succ, List.set_cons_zero]
      refine wpH_any rfl (fun t' w' hI K hK => ?_) ?_
      · go_simp
        exact hK _ hI
      simp only [Act.put, List.setIfInBounds_toArray, List.set_cons_succ, List.set_cons_zero]
      refine wpH_any rfl (fun t' w' hI K hK => ?_) ?_
      · exact calm_load_row 30 _ rfl _ rfl 30 _ (0, 0) _ hI.base.y Try.underlying30 rfl s30.out (hK _ hI)
      simp only [Act.put, List.setIfInBounds_toArray, List.set_cons_succ, List.set_cons_zero]
      refine wpH_any rfl (fun t' w' hI K hK => ?_) ?_
      · go_simp
        exact hK _ hI
      simp only [Act.put, List.setIfInBounds_toArray, List.set_cons_succ, List.set_cons_zero]
      refine wpH_any rfl (fun t' w' hI K hK => ?_) ?_
      · go_simp
        exact hK _ hI
      simp only [Act.put, List.setIfInBounds_toArray, List.set_cons_succ, List.set_cons_zero]
      refine wpH_turn (fun s' v' => ∃ g, s' = (g, D) :: [] ∧ v' = .slice (some ⟨g, 0, none⟩) (m - 64) (m - 64)) rfl ⟨(0, D) :: [], _, fun p hp => List.mem_cons_of_mem _ hp, 0, rfl, rfl⟩ (fun w' hI K hK => ?_) ?_
      · go_simp
        refine (H3.out _ w' hI).mono ?_
        rintro e w'' ⟨rfl, hr, hb⟩
        exact ⟨_, rfl, hK ((w'.heap.size + 1 + 1, D) :: []) _ _ (fun p hp => List.mem_cons_of_mem _ hp) ⟨_, rfl, rfl⟩ (hI.more hb hr)⟩
      rintro s' v' hle ⟨g3, rfl, rfl⟩
      clear hle
      simp only [Act.put, List.setIfInBounds_toArray, List.set_cons_succ, List.set_cons_zero]
      refine wpH_held (.string R) rfl (fun t' w' hle hI K hK => ?_) ?_
      · exact calm_convert 36 9 _ rfl (by rw [← hR.out ()]; exact row_string _ (hDl.out ()) (hI.rows (g3, D) (List.mem_append_left _ (hle _ List.mem_cons_self)))) (hK _ hI)
      simp only [Act.put, List.setIfInBounds_toArray, List.set_cons_succ, List.set_cons_zero]
      refine wpH_any rfl (fun t' w' hI K hK => ?_) ?_
      · go_simp
        exact hK _ hI
      simp only [Act.put, List.setIfInBounds_toArray, List.set_cons_succ, List.set_cons_zero]
      refine wpH_any rfl (fun t' w' hI K hK => ?_) ?_
      · go_simp
        exact hK _ hI
      simp only [Act.put, List.setIfInBounds_toArray, List.set_cons_succ, List.set_cons_zero]
      refine wpH_any rfl (fun t' w' hI K hK => ?_) ?_
      · exact calm_convert 36 9 _ rfl (VX.out _ _ hI) (hK _ hI)
      simp only [Act.put, List.setIfInBounds_toArray, List.set_cons_succ, List.set_cons_zero]
      refine wpH_any rfl (fun t' w' hI K hK => ?_) ?_
      · go_simp
        exact hK _ hI
      simp only [Act.put, List.setIfInBounds_toArray, List.set_cons_succ, List.set_cons_zero]
      refine wpH_any rfl (fun t' w' hI K hK => ?_) ?_
      · go_simp
        exact hK _ hI
      simp only [Act.put, List.setIfInBounds_toArray, List.set_cons_succ, List.set_cons_zero]
      refine wpH_nil fun w' hI => ?_
      go_wp2
      all_goals go_ret
      all_goals exact ⟨rfl, hI.base.b⟩

set_option maxRecDepth 100000 in
theorem cipherBack_lifted (os : Os) (started : os.Started) (H : Type) (enc : TypeId × Value → H) :
    ReturnsInHanded {} Try.checked os 6 .any (Rows.cipherBackSpec.pre6 enc Try.prog Try.f6 Rows.cipherBackRow.domain false) (Rows.cipherBackSpec.post enc Try.prog Try.f6 false true false false) := by
  refine returnsInHanded_of_change (C := Try.checked) ownKnob_none started (by kernel_rfl) Try.func6
    (ChangeSpec.witness6 (enc := enc) (C := Try.checked) false ⟨#[], #[.agg (av .u8 zeros32), .int .u32 0, .agg (av .u8 zeros12), .slice none 0 0], []⟩ 8 (by kernel_rfl) (by kernel_rfl) (by kernel_rfl) (by kernel_rfl)) ?_
  intro W base args ds gs before hval0 hW _ _
  have hval : ∀ (j : Nat) t v, Try.f6.params[j]? = some t → args[j]? = some v → Value.okWide Try.prog W .any base t v := hval0
  have hWhole := hW
  obtain ⟨p, q, hA0, hV, rfl, hfz, hnd⟩ := hW
  have hA : DataW.TrodAll enc Try.prog W 0 (fun _ => true) true Try.f6.params.toList args.toList ds p := hA0
  rw [Try.params6] at hA hval
  obtain ⟨v0, vs0, d0, ds0, p0, q0, hargs0, rfl, rfl, h0, r0⟩ := trodAll_cons hA
  obtain ⟨v1, vs1, d1, ds1, p1, q1, hargs1, rfl, rfl, h1, r1⟩ := trodAll_cons r0
  obtain ⟨v2, vs2, d2, ds2, p2, q2, hargs2, rfl, rfl, h2, r2⟩ := trodAll_cons r1
  obtain ⟨v3, vs3, d3, ds3, p3, q3, hargs3, rfl, rfl, h3, r3⟩ := trodAll_cons r2
  obtain ⟨rfl, rfl, rfl⟩ := trodAll_nil r3
  subst hargs1
  subst hargs2
  subst hargs3
  obtain rfl : args = #[v0, v1, v2, v3] := by cases args; simp_all
  obtain ⟨rfl, rfl⟩ := trodVars_none hV
  obtain ⟨x0, rfl, hl0, hb0⟩ := open_nats 256 Try.underlying29 Try.underlying5 (by kernel_rfl) (by kernel_rfl) wf_u8' (hval 0 29 v0 rfl rfl) h0
  obtain ⟨x1, rfl, hb1⟩ := open_nat 4294967296 Try.underlying22 wf_u32' (hval 1 22 v1 rfl rfl) h1
  obtain ⟨x2, rfl, hl2, hb2⟩ := open_nats 256 Try.underlying30 Try.underlying5 (by kernel_rfl) (by kernel_rfl) wf_u8' (hval 2 30 v2 rfl rfl) h2
  obtain ⟨xa3, na3, ca3, ga3, oa3, x3, rfl, hl3, hnc3, hcm3, hb3, hx3, hc3⟩ := open_u8s Try.underlying36 Try.underlying5 (by kernel_rfl) (hval 3 36 v3 rfl rfl) h3
  refine (back_walk x0 x2 x3 x1 hl0 hl2 (fun i => getD_lt x0 256 (by decide) hb0 i) (fun i => getD_lt x2 256 (by decide) hb2 i) hb1 xa3 na3 ca3 ga3 oa3 (fun h => (hx3 h).1) hnc3 hl3 hb3 hcm3 W (fun h => (hx3 h).2) hc3).mono fun e W' ⟨he, hB⟩ => ?_
  subst he
  exact ⟨_, rfl, law_post laidOut (by rw [Try.params6]; decide +kernel) rfl (by kernel_rfl) Try.underlying4 hWhole rfl rfl rfl hB⟩

theorem cipherBack : Rows.CipherBackSaid :=
  OpenClaim.holds_of_wide 6 Try.f6 rfl rfl rfl rfl rfl rfl rfl ⟨rfl, rfl, rfl, rfl, rfl⟩ rfl rfl rfl rfl rfl (by kernel_rfl) Try.func6 (by kernel_rfl)
    (of_decide_eq_true (by kernel_rfl)) (by unfold Func.isWrapper; first | (rw [if_pos (by decide +kernel)]; kernel_rfl) | (rw [if_neg (by decide +kernel)]; exact ⟨rfl, rfl⟩))
    (fun os started H enc _ => cipherBack_lifted os started H enc)
end Go.Proofs.Ythpjdgddpnpdpaa

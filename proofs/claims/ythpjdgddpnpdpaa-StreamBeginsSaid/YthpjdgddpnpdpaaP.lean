/- CipherXors: any bytes under any stream are the reference's. -/
import Derived.Test.YthpjdgddpnpdpaaL
import Derived.Test.YthpjdgddpnpdpaaSlice
namespace Go.Proofs.Ythpjdgddpnpdpaa
open Go.ChangeShapes Go.WideShapes Go.ChangeAt Go.RowKit

/-- What stays: key, nonce; and the rows that the calls have answered. -/
structure XbI (key nonce : List Nat) (w W : World) : Prop where
  x : W.heap[w.heap.size]? = some (.cells (av .u8 key) 29)
  y : W.heap[w.heap.size + 1]? = some (.cells (av .u8 nonce) 30)
  b : Below w.heap.size w W
structure XsI (key nonce : List Nat) (w : World) (s : List (Nat × List Nat)) (W : World) : Prop where
  base : XbI key nonce w W
  rows : ∀ p ∈ s, W.heap[p.1]? = some (.cells (av .u8 p.2) 5)
theorem XsI.old {key nonce : List Nat} {w W W' : World} {s : List (Nat × List Nat)} (h : XsI key nonce w s W) (hb : Below W.heap.size W W') : XsI key nonce w s W' :=
  ⟨⟨old_row hb (Array.getElem?_eq_some_iff.1 h.base.x).1 h.base.x, old_row hb (Array.getElem?_eq_some_iff.1 h.base.y).1 h.base.y, h.base.b.trans (hb.mono h.base.b.size)⟩,
    fun p hp => old_row hb (Array.getElem?_eq_some_iff.1 (h.rows p hp)).1 (h.rows p hp)⟩
theorem XsI.more {key nonce X : List Nat} {w W W' : World} {s : List (Nat × List Nat)} {g : Nat} (h : XsI key nonce w s W) (hb : Below W.heap.size W W') (hr : W'.heap[g]? = some (.cells (av .u8 X) 5)) : XsI key nonce w ((g, X) :: s) W' :=
  ⟨(h.old hb).base, fun p hp => by
    rcases List.mem_cons.1 hp with rfl | hp
    · exact hr
    · exact (h.old hb).rows p hp⟩
theorem XsI.src {key nonce bs : List Nat} {w W : World} {s : List (Nat × List Nat)} {g o n : Nat} (h : XsI key nonce w s W) (hg : 0 < n → g < w.heap.size) (hc : ∀ t, t < n → w.cell? ⟨g, o + t, none⟩ = some (.int .u8 (bs.getD t 0 : Nat))) :
    (0 < n → g < W.heap.size) ∧ ∀ t, t < n → W.cell? ⟨g, o + t, none⟩ = some (.int .u8 (bs.getD t 0 : Nat)) :=
  ⟨fun h0 => Nat.lt_of_lt_of_le (hg h0) h.base.b.size, fun t ht => (h.base.b.cell (p := ⟨g, o + t, none⟩) (hg (by omega))).trans (hc t ht)⟩
theorem row_string {W : World} {g : Nat} {X : List Nat} (n : Nat) (hX : X.length = n) (hr : W.heap[g]? = some (.cells (av .u8 X) 5)) : (convert 36 9 (.slice (some ⟨g, 0, none⟩) n n)).run Try.prog W = .ok (.string (strN X)) W :=
  run_string 36 9 5 Try.underlying36 Try.underlying5 Try.underlying9 _ n n g 0 X hX (fun _ => rfl) (fun i hi => by
    rw [Nat.zero_add, cell_of_row _ _ _ _ _ _ hr, av_get _ _ _ (by omega)])
theorem take_getD (bs : List Nat) (m t : Nat) (h : t < m) : (bs.take m).getD t 0 = bs.getD t 0 := by simp [List.getD, h]
theorem w8_take (bs : List Nat) (m : Nat) (h : W8 bs) : W8 (bs.take m) := by
  intro t
  by_cases ht : t < m
  · rw [take_getD _ _ _ ht]; exact h t
  · rw [List.getD, List.getElem?_eq_none (by simp; omega)]; decide

set_option maxRecDepth 100000 in
set_option maxHeartbeats 4000000 in
theorem xors_walk (key nonce bs : List Nat) (ctr : Nat) (hk : key.length = 32) (hn : nonce.length = 12) (hkb : W8 key) (hnb : W8 nonce) (hct : ctr < 4294967296) (x : Option Addr) (n c g o : Nat) (hx : 0 < n → x = some ⟨g, o, none⟩)
    (hcap : n ≤ c) (hl : bs.length = n) (hb : W8 bs) (hc : c ≤ 9223372036854775807) (w : World) (hg : 0 < n → g < w.heap.size) (hcell : ∀ t, t < n → w.cell? ⟨g, o + t, none⟩ = some (.int .u8 (bs.getD t 0 : Nat))) :
    Calls Try.prog 5 #[.agg (av .u8 key), .int .u32 ctr, .agg (av .u8 nonce), .slice x n c] w fun e w' => e = .returned (.bool true) ∧ Below w.heap.size w w' := by
  have s29 : Hid ((Try.prog.info? 29).map (·.size) = some (av .u8 key).size) := by rw [Hid, av_size, hk]; kernel_rfl
  have s30 : Hid ((Try.prog.info? 30).map (·.size) = some (av .u8 nonce).size) := by rw [Hid, av_size, hn]; kernel_rfl
  have hI0 : Hid (XsI key nonce w [] ((w.alloc (.cells (av .u8 key) 29)).alloc (.cells (av .u8 nonce) 30)).drew) := by
    refine ⟨⟨?_, ?_, ?_⟩, fun p hp => by cases hp⟩
    · exact old_alloc _ (heap_new w _)
    · exact (congrArg (fun n => ((w.alloc (.cells (av .u8 key) 29)).alloc (.cells (av .u8 nonce) 30)).heap[n]?) (by simp)).trans (heap_new (w.alloc _) _)
    · exact (((Below.refl _ _).alloc (Nat.le_refl _) _).alloc (by simp) _).drew
  by_cases h3 : 3000 < n
  · obtain rfl := hx (by omega)
    clear hx
    have hct3 : Hid ((bs.take 3000).length = 3000) := by rw [Hid, List.length_take]; omega
    obtain ⟨X, hX⟩ : ∃ X, Hid (∀ _ : Unit, xorN key ctr nonce (bs.take 3000) = X) := ⟨_, fun _ => rfl⟩
    have hXl : Hid (∀ _ : Unit, X.length = 3000) := fun _ => by rw [← hX.out (), xorN_length, hct3.out]
    have H1 : Hid (∀ s W, XsI key nonce w s W → Calls Try.prog 18 #[.agg (av .u8 key), .int .u32 ctr, .agg (av .u8 nonce), .slice (some ⟨g, o, none⟩) 3000 c] W fun e w' =>
        e = .returned (.slice (some ⟨W.heap.size + 1 + 1, 0, none⟩) 3000 3000) ∧ w'.heap[W.heap.size + 1 + 1]? = some (.cells (av .u8 X) 5) ∧ Below W.heap.size W w') := fun s W h => by
      have hs := h.src (n := 3000) (g := g) (o := o) (bs := (bs.take 3000)) (fun h0 => hg (by omega)) (fun t ht => by rw [take_getD _ _ _ ht]; exact hcell t (by omega))
      rw [← hX.out ()]
      exact xor_any key nonce (bs.take 3000) ctr hk hn hkb hnb hct (some ⟨g, o, none⟩) 3000 c g o (fun _ => rfl) (by omega) hct3.out (w8_take _ _ hb) (by omega) hc W hs.1 hs.2
    have H2 : Hid (∀ s W, XsI key nonce w s W → Calls Try.prog 19 #[.agg (av .u8 key), .int .u32 ctr, .agg (av .u8 nonce), .slice (some ⟨g, o, none⟩) 3000 c] W fun e w' =>
        e = .returned (.slice (some ⟨W.heap.size + 1 + 1, 0, none⟩) 3000 3000) ∧ w'.heap[W.heap.size + 1 + 1]? = some (.cells (av .u8 X) 5) ∧ Below W.heap.size W w') := fun s W h => by
      have hs := h.src (n := 3000) (g := g) (o := o) (bs := (bs.take 3000)) (fun h0 => hg (by omega)) (fun t ht => by rw [take_getD _ _ _ ht]; exact hcell t (by omega))
      rw [← hX.out ()]
      exact refxor_any key nonce (bs.take 3000) ctr hk hn hkb hnb (some ⟨g, o, none⟩) 3000 c g o (fun _ => rfl) hct3.out (w8_take _ _ hb) (by omega) W hs.1 hs.2
    clear hX hk hn hkb hnb hct hl hb hg hcell
    go_enter Try.func5, Try.ntmps5
    go_wp2_with fail
    refine wp_region_calm_h (XsI key nonce w) (fun a b => ∀ p ∈ a, p ∈ b) (fun _ _ h => h) (fun _ _ _ h k p hp => k p (h p hp)) []
      [.any (.bool true), .any (.bool true), .any (.agg (av .u8 key)), .any (.int .u32 ctr), .any (.agg (av .u8 nonce)), .any (.slice (some ⟨g, o, none⟩) 3000 c), .turn, .held,
       .any (.agg (av .u8 key)), .any (.int .u32 ctr), .any (.agg (av .u8 nonce)), .any (.slice (some ⟨g, o, none⟩) 3000 c), .turn, .held, .any (.bool true), .any (.bool true), .any (.bool true)]
      (by kernel_rfl) (by kernel_rfl) (by kernel_rfl) hI0.out ?_
    refine wpH_any rfl (fun t' w' hI K hK => ?_) ?_
    · go_simp
      refine (awake4_any w').mono ?_
      rintro e w'' ⟨rfl, hb⟩
      exact ⟨_, rfl, hK _ (hI.old hb)⟩
    simp only [Act.put, List.setIfInBounds_toArray, List.set_cons_succ, List.set_cons_zero]
    refine wpH_any rfl (fun t' w' hI K hK => ?_) ?_
    · go_simp
      exact hK _ hI
    simp only [Act.put, List.setIfInBounds_toArray, List.set_cons_succ, List.set_cons_zero]
    refine wpH_any rfl (fun t' w' hI K hK => ?_) ?_
    · exact calm_load_row 29 _ rfl _ rfl 29 _ (0, 0) _ hI.base.x Try.underlying29 rfl s29.out (hK _ hI)
    simp only [Act.put, List.setIfInBounds_toArray, List.set_cons_succ, List.set_cons_zero]
    refine wpH_any rfl (fun t' w' hI K hK => ?_) ?_
    · go_simp
      exact hK _ hI
    simp only [Act.put, List.setIfInBounds_toArray, List.set_cons_succ, List.set_cons_zero]
    refine wpH_any rfl (fun t' w' hI K hK => ?_) ?_
    · exact calm_load_row 30 _ rfl _ rfl 30 _ (0, 0) _ hI.base.y Try.underlying30 rfl s30.out (hK _ hI)
    simp only [Act.put, List.setIfInBounds_toArray, List.set_cons_succ, List.set_cons_zero]
    refine wpH_any rfl (fun t' w' hI K hK => ?_) ?_
    · go_simp
      exact hK _ hI
    simp only [Act.put, List.setIfInBounds_toArray, List.set_cons_succ, List.set_cons_zero]
    refine wpH_turn (fun s' v' => ∃ g, s' = (g, X) :: [] ∧ v' = .slice (some ⟨g, 0, none⟩) 3000 3000) rfl ⟨(0, X) :: [], _, fun p hp => List.mem_cons_of_mem _ hp, 0, rfl, rfl⟩ (fun w' hI K hK => ?_) ?_
    · go_simp
      refine (H1.out _ w' hI).mono ?_
      rintro e w'' ⟨rfl, hr, hb⟩
      exact ⟨_, rfl, hK ((w'.heap.size + 1 + 1, X) :: []) _ _ (fun p hp => List.mem_cons_of_mem _ hp) ⟨_, rfl, rfl⟩ (hI.more hb hr)⟩
    rintro s' v' hle ⟨g1, rfl, rfl⟩
    clear hle
    simp only [Act.put, List.setIfInBounds_toArray, List.set_cons_succ, List.set_cons_zero]
    refine wpH_held (.string (strN X)) rfl (fun t' w' hle hI K hK => ?_) ?_
    · exact calm_convert 36 9 _ rfl (row_string _ (hXl.out ()) (hI.rows (g1, X) (hle _ List.mem_cons_self))) (hK _ hI)
    simp only [Act.put, List.setIfInBounds_toArray, List.set_cons_succ, List.set_cons_zero]
    refine wpH_any rfl (fun t' w' hI K hK => ?_) ?_
    · exact calm_load_row 29 _ rfl _ rfl 29 _ (0, 0) _ hI.base.x Try.underlying29 rfl s29.out (hK _ hI)
    simp only [Act.put, List.setIfInBounds_toArray, List.set_cons_succ, List.set_cons_zero]
    refine wpH_any rfl (fun t' w' hI K hK => ?_) ?_
    · go_simp
      exact hK _ hI
    simp only [Act.put, List.setIfInBounds_toArray, List.set_cons_succ, List.set_cons_zero]
    refine wpH_any rfl (fun t' w' hI K hK => ?_) ?_
    · exact calm_load_row 30 _ rfl _ rfl 30 _ (0, 0) _ hI.base.y Try.underlying30 rfl s30.out (hK _ hI)
    simp only [Act.put, List.setIfInBounds_toArray, List.set_cons_succ, List.set_cons_zero]
    refine wpH_any rfl (fun t' w' hI K hK => ?_) ?_
    · go_simp
      exact hK _ hI
    simp only [Act.put, List.setIfInBounds_toArray, List.set_cons_succ, List.set_cons_zero]
    refine wpH_turn (fun s' v' => ∃ g, s' = (g, X) :: [(g1, X)] ∧ v' = .slice (some ⟨g, 0, none⟩) 3000 3000) rfl ⟨(0, X) :: [(g1, X)], _, fun p hp => List.mem_cons_of_mem _ hp, 0, rfl, rfl⟩ (fun w' hI K hK => ?_) ?_
    · go_simp
      refine (H2.out _ w' hI).mono ?_
      rintro e w'' ⟨rfl, hr, hb⟩
      exact ⟨_, rfl, hK ((w'.heap.size + 1 + 1, X) :: [(g1, X)]) _ _ (fun p hp => List.mem_cons_of_mem _ hp) ⟨_, rfl, rfl⟩ (hI.more hb hr)⟩
    rintro s' v' hle ⟨g2, rfl, rfl⟩
    clear hle
    simp only [Act.put, List.setIfInBounds_toArray, List.set_cons_succ, List.set_cons_zero]
    refine wpH_held (.string (strN X)) rfl (fun t' w' hle hI K hK => ?_) ?_
    · exact calm_convert 36 9 _ rfl (row_string _ (hXl.out ()) (hI.rows (g2, X) (hle _ List.mem_cons_self))) (hK _ hI)
    simp only [Act.put, List.setIfInBounds_toArray, List.set_cons_succ, List.set_cons_zero]
    refine wpH_any rfl (fun t' w' hI K hK => ?_) ?_
    · go_simp
      exact hK _ hI
    simp only [Act.put, List.setIfInBounds_toArray, List.set_cons_succ, List.set_cons_zero]
    refine wpH_any rfl (fun t' w' hI K hK => ?_) ?_
    · go_simp
      exact hK _ hI
    simp only [Act.put, List.setIfInBounds_toArray, List.set_cons_succ, List.set_cons_zero]
    refine wpH_any rfl (fun t' w' hI K hK => ?_) ?_
    · go_simp
      exact hK _ hI
    simp only [Act.put, List.setIfInBounds_toArray, List.set_cons_succ, List.set_cons_zero]
    refine wpH_nil fun w' hI => ?_
    go_wp2
    go_ret
    exact ⟨rfl, hI.base.b⟩
  · have hx' := Lib.hid hx
    clear hx
    obtain ⟨X, hX⟩ : ∃ X, Hid (∀ _ : Unit, xorN key ctr nonce bs = X) := ⟨_, fun _ => rfl⟩
    have hXl : Hid (∀ _ : Unit, X.length = n) := fun _ => by rw [← hX.out (), xorN_length, hl]
    have H1 : Hid (∀ s W, XsI key nonce w s W → Calls Try.prog 18 #[.agg (av .u8 key), .int .u32 ctr, .agg (av .u8 nonce), .slice x n c] W fun e w' =>
        e = .returned (.slice (some ⟨W.heap.size + 1 + 1, 0, none⟩) n n) ∧ w'.heap[W.heap.size + 1 + 1]? = some (.cells (av .u8 X) 5) ∧ Below W.heap.size W w') := fun s W h => by
      have hs := h.src (n := n) (g := g) (o := o) (bs := bs) (fun h0 => hg (by omega)) hcell
      rw [← hX.out ()]
      exact xor_any key nonce bs ctr hk hn hkb hnb hct x n c g o hx'.out (by omega) hl hb (by omega) hc W hs.1 hs.2
    have H2 : Hid (∀ s W, XsI key nonce w s W → Calls Try.prog 19 #[.agg (av .u8 key), .int .u32 ctr, .agg (av .u8 nonce), .slice x n c] W fun e w' =>
        e = .returned (.slice (some ⟨W.heap.size + 1 + 1, 0, none⟩) n n) ∧ w'.heap[W.heap.size + 1 + 1]? = some (.cells (av .u8 X) 5) ∧ Below W.heap.size W w') := fun s W h => by
      have hs := h.src (n := n) (g := g) (o := o) (bs := bs) (fun h0 => hg (by omega)) hcell
      rw [← hX.out ()]
      exact refxor_any key nonce bs ctr hk hn hkb hnb x n c g o hx'.out hl hb (by omega) W hs.1 hs.2
    clear hX hk hn hkb hnb hct hl hb hg hcell
    go_enter Try.func5, Try.ntmps5
    go_wp2_with fail
    refine wp_region_calm_h (XsI key nonce w) (fun a b => ∀ p ∈ a, p ∈ b) (fun _ _ h => h) (fun _ _ _ h k p hp => k p (h p hp)) []
      [.any (.bool true), .any (.bool true), .any (.agg (av .u8 key)), .any (.int .u32 ctr), .any (.agg (av .u8 nonce)), .any (.slice x n c), .turn, .held,
       .any (.agg (av .u8 key)), .any (.int .u32 ctr), .any (.agg (av .u8 nonce)), .any (.slice x n c), .turn, .held, .any (.bool true), .any (.bool true), .any (.bool true)]
      (by kernel_rfl) (by kernel_rfl) (by kernel_rfl) hI0.out ?_
    refine wpH_any rfl (fun t' w' hI K hK => ?_) ?_
    · go_simp
      refine (awake4_any w').mono ?_
      rintro e w'' ⟨rfl, hb⟩
      exact ⟨_, rfl, hK _ (hI.old hb)⟩
    simp only [Act.put, List.setIfInBounds_toArray, List.set_cons_succ, List.set_cons_zero]
    refine wpH_any rfl (fun t' w' hI K hK => ?_) ?_
    · go_simp
      exact hK _ hI
    simp only [Act.put, List.setIfInBounds_toArray, List.set_cons_succ, List.set_cons_zero]
    refine wpH_any rfl (fun t' w' hI K hK => ?_) ?_
    · exact calm_load_row 29 _ rfl _ rfl 29 _ (0, 0) _ hI.base.x Try.underlying29 rfl s29.out (hK _ hI)
    simp only [Act.put, List.setIfInBounds_toArray, List.set_cons_succ, List.set_cons_zero]
    refine wpH_any rfl (fun t' w' hI K hK => ?_) ?_
    · go_simp
      exact hK _ hI
    simp only [Act.put, List.setIfInBounds_toArray, List.set_cons_succ, List.set_cons_zero]
    refine wpH_any rfl (fun t' w' hI K hK => ?_) ?_
    · exact calm_load_row 30 _ rfl _ rfl 30 _ (0, 0) _ hI.base.y Try.underlying30 rfl s30.out (hK _ hI)
    simp only [Act.put, List.setIfInBounds_toArray, List.set_cons_succ, List.set_cons_zero]
    refine wpH_any rfl (fun t' w' hI K hK => ?_) ?_
    · go_simp
      exact hK _ hI
    simp only [Act.put, List.setIfInBounds_toArray, List.set_cons_succ, List.set_cons_zero]
    refine wpH_turn (fun s' v' => ∃ g, s' = (g, X) :: [] ∧ v' = .slice (some ⟨g, 0, none⟩) n n) rfl ⟨(0, X) :: [], _, fun p hp => List.mem_cons_of_mem _ hp, 0, rfl, rfl⟩ (fun w' hI K hK => ?_) ?_
    · go_simp
      refine (H1.out _ w' hI).mono ?_
      rintro e w'' ⟨rfl, hr, hb⟩
      exact ⟨_, rfl, hK ((w'.heap.size + 1 + 1, X) :: []) _ _ (fun p hp => List.mem_cons_of_mem _ hp) ⟨_, rfl, rfl⟩ (hI.more hb hr)⟩
    rintro s' v' hle ⟨g1, rfl, rfl⟩
    clear hle
    simp only [Act.put, List.setIfInBounds_toArray, List.set_cons_succ, List.set_cons_zero]
    refine wpH_held (.string (strN X)) rfl (fun t' w' hle hI K hK => ?_) ?_
    · exact calm_convert 36 9 _ rfl (row_string _ (hXl.out ()) (hI.rows (g1, X) (hle _ List.mem_cons_self))) (hK _ hI)
    simp only [Act.put, List.setIfInBounds_toArray, List.set_cons_succ, List.set_cons_zero]
    refine wpH_any rfl (fun t' w' hI K hK => ?_) ?_
    · exact calm_load_row 29 _ rfl _ rfl 29 _ (0, 0) _ hI.base.x Try.underlying29 rfl s29.out (hK _ hI)
    simp only [Act.put, List.setIfInBounds_toArray, List.set_cons_succ, List.set_cons_zero]
    refine wpH_any rfl (fun t' w' hI K hK => ?_) ?_
    · go_simp
      exact hK _ hI
    simp only [Act.put, List.setIfInBounds_toArray, List.set_cons_succ, List.set_cons_zero]
    refine wpH_any rfl (fun t' w' hI K hK => ?_) ?_
    · exact calm_load_row 30 _ rfl _ rfl 30 _ (0, 0) _ hI.base.y Try.underlying30 rfl s30.out (hK _ hI)
    simp only [Act.put, List.setIfInBounds_toArray, List.set_cons_succ, List.set_cons_zero]
    refine wpH_any rfl (fun t' w' hI K hK => ?_) ?_
    · go_simp
      exact hK _ hI
    simp only [Act.put, List.setIfInBounds_toArray, List.set_cons_succ, List.set_cons_zero]
    refine wpH_turn (fun s' v' => ∃ g, s' = (g, X) :: [(g1, X)] ∧ v' = .slice (some ⟨g, 0, none⟩) n n) rfl ⟨(0, X) :: [(g1, X)], _, fun p hp => List.mem_cons_of_mem _ hp, 0, rfl, rfl⟩ (fun w' hI K hK => ?_) ?_
    · go_simp
      refine (H2.out _ w' hI).mono ?_
      rintro e w'' ⟨rfl, hr, hb⟩
      exact ⟨_, rfl, hK ((w'.heap.size + 1 + 1, X) :: [(g1, X)]) _ _ (fun p hp => List.mem_cons_of_mem _ hp) ⟨_, rfl, rfl⟩ (hI.more hb hr)⟩
    rintro s' v' hle ⟨g2, rfl, rfl⟩
    clear hle
    simp only [Act.put, List.setIfInBounds_toArray, List.set_cons_succ, List.set_cons_zero]
    refine wpH_held (.string (strN X)) rfl (fun t' w' hle hI K hK => ?_) ?_
    · exact calm_convert 36 9 _ rfl (row_string _ (hXl.out ()) (hI.rows (g2, X) (hle _ List.mem_cons_self))) (hK _ hI)
    simp only [Act.put, List.setIfInBounds_toArray, List.set_cons_succ, List.set_cons_zero]
    refine wpH_any rfl (fun t' w' hI K hK => ?_) ?_
    · go_simp
      exact hK _ hI
    simp only [Act.put, List.setIfInBounds_toArray, List.set_cons_succ, List.set_cons_zero]
    refine wpH_any rfl (fun t' w' hI K hK => ?_) ?_
    · go_simp
      exact hK _ hI
    simp only [Act.put, List.setIfInBounds_toArray, List.set_cons_succ, List.set_cons_zero]
    refine wpH_any rfl (fun t' w' hI K hK => ?_) ?_
    · go_simp
      exact hK _ hI
    simp only [Act.put, List.setIfInBounds_toArray, List.set_cons_succ, List.set_cons_zero]
    refine wpH_nil fun w' hI => ?_
    go_wp2
    go_ret
    exact ⟨rfl, hI.base.b⟩

set_option maxRecDepth 100000 in
theorem cipherXors_lifted (os : Os) (started : os.Started) (H : Type) (enc : TypeId × Value → H) :
    ReturnsInHanded {} Try.checked os 5 .any (Rows.cipherXorsSpec.pre6 enc Try.prog Try.f5 Rows.cipherXorsRow.domain false) (Rows.cipherXorsSpec.post enc Try.prog Try.f5 false true false false) := by
  refine returnsInHanded_of_change (C := Try.checked) ownKnob_none started (by kernel_rfl) Try.func5
    (ChangeSpec.witness6 (enc := enc) (C := Try.checked) false ⟨#[], #[.agg (av .u8 zeros32), .int .u32 0, .agg (av .u8 zeros12), .slice none 0 0], []⟩ 8 (by kernel_rfl) (by kernel_rfl) (by kernel_rfl) (by kernel_rfl)) ?_
  intro W base args ds gs before hval0 hW _ _
  have hval : ∀ (j : Nat) t v, Try.f5.params[j]? = some t → args[j]? = some v → Value.okWide Try.prog W .any base t v := hval0
  have hWhole := hW
  obtain ⟨p, q, hA0, hV, rfl, hfz, hnd⟩ := hW
  have hA : DataW.TrodAll enc Try.prog W 0 (fun _ => true) true Try.f5.params.toList args.toList ds p := hA0
  rw [Try.params5] at hA hval
  obtain ⟨v0, vs0, d0, ds0, p0, q0, hargs0, rfl, rfl, h0, r0⟩ := trodAll_cons hA
  obtain ⟨v1, vs1, d1, ds1, p1, q1, hargs1, rfl, rfl, h1, r1⟩ := trodAll_cons r0
  obtain ⟨v2, vs2, d2, ds2, p2, q2, hargs2, rfl, rfl, h2, r2⟩ := trodAll_cons r1
  obtain ⟨v3, vs3, d3, ds3, p3, q3, hargs3, rfl, rfl, h3, r3⟩ := trodAll_cons r2
  obtain ⟨rfl, rfl, rfl⟩ := trodAll_nil r3
  subst hargs1
  subst hargs2
  subst hargs3
  obtain rfl : args = #[v0, v1, v2, v3] := by cases args; simp_all
  obtain ⟨rfl, rfl⟩ := trodVars_none hV
  obtain ⟨x0, rfl, hl0, hb0⟩ := open_nats 256 Try.underlying29 Try.underlying5 (by kernel_rfl) (by kernel_rfl) wf_u8' (hval 0 29 v0 rfl rfl) h0
  obtain ⟨x1, rfl, hb1⟩ := open_nat 4294967296 Try.underlying22 wf_u32' (hval 1 22 v1 rfl rfl) h1
  obtain ⟨x2, rfl, hl2, hb2⟩ := open_nats 256 Try.underlying30 Try.underlying5 (by kernel_rfl) (by kernel_rfl) wf_u8' (hval 2 30 v2 rfl rfl) h2
  obtain ⟨xa3, na3, ca3, ga3, oa3, x3, rfl, hl3, hnc3, hcm3, hb3, hx3, hc3⟩ := open_u8s Try.underlying36 Try.underlying5 (by kernel_rfl) (hval 3 36 v3 rfl rfl) h3
  refine (xors_walk x0 x2 x3 x1 hl0 hl2 (fun i => getD_lt x0 256 (by decide) hb0 i) (fun i => getD_lt x2 256 (by decide) hb2 i) hb1 xa3 na3 ca3 ga3 oa3 (fun h => (hx3 h).1) hnc3 hl3 hb3 hcm3 W (fun h => (hx3 h).2) hc3).mono fun e W' ⟨he, hB⟩ => ?_
  subst he
  exact ⟨_, rfl, law_post laidOut (by rw [Try.params5]; decide +kernel) rfl (by kernel_rfl) Try.underlying4 hWhole rfl rfl rfl hB⟩

theorem cipherXors : Rows.CipherXorsSaid :=
  OpenClaim.holds_of_wide 5 Try.f5 rfl rfl rfl rfl rfl rfl rfl ⟨rfl, rfl, rfl, rfl, rfl⟩ rfl rfl rfl rfl rfl (by kernel_rfl) Try.func5 (by kernel_rfl)
    (of_decide_eq_true (by kernel_rfl)) (by unfold Func.isWrapper; first | (rw [if_pos (by decide +kernel)]; kernel_rfl) | (rw [if_neg (by decide +kernel)]; exact ⟨rfl, rfl⟩))
    (fun os started H enc _ => cipherXors_lifted os started H enc)
end Go.Proofs.Ythpjdgddpnpdpaa

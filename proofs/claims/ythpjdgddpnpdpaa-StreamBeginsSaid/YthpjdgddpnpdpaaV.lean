/- Walks over stream: Bytes, and the reference's Bytes. -/
import Derived.Test.YthpjdgddpnpdpaaU
import Derived.Test.YthpjdgddpnpdpaaP
namespace Go.Proofs.Ythpjdgddpnpdpaa
open Go.RowKit

def bytesN (s : List Nat) (tag n : Nat) : List Nat := xorN s 0 (nonceN tag) (List.replicate n 0)
theorem bytesN_length (s : List Nat) (tag n : Nat) : (bytesN s tag n).length = n := by rw [bytesN, xorN_length, List.length_replicate]
theorem bytesN_w8 (s : List Nat) (tag n : Nat) : W8 (bytesN s tag n) := xorN_w8 _ _ _ _ fun i => by
  rw [List.getD, List.getElem?_replicate]
  split <;> decide
/-- A slice of zeros made: a new row. -/
theorem calm_make {o : Oper} {a : Act} {w : World} {K : Value → World → Prop} (l c : Operand) (n : Nat) (ho : o.op = .makeSlice 36 l c) (hl : a.eval l = .int .i64 (n : Int)) (hc : a.eval c = .int .i64 (n : Int)) (hn : n ≤ 1099511627776)
    (h : ∀ w', Below w.heap.size w w' → w'.heap[w.heap.size]? = some (.cells (av .u8 (List.replicate n 0)) 5) → K (.slice (some ⟨w.heap.size, 0, none⟩) n n) w') : calm Try.prog o a w K := by
  obtain ⟨i0, hi, hz0, hz1, hz2⟩ := info_parts Try.info5
  obtain ⟨w', hrun, r1, r2⟩ := run_make_full (P := Try.prog) w w.heap.size 36 5 i0 (.int .u8 0) 1 Try.underlying36 hi hz0 hz1 .i64 .i64 n (by rw [hz2]; omega) (by unfold maxLen; omega) (Nat.le_refl _)
  unfold calm execOp
  simp only [ho, hl, hc, Sem.run_bind, hrun, Result.andThen_ok]
  exact h w' ((Below.refl _ _).grown r2 (Nat.le_refl _) (fun k h => by cases h)) (made_row r1)
structure ByI (t : TypeId) (key : List Nat) (w : World) (s : List (Nat × List Nat)) (W : World) : Prop where
  x : W.heap[w.heap.size]? = some (.cells (av .u8 key) t)
  b : Below w.heap.size w W
  rows : ∀ p ∈ s, W.heap[p.1]? = some (.cells (av .u8 p.2) 5)
theorem ByI.old {t : TypeId} {key : List Nat} {w W W' : World} {s : List (Nat × List Nat)} (h : ByI t key w s W) (hb : Below W.heap.size W W') : ByI t key w s W' :=
  ⟨old_row hb (Array.getElem?_eq_some_iff.1 h.x).1 h.x, h.b.trans (hb.mono h.b.size), fun p hp => old_row hb (Array.getElem?_eq_some_iff.1 (h.rows p hp)).1 (h.rows p hp)⟩
theorem ByI.more {t : TypeId} {key X : List Nat} {w W W' : World} {s : List (Nat × List Nat)} {g : Nat} (h : ByI t key w s W) (hb : Below W.heap.size W W') (hr : W'.heap[g]? = some (.cells (av .u8 X) 5)) : ByI t key w ((g, X) :: s) W' :=
  ⟨(h.old hb).x, (h.old hb).b, fun p hp => by
    rcases List.mem_cons.1 hp with rfl | hp
    · exact hr
    · exact (h.old hb).rows p hp⟩
theorem rep_w8 (n : Nat) : W8 (List.replicate n 0) := fun i => by
  rw [List.getD, List.getElem?_replicate]
  split <;> decide
/-- How many bytes. -/
def Clamp (n : Int) (hi N : Nat) : Prop := (n < 0 ∧ N = 0) ∨ (0 ≤ n ∧ n ≤ hi ∧ (N : Int) = n) ∨ ((hi : Int) < n ∧ N = hi)
set_option maxRecDepth 100000 in
set_option maxHeartbeats 4000000 in
theorem bytes_any (key : List Nat) (tag : Nat) (n : Int) (N : Nat) (hk : key.length = 32) (hkb : W8 key) (ht : tag < 4294967296) (hn : Clamp n 65536 N) (w : World) :
    Calls Try.prog 23 #[.agg (av .u8 key), .int .u32 tag, .int .i64 n] w fun e w' =>
      ∃ g, e = .returned (.slice (some ⟨g, 0, none⟩) N N) ∧ w'.heap[g]? = some (.cells (av .u8 (bytesN key tag N)) 5) ∧ Below w.heap.size w w' := by
  have sK : Hid ((Try.prog.info? 33).map (·.size) = some (av .u8 key).size) := by rw [Hid, av_size, hk]; kernel_rfl
  have hI0 : Hid (ByI 33 key w [] (w.alloc (.cells (av .u8 key) 33)).drew) := ⟨heap_new w _, ((Below.refl _ _).alloc (Nat.le_refl _) _).drew, fun p hp => by cases hp⟩
  have hN : N ≤ 65536 := by rcases hn with h | h | h <;> omega
  obtain ⟨X, hX⟩ : ∃ X, Hid (∀ _ : Unit, bytesN key tag N = X) := ⟨_, fun _ => rfl⟩
  rw [hX.out ()]
  have HN := Lib.hid (fun w => nonce_any tag ht w)
  have hnl : Hid (∀ _ : Unit, (nonceN tag).length = 12) := fun _ => nonceN_length _
  have H : Hid (∀ W g, W.heap[g]? = some (.cells (av .u8 (List.replicate N 0)) 5) → Calls Try.prog 18 #[.agg (av .u8 key), .int .u32 0, .agg (av .u8 (nonceN tag)), .slice (some ⟨g, 0, none⟩) N N] W fun e w' =>
      e = .returned (.slice (some ⟨W.heap.size + 1 + 1, 0, none⟩) N N) ∧ w'.heap[W.heap.size + 1 + 1]? = some (.cells (av .u8 X) 5) ∧ Below W.heap.size W w') := fun W g hr => by
    rw [← hX.out ()]
    exact xor_any key (nonceN tag) (List.replicate N 0) 0 hk (nonceN_length tag) hkb (nonceN_w8 tag) (by omega) (some ⟨g, 0, none⟩) N N g 0 (fun _ => rfl) (Nat.le_refl _) (by simp) (rep_w8 N) (by omega) (by omega) W (fun _ => (Array.getElem?_eq_some_iff.1 hr).1) (fun t ht => by rw [Nat.zero_add, cell_of_row _ _ _ _ _ _ hr, av_get _ _ _ (by simpa using ht)])
  clear hX
  obtain ⟨nn, hnn⟩ : ∃ nn, nonceN tag = nn := ⟨_, rfl⟩
  rw [hnn] at H HN
  clear hk hkb ht hnl hnn
  rcases hn with h | h | h
  · obtain ⟨h1, rfl⟩ := h
    go_enter Try.func23, Try.ntmps23
    go_wp2_with fail
    refine wp_region_calm_h (ByI 33 key w) (fun a b => ∀ p ∈ a, p ∈ b) (fun _ _ h => h) (fun _ _ _ h k p hp => k p (h p hp)) []
      [.any (.agg (av .u8 key)), .any (.int .u32 tag), .any (.agg (av .u8 nn)), .any (.int .i64 n), .any (.int .i64 0), .any (.int .i64 (0 : Nat)), .turn, .turn, .held]
      (by kernel_rfl) (by kernel_rfl) (by kernel_rfl) hI0.out ?_
    refine wpH_any rfl (fun t' w' hI K hK => ?_) ?_
    · exact calm_load_row 33 _ rfl _ rfl 33 _ (0, 0) _ hI.x Try.underlying33 rfl sK.out (hK _ hI)
    simp only [Act.put, List.setIfInBounds_toArray, List.set_cons_succ, List.set_cons_zero]
    refine wpH_any rfl (fun t' w' hI K hK => ?_) ?_
    · go_simp
      exact hK _ hI
    simp only [Act.put, List.setIfInBounds_toArray, List.set_cons_succ, List.set_cons_zero]
    refine wpH_any rfl (fun t' w' hI K hK => ?_) ?_
    · go_simp
      refine (HN.out w').mono ?_
      rintro e w'' ⟨rfl, hb⟩
      exact ⟨_, rfl, hK _ (hI.old hb)⟩
    simp only [Act.put, List.setIfInBounds_toArray, List.set_cons_succ, List.set_cons_zero]
    refine wpH_any rfl (fun t' w' hI K hK => ?_) ?_
    · go_simp
      exact hK _ hI
    simp only [Act.put, List.setIfInBounds_toArray, List.set_cons_succ, List.set_cons_zero]
    refine wpH_any rfl (fun t' w' hI K hK => ?_) ?_
    · go_simp
      first | exact hK _ hI | (rw [if_neg (by omega)]; exact hK _ hI) | (rw [if_pos (by omega)]; exact hK _ hI)
    simp only [Act.put, List.setIfInBounds_toArray, List.set_cons_succ, List.set_cons_zero]
    refine wpH_any rfl (fun t' w' hI K hK => ?_) ?_
    · go_simp
      first | exact hK _ hI | (rw [if_neg (by omega)]; exact hK _ hI) | (rw [if_pos (by omega)]; exact hK _ hI)
    simp only [Act.put, List.setIfInBounds_toArray, List.set_cons_succ, List.set_cons_zero]
    refine wpH_turn (fun s' v' => ∃ g, s' = (g, List.replicate 0 0) :: [] ∧ v' = .slice (some ⟨g, 0, none⟩) 0 0) rfl ⟨(0, List.replicate 0 0) :: [], _, fun p hp => List.mem_cons_of_mem _ hp, 0, rfl, rfl⟩ (fun w' hI K hK => ?_) ?_
    · exact calm_make _ _ 0 rfl rfl rfl (by omega) fun w'' hb hr => hK ((w'.heap.size, List.replicate 0 0) :: []) _ _ (fun p hp => List.mem_cons_of_mem _ hp) ⟨_, rfl, rfl⟩ (hI.more hb hr)
    rintro s' v' hle ⟨g1, rfl, rfl⟩
    clear hle
    simp only [Act.put, List.setIfInBounds_toArray, List.set_cons_succ, List.set_cons_zero]
    refine wpH_turn (fun s' v' => ∃ g, s' = (g, X) :: (g1, List.replicate 0 0) :: [] ∧ v' = .slice (some ⟨g, 0, none⟩) 0 0) rfl ⟨(0, X) :: (g1, List.replicate 0 0) :: [], _, fun p hp => List.mem_cons_of_mem _ hp, 0, rfl, rfl⟩ (fun w' hI K hK => ?_) ?_
    · go_simp
      refine (H.out w' g1 (hI.rows (g1, List.replicate 0 0) List.mem_cons_self)).mono ?_
      rintro e w'' ⟨rfl, hr, hb⟩
      exact ⟨_, rfl, hK ((w'.heap.size + 1 + 1, X) :: (g1, List.replicate 0 0) :: []) _ _ (fun p hp => List.mem_cons_of_mem _ hp) ⟨_, rfl, rfl⟩ (hI.more hb hr)⟩
    rintro s' v' hle ⟨g2, rfl, rfl⟩
    clear hle
    simp only [Act.put, List.setIfInBounds_toArray, List.set_cons_succ, List.set_cons_zero]
    refine wpH_held (.slice (some ⟨g2, 0, none⟩) 0 0) rfl (fun t' w' hle hI K hK => ?_) ?_
    · go_simp
      exact hK _ hI
    simp only [Act.put, List.setIfInBounds_toArray, List.set_cons_succ, List.set_cons_zero]
    refine wpH_nil fun w' hI => ?_
    go_wp2
    go_ret
    exact ⟨g2, rfl, hI.rows (g2, X) List.mem_cons_self, hI.b⟩
  · obtain ⟨h1, h2, rfl⟩ := h
    have hmax : ¬ (N : Int) < 0 := by omega
    have hmin : (N : Int) ≤ 65536 := by omega
    go_enter Try.func23, Try.ntmps23
    go_wp2_with fail
    refine wp_region_calm_h (ByI 33 key w) (fun a b => ∀ p ∈ a, p ∈ b) (fun _ _ h => h) (fun _ _ _ h k p hp => k p (h p hp)) []
      [.any (.agg (av .u8 key)), .any (.int .u32 tag), .any (.agg (av .u8 nn)), .any (.int .i64 (N : Int)), .any (.int .i64 (N : Int)), .any (.int .i64 (N : Nat)), .turn, .turn, .held]
      (by kernel_rfl) (by kernel_rfl) (by kernel_rfl) hI0.out ?_
    refine wpH_any rfl (fun t' w' hI K hK => ?_) ?_
    · exact calm_load_row 33 _ rfl _ rfl 33 _ (0, 0) _ hI.x Try.underlying33 rfl sK.out (hK _ hI)
    simp only [Act.put, List.setIfInBounds_toArray, List.set_cons_succ, List.set_cons_zero]
    refine wpH_any rfl (fun t' w' hI K hK => ?_) ?_
    · go_simp
      exact hK _ hI
    simp only [Act.put, List.setIfInBounds_toArray, List.set_cons_succ, List.set_cons_zero]
    refine wpH_any rfl (fun t' w' hI K hK => ?_) ?_
    · go_simp
      refine (HN.out w').mono ?_
      rintro e w'' ⟨rfl, hb⟩
      exact ⟨_, rfl, hK _ (hI.old hb)⟩
    simp only [Act.put, List.setIfInBounds_toArray, List.set_cons_succ, List.set_cons_zero]
    refine wpH_any rfl (fun t' w' hI K hK => ?_) ?_
    · go_simp
      exact hK _ hI
    simp only [Act.put, List.setIfInBounds_toArray, List.set_cons_succ, List.set_cons_zero]
    refine wpH_any rfl (fun t' w' hI K hK => ?_) ?_
    · go_simp
      first | exact hK _ hI | (rw [if_neg (by omega)]; exact hK _ hI) | (rw [if_pos (by omega)]; exact hK _ hI)
    simp only [Act.put, List.setIfInBounds_toArray, List.set_cons_succ, List.set_cons_zero]
    refine wpH_any rfl (fun t' w' hI K hK => ?_) ?_
    · go_simp
      first | exact hK _ hI | (rw [if_neg (by omega)]; exact hK _ hI) | (rw [if_pos (by omega)]; exact hK _ hI)
    simp only [Act.put, List.setIfInBounds_toArray, List.set_cons_succ, List.set_cons_zero]
    refine wpH_turn (fun s' v' => ∃ g, s' = (g, List.replicate N 0) :: [] ∧ v' = .slice (some ⟨g, 0, none⟩) N N) rfl ⟨(0, List.replicate N 0) :: [], _, fun p hp => List.mem_cons_of_mem _ hp, 0, rfl, rfl⟩ (fun w' hI K hK => ?_) ?_
    · exact calm_make _ _ N rfl rfl rfl (by omega) fun w'' hb hr => hK ((w'.heap.size, List.replicate N 0) :: []) _ _ (fun p hp => List.mem_cons_of_mem _ hp) ⟨_, rfl, rfl⟩ (hI.more hb hr)
    rintro s' v' hle ⟨g1, rfl, rfl⟩
    clear hle
    simp only [Act.put, List.setIfInBounds_toArray, List.set_cons_succ, List.set_cons_zero]
    refine wpH_turn (fun s' v' => ∃ g, s' = (g, X) :: (g1, List.replicate N 0) :: [] ∧ v' = .slice (some ⟨g, 0, none⟩) N N) rfl ⟨(0, X) :: (g1, List.replicate N 0) :: [], _, fun p hp => List.mem_cons_of_mem _ hp, 0, rfl, rfl⟩ (fun w' hI K hK => ?_) ?_
    · go_simp
      refine (H.out w' g1 (hI.rows (g1, List.replicate N 0) List.mem_cons_self)).mono ?_
      rintro e w'' ⟨rfl, hr, hb⟩
      exact ⟨_, rfl, hK ((w'.heap.size + 1 + 1, X) :: (g1, List.replicate N 0) :: []) _ _ (fun p hp => List.mem_cons_of_mem _ hp) ⟨_, rfl, rfl⟩ (hI.more hb hr)⟩
    rintro s' v' hle ⟨g2, rfl, rfl⟩
    clear hle
    simp only [Act.put, List.setIfInBounds_toArray, List.set_cons_succ, List.set_cons_zero]
    refine wpH_held (.slice (some ⟨g2, 0, none⟩) N N) rfl (fun t' w' hle hI K hK => ?_) ?_
    · go_simp
      exact hK _ hI
    simp only [Act.put, List.setIfInBounds_toArray, List.set_cons_succ, List.set_cons_zero]
    refine wpH_nil fun w' hI => ?_
    go_wp2
    go_ret
    exact ⟨g2, rfl, hI.rows (g2, X) List.mem_cons_self, hI.b⟩
  · obtain ⟨h1, rfl⟩ := h
    have hmin : ¬ n ≤ 65536 := by omega
    have hmax : ¬ n < 0 := by omega
    have hmax2 : (0 : Int) ≤ n := by omega
    have h1' : (65536 : Int) < n := by omega
    go_enter Try.func23, Try.ntmps23
    go_wp2_with fail
    refine wp_region_calm_h (ByI 33 key w) (fun a b => ∀ p ∈ a, p ∈ b) (fun _ _ h => h) (fun _ _ _ h k p hp => k p (h p hp)) []
      [.any (.agg (av .u8 key)), .any (.int .u32 tag), .any (.agg (av .u8 nn)), .any (.int .i64 n), .any (.int .i64 n), .any (.int .i64 (65536 : Nat)), .turn, .turn, .held]
      (by kernel_rfl) (by kernel_rfl) (by kernel_rfl) hI0.out ?_
    refine wpH_any rfl (fun t' w' hI K hK => ?_) ?_
    · exact calm_load_row 33 _ rfl _ rfl 33 _ (0, 0) _ hI.x Try.underlying33 rfl sK.out (hK _ hI)
    simp only [Act.put, List.setIfInBounds_toArray, List.set_cons_succ, List.set_cons_zero]
    refine wpH_any rfl (fun t' w' hI K hK => ?_) ?_
    · go_simp
      exact hK _ hI
    simp only [Act.put, List.setIfInBounds_toArray, List.set_cons_succ, List.set_cons_zero]
    refine wpH_any rfl (fun t' w' hI K hK => ?_) ?_
    · go_simp
      refine (HN.out w').mono ?_
      rintro e w'' ⟨rfl, hb⟩
      exact ⟨_, rfl, hK _ (hI.old hb)⟩
    simp only [Act.put, List.setIfInBounds_toArray, List.set_cons_succ, List.set_cons_zero]
    refine wpH_any rfl (fun t' w' hI K hK => ?_) ?_
    · go_simp
      exact hK _ hI
    simp only [Act.put, List.setIfInBounds_toArray, List.set_cons_succ, List.set_cons_zero]
    refine wpH_any rfl (fun t' w' hI K hK => ?_) ?_
    · go_simp
      first | exact hK _ hI | (rw [if_neg (by omega)]; exact hK _ hI) | (rw [if_pos (by omega)]; exact hK _ hI)
    simp only [Act.put, List.setIfInBounds_toArray, List.set_cons_succ, List.set_cons_zero]
    refine wpH_any rfl (fun t' w' hI K hK => ?_) ?_
    · go_simp
      first | exact hK _ hI | (rw [if_neg (by omega)]; exact hK _ hI) | (rw [if_pos (by omega)]; exact hK _ hI)
    simp only [Act.put, List.setIfInBounds_toArray, List.set_cons_succ, List.set_cons_zero]
    refine wpH_turn (fun s' v' => ∃ g, s' = (g, List.replicate 65536 0) :: [] ∧ v' = .slice (some ⟨g, 0, none⟩) 65536 65536) rfl ⟨(0, List.replicate 65536 0) :: [], _, fun p hp => List.mem_cons_of_mem _ hp, 0, rfl, rfl⟩ (fun w' hI K hK => ?_) ?_
    · exact calm_make _ _ 65536 rfl rfl rfl (by omega) fun w'' hb hr => hK ((w'.heap.size, List.replicate 65536 0) :: []) _ _ (fun p hp => List.mem_cons_of_mem _ hp) ⟨_, rfl, rfl⟩ (hI.more hb hr)
    rintro s' v' hle ⟨g1, rfl, rfl⟩
    clear hle
    simp only [Act.put, List.setIfInBounds_toArray, List.set_cons_succ, List.set_cons_zero]
    refine wpH_turn (fun s' v' => ∃ g, s' = (g, X) :: (g1, List.replicate 65536 0) :: [] ∧ v' = .slice (some ⟨g, 0, none⟩) 65536 65536) rfl ⟨(0, X) :: (g1, List.replicate 65536 0) :: [], _, fun p hp => List.mem_cons_of_mem _ hp, 0, rfl, rfl⟩ (fun w' hI K hK => ?_) ?_
    · go_simp
      refine (H.out w' g1 (hI.rows (g1, List.replicate 65536 0) List.mem_cons_self)).mono ?_
      rintro e w'' ⟨rfl, hr, hb⟩
      exact ⟨_, rfl, hK ((w'.heap.size + 1 + 1, X) :: (g1, List.replicate 65536 0) :: []) _ _ (fun p hp => List.mem_cons_of_mem _ hp) ⟨_, rfl, rfl⟩ (hI.more hb hr)⟩
    rintro s' v' hle ⟨g2, rfl, rfl⟩
    clear hle
    simp only [Act.put, List.setIfInBounds_toArray, List.set_cons_succ, List.set_cons_zero]
    refine wpH_held (.slice (some ⟨g2, 0, none⟩) 65536 65536) rfl (fun t' w' hle hI K hK => ?_) ?_
    · go_simp
      exact hK _ hI
    simp only [Act.put, List.setIfInBounds_toArray, List.set_cons_succ, List.set_cons_zero]
    refine wpH_nil fun w' hI => ?_
    go_wp2
    go_ret
    exact ⟨g2, rfl, hI.rows (g2, X) List.mem_cons_self, hI.b⟩
set_option maxRecDepth 100000 in
set_option maxHeartbeats 4000000 in
theorem refbytes_any (key : List Nat) (tag : Nat) (n : Int) (N : Nat) (hk : key.length = 32) (hkb : W8 key) (hn : Clamp n 65536 N) (w : World) :
    Calls Try.prog 24 #[.agg (av .u8 key), .int .u32 tag, .int .i64 n] w fun e w' =>
      ∃ g, e = .returned (.slice (some ⟨g, 0, none⟩) N N) ∧ w'.heap[g]? = some (.cells (av .u8 (bytesN key tag N)) 5) ∧ Below w.heap.size w w' := by
  have sK : Hid ((Try.prog.info? 29).map (·.size) = some (av .u8 key).size) := by rw [Hid, av_size, hk]; kernel_rfl
  have hI0 : Hid (ByI 29 key w [] (w.alloc (.cells (av .u8 key) 29)).drew) := ⟨heap_new w _, ((Below.refl _ _).alloc (Nat.le_refl _) _).drew, fun p hp => by cases hp⟩
  have hN : N ≤ 65536 := by rcases hn with h | h | h <;> omega
  obtain ⟨X, hX⟩ : ∃ X, Hid (∀ _ : Unit, bytesN key tag N = X) := ⟨_, fun _ => rfl⟩
  rw [hX.out ()]
  have HN := Lib.hid (fun w => refnonce_any tag w)
  have hnl : Hid (∀ _ : Unit, (nonceN tag).length = 12) := fun _ => nonceN_length _
  have H : Hid (∀ W g, W.heap[g]? = some (.cells (av .u8 (List.replicate N 0)) 5) → Calls Try.prog 19 #[.agg (av .u8 key), .int .u32 0, .agg (av .u8 (nonceN tag)), .slice (some ⟨g, 0, none⟩) N N] W fun e w' =>
      e = .returned (.slice (some ⟨W.heap.size + 1 + 1, 0, none⟩) N N) ∧ w'.heap[W.heap.size + 1 + 1]? = some (.cells (av .u8 X) 5) ∧ Below W.heap.size W w') := fun W g hr => by
    rw [← hX.out ()]
    exact refxor_any key (nonceN tag) (List.replicate N 0) 0 hk (nonceN_length tag) hkb (nonceN_w8 tag) (some ⟨g, 0, none⟩) N N g 0 (fun _ => rfl) (by simp) (rep_w8 N) (by omega) W (fun _ => (Array.getElem?_eq_some_iff.1 hr).1) (fun t ht => by rw [Nat.zero_add, cell_of_row _ _ _ _ _ _ hr, av_get _ _ _ (by simpa using ht)])
  clear hX
  obtain ⟨nn, hnn⟩ : ∃ nn, nonceN tag = nn := ⟨_, rfl⟩
  rw [hnn] at H HN
  clear hk hkb hnl hnn
  rcases hn with h | h | h
  · obtain ⟨h1, rfl⟩ := h
    go_enter Try.func24, Try.ntmps24
    go_wp2_with fail
    refine wp_region_calm_h (ByI 29 key w) (fun a b => ∀ p ∈ a, p ∈ b) (fun _ _ h => h) (fun _ _ _ h k p hp => k p (h p hp)) []
      [.any (.agg (av .u8 key)), .any (.int .u32 tag), .any (.agg (av .u8 nn)), .any (.int .i64 (0 : Nat)), .turn, .turn, .held]
      (by kernel_rfl) (by kernel_rfl) (by kernel_rfl) hI0.out ?_
    refine wpH_any rfl (fun t' w' hI K hK => ?_) ?_
    · exact calm_load_row 29 _ rfl _ rfl 29 _ (0, 0) _ hI.x Try.underlying29 rfl sK.out (hK _ hI)
    simp only [Act.put, List.setIfInBounds_toArray, List.set_cons_succ, List.set_cons_zero]
    refine wpH_any rfl (fun t' w' hI K hK => ?_) ?_
    · go_simp
      exact hK _ hI
    simp only [Act.put, List.setIfInBounds_toArray, List.set_cons_succ, List.set_cons_zero]
    refine wpH_any rfl (fun t' w' hI K hK => ?_) ?_
    · go_simp
      refine (HN.out w').mono ?_
      rintro e w'' ⟨rfl, hb⟩
      exact ⟨_, rfl, hK _ (hI.old hb)⟩
    simp only [Act.put, List.setIfInBounds_toArray, List.set_cons_succ, List.set_cons_zero]
    refine wpH_any rfl (fun t' w' hI K hK => ?_) ?_
    · go_simp
      exact hK _ hI
    simp only [Act.put, List.setIfInBounds_toArray, List.set_cons_succ, List.set_cons_zero]
    refine wpH_turn (fun s' v' => ∃ g, s' = (g, List.replicate 0 0) :: [] ∧ v' = .slice (some ⟨g, 0, none⟩) 0 0) rfl ⟨(0, List.replicate 0 0) :: [], _, fun p hp => List.mem_cons_of_mem _ hp, 0, rfl, rfl⟩ (fun w' hI K hK => ?_) ?_
    · exact calm_make _ _ 0 rfl rfl rfl (by omega) fun w'' hb hr => hK ((w'.heap.size, List.replicate 0 0) :: []) _ _ (fun p hp => List.mem_cons_of_mem _ hp) ⟨_, rfl, rfl⟩ (hI.more hb hr)
    rintro s' v' hle ⟨g1, rfl, rfl⟩
    clear hle
    simp only [Act.put, List.setIfInBounds_toArray, List.set_cons_succ, List.set_cons_zero]
    refine wpH_turn (fun s' v' => ∃ g, s' = (g, X) :: (g1, List.replicate 0 0) :: [] ∧ v' = .slice (some ⟨g, 0, none⟩) 0 0) rfl ⟨(0, X) :: (g1, List.replicate 0 0) :: [], _, fun p hp => List.mem_cons_of_mem _ hp, 0, rfl, rfl⟩ (fun w' hI K hK => ?_) ?_
    · go_simp
      refine (H.out w' g1 (hI.rows (g1, List.replicate 0 0) List.mem_cons_self)).mono ?_
      rintro e w'' ⟨rfl, hr, hb⟩
      exact ⟨_, rfl, hK ((w'.heap.size + 1 + 1, X) :: (g1, List.replicate 0 0) :: []) _ _ (fun p hp => List.mem_cons_of_mem _ hp) ⟨_, rfl, rfl⟩ (hI.more hb hr)⟩
    rintro s' v' hle ⟨g2, rfl, rfl⟩
    clear hle
    simp only [Act.put, List.setIfInBounds_toArray, List.set_cons_succ, List.set_cons_zero]
    refine wpH_held (.slice (some ⟨g2, 0, none⟩) 0 0) rfl (fun t' w' hle hI K hK => ?_) ?_
    · go_simp
      exact hK _ hI
    simp only [Act.put, List.setIfInBounds_toArray, List.set_cons_succ, List.set_cons_zero]
    refine wpH_nil fun w' hI => ?_
    go_wp2
    go_ret
    exact ⟨g2, rfl, hI.rows (g2, X) List.mem_cons_self, hI.b⟩
  · obtain ⟨h1, h2, rfl⟩ := h
    have hmax : ¬ (N : Int) < 0 := by omega
    have hmin : (N : Int) ≤ 65536 := by omega
    go_enter Try.func24, Try.ntmps24
    go_wp2_with fail
    refine wp_region_calm_h (ByI 29 key w) (fun a b => ∀ p ∈ a, p ∈ b) (fun _ _ h => h) (fun _ _ _ h k p hp => k p (h p hp)) []
      [.any (.agg (av .u8 key)), .any (.int .u32 tag), .any (.agg (av .u8 nn)), .any (.int .i64 (N : Nat)), .turn, .turn, .held]
      (by kernel_rfl) (by kernel_rfl) (by kernel_rfl) hI0.out ?_
    refine wpH_any rfl (fun t' w' hI K hK => ?_) ?_
    · exact calm_load_row 29 _ rfl _ rfl 29 _ (0, 0) _ hI.x Try.underlying29 rfl sK.out (hK _ hI)
    simp only [Act.put, List.setIfInBounds_toArray, List.set_cons_succ, List.set_cons_zero]
    refine wpH_any rfl (fun t' w' hI K hK => ?_) ?_
    · go_simp
      exact hK _ hI
    simp only [Act.put, List.setIfInBounds_toArray, List.set_cons_succ, List.set_cons_zero]
    refine wpH_any rfl (fun t' w' hI K hK => ?_) ?_
    · go_simp
      refine (HN.out w').mono ?_
      rintro e w'' ⟨rfl, hb⟩
      exact ⟨_, rfl, hK _ (hI.old hb)⟩
    simp only [Act.put, List.setIfInBounds_toArray, List.set_cons_succ, List.set_cons_zero]
    refine wpH_any rfl (fun t' w' hI K hK => ?_) ?_
    · go_simp
      exact hK _ hI
    simp only [Act.put, List.setIfInBounds_toArray, List.set_cons_succ, List.set_cons_zero]
    refine wpH_turn (fun s' v' => ∃ g, s' = (g, List.replicate N 0) :: [] ∧ v' = .slice (some ⟨g, 0, none⟩) N N) rfl ⟨(0, List.replicate N 0) :: [], _, fun p hp => List.mem_cons_of_mem _ hp, 0, rfl, rfl⟩ (fun w' hI K hK => ?_) ?_
    · exact calm_make _ _ N rfl rfl rfl (by omega) fun w'' hb hr => hK ((w'.heap.size, List.replicate N 0) :: []) _ _ (fun p hp => List.mem_cons_of_mem _ hp) ⟨_, rfl, rfl⟩ (hI.more hb hr)
    rintro s' v' hle ⟨g1, rfl, rfl⟩
    clear hle
    simp only [Act.put, List.setIfInBounds_toArray, List.set_cons_succ, List.set_cons_zero]
    refine wpH_turn (fun s' v' => ∃ g, s' = (g, X) :: (g1, List.replicate N 0) :: [] ∧ v' = .slice (some ⟨g, 0, none⟩) N N) rfl ⟨(0, X) :: (g1, List.replicate N 0) :: [], _, fun p hp => List.mem_cons_of_mem _ hp, 0, rfl, rfl⟩ (fun w' hI K hK => ?_) ?_
    · go_simp
      refine (H.out w' g1 (hI.rows (g1, List.replicate N 0) List.mem_cons_self)).mono ?_
      rintro e w'' ⟨rfl, hr, hb⟩
      exact ⟨_, rfl, hK ((w'.heap.size + 1 + 1, X) :: (g1, List.replicate N 0) :: []) _ _ (fun p hp => List.mem_cons_of_mem _ hp) ⟨_, rfl, rfl⟩ (hI.more hb hr)⟩
    rintro s' v' hle ⟨g2, rfl, rfl⟩
    clear hle
    simp only [Act.put, List.setIfInBounds_toArray, List.set_cons_succ, List.set_cons_zero]
    refine wpH_held (.slice (some ⟨g2, 0, none⟩) N N) rfl (fun t' w' hle hI K hK => ?_) ?_
    · go_simp
      exact hK _ hI
    simp only [Act.put, List.setIfInBounds_toArray, List.set_cons_succ, List.set_cons_zero]
    refine wpH_nil fun w' hI => ?_
    go_wp2
    go_ret
    exact ⟨g2, rfl, hI.rows (g2, X) List.mem_cons_self, hI.b⟩
  · obtain ⟨h1, rfl⟩ := h
    have hmin : ¬ n ≤ 65536 := by omega
    have hmax : ¬ n < 0 := by omega
    have hmax2 : (0 : Int) ≤ n := by omega
    have h1' : (65536 : Int) < n := by omega
    go_enter Try.func24, Try.ntmps24
    go_wp2_with fail
    refine wp_region_calm_h (ByI 29 key w) (fun a b => ∀ p ∈ a, p ∈ b) (fun _ _ h => h) (fun _ _ _ h k p hp => k p (h p hp)) []
      [.any (.agg (av .u8 key)), .any (.int .u32 tag), .any (.agg (av .u8 nn)), .any (.int .i64 (65536 : Nat)), .turn, .turn, .held]
      (by kernel_rfl) (by kernel_rfl) (by kernel_rfl) hI0.out ?_
    refine wpH_any rfl (fun t' w' hI K hK => ?_) ?_
    · exact calm_load_row 29 _ rfl _ rfl 29 _ (0, 0) _ hI.x Try.underlying29 rfl sK.out (hK _ hI)
    simp only [Act.put, List.setIfInBounds_toArray, List.set_cons_succ, List.set_cons_zero]
    refine wpH_any rfl (fun t' w' hI K hK => ?_) ?_
    · go_simp
      exact hK _ hI
    simp only [Act.put, List.setIfInBounds_toArray, List.set_cons_succ, List.set_cons_zero]
    refine wpH_any rfl (fun t' w' hI K hK => ?_) ?_
    · go_simp
      refine (HN.out w').mono ?_
      rintro e w'' ⟨rfl, hb⟩
      exact ⟨_, rfl, hK _ (hI.old hb)⟩
    simp only [Act.put, List.setIfInBounds_toArray, List.set_cons_succ, List.set_cons_zero]
    refine wpH_any rfl (fun t' w' hI K hK => ?_) ?_
    · go_simp
      exact hK _ hI
    simp only [Act.put, List.setIfInBounds_toArray, List.set_cons_succ, List.set_cons_zero]
    refine wpH_turn (fun s' v' => ∃ g, s' = (g, List.replicate 65536 0) :: [] ∧ v' = .slice (some ⟨g, 0, none⟩) 65536 65536) rfl ⟨(0, List.replicate 65536 0) :: [], _, fun p hp => List.mem_cons_of_mem _ hp, 0, rfl, rfl⟩ (fun w' hI K hK => ?_) ?_
    · exact calm_make _ _ 65536 rfl rfl rfl (by omega) fun w'' hb hr => hK ((w'.heap.size, List.replicate 65536 0) :: []) _ _ (fun p hp => List.mem_cons_of_mem _ hp) ⟨_, rfl, rfl⟩ (hI.more hb hr)
    rintro s' v' hle ⟨g1, rfl, rfl⟩
    clear hle
    simp only [Act.put, List.setIfInBounds_toArray, List.set_cons_succ, List.set_cons_zero]
    refine wpH_turn (fun s' v' => ∃ g, s' = (g, X) :: (g1, List.replicate 65536 0) :: [] ∧ v' = .slice (some ⟨g, 0, none⟩) 65536 65536) rfl ⟨(0, X) :: (g1, List.replicate 65536 0) :: [], _, fun p hp => List.mem_cons_of_mem _ hp, 0, rfl, rfl⟩ (fun w' hI K hK => ?_) ?_
    · go_simp
      refine (H.out w' g1 (hI.rows (g1, List.replicate 65536 0) List.mem_cons_self)).mono ?_
      rintro e w'' ⟨rfl, hr, hb⟩
      exact ⟨_, rfl, hK ((w'.heap.size + 1 + 1, X) :: (g1, List.replicate 65536 0) :: []) _ _ (fun p hp => List.mem_cons_of_mem _ hp) ⟨_, rfl, rfl⟩ (hI.more hb hr)⟩
    rintro s' v' hle ⟨g2, rfl, rfl⟩
    clear hle
    simp only [Act.put, List.setIfInBounds_toArray, List.set_cons_succ, List.set_cons_zero]
    refine wpH_held (.slice (some ⟨g2, 0, none⟩) 65536 65536) rfl (fun t' w' hle hI K hK => ?_) ?_
    · go_simp
      exact hK _ hI
    simp only [Act.put, List.setIfInBounds_toArray, List.set_cons_succ, List.set_cons_zero]
    refine wpH_nil fun w' hI => ?_
    go_wp2
    go_ret
    exact ⟨g2, rfl, hI.rows (g2, X) List.mem_cons_self, hI.b⟩
end Go.Proofs.Ythpjdgddpnpdpaa

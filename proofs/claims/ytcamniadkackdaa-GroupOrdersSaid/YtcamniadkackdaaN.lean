/- The walk of group's Order. -/
import Derived.Test.YtcamniadkackdaaM
import Derived.Lib.Hide
namespace Go.Proofs.Ytcamniadkackdaa
open Go.RowKit Go.Shelf
attribute [local go_sem] Oper.semAt_some

def stepO (a out f : Nat) : Nat := if powP a (out / f) = 1 then out / f else out
def orderTo (a : Nat) (pre : List Fac) : Nat := pre.foldl (fun o x => stepO a o x.1.2) 2305843009213693950
theorem orderTo_snoc (a : Nat) (pre : List Fac) (x : Fac) : orderTo a (pre ++ [x]) = stepO a (orderTo a pre) x.1.2 := by simp [orderTo]
theorem stepO_le (a out f : Nat) : stepO a out f ≤ out := by unfold stepO; split; exact Nat.div_le_self _ _; exact Nat.le_refl _
theorem foldl_le (a : Nat) : ∀ (pre : List Fac) (o : Nat), pre.foldl (fun o x => stepO a o x.1.2) o ≤ o
  | [], o => Nat.le_refl o
  | _ :: pre, o => Nat.le_trans (foldl_le a pre _) (stepO_le a o _)
theorem orderTo_le (a : Nat) (pre : List Fac) : orderTo a pre ≤ 2305843009213693950 := foldl_le a pre _
def orderN (a : Nat) : Nat := orderTo a (upto 14)

theorem back_stops (F : Fence) (n : Nat) (h41 : F.fn 41) (hro : F.round = none) (hn : 1 ≤ n) (Bs g b : Nat) (w : World) (hB1 : Bs < w.heap.size) (hB2 : Bs ≠ g) (hb1 : b < w.heap.size) (hb2 : b ≠ g)
    (hBs : w.heap[Bs]? = some (.cells #[.slice (some ⟨b, 0, none⟩) 14 14] 35)) (hc : w.heap[b]? = some (.cells (av .u64 facs) 22)) :
    SeqStopsK F n Try.prog 41 #[.pointer (some ⟨Bs, 0, none⟩)] (fun x : Fac => #[Value.int .i64 (x.1.1 : Int), Value.int .u64 (x.1.2 : Int)]) (KpG w.heap.size g) (fun ys => ys = upto 14) (fun _ => True) 14 w := fun l J Jx W hW _ _ hY h0 =>
  back1_in F n h41 hro hn l Bs w.heap.size g b hB1 hB2 hb1 hb2 J Jx hY W (old_row hW hB1 hBs) (old_row hW hb1 hc) h0

/-- What lies between two rounds. -/
structure OrdI (a : Nat) (w : World) (pre : List Fac) (W : World) : Prop where
  x : W.heap[w.heap.size]? = some (.cells #[.int .u64 (a : Int)] 22)
  y : W.heap[w.heap.size + 1]? = some (.cells #[.int .u64 (orderTo a pre : Nat)] 22)
  b : Below w.heap.size w W

theorem lt_of_row {W : World} {i : Nat} {o : Obj} (h : W.heap[i]? = some o) : i < W.heap.size := (Array.getElem?_eq_some_iff.1 h).1
theorem ordI_own (a : Nat) (w : World) (B : Nat) (hB : w.heap.size + 2 ≤ B) : OwnFrom B (OrdI a w) := fun s W W' row hs hg hr =>
  have hk : ∀ k, k < w.heap.size + 2 → some k ≠ row := fun k hk e => by have := (hr k e.symm).1; omega
  ⟨(hg.block _ (lt_of_row hs.x) (hk _ (by omega))).trans hs.x, (hg.block _ (lt_of_row hs.y) (hk _ (by omega))).trans hs.y, hs.b.grown hg hs.b.size (fun k e => by have := (hr k e).1; omega)⟩
/-- What the round's own region keeps. -/
structure RndI (a : Nat) (w : World) (pre : List Fac) (W W' : World) : Prop where
  i : OrdI a w pre W'
  e : W'.heap = W.heap

theorem keepsFrom_store (B : Nat) (W : World) (g i : Nat) (v : Value) : KeepsFrom B W (W.setCell ⟨g, i, none⟩ v) := (KeepsOthers.setCell _ _ _).from _
theorem kpG_store (n₁ g i : Nat) (W : World) (v : Value) : KpG n₁ g W (W.setCell ⟨g, i, none⟩ v) := fun _ _ hg => heap_setCell_other _ _ _ _ hg
theorem OrdI.store {a : Nat} {w W : World} {pre : List Fac} {x : Fac} (h : OrdI a w pre W) {q : Int} (hq : q = (orderTo a (pre ++ [x]) : Nat)) : OrdI a w (pre ++ [x]) (W.setCell ⟨w.heap.size + 1, 0, none⟩ (.int .u64 q)) := by
  subst hq
  refine ⟨?_, ?_, h.b.setCell (by simp) _⟩
  · rw [heap_setCell_other _ _ _ _ (by simp)]; exact h.x
  · rw [heap_setCell_same _ _ _ _ _ _ h.y]; rfl

/-- W, but for the count of draws. -/
structure Drawn (W W' : World) : Prop where
  e : ∃ k, W' = { W with drawn := k }
theorem Drawn.heap {W W' : World} (h : Drawn W W') : W'.heap = W.heap := by obtain ⟨k, rfl⟩ := h.e; rfl
theorem keepsFrom_drawn (B : Nat) (W : World) (k : Nat) : KeepsFrom B W { W with drawn := k } := ⟨((KeepsOthers.refl W).from B).size, ((KeepsOthers.refl W).from B).same⟩
theorem keepsFrom_drawn_store (B : Nat) (W : World) (k g i : Nat) (v : Value) : KeepsFrom B W (World.setCell { W with drawn := k } ⟨g, i, none⟩ v) := ⟨((KeepsOthers.setCell W ⟨g, i, none⟩ v).from B).size, ((KeepsOthers.setCell W ⟨g, i, none⟩ v).from B).same⟩
theorem kpG_drawn (n₁ g : Nat) (W : World) (k : Nat) : KpG n₁ g W { W with drawn := k } := fun _ _ _ => rfl
theorem kpG_drawn_store (n₁ g i : Nat) (W : World) (k : Nat) (v : Value) : KpG n₁ g W (World.setCell { W with drawn := k } ⟨g, i, none⟩ v) := kpG_store n₁ g i W v
theorem OrdI.drawn {a : Nat} {w W : World} {pre : List Fac} (h : OrdI a w pre W) (k : Nat) : OrdI a w pre { W with drawn := k } :=
  ⟨h.x, h.y, ⟨h.b.os, h.b.tape, h.b.output, h.b.size, h.b.block⟩⟩
theorem OrdI.same {a : Nat} {w W : World} {pre : List Fac} {x : Fac} (h : OrdI a w pre W) (hq : orderTo a pre = orderTo a (pre ++ [x])) : OrdI a w (pre ++ [x]) W := ⟨h.x, hq ▸ h.y, h.b⟩

set_option maxRecDepth 100000 in
set_option maxHeartbeats 4000000 in
theorem order_yes (a : Nat) (h1 : 1 ≤ a) (h2 : a ≤ 2305843009213693950) (w : World) :
    Calls Try.prog 30 #[.int .u64 a] w fun e w' => e = .returned (.tuple #[.int .u64 (orderN a : Nat), .int .i64 0]) ∧ Below w.heap.size w w' := by
  have g1 : ¬ (a : Int) < 1 := by omega
  have g2 : ¬ (2305843009213693950 : Int) < (a : Int) := by omega
  have g3 : decide ((a : Int) < 1) = false := decide_eq_false g1
  have g4 : decide ((2305843009213693950 : Int) < (a : Int)) = false := decide_eq_false g2
  have hA : Hid (a < 18446744073709551616) := by rw [Hid]; omega
  clear h1 h2
  refine (callsIn_wide (n := 3)).1 ?_
  refine callsIn_of_wp_marks Try.func30 rfl trivial ?_ rfl
  simp only [Try.ntmps30, List.size_toArray, List.length_cons, List.length_nil, Nat.reduceAdd, Nat.reduceSub, Array.replicate_succ, Array.replicate_zero, List.push_toArray, List.append_toArray, List.nil_append, List.cons_append]
  gi_wp2_with (first
    | (refine ⟨trivial, ?_⟩; gi_at_call 38; refine (callsIn_wide.2 (factors_any _)).mono ?_; rintro e w' ⟨rfl, rfl⟩)
    | (refine ⟨trivial, ?_⟩; gi_at_call 37; refine (callsIn_wide.2 (backward_any _ _ _ _)).mono ?_; rintro e w' ⟨rfl, rfl⟩))
  obtain ⟨W0, hW0⟩ : ∃ W0, W0 = ((((w.alloc (.cells #[.int .u64 (a : Int)] 22)).alloc (.cells #[.int .u64 2305843009213693950] 22)).alloc (.cells (av .u64 facs) 22)).alloc (.cells #[.slice (some ⟨w.heap.size + 1 + 1, 0, none⟩) 14 14] 35)) := ⟨_, rfl⟩
  have x0 : W0.heap[w.heap.size]? = some (.cells #[.int .u64 (a : Int)] 22) := by rw [hW0]; exact old_alloc _ (get3_0 _ _ _ _)
  have y0 : W0.heap[w.heap.size + 1]? = some (.cells #[.int .u64 2305843009213693950] 22) := by rw [hW0]; exact old_alloc _ (get3_1 _ _ _ _)
  have c0 : W0.heap[w.heap.size + 1 + 1]? = some (.cells (av .u64 facs) 22) := by rw [hW0]; exact old_alloc _ (get3_2 _ _ _ _)
  have s0 : W0.heap[w.heap.size + 1 + 1 + 1]? = some (.cells #[.slice (some ⟨w.heap.size + 1 + 1, 0, none⟩) 14 14] 35) := by rw [hW0, alloc_get, if_pos (by simp)]
  have b0 : Below w.heap.size w W0 := by rw [hW0]; exact (below3 _ _ _ _).alloc (by simp; omega) _
  have z0 : W0.heap.size = w.heap.size + 4 := by rw [hW0]; simp
  rw [← hW0]
  clear hW0
  refine wpIn_rangeFunc_ownG rfl (by omega) (gf := 41) (lb := #[.pointer (some ⟨w.heap.size + 1 + 1 + 1, 0, none⟩)]) rfl trivial (enters_of Try.func41 (by kernel_rfl) rfl)
    (back_stops Fence.wide 2 trivial rfl (by omega) (w.heap.size + 1 + 1 + 1) (w.heap.size + 1) (w.heap.size + 1 + 1) W0 (by omega) (by omega) (by omega) (by omega) s0 c0) (fun h k => h.trans k)
    (fun W l o o' hl _ _ _ b hb _ => World.putObj_heap_other (by omega)) (Below.refl _ _) (fun _ => rfl)
    (OrdI a w) (fun _ _ _ => False) (ordI_own a w _ (by omega)) (fun _ _ _ _ _ hs _ _ => hs) ⟨x0, y0, b0⟩
    (fun x => { tmps := #[.int .u64 (a : Int), .pointer (some ⟨w.heap.size, 0, none⟩), .int .u64 0, .int .i64 0, .pointer (some ⟨w.heap.size + 1, 0, none⟩), undef, .int .u64 (x.1.2 : Int),
        .int .u64 (a : Int), .bool false, .bool false, .int .u64 (a : Int), .bool false, .bool false, .slice (some ⟨w.heap.size + 1 + 1, 0, none⟩) 14 14,
        .func (.func 41) #[] #[.pointer (some ⟨w.heap.size + 1 + 1 + 1, 0, none⟩)], .int .i64 (x.1.1 : Int), .int .u64 (x.1.2 : Int), undef, undef, undef, undef, undef, undef, undef, undef, undef, undef], defers := [] }) ?assign ?body ?done ?stop
  case assign =>
    intro l x W K hK
    gi_wp2
    exact hK
  case body =>
    rintro l pre x W hI _
    obtain ⟨f, hf1, hf2, hF⟩ : ∃ f : Nat, 1 ≤ f ∧ f < 18446744073709551616 ∧ Hid (x.1.2 = f) := ⟨x.1.2, x.2.1, x.2.2, rfl⟩
    have hF2 := hF.out
    rw [hF2]
    clear hF2
    obtain ⟨o, ho, hO⟩ : ∃ o : Nat, o ≤ 2305843009213693950 ∧ Hid (orderTo a pre = o) := ⟨_, orderTo_le a pre, rfl⟩
    obtain ⟨q, hq, hQ⟩ : ∃ q : Nat, q ≤ o ∧ Hid (o / f = q) := ⟨_, Nat.div_le_self _ _, rfl⟩
    have n2 : (o : Int) / (f : Int) = (q : Int) := by rw [← hQ.out]; rfl
    have hf0 : 1 ≤ (f : Int) := by omega
    have hf00 : ¬ f = 0 := by omega
    have hf01 : ((f : Int) == 0) = false := by rw [beq_eq_false_iff_ne]; omega
    have hx : ∀ W' : World, Drawn W W' → W'.cell? ⟨w.heap.size, 0, none⟩ = some (.int .u64 (a : Int)) := fun W' e => by rw [cell_of_row _ _ _ _ _ _ (by rw [e.heap]; exact hI.x)]; rfl
    have hy : ∀ W' : World, Drawn W W' → W'.cell? ⟨w.heap.size + 1, 0, none⟩ = some (.int .u64 (o : Int)) := fun W' e => by rw [cell_of_row _ _ _ _ _ _ (by rw [e.heap]; exact hI.y), hO.out]; rfl
    have hz : ∀ W' : World, Drawn W W' → W'.frozen? ⟨w.heap.size + 1, 0, none⟩ = false := fun W' e => frozen_of_row _ _ _ _ _ (by rw [e.heap]; exact hI.y)
    have hX := Lib.hid hx
    have hY := Lib.hid hy
    have hZ := Lib.hid hz
    clear hx hy hz
    by_cases hp1 : powP a q = 1
    · obtain ⟨p, hP, hp⟩ : ∃ p : Nat, Hid (powP a q = p) ∧ ((p : Int) == 1) = true := ⟨1, hp1, rfl⟩
      have hS : Hid (stepO a o f = q) := by rw [Hid, stepO, hQ.out, if_pos hp1]
      clear hp1
      gi_wp2_with fail
      refine wpIn_region_calm (Drawn W) (by kernel_rfl) (by kernel_rfl) (by kernel_rfl) ⟨W.drawn + 1, rfl⟩ ?_
      refine wpCalm_plain (.int .u64 (a : Int)) rfl (fun w' hD K hK => ?_) ?_
      · have c := hX.out w' hD
        go_simp
        exact hK _ hD
      simp only [Act.put, List.setIfInBounds_toArray, List.set_cons_succ, List.set_cons_zero]
      refine wpCalm_plain (.int .u64 (o : Int)) rfl (fun w' hD K hK => ?_) ?_
      · have c := hY.out w' hD
        go_simp
        exact hK _ hD
      simp only [Act.put, List.setIfInBounds_toArray, List.set_cons_succ, List.set_cons_zero]
      refine wpCalm_plain (.int .u64 (f : Int)) rfl (fun w' hD K hK => ?_) ?_
      · go_simp
        exact hK _ hD
      simp only [Act.put, List.setIfInBounds_toArray, List.set_cons_succ, List.set_cons_zero]
      refine wpCalm_plain (.int .u64 (q : Int)) rfl (fun w' hD K hK => ?_) ?_
      · go_simp
        try go_bits
        try go_simp
        exact hK _ hD
      simp only [Act.put, List.setIfInBounds_toArray, List.set_cons_succ, List.set_cons_zero]
      refine wpCalm_plain (.int .u64 (p : Int)) rfl (fun w' hD K hK => ?_) ?_
      · go_simp
        refine (pow_any a q hA.out (by omega) w').mono ?_
        rintro e w'' ⟨rfl, rfl⟩
        rw [hP.out]
        exact ⟨_, rfl, hK _ hD⟩
      simp only [Act.put, List.setIfInBounds_toArray, List.set_cons_succ, List.set_cons_zero]
      refine wpCalm_plain (.bool true) rfl (fun w' hD K hK => ?_) ?_
      · go_simp
        exact hK _ hD
      simp only [Act.put, List.setIfInBounds_toArray, List.set_cons_succ, List.set_cons_zero]
      refine wpCalm_nil fun w' hD => ?_
      have c1 := hY.out w' hD
      have c2 := hZ.out w' hD
      gi_wp2
      obtain ⟨k, rfl⟩ := hD.e
      refine ⟨keepsFrom_drawn_store _ _ _ _ _ _, kpG_drawn_store _ _ _ _ _ _, ?_⟩
      exact (hI.drawn k).store (by rw [orderTo_snoc, hO.out, hF.out, hS.out])
    · obtain ⟨p, hP, hp⟩ : ∃ p : Nat, Hid (powP a q = p) ∧ ((p : Int) == 1) = false := ⟨powP a q, rfl, by rw [beq_eq_false_iff_ne]; omega⟩
      have hS : Hid (stepO a o f = o) := by rw [Hid, stepO, hQ.out, if_neg hp1]
      clear hp1
      gi_wp2_with fail
      refine wpIn_region_calm (Drawn W) (by kernel_rfl) (by kernel_rfl) (by kernel_rfl) ⟨W.drawn + 1, rfl⟩ ?_
      refine wpCalm_plain (.int .u64 (a : Int)) rfl (fun w' hD K hK => ?_) ?_
      · have c := hX.out w' hD
        go_simp
        exact hK _ hD
      simp only [Act.put, List.setIfInBounds_toArray, List.set_cons_succ, List.set_cons_zero]
      refine wpCalm_plain (.int .u64 (o : Int)) rfl (fun w' hD K hK => ?_) ?_
      · have c := hY.out w' hD
        go_simp
        exact hK _ hD
      simp only [Act.put, List.setIfInBounds_toArray, List.set_cons_succ, List.set_cons_zero]
      refine wpCalm_plain (.int .u64 (f : Int)) rfl (fun w' hD K hK => ?_) ?_
      · go_simp
        exact hK _ hD
      simp only [Act.put, List.setIfInBounds_toArray, List.set_cons_succ, List.set_cons_zero]
      refine wpCalm_plain (.int .u64 (q : Int)) rfl (fun w' hD K hK => ?_) ?_
      · go_simp
        try go_bits
        try go_simp
        exact hK _ hD
      simp only [Act.put, List.setIfInBounds_toArray, List.set_cons_succ, List.set_cons_zero]
      refine wpCalm_plain (.int .u64 (p : Int)) rfl (fun w' hD K hK => ?_) ?_
      · go_simp
        refine (pow_any a q hA.out (by omega) w').mono ?_
        rintro e w'' ⟨rfl, rfl⟩
        rw [hP.out]
        exact ⟨_, rfl, hK _ hD⟩
      simp only [Act.put, List.setIfInBounds_toArray, List.set_cons_succ, List.set_cons_zero]
      refine wpCalm_plain (.bool false) rfl (fun w' hD K hK => ?_) ?_
      · go_simp
        exact hK _ hD
      simp only [Act.put, List.setIfInBounds_toArray, List.set_cons_succ, List.set_cons_zero]
      refine wpCalm_nil fun w' hD => ?_
      have c1 := hY.out w' hD
      have c2 := hZ.out w' hD
      gi_wp2
      obtain ⟨k, rfl⟩ := hD.e
      refine ⟨keepsFrom_drawn _ _ _, kpG_drawn _ _ _ _, ?_⟩
      exact (hI.drawn k).same (by rw [orderTo_snoc, hO.out, hF.out, hS.out])
  case done =>
    rintro D ys W hD rfl hI hK
    have hy : W.cell? ⟨w.heap.size + 1, 0, none⟩ = some (.int .u64 (orderN a : Nat)) := by rw [cell_of_row _ _ _ _ _ _ hI.y]; rfl
    gi_wp2
    refine ⟨by simp, .inl ⟨_, _, rfl, run_takeDeferred hK, ?_⟩⟩
    exact ⟨_, results_tmp2 rfl _ _ _, rfl, hI.b.trans (belowK_b (w := w) (Nat.le_refl _) W D _ _ (by omega) hK rfl rfl)⟩
  case stop =>
    rintro D c pre W _ _ h _
    exact h.elim
end Go.Proofs.Ytcamniadkackdaa

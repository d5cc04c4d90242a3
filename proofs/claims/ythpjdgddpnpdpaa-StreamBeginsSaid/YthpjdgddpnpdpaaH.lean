/- Walks over cipher's reference: a quarter round of four of some numbers. -/
import Derived.Test.YthpjdgddpnpdpaaG
namespace Go.Proofs.Ythpjdgddpnpdpaa
open Go.RowKit

/-- One of some numbers, before and behind its store. -/
def one (st : List Nat) (i v : Nat) : Nat → List Nat
  | 0 => st
  | _ => st.set i v
theorem one_length (st : List Nat) (i v : Nat) : ∀ s, (one st i v s).length = st.length
  | 0 => rfl
  | _ + 1 => by simp [one]
theorem getD_same (st : List Nat) (i v : Nat) (h : i < st.length) : (st.set i v).getD i 0 = v := by simp [List.getD, h]
theorem getD_other (st : List Nat) (i j v : Nat) (h : i ≠ j) : (st.set i v).getD j 0 = st.getD j 0 := by simp [List.getD, h]
theorem qsets (st : List Nat) (a b c d a1 b1 c1 d1 a2 b2 c2 d2 : Nat) (hbc : b ≠ c) (hbd : b ≠ d) (hcd : c ≠ d) :
    ((((((((st.set a a1).set d d1).set c c1).set b b1).set a a2).set d d2).set c c2).set b b2) = ((((st.set a a2).set b b2).set c c2).set d d2) := by
  apply List.ext_getElem
  · simp
  · intro i h1 h2
    simp only [List.getElem_set]
    by_cases e1 : b = i
    · subst e1; simp [Ne.symm hbc, Ne.symm hbd]
    · by_cases e2 : c = i
      · subst e2; simp [e1, Ne.symm hcd]
      · by_cases e3 : d = i
        · subst e3; simp [e1, e2]
        · by_cases e4 : a = i
          · subst e4; simp [e1, e2, e3]
          · simp [e1, e2, e3, e4]

set_option maxRecDepth 100000 in
set_option maxHeartbeats 8000000 in
theorem refq_any (st : List Nat) (hl : st.length = 16) (hlt : W32 st) (a b c d : Nat) (ha : a < 16) (hb : b < 16) (hc : c < 16) (hd : d < 16)
    (hab : a ≠ b) (hac : a ≠ c) (had : a ≠ d) (hbc : b ≠ c) (hbd : b ≠ d) (hcd : c ≠ d) (w : World) :
    Calls Try.prog 14 #[.agg (av .u32 st), .int .i64 a, .int .i64 b, .int .i64 c, .int .i64 d] w fun e w' => e = .returned (.agg (av .u32 (qst st a b c d))) ∧ Below w.heap.size w w' := by
  obtain ⟨x, hx⟩ : ∃ x, st.getD a 0 = x := ⟨_, rfl⟩
  obtain ⟨y, hy⟩ : ∃ y, st.getD b 0 = y := ⟨_, rfl⟩
  obtain ⟨z, hz⟩ : ∃ z, st.getD c 0 = z := ⟨_, rfl⟩
  obtain ⟨u, hu⟩ : ∃ u, st.getD d 0 = u := ⟨_, rfl⟩
  have hY : y < 4294967296 := by rw [← hy]; exact hlt b
  have hU : u < 4294967296 := by rw [← hu]; exact hlt d
  obtain ⟨a1, A1⟩ : ∃ a1, sm x y = a1 := ⟨_, rfl⟩
  obtain ⟨t1, T1⟩ : ∃ t1, xo u a1 = t1 := ⟨_, rfl⟩
  obtain ⟨d1, D1⟩ : ∃ d1, ro 16 t1 = d1 := ⟨_, rfl⟩
  obtain ⟨c1, C1⟩ : ∃ c1, sm z d1 = c1 := ⟨_, rfl⟩
  obtain ⟨t2, T2⟩ : ∃ t2, xo y c1 = t2 := ⟨_, rfl⟩
  obtain ⟨b1, B1⟩ : ∃ b1, ro 12 t2 = b1 := ⟨_, rfl⟩
  obtain ⟨a2, A2⟩ : ∃ a2, sm a1 b1 = a2 := ⟨_, rfl⟩
  obtain ⟨t3, T3⟩ : ∃ t3, xo d1 a2 = t3 := ⟨_, rfl⟩
  obtain ⟨d2, D2⟩ : ∃ d2, ro 8 t3 = d2 := ⟨_, rfl⟩
  obtain ⟨c2, C2⟩ : ∃ c2, sm c1 d2 = c2 := ⟨_, rfl⟩
  obtain ⟨t4, T4⟩ : ∃ t4, xo b1 c2 = t4 := ⟨_, rfl⟩
  obtain ⟨b2, B2⟩ : ∃ b2, ro 7 t4 = b2 := ⟨_, rfl⟩
  have la1 : a1 < 4294967296 := A1 ▸ sm_lt _ _
  have lc1 : c1 < 4294967296 := C1 ▸ sm_lt _ _
  have la2 : a2 < 4294967296 := A2 ▸ sm_lt _ _
  have lc2 : c2 < 4294967296 := C2 ▸ sm_lt _ _
  have m1 : t1 < 4294967296 := T1 ▸ xo_lt _ _ hU la1
  have ld1 : d1 < 4294967296 := D1 ▸ ro_lt _ _ m1
  have m2 : t2 < 4294967296 := T2 ▸ xo_lt _ _ hY lc1
  have lb1 : b1 < 4294967296 := B1 ▸ ro_lt _ _ m2
  have m3 : t3 < 4294967296 := T3 ▸ xo_lt _ _ ld1 la2
  have m4 : t4 < 4294967296 := T4 ▸ xo_lt _ _ lb1 lc2
  have e1 : Hid (IntKind.u32.wrap ((x : Int) + (y : Int)) = (a1 : Int)) := by rw [Hid, IntKind.wrap_u32, sm_int, A1]
  have e2 : Hid (IntKind.u32.wrap ((z : Int) + (d1 : Int)) = (c1 : Int)) := by rw [Hid, IntKind.wrap_u32, sm_int, C1]
  have e3 : Hid (IntKind.u32.wrap ((a1 : Int) + (b1 : Int)) = (a2 : Int)) := by rw [Hid, IntKind.wrap_u32, sm_int, A2]
  have e4 : Hid (IntKind.u32.wrap ((c1 : Int) + (d2 : Int)) = (c2 : Int)) := by rw [Hid, IntKind.wrap_u32, sm_int, C2]
  have f1 : Hid (bits .xor .u32 (u : Int) (a1 : Int) = (t1 : Int)) := by rw [Hid, xo_int _ _ hU la1, T1]
  have f2 : Hid (bits .xor .u32 (y : Int) (c1 : Int) = (t2 : Int)) := by rw [Hid, xo_int _ _ hY lc1, T2]
  have f3 : Hid (bits .xor .u32 (d1 : Int) (a2 : Int) = (t3 : Int)) := by rw [Hid, xo_int _ _ ld1 la2, T3]
  have f4 : Hid (bits .xor .u32 (b1 : Int) (c2 : Int) = (t4 : Int)) := by rw [Hid, xo_int _ _ lb1 lc2, T4]
  have R1 := Lib.hid D1
  have R2 := Lib.hid B1
  have R3 := Lib.hid D2
  have R4 := Lib.hid B2
  have M1 := Lib.hid m1
  have M2 := Lib.hid m2
  have M3 := Lib.hid m3
  have M4 := Lib.hid m4
  obtain ⟨st1, S1⟩ : ∃ s, st.set a a1 = s := ⟨_, rfl⟩
  obtain ⟨st2, S2⟩ : ∃ s, st1.set d d1 = s := ⟨_, rfl⟩
  obtain ⟨st3, S3⟩ : ∃ s, st2.set c c1 = s := ⟨_, rfl⟩
  obtain ⟨st4, S4⟩ : ∃ s, st3.set b b1 = s := ⟨_, rfl⟩
  obtain ⟨st5, S5⟩ : ∃ s, st4.set a a2 = s := ⟨_, rfl⟩
  obtain ⟨st6, S6⟩ : ∃ s, st5.set d d2 = s := ⟨_, rfl⟩
  obtain ⟨st7, S7⟩ : ∃ s, st6.set c c2 = s := ⟨_, rfl⟩
  obtain ⟨st8, S8⟩ : ∃ s, st7.set b b2 = s := ⟨_, rfl⟩
  have hQ : Hid (qst st a b c d = st8) := by
    rw [Hid, ← S8, ← S7, ← S6, ← S5, ← S4, ← S3, ← S2, ← S1, qsets _ _ _ _ _ _ _ _ _ _ _ _ _ hbc hbd hcd]
    simp only [qst, qr, hx, hy, hz, hu, A1, T1, D1, C1, T2, B1, A2, T3, D2, C2, T4, B2]
  have L1 : st1.length = 16 := by rw [← S1, List.length_set]; exact hl
  have g1a : st1.getD a 0 = a1 := by rw [← S1]; exact getD_same _ _ _ (by rw [hl]; omega)
  have g1b : st1.getD b 0 = y := by rw [← S1, getD_other _ _ _ _ hab]; exact hy
  have g1c : st1.getD c 0 = z := by rw [← S1, getD_other _ _ _ _ hac]; exact hz
  have g1d : st1.getD d 0 = u := by rw [← S1, getD_other _ _ _ _ had]; exact hu
  have L2 : st2.length = 16 := by rw [← S2, List.length_set]; exact L1
  have g2a : st2.getD a 0 = a1 := by rw [← S2, getD_other _ _ _ _ (Ne.symm had)]; exact g1a
  have g2b : st2.getD b 0 = y := by rw [← S2, getD_other _ _ _ _ (Ne.symm hbd)]; exact g1b
  have g2c : st2.getD c 0 = z := by rw [← S2, getD_other _ _ _ _ (Ne.symm hcd)]; exact g1c
  have g2d : st2.getD d 0 = d1 := by rw [← S2]; exact getD_same _ _ _ (by rw [L1]; omega)
  have L3 : st3.length = 16 := by rw [← S3, List.length_set]; exact L2
  have g3a : st3.getD a 0 = a1 := by rw [← S3, getD_other _ _ _ _ (Ne.symm hac)]; exact g2a
  have g3b : st3.getD b 0 = y := by rw [← S3, getD_other _ _ _ _ (Ne.symm hbc)]; exact g2b
  have g3c : st3.getD c 0 = c1 := by rw [← S3]; exact getD_same _ _ _ (by rw [L2]; omega)
  have g3d : st3.getD d 0 = d1 := by rw [← S3, getD_other _ _ _ _ hcd]; exact g2d
  have L4 : st4.length = 16 := by rw [← S4, List.length_set]; exact L3
  have g4a : st4.getD a 0 = a1 := by rw [← S4, getD_other _ _ _ _ (Ne.symm hab)]; exact g3a
  have g4b : st4.getD b 0 = b1 := by rw [← S4]; exact getD_same _ _ _ (by rw [L3]; omega)
  have g4c : st4.getD c 0 = c1 := by rw [← S4, getD_other _ _ _ _ hbc]; exact g3c
  have g4d : st4.getD d 0 = d1 := by rw [← S4, getD_other _ _ _ _ hbd]; exact g3d
  have L5 : st5.length = 16 := by rw [← S5, List.length_set]; exact L4
  have g5a : st5.getD a 0 = a2 := by rw [← S5]; exact getD_same _ _ _ (by rw [L4]; omega)
  have g5b : st5.getD b 0 = b1 := by rw [← S5, getD_other _ _ _ _ hab]; exact g4b
  have g5c : st5.getD c 0 = c1 := by rw [← S5, getD_other _ _ _ _ hac]; exact g4c
  have g5d : st5.getD d 0 = d1 := by rw [← S5, getD_other _ _ _ _ had]; exact g4d
  have L6 : st6.length = 16 := by rw [← S6, List.length_set]; exact L5
  have g6a : st6.getD a 0 = a2 := by rw [← S6, getD_other _ _ _ _ (Ne.symm had)]; exact g5a
  have g6b : st6.getD b 0 = b1 := by rw [← S6, getD_other _ _ _ _ (Ne.symm hbd)]; exact g5b
  have g6c : st6.getD c 0 = c1 := by rw [← S6, getD_other _ _ _ _ (Ne.symm hcd)]; exact g5c
  have g6d : st6.getD d 0 = d2 := by rw [← S6]; exact getD_same _ _ _ (by rw [L5]; omega)
  have L7 : st7.length = 16 := by rw [← S7, List.length_set]; exact L6
  have g7a : st7.getD a 0 = a2 := by rw [← S7, getD_other _ _ _ _ (Ne.symm hac)]; exact g6a
  have g7b : st7.getD b 0 = b1 := by rw [← S7, getD_other _ _ _ _ (Ne.symm hbc)]; exact g6b
  have g7c : st7.getD c 0 = c2 := by rw [← S7]; exact getD_same _ _ _ (by rw [L6]; omega)
  have g7d : st7.getD d 0 = d2 := by rw [← S7, getD_other _ _ _ _ hcd]; exact g6d
  have L8 : st8.length = 16 := by rw [← S8, List.length_set]; exact L7
  have g8a : st8.getD a 0 = a2 := by rw [← S8, getD_other _ _ _ _ (Ne.symm hab)]; exact g7a
  have g8b : st8.getD b 0 = b2 := by rw [← S8]; exact getD_same _ _ _ (by rw [L7]; omega)
  have g8c : st8.getD c 0 = c2 := by rw [← S8, getD_other _ _ _ _ hbc]; exact g7c
  have g8d : st8.getD d 0 = d2 := by rw [← S8, getD_other _ _ _ _ hbd]; exact g7d
  have p0 : Hid (∀ W0 W, Rw .u32 w.heap.size 25 st W0 W → W.cell? ⟨w.heap.size, a, none⟩ = some (.int .u32 (x : Int))) := fun W0 W h => h.cell (by omega) hx
  have q0 : Hid (∀ W0 W, Rw .u32 w.heap.size 25 st W0 W → W.cell? ⟨w.heap.size, b, none⟩ = some (.int .u32 (y : Int))) := fun W0 W h => h.cell (by omega) hy
  have o0 : Hid (∀ s W0 W, Rw .u32 w.heap.size 25 (one st a a1 s) W0 W → ∃ v, W.cell? ⟨w.heap.size, a, none⟩ = some v) := fun s W0 W h => cell_some h (by rw [one_length]; omega)
  have Z1 : Hid (st.set a a1 = st1) := S1
  have p1 : Hid (∀ W0 W, Rw .u32 w.heap.size 25 st1 W0 W → W.cell? ⟨w.heap.size, d, none⟩ = some (.int .u32 (u : Int))) := fun W0 W h => h.cell (by omega) g1d
  have q1 : Hid (∀ W0 W, Rw .u32 w.heap.size 25 st1 W0 W → W.cell? ⟨w.heap.size, a, none⟩ = some (.int .u32 (a1 : Int))) := fun W0 W h => h.cell (by omega) g1a
  have o1 : Hid (∀ s W0 W, Rw .u32 w.heap.size 25 (one st1 d d1 s) W0 W → ∃ v, W.cell? ⟨w.heap.size, d, none⟩ = some v) := fun s W0 W h => cell_some h (by rw [one_length]; omega)
  have Z2 : Hid (st1.set d d1 = st2) := S2
  have p2 : Hid (∀ W0 W, Rw .u32 w.heap.size 25 st2 W0 W → W.cell? ⟨w.heap.size, c, none⟩ = some (.int .u32 (z : Int))) := fun W0 W h => h.cell (by omega) g2c
  have q2 : Hid (∀ W0 W, Rw .u32 w.heap.size 25 st2 W0 W → W.cell? ⟨w.heap.size, d, none⟩ = some (.int .u32 (d1 : Int))) := fun W0 W h => h.cell (by omega) g2d
  have o2 : Hid (∀ s W0 W, Rw .u32 w.heap.size 25 (one st2 c c1 s) W0 W → ∃ v, W.cell? ⟨w.heap.size, c, none⟩ = some v) := fun s W0 W h => cell_some h (by rw [one_length]; omega)
  have Z3 : Hid (st2.set c c1 = st3) := S3
  have p3 : Hid (∀ W0 W, Rw .u32 w.heap.size 25 st3 W0 W → W.cell? ⟨w.heap.size, b, none⟩ = some (.int .u32 (y : Int))) := fun W0 W h => h.cell (by omega) g3b
  have q3 : Hid (∀ W0 W, Rw .u32 w.heap.size 25 st3 W0 W → W.cell? ⟨w.heap.size, c, none⟩ = some (.int .u32 (c1 : Int))) := fun W0 W h => h.cell (by omega) g3c
  have o3 : Hid (∀ s W0 W, Rw .u32 w.heap.size 25 (one st3 b b1 s) W0 W → ∃ v, W.cell? ⟨w.heap.size, b, none⟩ = some v) := fun s W0 W h => cell_some h (by rw [one_length]; omega)
  have Z4 : Hid (st3.set b b1 = st4) := S4
  have p4 : Hid (∀ W0 W, Rw .u32 w.heap.size 25 st4 W0 W → W.cell? ⟨w.heap.size, a, none⟩ = some (.int .u32 (a1 : Int))) := fun W0 W h => h.cell (by omega) g4a
  have q4 : Hid (∀ W0 W, Rw .u32 w.heap.size 25 st4 W0 W → W.cell? ⟨w.heap.size, b, none⟩ = some (.int .u32 (b1 : Int))) := fun W0 W h => h.cell (by omega) g4b
  have o4 : Hid (∀ s W0 W, Rw .u32 w.heap.size 25 (one st4 a a2 s) W0 W → ∃ v, W.cell? ⟨w.heap.size, a, none⟩ = some v) := fun s W0 W h => cell_some h (by rw [one_length]; omega)
  have Z5 : Hid (st4.set a a2 = st5) := S5
  have p5 : Hid (∀ W0 W, Rw .u32 w.heap.size 25 st5 W0 W → W.cell? ⟨w.heap.size, d, none⟩ = some (.int .u32 (d1 : Int))) := fun W0 W h => h.cell (by omega) g5d
  have q5 : Hid (∀ W0 W, Rw .u32 w.heap.size 25 st5 W0 W → W.cell? ⟨w.heap.size, a, none⟩ = some (.int .u32 (a2 : Int))) := fun W0 W h => h.cell (by omega) g5a
  have o5 : Hid (∀ s W0 W, Rw .u32 w.heap.size 25 (one st5 d d2 s) W0 W → ∃ v, W.cell? ⟨w.heap.size, d, none⟩ = some v) := fun s W0 W h => cell_some h (by rw [one_length]; omega)
  have Z6 : Hid (st5.set d d2 = st6) := S6
  have p6 : Hid (∀ W0 W, Rw .u32 w.heap.size 25 st6 W0 W → W.cell? ⟨w.heap.size, c, none⟩ = some (.int .u32 (c1 : Int))) := fun W0 W h => h.cell (by omega) g6c
  have q6 : Hid (∀ W0 W, Rw .u32 w.heap.size 25 st6 W0 W → W.cell? ⟨w.heap.size, d, none⟩ = some (.int .u32 (d2 : Int))) := fun W0 W h => h.cell (by omega) g6d
  have o6 : Hid (∀ s W0 W, Rw .u32 w.heap.size 25 (one st6 c c2 s) W0 W → ∃ v, W.cell? ⟨w.heap.size, c, none⟩ = some v) := fun s W0 W h => cell_some h (by rw [one_length]; omega)
  have Z7 : Hid (st6.set c c2 = st7) := S7
  have p7 : Hid (∀ W0 W, Rw .u32 w.heap.size 25 st7 W0 W → W.cell? ⟨w.heap.size, b, none⟩ = some (.int .u32 (b1 : Int))) := fun W0 W h => h.cell (by omega) g7b
  have q7 : Hid (∀ W0 W, Rw .u32 w.heap.size 25 st7 W0 W → W.cell? ⟨w.heap.size, c, none⟩ = some (.int .u32 (c2 : Int))) := fun W0 W h => h.cell (by omega) g7c
  have o7 : Hid (∀ s W0 W, Rw .u32 w.heap.size 25 (one st7 b b2 s) W0 W → ∃ v, W.cell? ⟨w.heap.size, b, none⟩ = some v) := fun s W0 W h => cell_some h (by rw [one_length]; omega)
  have Z8 : Hid (st7.set b b2 = st8) := S8
  have hz25 : Hid ((Try.prog.info? 25).bind (·.zero) = some (.agg (av .u32 zeros16))) := by rw [Hid]; kernel_rfl
  have s25 : Hid ((Try.prog.info? 25).map (·.size) = some (av .u32 st8).size) := by rw [Hid, av_size, L8]; kernel_rfl
  have s25e : Hid ((av .u32 zeros16).size = (av .u32 st8).size) := by rw [Hid, av_size, av_size, L8]; rfl
  have a1' : (0 : Int) ≤ a := by omega
  have a2' : (a : Int) < 16 := by omega
  have b1' : (0 : Int) ≤ b := by omega
  have b2' : (b : Int) < 16 := by omega
  have c1' : (0 : Int) ≤ c := by omega
  have c2' : (c : Int) < 16 := by omega
  have d1' : (0 : Int) ≤ d := by omega
  have d2' : (d : Int) < 16 := by omega
  rw [hQ.out]
  clear hQ hlt hl ha hb hc hd hab hac had hbc hbd hcd hx hy hz hu hY hU A1 T1 D1 C1 T2 B1 A2 T3 D2 C2 T4 B2 la1 lc1 la2 lc2 m1 ld1 m2 lb1 m3 m4 S1 L1 S2 L2 S3 L3 S4 L4 S5 L5 S6 L6 S7 L7 S8 L8 g1a g1b g1c g1d g2a g2b g2c g2d g3a g3b g3c g3d g4a g4b g4c g4d g5a g5b g5c g5d g6a g6b g6c g6d g7a g7b g7c g7d g8a g8b g8c g8d
  have G0 : Hid (Rw .u32 w.heap.size 25 st ((w.alloc (.cells (av .u32 st) 25)).alloc (.cells (av .u32 zeros16) 25)) ((w.alloc (.cells (av .u32 st) 25)).alloc (.cells (av .u32 zeros16) 25))) := by
    refine Rw.start ?_
    rw [alloc_get, if_neg (by simp), alloc_get, if_pos rfl]
  go_enter Try.func14, Try.ntmps14
  go_wp2_with (refine wpList_alloc_as rfl 25 rfl (av .u32 zeros16) hz25.out ?_)
  have hsz : (w.alloc (.cells (av .u32 st) 25)).heap.size = w.heap.size + 1 := by simp
  rw [hsz]
  clear hsz
  obtain ⟨W0, hW0⟩ : ∃ W0, W0 = (w.alloc (.cells (av .u32 st) 25)).alloc (.cells (av .u32 zeros16) 25) := ⟨_, rfl⟩
  have hr0 : Hid (W0.heap[w.heap.size + 1]? = some (.cells (av .u32 zeros16) 25)) := by rw [Hid, hW0, alloc_get, if_pos (by simp)]
  have hb0 : Hid (Below w.heap.size w W0) := by rw [Hid, hW0]; exact ((Below.refl _ _).alloc (Nat.le_refl _) _).alloc (by simp) _
  rw [← hW0] at G0 ⊢
  clear hW0 hz25
  refine wp_region_calm_g (fun s W => Rw .u32 w.heap.size 25 (one st a a1 s) W0 W) [0,0,1,0,0,1,0,0,2] (by kernel_rfl) (by kernel_rfl) (by kernel_rfl) G0.out.drew ?_
  refine wpG_plain (.int .i64 (a : Int)) rfl (fun t' w' hI K hK => ?_) ?_
  · go_simp
    exact hK _ hI
  simp only [Act.put, List.setIfInBounds_toArray, List.set_cons_succ, List.set_cons_zero]
  refine wpG_plain (.pointer (some ⟨w.heap.size, a, none⟩)) rfl (fun t' w' hI K hK => ?_) ?_
  · go_simp
    exact hK _ hI
  simp only [Act.put, List.setIfInBounds_toArray, List.set_cons_succ, List.set_cons_zero]
  refine wpG_read (.int .u32 (x : Int)) rfl (fun w' hI K hK => ?_) ?_
  · have c := p0.out W0 w' hI
    go_simp
    exact hK _ hI
  simp only [Act.put, List.setIfInBounds_toArray, List.set_cons_succ, List.set_cons_zero]
  refine wpG_plain (.int .i64 (b : Int)) rfl (fun t' w' hI K hK => ?_) ?_
  · go_simp
    exact hK _ hI
  simp only [Act.put, List.setIfInBounds_toArray, List.set_cons_succ, List.set_cons_zero]
  refine wpG_plain (.pointer (some ⟨w.heap.size, b, none⟩)) rfl (fun t' w' hI K hK => ?_) ?_
  · go_simp
    exact hK _ hI
  simp only [Act.put, List.setIfInBounds_toArray, List.set_cons_succ, List.set_cons_zero]
  refine wpG_read (.int .u32 (y : Int)) rfl (fun w' hI K hK => ?_) ?_
  · have c := q0.out W0 w' hI
    go_simp
    exact hK _ hI
  simp only [Act.put, List.setIfInBounds_toArray, List.set_cons_succ, List.set_cons_zero]
  refine wpG_plain (.int .u32 (a1 : Int)) rfl (fun t' w' hI K hK => ?_) ?_
  · have e := e1.out
    go_simp
    exact hK _ hI
  simp only [Act.put, List.setIfInBounds_toArray, List.set_cons_succ, List.set_cons_zero]
  refine wpG_plain (.pointer (some ⟨w.heap.size, a, none⟩)) rfl (fun t' w' hI K hK => ?_) ?_
  · go_simp
    exact hK _ hI
  simp only [Act.put, List.setIfInBounds_toArray, List.set_cons_succ, List.set_cons_zero]
  refine wpG_store rfl (fun w' hI K hK => ?_) ?_
  · obtain ⟨v, cw⟩ := o0.out _ W0 w' hI
    have fw := hI.frozen (i := a)
    go_simp
    exact hK _ hI.store
  simp only [Act.put]
  refine wpG_nil fun W1 hI1 => ?_
  have H1 : Hid (Rw .u32 w.heap.size 25 st1 W0 W1) := Z1.out ▸ hI1
  clear hI1 p0 q0 o0
  go_wp2_with fail
  refine wp_region_calm_g (fun s W => Rw .u32 w.heap.size 25 (one st1 d d1 s) W0 W) [0,0,0,1,0,0,1,0,0,0,2] (by kernel_rfl) (by kernel_rfl) (by kernel_rfl) (H1.out.drew) ?_
  refine wpG_plain (.int .i64 (d : Int)) rfl (fun t' w' hI K hK => ?_) ?_
  · go_simp
    exact hK _ hI
  simp only [Act.put, List.setIfInBounds_toArray, List.set_cons_succ, List.set_cons_zero]
  refine wpG_plain (.int .i64 (d : Int)) rfl (fun t' w' hI K hK => ?_) ?_
  · go_simp
    exact hK _ hI
  simp only [Act.put, List.setIfInBounds_toArray, List.set_cons_succ, List.set_cons_zero]
  refine wpG_plain (.pointer (some ⟨w.heap.size, d, none⟩)) rfl (fun t' w' hI K hK => ?_) ?_
  · go_simp
    exact hK _ hI
  simp only [Act.put, List.setIfInBounds_toArray, List.set_cons_succ, List.set_cons_zero]
  refine wpG_read (.int .u32 (u : Int)) rfl (fun w' hI K hK => ?_) ?_
  · have c := p1.out W0 w' hI
    go_simp
    exact hK _ hI
  simp only [Act.put, List.setIfInBounds_toArray, List.set_cons_succ, List.set_cons_zero]
  refine wpG_plain (.int .i64 (a : Int)) rfl (fun t' w' hI K hK => ?_) ?_
  · go_simp
    exact hK _ hI
  simp only [Act.put, List.setIfInBounds_toArray, List.set_cons_succ, List.set_cons_zero]
  refine wpG_plain (.pointer (some ⟨w.heap.size, a, none⟩)) rfl (fun t' w' hI K hK => ?_) ?_
  · go_simp
    exact hK _ hI
  simp only [Act.put, List.setIfInBounds_toArray, List.set_cons_succ, List.set_cons_zero]
  refine wpG_read (.int .u32 (a1 : Int)) rfl (fun w' hI K hK => ?_) ?_
  · have c := q1.out W0 w' hI
    go_simp
    exact hK _ hI
  simp only [Act.put, List.setIfInBounds_toArray, List.set_cons_succ, List.set_cons_zero]
  refine wpG_plain (.int .u32 (t1 : Int)) rfl (fun t' w' hI K hK => ?_) ?_
  · have e := f1.out
    go_simp
    exact hK _ hI
  simp only [Act.put, List.setIfInBounds_toArray, List.set_cons_succ, List.set_cons_zero]
  refine wpG_plain (.int .u32 (d1 : Int)) rfl (fun t' w' hI K hK => ?_) ?_
  · go_simp
    refine (turn16_any t1 M1.out w').mono ?_
    rintro e w'' ⟨rfl, rfl⟩
    rw [R1.out]
    exact ⟨_, rfl, hK _ hI⟩
  simp only [Act.put, List.setIfInBounds_toArray, List.set_cons_succ, List.set_cons_zero]
  refine wpG_plain (.pointer (some ⟨w.heap.size, d, none⟩)) rfl (fun t' w' hI K hK => ?_) ?_
  · go_simp
    exact hK _ hI
  simp only [Act.put, List.setIfInBounds_toArray, List.set_cons_succ, List.set_cons_zero]
  refine wpG_store rfl (fun w' hI K hK => ?_) ?_
  · obtain ⟨v, cw⟩ := o1.out _ W0 w' hI
    have fw := hI.frozen (i := d)
    go_simp
    exact hK _ hI.store
  simp only [Act.put]
  refine wpG_nil fun W2 hI2 => ?_
  have H2 : Hid (Rw .u32 w.heap.size 25 st2 W0 W2) := Z2.out ▸ hI2
  clear hI2 p1 q1 o1
  go_wp2_with fail
  refine wp_region_calm_g (fun s W => Rw .u32 w.heap.size 25 (one st2 c c1 s) W0 W) [0,0,1,0,0,1,0,0,2] (by kernel_rfl) (by kernel_rfl) (by kernel_rfl) (H2.out.drew) ?_
  refine wpG_plain (.int .i64 (c : Int)) rfl (fun t' w' hI K hK => ?_) ?_
  · go_simp
    exact hK _ hI
  simp only [Act.put, List.setIfInBounds_toArray, List.set_cons_succ, List.set_cons_zero]
  refine wpG_plain (.pointer (some ⟨w.heap.size, c, none⟩)) rfl (fun t' w' hI K hK => ?_) ?_
  · go_simp
    exact hK _ hI
  simp only [Act.put, List.setIfInBounds_toArray, List.set_cons_succ, List.set_cons_zero]
  refine wpG_read (.int .u32 (z : Int)) rfl (fun w' hI K hK => ?_) ?_
  · have c := p2.out W0 w' hI
    go_simp
    exact hK _ hI
  simp only [Act.put, List.setIfInBounds_toArray, List.set_cons_succ, List.set_cons_zero]
  refine wpG_plain (.int .i64 (d : Int)) rfl (fun t' w' hI K hK => ?_) ?_
  · go_simp
    exact hK _ hI
  simp only [Act.put, List.setIfInBounds_toArray, List.set_cons_succ, List.set_cons_zero]
  refine wpG_plain (.pointer (some ⟨w.heap.size, d, none⟩)) rfl (fun t' w' hI K hK => ?_) ?_
  · go_simp
    exact hK _ hI
  simp only [Act.put, List.setIfInBounds_toArray, List.set_cons_succ, List.set_cons_zero]
  refine wpG_read (.int .u32 (d1 : Int)) rfl (fun w' hI K hK => ?_) ?_
  · have c := q2.out W0 w' hI
    go_simp
    exact hK _ hI
  simp only [Act.put, List.setIfInBounds_toArray, List.set_cons_succ, List.set_cons_zero]
  refine wpG_plain (.int .u32 (c1 : Int)) rfl (fun t' w' hI K hK => ?_) ?_
  · have e := e2.out
    go_simp
    exact hK _ hI
  simp only [Act.put, List.setIfInBounds_toArray, List.set_cons_succ, List.set_cons_zero]
  refine wpG_plain (.pointer (some ⟨w.heap.size, c, none⟩)) rfl (fun t' w' hI K hK => ?_) ?_
  · go_simp
    exact hK _ hI
  simp only [Act.put, List.setIfInBounds_toArray, List.set_cons_succ, List.set_cons_zero]
  refine wpG_store rfl (fun w' hI K hK => ?_) ?_
  · obtain ⟨v, cw⟩ := o2.out _ W0 w' hI
    have fw := hI.frozen (i := c)
    go_simp
    exact hK _ hI.store
  simp only [Act.put]
  refine wpG_nil fun W3 hI3 => ?_
  have H3 : Hid (Rw .u32 w.heap.size 25 st3 W0 W3) := Z3.out ▸ hI3
  clear hI3 p2 q2 o2
  go_wp2_with fail
  refine wp_region_calm_g (fun s W => Rw .u32 w.heap.size 25 (one st3 b b1 s) W0 W) [0,0,0,1,0,0,1,0,0,0,2] (by kernel_rfl) (by kernel_rfl) (by kernel_rfl) (H3.out.drew) ?_
  refine wpG_plain (.int .i64 (b : Int)) rfl (fun t' w' hI K hK => ?_) ?_
  · go_simp
    exact hK _ hI
  simp only [Act.put, List.setIfInBounds_toArray, List.set_cons_succ, List.set_cons_zero]
  refine wpG_plain (.int .i64 (b : Int)) rfl (fun t' w' hI K hK => ?_) ?_
  · go_simp
    exact hK _ hI
  simp only [Act.put, List.setIfInBounds_toArray, List.set_cons_succ, List.set_cons_zero]
  refine wpG_plain (.pointer (some ⟨w.heap.size, b, none⟩)) rfl (fun t' w' hI K hK => ?_) ?_
  · go_simp
    exact hK _ hI
  simp only [Act.put, List.setIfInBounds_toArray, List.set_cons_succ, List.set_cons_zero]
  refine wpG_read (.int .u32 (y : Int)) rfl (fun w' hI K hK => ?_) ?_
  · have c := p3.out W0 w' hI
    go_simp
    exact hK _ hI
  simp only [Act.put, List.setIfInBounds_toArray, List.set_cons_succ, List.set_cons_zero]
  refine wpG_plain (.int .i64 (c : Int)) rfl (fun t' w' hI K hK => ?_) ?_
  · go_simp
    exact hK _ hI
  simp only [Act.put, List.setIfInBounds_toArray, List.set_cons_succ, List.set_cons_zero]
  refine wpG_plain (.pointer (some ⟨w.heap.size, c, none⟩)) rfl (fun t' w' hI K hK => ?_) ?_
  · go_simp
    exact hK _ hI
  simp only [Act.put, List.setIfInBounds_toArray, List.set_cons_succ, List.set_cons_zero]
  refine wpG_read (.int .u32 (c1 : Int)) rfl (fun w' hI K hK => ?_) ?_
  · have c := q3.out W0 w' hI
    go_simp
    exact hK _ hI
  simp only [Act.put, List.setIfInBounds_toArray, List.set_cons_succ, List.set_cons_zero]
  refine wpG_plain (.int .u32 (t2 : Int)) rfl (fun t' w' hI K hK => ?_) ?_
  · have e := f2.out
    go_simp
    exact hK _ hI
  simp only [Act.put, List.setIfInBounds_toArray, List.set_cons_succ, List.set_cons_zero]
  refine wpG_plain (.int .u32 (b1 : Int)) rfl (fun t' w' hI K hK => ?_) ?_
  · go_simp
    refine (turn12_any t2 M2.out w').mono ?_
    rintro e w'' ⟨rfl, rfl⟩
    rw [R2.out]
    exact ⟨_, rfl, hK _ hI⟩
  simp only [Act.put, List.setIfInBounds_toArray, List.set_cons_succ, List.set_cons_zero]
  refine wpG_plain (.pointer (some ⟨w.heap.size, b, none⟩)) rfl (fun t' w' hI K hK => ?_) ?_
  · go_simp
    exact hK _ hI
  simp only [Act.put, List.setIfInBounds_toArray, List.set_cons_succ, List.set_cons_zero]
  refine wpG_store rfl (fun w' hI K hK => ?_) ?_
  · obtain ⟨v, cw⟩ := o3.out _ W0 w' hI
    have fw := hI.frozen (i := b)
    go_simp
    exact hK _ hI.store
  simp only [Act.put]
  refine wpG_nil fun W4 hI4 => ?_
  have H4 : Hid (Rw .u32 w.heap.size 25 st4 W0 W4) := Z4.out ▸ hI4
  clear hI4 p3 q3 o3
  go_wp2_with fail
  refine wp_region_calm_g (fun s W => Rw .u32 w.heap.size 25 (one st4 a a2 s) W0 W) [0,0,1,0,0,1,0,0,2] (by kernel_rfl) (by kernel_rfl) (by kernel_rfl) (H4.out.drew) ?_
  refine wpG_plain (.int .i64 (a : Int)) rfl (fun t' w' hI K hK => ?_) ?_
  · go_simp
    exact hK _ hI
  simp only [Act.put, List.setIfInBounds_toArray, List.set_cons_succ, List.set_cons_zero]
  refine wpG_plain (.pointer (some ⟨w.heap.size, a, none⟩)) rfl (fun t' w' hI K hK => ?_) ?_
  · go_simp
    exact hK _ hI
  simp only [Act.put, List.setIfInBounds_toArray, List.set_cons_succ, List.set_cons_zero]
  refine wpG_read (.int .u32 (a1 : Int)) rfl (fun w' hI K hK => ?_) ?_
  · have c := p4.out W0 w' hI
    go_simp
    exact hK _ hI
  simp only [Act.put, List.setIfInBounds_toArray, List.set_cons_succ, List.set_cons_zero]
  refine wpG_plain (.int .i64 (b : Int)) rfl (fun t' w' hI K hK => ?_) ?_
  · go_simp
    exact hK _ hI
  simp only [Act.put, List.setIfInBounds_toArray, List.set_cons_succ, List.set_cons_zero]
  refine wpG_plain (.pointer (some ⟨w.heap.size, b, none⟩)) rfl (fun t' w' hI K hK => ?_) ?_
  · go_simp
    exact hK _ hI
  simp only [Act.put, List.setIfInBounds_toArray, List.set_cons_succ, List.set_cons_zero]
  refine wpG_read (.int .u32 (b1 : Int)) rfl (fun w' hI K hK => ?_) ?_
  · have c := q4.out W0 w' hI
    go_simp
    exact hK _ hI
  simp only [Act.put, List.setIfInBounds_toArray, List.set_cons_succ, List.set_cons_zero]
  refine wpG_plain (.int .u32 (a2 : Int)) rfl (fun t' w' hI K hK => ?_) ?_
  · have e := e3.out
    go_simp
    exact hK _ hI
  simp only [Act.put, List.setIfInBounds_toArray, List.set_cons_succ, List.set_cons_zero]
  refine wpG_plain (.pointer (some ⟨w.heap.size, a, none⟩)) rfl (fun t' w' hI K hK => ?_) ?_
  · go_simp
    exact hK _ hI
  simp only [Act.put, List.setIfInBounds_toArray, List.set_cons_succ, List.set_cons_zero]
  refine wpG_store rfl (fun w' hI K hK => ?_) ?_
  · obtain ⟨v, cw⟩ := o4.out _ W0 w' hI
    have fw := hI.frozen (i := a)
    go_simp
    exact hK _ hI.store
  simp only [Act.put]
  refine wpG_nil fun W5 hI5 => ?_
  have H5 : Hid (Rw .u32 w.heap.size 25 st5 W0 W5) := Z5.out ▸ hI5
  clear hI5 p4 q4 o4
  go_wp2_with fail
  refine wp_region_calm_g (fun s W => Rw .u32 w.heap.size 25 (one st5 d d2 s) W0 W) [0,0,0,1,0,0,1,0,0,0,2] (by kernel_rfl) (by kernel_rfl) (by kernel_rfl) (H5.out.drew) ?_
  refine wpG_plain (.int .i64 (d : Int)) rfl (fun t' w' hI K hK => ?_) ?_
  · go_simp
    exact hK _ hI
  simp only [Act.put, List.setIfInBounds_toArray, List.set_cons_succ, List.set_cons_zero]
  refine wpG_plain (.int .i64 (d : Int)) rfl (fun t' w' hI K hK => ?_) ?_
  · go_simp
    exact hK _ hI
  simp only [Act.put, List.setIfInBounds_toArray, List.set_cons_succ, List.set_cons_zero]
  refine wpG_plain (.pointer (some ⟨w.heap.size, d, none⟩)) rfl (fun t' w' hI K hK => ?_) ?_
  · go_simp
    exact hK _ hI
  simp only [Act.put, List.setIfInBounds_toArray, List.set_cons_succ, List.set_cons_zero]
  refine wpG_read (.int .u32 (d1 : Int)) rfl (fun w' hI K hK => ?_) ?_
  · have c := p5.out W0 w' hI
    go_simp
    exact hK _ hI
  simp only [Act.put, List.setIfInBounds_toArray, List.set_cons_succ, List.set_cons_zero]
  refine wpG_plain (.int .i64 (a : Int)) rfl (fun t' w' hI K hK => ?_) ?_
  · go_simp
    exact hK _ hI
  simp only [Act.put, List.setIfInBounds_toArray, List.set_cons_succ, List.set_cons_zero]
  refine wpG_plain (.pointer (some ⟨w.heap.size, a, none⟩)) rfl (fun t' w' hI K hK => ?_) ?_
  · go_simp
    exact hK _ hI
  simp only [Act.put, List.setIfInBounds_toArray, List.set_cons_succ, List.set_cons_zero]
  refine wpG_read (.int .u32 (a2 : Int)) rfl (fun w' hI K hK => ?_) ?_
  · have c := q5.out W0 w' hI
    go_simp
    exact hK _ hI
  simp only [Act.put, List.setIfInBounds_toArray, List.set_cons_succ, List.set_cons_zero]
  refine wpG_plain (.int .u32 (t3 : Int)) rfl (fun t' w' hI K hK => ?_) ?_
  · have e := f3.out
    go_simp
    exact hK _ hI
  simp only [Act.put, List.setIfInBounds_toArray, List.set_cons_succ, List.set_cons_zero]
  refine wpG_plain (.int .u32 (d2 : Int)) rfl (fun t' w' hI K hK => ?_) ?_
  · go_simp
    refine (turn8_any t3 M3.out w').mono ?_
    rintro e w'' ⟨rfl, rfl⟩
    rw [R3.out]
    exact ⟨_, rfl, hK _ hI⟩
  simp only [Act.put, List.setIfInBounds_toArray, List.set_cons_succ, List.set_cons_zero]
  refine wpG_plain (.pointer (some ⟨w.heap.size, d, none⟩)) rfl (fun t' w' hI K hK => ?_) ?_
  · go_simp
    exact hK _ hI
  simp only [Act.put, List.setIfInBounds_toArray, List.set_cons_succ, List.set_cons_zero]
  refine wpG_store rfl (fun w' hI K hK => ?_) ?_
  · obtain ⟨v, cw⟩ := o5.out _ W0 w' hI
    have fw := hI.frozen (i := d)
    go_simp
    exact hK _ hI.store
  simp only [Act.put]
  refine wpG_nil fun W6 hI6 => ?_
  have H6 : Hid (Rw .u32 w.heap.size 25 st6 W0 W6) := Z6.out ▸ hI6
  clear hI6 p5 q5 o5
  go_wp2_with fail
  refine wp_region_calm_g (fun s W => Rw .u32 w.heap.size 25 (one st6 c c2 s) W0 W) [0,0,1,0,0,1,0,0,2] (by kernel_rfl) (by kernel_rfl) (by kernel_rfl) (H6.out.drew) ?_
  refine wpG_plain (.int .i64 (c : Int)) rfl (fun t' w' hI K hK => ?_) ?_
  · go_simp
    exact hK _ hI
  simp only [Act.put, List.setIfInBounds_toArray, List.set_cons_succ, List.set_cons_zero]
  refine wpG_plain (.pointer (some ⟨w.heap.size, c, none⟩)) rfl (fun t' w' hI K hK => ?_) ?_
  · go_simp
    exact hK _ hI
  simp only [Act.put, List.setIfInBounds_toArray, List.set_cons_succ, List.set_cons_zero]
  refine wpG_read (.int .u32 (c1 : Int)) rfl (fun w' hI K hK => ?_) ?_
  · have c := p6.out W0 w' hI
    go_simp
    exact hK _ hI
  simp only [Act.put, List.setIfInBounds_toArray, List.set_cons_succ, List.set_cons_zero]
  refine wpG_plain (.int .i64 (d : Int)) rfl (fun t' w' hI K hK => ?_) ?_
  · go_simp
    exact hK _ hI
  simp only [Act.put, List.setIfInBounds_toArray, List.set_cons_succ, List.set_cons_zero]
  refine wpG_plain (.pointer (some ⟨w.heap.size, d, none⟩)) rfl (fun t' w' hI K hK => ?_) ?_
  · go_simp
    exact hK _ hI
  simp only [Act.put, List.setIfInBounds_toArray, List.set_cons_succ, List.set_cons_zero]
  refine wpG_read (.int .u32 (d2 : Int)) rfl (fun w' hI K hK => ?_) ?_
  · have c := q6.out W0 w' hI
    go_simp
    exact hK _ hI
  simp only [Act.put, List.setIfInBounds_toArray, List.set_cons_succ, List.set_cons_zero]
  refine wpG_plain (.int .u32 (c2 : Int)) rfl (fun t' w' hI K hK => ?_) ?_
  · have e := e4.out
    go_simp
    exact hK _ hI
  simp only [Act.put, List.setIfInBounds_toArray, List.set_cons_succ, List.set_cons_zero]
  refine wpG_plain (.pointer (some ⟨w.heap.size, c, none⟩)) rfl (fun t' w' hI K hK => ?_) ?_
  · go_simp
    exact hK _ hI
  simp only [Act.put, List.setIfInBounds_toArray, List.set_cons_succ, List.set_cons_zero]
  refine wpG_store rfl (fun w' hI K hK => ?_) ?_
  · obtain ⟨v, cw⟩ := o6.out _ W0 w' hI
    have fw := hI.frozen (i := c)
    go_simp
    exact hK _ hI.store
  simp only [Act.put]
  refine wpG_nil fun W7 hI7 => ?_
  have H7 : Hid (Rw .u32 w.heap.size 25 st7 W0 W7) := Z7.out ▸ hI7
  clear hI7 p6 q6 o6
  go_wp2_with fail
  refine wp_region_calm_g (fun s W => Rw .u32 w.heap.size 25 (one st7 b b2 s) W0 W) [0,0,0,1,0,0,1,0,0,0,2] (by kernel_rfl) (by kernel_rfl) (by kernel_rfl) (H7.out.drew) ?_
  refine wpG_plain (.int .i64 (b : Int)) rfl (fun t' w' hI K hK => ?_) ?_
  · go_simp
    exact hK _ hI
  simp only [Act.put, List.setIfInBounds_toArray, List.set_cons_succ, List.set_cons_zero]
  refine wpG_plain (.int .i64 (b : Int)) rfl (fun t' w' hI K hK => ?_) ?_
  · go_simp
    exact hK _ hI
  simp only [Act.put, List.setIfInBounds_toArray, List.set_cons_succ, List.set_cons_zero]
  refine wpG_plain (.pointer (some ⟨w.heap.size, b, none⟩)) rfl (fun t' w' hI K hK => ?_) ?_
  · go_simp
    exact hK _ hI
  simp only [Act.put, List.setIfInBounds_toArray, List.set_cons_succ, List.set_cons_zero]
  refine wpG_read (.int .u32 (b1 : Int)) rfl (fun w' hI K hK => ?_) ?_
  · have c := p7.out W0 w' hI
    go_simp
    exact hK _ hI
  simp only [Act.put, List.setIfInBounds_toArray, List.set_cons_succ, List.set_cons_zero]
  refine wpG_plain (.int .i64 (c : Int)) rfl (fun t' w' hI K hK => ?_) ?_
  · go_simp
    exact hK _ hI
  simp only [Act.put, List.setIfInBounds_toArray, List.set_cons_succ, List.set_cons_zero]
  refine wpG_plain (.pointer (some ⟨w.heap.size, c, none⟩)) rfl (fun t' w' hI K hK => ?_) ?_
  · go_simp
    exact hK _ hI
  simp only [Act.put, List.setIfInBounds_toArray, List.set_cons_succ, List.set_cons_zero]
  refine wpG_read (.int .u32 (c2 : Int)) rfl (fun w' hI K hK => ?_) ?_
  · have c := q7.out W0 w' hI
    go_simp
    exact hK _ hI
  simp only [Act.put, List.setIfInBounds_toArray, List.set_cons_succ, List.set_cons_zero]
  refine wpG_plain (.int .u32 (t4 : Int)) rfl (fun t' w' hI K hK => ?_) ?_
  · have e := f4.out
    go_simp
    exact hK _ hI
  simp only [Act.put, List.setIfInBounds_toArray, List.set_cons_succ, List.set_cons_zero]
  refine wpG_plain (.int .u32 (b2 : Int)) rfl (fun t' w' hI K hK => ?_) ?_
  · go_simp
    refine (turn7_any t4 M4.out w').mono ?_
    rintro e w'' ⟨rfl, rfl⟩
    rw [R4.out]
    exact ⟨_, rfl, hK _ hI⟩
  simp only [Act.put, List.setIfInBounds_toArray, List.set_cons_succ, List.set_cons_zero]
  refine wpG_plain (.pointer (some ⟨w.heap.size, b, none⟩)) rfl (fun t' w' hI K hK => ?_) ?_
  · go_simp
    exact hK _ hI
  simp only [Act.put, List.setIfInBounds_toArray, List.set_cons_succ, List.set_cons_zero]
  refine wpG_store rfl (fun w' hI K hK => ?_) ?_
  · obtain ⟨v, cw⟩ := o7.out _ W0 w' hI
    have fw := hI.frozen (i := b)
    go_simp
    exact hK _ hI.store
  simp only [Act.put]
  refine wpG_nil fun W8 hI8 => ?_
  have H8 : Hid (Rw .u32 w.heap.size 25 st8 W0 W8) := Z8.out ▸ hI8
  clear hI8 p7 q7 o7
  have hr8 := (H8.out.oth (w.heap.size + 1) (by omega)).trans hr0.out
  have hg8 := H8.out.row
  go_wp2_with (first
    | (refine wpList_load_row_if rfl 25 _ rfl _ rfl 25 _ (0, 0) _ hg8 Try.underlying25 rfl s25.out ?_)
    | (refine wpList_store_row rfl 25 _ _ rfl _ _ rfl rfl 25 _ hr8 s25.out s25e.out (av_one _ _) ?_))

  refine bodyPost_ret (v := .agg (av .u32 st8)) ?_ rfl ⟨rfl, below_setRow (hb0.out.trans (H8.out.below (Nat.le_refl _))) (by omega) _⟩
  exact results_cell_row rfl _ _ (w.heap.size + 1) 25 _ (0, 0) _ rfl (setRow_heap _ _ _ _ _ _ hr8) Try.underlying25 rfl s25.out
end Go.Proofs.Ythpjdgddpnpdpaa

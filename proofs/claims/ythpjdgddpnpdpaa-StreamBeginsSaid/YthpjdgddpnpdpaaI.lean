/- Walks over cipher's reference: Block. -/
import Derived.Test.YthpjdgddpnpdpaaH
namespace Go.Proofs.Ythpjdgddpnpdpaa
open Go.RowKit

structure RfI (key nonce st : List Nat) (w W : World) : Prop where
  k : W.heap[w.heap.size]? = some (.cells (av .u8 key) 29)
  n : W.heap[w.heap.size + 1]? = some (.cells (av .u8 nonce) 30)
  r : W.heap[w.heap.size + 1 + 1]? = some (.cells (av .u8 zeros64) 31)
  s : W.heap[w.heap.size + 1 + 1 + 1]? = some (.cells (av .u32 st) 25)
  b : Below w.heap.size w W
theorem RfI.dr {key nonce st : List Nat} {w W W' : World} (h : RfI key nonce st w W) (d : Dr W W') : RfI key nonce st w W' :=
  ⟨by rw [d.heap]; exact h.k, by rw [d.heap]; exact h.n, by rw [d.heap]; exact h.r, by rw [d.heap]; exact h.s, h.b.trans d.below⟩
theorem RfI.cw {key nonce st : List Nat} {i : Nat} {w W : World} (h : RfI key nonce st w W) (hi : i < st.length) : ∃ v, W.cell? ⟨w.heap.size + 1 + 1 + 1, i, none⟩ = some v := ⟨_, by rw [cell_of_row _ _ _ _ _ _ h.s, av_get _ _ _ hi]⟩
theorem RfI.fw {key nonce st : List Nat} {i : Nat} {w W : World} (h : RfI key nonce st w W) : W.frozen? ⟨w.heap.size + 1 + 1 + 1, i, none⟩ = false := frozen_of_row _ _ _ _ _ h.s
theorem RfI.store {key nonce st st' : List Nat} {i x : Nat} {w W : World} (h : RfI key nonce st w W) (e : st.set i x = st') : RfI key nonce st' w (W.setCell ⟨w.heap.size + 1 + 1 + 1, i, none⟩ (.int .u32 (x : Int))) :=
  ⟨by rw [heap_setCell_other _ _ _ _ (by simp; omega)]; exact h.k, by rw [heap_setCell_other _ _ _ _ (by simp)]; exact h.n, by rw [heap_setCell_other _ _ _ _ (by simp)]; exact h.r,
   by rw [heap_setCell_same _ _ _ _ _ _ h.s, av_set, e], h.b.setCell (by simp; omega) _⟩
/-- The double rounds' world: the first numbers, the zero result, the numbers as they are. -/
structure RbI (st cur : List Nat) (w : World) (sb : Nat) (W : World) : Prop where
  r : W.heap[w.heap.size + 1 + 1]? = some (.cells (av .u8 zeros64) 31)
  f : W.heap[w.heap.size + 1 + 1 + 1]? = some (.cells (av .u32 st) 25)
  s : W.heap[sb]? = some (.cells (av .u32 cur) 25)
  b : Below w.heap.size w W
  l : w.heap.size + 1 + 1 + 1 < sb
theorem RbI.step {st cur cur' : List Nat} {w W W' : World} {sb : Nat} (h : RbI st cur w sb W) (hb : Below W.heap.size W W') : RbI st cur' w sb (W'.setRow sb (av .u32 cur')) := by
  have l1 := (Array.getElem?_eq_some_iff.1 h.r).1
  have l2 := (Array.getElem?_eq_some_iff.1 h.f).1
  have l3 := (Array.getElem?_eq_some_iff.1 h.s).1
  have l := h.l
  exact ⟨by rw [setRow_other _ _ _ _ (by omega)]; exact old_row hb l1 h.r, by rw [setRow_other _ _ _ _ (by omega)]; exact old_row hb l2 h.f, setRow_heap _ _ _ _ _ _ (old_row hb l3 h.s),
    below_setRow (h.b.trans (hb.mono h.b.size)) (by omega) _, l⟩
theorem RbI.old {st cur : List Nat} {w W W' : World} {sb : Nat} (h : RbI st cur w sb W) (hb : Below W.heap.size W W') : W'.heap[sb]? = some (.cells (av .u32 cur) 25) :=
  old_row hb (Array.getElem?_eq_some_iff.1 h.s).1 h.s
def sh (z k : Nat) : Nat := z / 256 ^ k
/-- The bytes' world. -/
structure RoI (S st out : List Nat) (w : World) (sb ob : Nat) (W : World) : Prop where
  r : W.heap[w.heap.size + 1 + 1]? = some (.cells (av .u8 zeros64) 31)
  f : W.heap[w.heap.size + 1 + 1 + 1]? = some (.cells (av .u32 st) 25)
  s : W.heap[sb]? = some (.cells (av .u32 S) 25)
  o : W.heap[ob]? = some (.cells (av .u8 out) 31)
  b : Below w.heap.size w W
  l : w.heap.size + 1 + 1 + 1 < sb
  m : sb < ob
theorem RoI.dr {S st out : List Nat} {w W : World} {sb ob : Nat} (h : RoI S st out w sb ob W) : RoI S st out w sb ob W.drew := ⟨h.r, h.f, h.s, h.o, h.b.drew, h.l, h.m⟩
theorem RoI.store {S st out out' : List Nat} {w W : World} {sb ob i x : Nat} (h : RoI S st out w sb ob W) (e : out.set i x = out') : RoI S st out' w sb ob (W.setCell ⟨ob, i, none⟩ (.int .u8 (x : Int))) := by
  have l := h.l
  have m := h.m
  exact ⟨by rw [heap_setCell_other _ _ _ _ (by simp; omega)]; exact h.r, by rw [heap_setCell_other _ _ _ _ (by simp; omega)]; exact h.f, by rw [heap_setCell_other _ _ _ _ (by simp; omega)]; exact h.s,
    by rw [heap_setCell_same _ _ _ _ _ _ h.o, av_set, e], h.b.setCell (by simp; omega) _, l, m⟩

set_option maxRecDepth 100000 in
set_option maxHeartbeats 8000000 in
theorem refblock_any (key nonce : List Nat) (ctr : Nat) (hk : key.length = 32) (hn : nonce.length = 12) (hkb : W8 key) (hnb : W8 nonce) (hc : ctr < 4294967296) (w : World) :
    Calls Try.prog 17 #[.agg (av .u8 key), .int .u32 ctr, .agg (av .u8 nonce)] w fun e w' => e = .returned (.agg (av .u8 (blockN key ctr nonce))) ∧ Below w.heap.size w w' := by
  have hz : Hid ((Try.prog.info? 31).bind (·.zero) = some (.agg (av .u8 zeros64))) := by rw [Hid]; kernel_rfl
  have hz25 : Hid ((Try.prog.info? 25).bind (·.zero) = some (.agg (av .u32 zeros16))) := by rw [Hid]; kernel_rfl
  have H0 : Hid (RfI key nonce (keyTo key 0) w ((((w.alloc (.cells (av .u8 key) 29)).alloc (.cells (av .u8 nonce) 30)).alloc (.cells (av .u8 zeros64) 31)).alloc (.cells (av .u32 (keyTo key 0)) 25))) := by
    refine ⟨?_, ?_, ?_, ?_, ?_⟩
    · exact old_alloc _ (get3_0 _ _ _ _)
    · exact old_alloc _ (get3_1 _ _ _ _)
    · exact old_alloc _ (get3_2 _ _ _ _)
    · rw [alloc_get, if_pos (by simp)]
    · exact (below3 _ _ _ _).alloc (by simp; omega) _
  obtain ⟨st, hst⟩ : ∃ st, Hid (startN key ctr nonce = st) := ⟨_, rfl⟩
  have hL : Hid (st.length = 16) := by rw [Hid, ← hst.out]; exact startN_length _ _ _
  have h32 : Hid (W32 st) := by rw [Hid, ← hst.out]; exact startN_w32 key ctr nonce hkb hnb hc
  have hB : Hid (blockN key ctr nonce = outTo (dblTo st 10) st 16) := by rw [Hid, ← hst.out, blockN]
  rw [hB.out]
  clear hB
  have hk := Lib.hid hk
  have hn := Lib.hid hn
  have hkb := Lib.hid hkb
  have hnb := Lib.hid hnb
  clear hc
  go_enter Try.func17, Try.ntmps17
  go_wp2_with (refine wpList_alloc_as rfl 31 rfl (av .u8 zeros64) hz.out ?_)
  have e1 : (w.alloc (.cells (av .u8 key) 29)).heap.size = w.heap.size + 1 := by simp
  have e2 : ((w.alloc (.cells (av .u8 key) 29)).alloc (.cells (av .u8 nonce) 30)).heap.size = w.heap.size + 1 + 1 := by simp
  try rw [e2]
  try rw [e1]
  clear e1 e2
  go_loopw [8] (fun v wr => ∃ j : Nat, j ≤ 8 ∧ v = .int .i64 j ∧ RfI key nonce (keyTo key j) w wr) (fun v _ => 8 - (intOf v).toNat)
  case atStart => exact ⟨0, by omega, rfl, H0.out⟩
  case round =>
    obtain ⟨j, hj, rfl, hw⟩ := hrel
    clear H0
    match j, hj, hw with
    | 0, hj, hw =>
      go_wp2_with fail
      refine (refnumber_any (w.heap.size) 29 0 4 32 key (by rw [hk.out]; omega) hkb.out (by omega) _ hw.k).mono ?_
      rintro e w' ⟨rfl, hd⟩
      have hI := hw.dr hd
      obtain ⟨v, cw⟩ := hI.cw (i := 4) (by rw [keyTo_length]; omega)
      have fw := hI.fw (i := 4)
      go_wp2
      go_roundw
      case rel => first | exact ⟨1, by omega, rfl, hI.store (keyTo_set key 0 (by omega))⟩ | ((repeat apply Exists.intro); exact ⟨⟨1, by omega, rfl, hI.store (keyTo_set key 0 (by omega))⟩, rfl⟩)
      case measure => simp [intOf]
    | 1, hj, hw =>
      go_wp2_with fail
      refine (refnumber_any (w.heap.size) 29 4 4 28 key (by rw [hk.out]; omega) hkb.out (by omega) _ hw.k).mono ?_
      rintro e w' ⟨rfl, hd⟩
      have hI := hw.dr hd
      obtain ⟨v, cw⟩ := hI.cw (i := 5) (by rw [keyTo_length]; omega)
      have fw := hI.fw (i := 5)
      go_wp2
      go_roundw
      case rel => first | exact ⟨2, by omega, rfl, hI.store (keyTo_set key 1 (by omega))⟩ | ((repeat apply Exists.intro); exact ⟨⟨2, by omega, rfl, hI.store (keyTo_set key 1 (by omega))⟩, rfl⟩)
      case measure => simp [intOf]
    | 2, hj, hw =>
      go_wp2_with fail
      refine (refnumber_any (w.heap.size) 29 8 4 24 key (by rw [hk.out]; omega) hkb.out (by omega) _ hw.k).mono ?_
      rintro e w' ⟨rfl, hd⟩
      have hI := hw.dr hd
      obtain ⟨v, cw⟩ := hI.cw (i := 6) (by rw [keyTo_length]; omega)
      have fw := hI.fw (i := 6)
      go_wp2
      go_roundw
      case rel => first | exact ⟨3, by omega, rfl, hI.store (keyTo_set key 2 (by omega))⟩ | ((repeat apply Exists.intro); exact ⟨⟨3, by omega, rfl, hI.store (keyTo_set key 2 (by omega))⟩, rfl⟩)
      case measure => simp [intOf]
    | 3, hj, hw =>
      go_wp2_with fail
      refine (refnumber_any (w.heap.size) 29 12 4 20 key (by rw [hk.out]; omega) hkb.out (by omega) _ hw.k).mono ?_
      rintro e w' ⟨rfl, hd⟩
      have hI := hw.dr hd
      obtain ⟨v, cw⟩ := hI.cw (i := 7) (by rw [keyTo_length]; omega)
      have fw := hI.fw (i := 7)
      go_wp2
      go_roundw
      case rel => first | exact ⟨4, by omega, rfl, hI.store (keyTo_set key 3 (by omega))⟩ | ((repeat apply Exists.intro); exact ⟨⟨4, by omega, rfl, hI.store (keyTo_set key 3 (by omega))⟩, rfl⟩)
      case measure => simp [intOf]
    | 4, hj, hw =>
      go_wp2_with fail
      refine (refnumber_any (w.heap.size) 29 16 4 16 key (by rw [hk.out]; omega) hkb.out (by omega) _ hw.k).mono ?_
      rintro e w' ⟨rfl, hd⟩
      have hI := hw.dr hd
      obtain ⟨v, cw⟩ := hI.cw (i := 8) (by rw [keyTo_length]; omega)
      have fw := hI.fw (i := 8)
      go_wp2
      go_roundw
      case rel => first | exact ⟨5, by omega, rfl, hI.store (keyTo_set key 4 (by omega))⟩ | ((repeat apply Exists.intro); exact ⟨⟨5, by omega, rfl, hI.store (keyTo_set key 4 (by omega))⟩, rfl⟩)
      case measure => simp [intOf]
    | 5, hj, hw =>
      go_wp2_with fail
      refine (refnumber_any (w.heap.size) 29 20 4 12 key (by rw [hk.out]; omega) hkb.out (by omega) _ hw.k).mono ?_
      rintro e w' ⟨rfl, hd⟩
      have hI := hw.dr hd
      obtain ⟨v, cw⟩ := hI.cw (i := 9) (by rw [keyTo_length]; omega)
      have fw := hI.fw (i := 9)
      go_wp2
      go_roundw
      case rel => first | exact ⟨6, by omega, rfl, hI.store (keyTo_set key 5 (by omega))⟩ | ((repeat apply Exists.intro); exact ⟨⟨6, by omega, rfl, hI.store (keyTo_set key 5 (by omega))⟩, rfl⟩)
      case measure => simp [intOf]
    | 6, hj, hw =>
      go_wp2_with fail
      refine (refnumber_any (w.heap.size) 29 24 4 8 key (by rw [hk.out]; omega) hkb.out (by omega) _ hw.k).mono ?_
      rintro e w' ⟨rfl, hd⟩
      have hI := hw.dr hd
      obtain ⟨v, cw⟩ := hI.cw (i := 10) (by rw [keyTo_length]; omega)
      have fw := hI.fw (i := 10)
      go_wp2
      go_roundw
      case rel => first | exact ⟨7, by omega, rfl, hI.store (keyTo_set key 6 (by omega))⟩ | ((repeat apply Exists.intro); exact ⟨⟨7, by omega, rfl, hI.store (keyTo_set key 6 (by omega))⟩, rfl⟩)
      case measure => simp [intOf]
    | 7, hj, hw =>
      go_wp2_with fail
      refine (refnumber_any (w.heap.size) 29 28 4 4 key (by rw [hk.out]; omega) hkb.out (by omega) _ hw.k).mono ?_
      rintro e w' ⟨rfl, hd⟩
      have hI := hw.dr hd
      obtain ⟨v, cw⟩ := hI.cw (i := 11) (by rw [keyTo_length]; omega)
      have fw := hI.fw (i := 11)
      go_wp2
      go_roundw
      case rel => first | exact ⟨8, by omega, rfl, hI.store (keyTo_set key 7 (by omega))⟩ | ((repeat apply Exists.intro); exact ⟨⟨8, by omega, rfl, hI.store (keyTo_set key 7 (by omega))⟩, rfl⟩)
      case measure => simp [intOf]
    | 8, hj, hw =>
      obtain ⟨v, cw⟩ := hw.cw (i := 12) (by rw [keyTo_length]; omega)
      have fw := hw.fw (i := 12)
      have hs : Hid (RfI key nonce (nonceTo key ctr nonce 0) w (wr.setCell ⟨w.heap.size + 1 + 1 + 1, 12, none⟩ (.int .u32 (ctr : Int)))) := hw.store (keyTo_ctr key nonce ctr)
      clear hw
      go_wp2_with fail
      go_loopw [9] (fun v wr => ∃ j : Nat, j ≤ 3 ∧ v = .int .i64 j ∧ RfI key nonce (nonceTo key ctr nonce j) w wr) (fun v _ => 3 - (intOf v).toNat)
      case atStart => exact ⟨0, by omega, rfl, hs.out⟩
      case round =>
      obtain ⟨j, hj, rfl, hw⟩ := hrel
      clear hs
      match j, hj, hw with
      | 0, hj, hw =>
        go_wp2_with fail
        refine (refnumber_any (w.heap.size + 1) 30 0 4 12 nonce (by rw [hn.out]; omega) hnb.out (by omega) _ hw.n).mono ?_
        rintro e w' ⟨rfl, hd⟩
        have hI := hw.dr hd
        obtain ⟨v, cw⟩ := hI.cw (i := 13) (by rw [nonceTo_length]; omega)
        have fw := hI.fw (i := 13)
        go_wp2
        go_roundw
        case rel => first | exact ⟨1, by omega, rfl, hI.store (nonceTo_set key nonce ctr 0 (by omega))⟩ | ((repeat apply Exists.intro); exact ⟨⟨1, by omega, rfl, hI.store (nonceTo_set key nonce ctr 0 (by omega))⟩, rfl⟩)
        case measure => simp [intOf]
      | 1, hj, hw =>
        go_wp2_with fail
        refine (refnumber_any (w.heap.size + 1) 30 4 4 8 nonce (by rw [hn.out]; omega) hnb.out (by omega) _ hw.n).mono ?_
        rintro e w' ⟨rfl, hd⟩
        have hI := hw.dr hd
        obtain ⟨v, cw⟩ := hI.cw (i := 14) (by rw [nonceTo_length]; omega)
        have fw := hI.fw (i := 14)
        go_wp2
        go_roundw
        case rel => first | exact ⟨2, by omega, rfl, hI.store (nonceTo_set key nonce ctr 1 (by omega))⟩ | ((repeat apply Exists.intro); exact ⟨⟨2, by omega, rfl, hI.store (nonceTo_set key nonce ctr 1 (by omega))⟩, rfl⟩)
        case measure => simp [intOf]
      | 2, hj, hw =>
        go_wp2_with fail
        refine (refnumber_any (w.heap.size + 1) 30 8 4 4 nonce (by rw [hn.out]; omega) hnb.out (by omega) _ hw.n).mono ?_
        rintro e w' ⟨rfl, hd⟩
        have hI := hw.dr hd
        obtain ⟨v, cw⟩ := hI.cw (i := 15) (by rw [nonceTo_length]; omega)
        have fw := hI.fw (i := 15)
        go_wp2
        go_roundw
        case rel => first | exact ⟨3, by omega, rfl, hI.store (nonceTo_set key nonce ctr 2 (by omega))⟩ | ((repeat apply Exists.intro); exact ⟨⟨3, by omega, rfl, hI.store (nonceTo_set key nonce ctr 2 (by omega))⟩, rfl⟩)
        case measure => simp [intOf]
      | 3, hj, hw =>
        have hw1 : Hid (RfI key nonce st w wr) := by rw [Hid, ← hst.out]; exact hw
        clear hw hst hk hn hkb hnb
        have s25 : Hid ((Try.prog.info? 25).map (·.size) = some (av .u32 st).size) := by rw [Hid, av_size, hL.out]; kernel_rfl
        have s25e : Hid ((av .u32 st).size = (av .u32 zeros16).size) := by rw [Hid, av_size, av_size, hL.out]; rfl
        have hf1 := hw1.out.s
        go_wp2_with (first
          | (refine wpList_alloc_as rfl 25 rfl (av .u32 zeros16) hz25.out ?_)
          | (refine wpList_load_row_if rfl 25 _ rfl _ rfl 25 _ (0, 0) _ hf1 Try.underlying25 rfl s25.out ?_)
          | (refine wpList_store_row rfl 25 _ _ rfl _ _ rfl rfl 25 _ (heap_new wr _) s25.out s25e.out.symm (av_one _ _) ?_; rw [alloc_setRow]))
        obtain ⟨sb, hsb⟩ : ∃ sb, wr.heap.size = sb := ⟨_, rfl⟩
        rw [hsb]
        have hR0 : Hid (RbI st (dblTo st 0) w sb (wr.alloc (.cells (av .u32 st) 25))) := by
          have l3 := (Array.getElem?_eq_some_iff.1 hw1.out.s).1
          refine ⟨old_alloc _ hw1.out.r, old_alloc _ hw1.out.s, ?_, hw1.out.b.alloc hw1.out.b.size _, by omega⟩
          rw [← hsb, alloc_get, if_pos rfl]; rfl
        clear hw1 hf1 hsb hz25 s25 s25e
        have L := Lib.hid (dblTo_length st)
        have B := Lib.hid (dblTo_w32 st h32.out)
        go_loopw [11] (fun v wr => ∃ j : Nat, j ≤ 10 ∧ v = .int .i64 j ∧ RbI st (dblTo st j) w sb wr) (fun v _ => 10 - (intOf v).toNat)
        case atStart => exact ⟨0, by omega, rfl, hR0.out⟩
        case round =>
        obtain ⟨j, hj, rfl, hw⟩ := hrel
        clear hR0
        by_cases hj10 : j < 10
        · obtain ⟨c0, hC0⟩ : ∃ c, Hid (c = dblTo st j) := ⟨_, rfl⟩
          have y0 : Hid (c0.length = 16) := by rw [hC0.out]; exact (L.out j).trans hL.out
          have z0 : Hid (W32 c0) := by rw [hC0.out]; exact B.out j
          have g0 : RbI st c0 w sb wr := by rw [hC0.out]; exact hw
          clear hw
          have s0 := g0.s
          have k0 : Hid ((Try.prog.info? 25).map (·.size) = some (av .u32 c0).size) := by rw [Hid, av_size, y0.out]; kernel_rfl
          have W0 := Lib.hid g0
          clear g0
          go_wp2_with (refine wpList_load_row_if rfl 25 _ rfl _ rfl 25 _ (0, 0) _ s0 Try.underlying25 rfl k0.out ?_)
          refine (refq_any c0 y0.out z0.out 0 4 8 12 (by omega) (by omega) (by omega) (by omega) (by omega) (by omega) (by omega) (by omega) (by omega) (by omega) _).mono ?_
          rintro e w' ⟨rfl, hb⟩
          obtain ⟨c1, C1⟩ : ∃ q, Hid (qst c0 0 4 8 12 = q) := ⟨_, rfl⟩
          rw [C1.out]
          have y1 : Hid (c1.length = 16) := by rw [← C1.out, qst_length]; exact y0.out
          have z1 : Hid (W32 c1) := by rw [← C1.out]; exact qst_w32 _ _ _ _ _ z0.out
          have k1 : Hid ((Try.prog.info? 25).map (·.size) = some (av .u32 c1).size) := by rw [Hid, av_size, y1.out]; kernel_rfl
          have ke : Hid ((av .u32 c0).size = (av .u32 c1).size) := by rw [Hid, av_size, av_size, y0.out, y1.out]
          have g : Hid (RbI st c1 w sb (w'.setRow sb (av .u32 c1))) := W0.out.step hb
          have so := W0.out.old hb
          clear s0 k0 W0 hb
          go_wp2_with (first
            | (refine wpList_store_row rfl 25 _ _ rfl _ _ rfl rfl 25 _ so k1.out ke.out (av_one _ _) ?_)
            | (refine wpList_load_row_if rfl 25 _ rfl _ rfl 25 _ (0, 0) _ (setRow_heap _ _ _ _ _ _ so) Try.underlying25 rfl k1.out ?_))
          clear so ke
          obtain ⟨w1, hw1⟩ : ∃ W, w'.setRow sb (av .u32 c1) = W := ⟨_, rfl⟩
          rw [hw1] at g ⊢
          clear hw1
          have s1 := g.out.s
          have W1 := g
          clear g
          refine (refq_any c1 y1.out z1.out 1 5 9 13 (by omega) (by omega) (by omega) (by omega) (by omega) (by omega) (by omega) (by omega) (by omega) (by omega) _).mono ?_
          rintro e w' ⟨rfl, hb⟩
          obtain ⟨c2, C2⟩ : ∃ q, Hid (qst c1 1 5 9 13 = q) := ⟨_, rfl⟩
          rw [C2.out]
          have y2 : Hid (c2.length = 16) := by rw [← C2.out, qst_length]; exact y1.out
          have z2 : Hid (W32 c2) := by rw [← C2.out]; exact qst_w32 _ _ _ _ _ z1.out
          have k2 : Hid ((Try.prog.info? 25).map (·.size) = some (av .u32 c2).size) := by rw [Hid, av_size, y2.out]; kernel_rfl
          have ke : Hid ((av .u32 c1).size = (av .u32 c2).size) := by rw [Hid, av_size, av_size, y1.out, y2.out]
          have g : Hid (RbI st c2 w sb (w'.setRow sb (av .u32 c2))) := W1.out.step hb
          have so := W1.out.old hb
          clear s1 k1 W1 hb
          go_wp2_with (first
            | (refine wpList_store_row rfl 25 _ _ rfl _ _ rfl rfl 25 _ so k2.out ke.out (av_one _ _) ?_)
            | (refine wpList_load_row_if rfl 25 _ rfl _ rfl 25 _ (0, 0) _ (setRow_heap _ _ _ _ _ _ so) Try.underlying25 rfl k2.out ?_))
          clear so ke
          obtain ⟨w2, hw2⟩ : ∃ W, w'.setRow sb (av .u32 c2) = W := ⟨_, rfl⟩
          rw [hw2] at g ⊢
          clear hw2
          have s2 := g.out.s
          have W2 := g
          clear g
          refine (refq_any c2 y2.out z2.out 2 6 10 14 (by omega) (by omega) (by omega) (by omega) (by omega) (by omega) (by omega) (by omega) (by omega) (by omega) _).mono ?_
          rintro e w' ⟨rfl, hb⟩
          obtain ⟨c3, C3⟩ : ∃ q, Hid (qst c2 2 6 10 14 = q) := ⟨_, rfl⟩
          rw [C3.out]
          have y3 : Hid (c3.length = 16) := by rw [← C3.out, qst_length]; exact y2.out
          have z3 : Hid (W32 c3) := by rw [← C3.out]; exact qst_w32 _ _ _ _ _ z2.out
          have k3 : Hid ((Try.prog.info? 25).map (·.size) = some (av .u32 c3).size) := by rw [Hid, av_size, y3.out]; kernel_rfl
          have ke : Hid ((av .u32 c2).size = (av .u32 c3).size) := by rw [Hid, av_size, av_size, y2.out, y3.out]
          have g : Hid (RbI st c3 w sb (w'.setRow sb (av .u32 c3))) := W2.out.step hb
          have so := W2.out.old hb
          clear s2 k2 W2 hb
          go_wp2_with (first
            | (refine wpList_store_row rfl 25 _ _ rfl _ _ rfl rfl 25 _ so k3.out ke.out (av_one _ _) ?_)
            | (refine wpList_load_row_if rfl 25 _ rfl _ rfl 25 _ (0, 0) _ (setRow_heap _ _ _ _ _ _ so) Try.underlying25 rfl k3.out ?_))
          clear so ke
          obtain ⟨w3, hw3⟩ : ∃ W, w'.setRow sb (av .u32 c3) = W := ⟨_, rfl⟩
          rw [hw3] at g ⊢
          clear hw3
          have s3 := g.out.s
          have W3 := g
          clear g
          refine (refq_any c3 y3.out z3.out 3 7 11 15 (by omega) (by omega) (by omega) (by omega) (by omega) (by omega) (by omega) (by omega) (by omega) (by omega) _).mono ?_
          rintro e w' ⟨rfl, hb⟩
          obtain ⟨c4, C4⟩ : ∃ q, Hid (qst c3 3 7 11 15 = q) := ⟨_, rfl⟩
          rw [C4.out]
          have y4 : Hid (c4.length = 16) := by rw [← C4.out, qst_length]; exact y3.out
          have z4 : Hid (W32 c4) := by rw [← C4.out]; exact qst_w32 _ _ _ _ _ z3.out
          have k4 : Hid ((Try.prog.info? 25).map (·.size) = some (av .u32 c4).size) := by rw [Hid, av_size, y4.out]; kernel_rfl
          have ke : Hid ((av .u32 c3).size = (av .u32 c4).size) := by rw [Hid, av_size, av_size, y3.out, y4.out]
          have g : Hid (RbI st c4 w sb (w'.setRow sb (av .u32 c4))) := W3.out.step hb
          have so := W3.out.old hb
          clear s3 k3 W3 hb
          go_wp2_with (first
            | (refine wpList_store_row rfl 25 _ _ rfl _ _ rfl rfl 25 _ so k4.out ke.out (av_one _ _) ?_)
            | (refine wpList_load_row_if rfl 25 _ rfl _ rfl 25 _ (0, 0) _ (setRow_heap _ _ _ _ _ _ so) Try.underlying25 rfl k4.out ?_))
          clear so ke
          obtain ⟨w4, hw4⟩ : ∃ W, w'.setRow sb (av .u32 c4) = W := ⟨_, rfl⟩
          rw [hw4] at g ⊢
          clear hw4
          have s4 := g.out.s
          have W4 := g
          clear g
          refine (refq_any c4 y4.out z4.out 0 5 10 15 (by omega) (by omega) (by omega) (by omega) (by omega) (by omega) (by omega) (by omega) (by omega) (by omega) _).mono ?_
          rintro e w' ⟨rfl, hb⟩
          obtain ⟨c5, C5⟩ : ∃ q, Hid (qst c4 0 5 10 15 = q) := ⟨_, rfl⟩
          rw [C5.out]
          have y5 : Hid (c5.length = 16) := by rw [← C5.out, qst_length]; exact y4.out
          have z5 : Hid (W32 c5) := by rw [← C5.out]; exact qst_w32 _ _ _ _ _ z4.out
          have k5 : Hid ((Try.prog.info? 25).map (·.size) = some (av .u32 c5).size) := by rw [Hid, av_size, y5.out]; kernel_rfl
          have ke : Hid ((av .u32 c4).size = (av .u32 c5).size) := by rw [Hid, av_size, av_size, y4.out, y5.out]
          have g : Hid (RbI st c5 w sb (w'.setRow sb (av .u32 c5))) := W4.out.step hb
          have so := W4.out.old hb
          clear s4 k4 W4 hb
          go_wp2_with (first
            | (refine wpList_store_row rfl 25 _ _ rfl _ _ rfl rfl 25 _ so k5.out ke.out (av_one _ _) ?_)
            | (refine wpList_load_row_if rfl 25 _ rfl _ rfl 25 _ (0, 0) _ (setRow_heap _ _ _ _ _ _ so) Try.underlying25 rfl k5.out ?_))
          clear so ke
          obtain ⟨w5, hw5⟩ : ∃ W, w'.setRow sb (av .u32 c5) = W := ⟨_, rfl⟩
          rw [hw5] at g ⊢
          clear hw5
          have s5 := g.out.s
          have W5 := g
          clear g
          refine (refq_any c5 y5.out z5.out 1 6 11 12 (by omega) (by omega) (by omega) (by omega) (by omega) (by omega) (by omega) (by omega) (by omega) (by omega) _).mono ?_
          rintro e w' ⟨rfl, hb⟩
          obtain ⟨c6, C6⟩ : ∃ q, Hid (qst c5 1 6 11 12 = q) := ⟨_, rfl⟩
          rw [C6.out]
          have y6 : Hid (c6.length = 16) := by rw [← C6.out, qst_length]; exact y5.out
          have z6 : Hid (W32 c6) := by rw [← C6.out]; exact qst_w32 _ _ _ _ _ z5.out
          have k6 : Hid ((Try.prog.info? 25).map (·.size) = some (av .u32 c6).size) := by rw [Hid, av_size, y6.out]; kernel_rfl
          have ke : Hid ((av .u32 c5).size = (av .u32 c6).size) := by rw [Hid, av_size, av_size, y5.out, y6.out]
          have g : Hid (RbI st c6 w sb (w'.setRow sb (av .u32 c6))) := W5.out.step hb
          have so := W5.out.old hb
          clear s5 k5 W5 hb
          go_wp2_with (first
            | (refine wpList_store_row rfl 25 _ _ rfl _ _ rfl rfl 25 _ so k6.out ke.out (av_one _ _) ?_)
            | (refine wpList_load_row_if rfl 25 _ rfl _ rfl 25 _ (0, 0) _ (setRow_heap _ _ _ _ _ _ so) Try.underlying25 rfl k6.out ?_))
          clear so ke
          obtain ⟨w6, hw6⟩ : ∃ W, w'.setRow sb (av .u32 c6) = W := ⟨_, rfl⟩
          rw [hw6] at g ⊢
          clear hw6
          have s6 := g.out.s
          have W6 := g
          clear g
          refine (refq_any c6 y6.out z6.out 2 7 8 13 (by omega) (by omega) (by omega) (by omega) (by omega) (by omega) (by omega) (by omega) (by omega) (by omega) _).mono ?_
          rintro e w' ⟨rfl, hb⟩
          obtain ⟨c7, C7⟩ : ∃ q, Hid (qst c6 2 7 8 13 = q) := ⟨_, rfl⟩
          rw [C7.out]
          have y7 : Hid (c7.length = 16) := by rw [← C7.out, qst_length]; exact y6.out
          have z7 : Hid (W32 c7) := by rw [← C7.out]; exact qst_w32 _ _ _ _ _ z6.out
          have k7 : Hid ((Try.prog.info? 25).map (·.size) = some (av .u32 c7).size) := by rw [Hid, av_size, y7.out]; kernel_rfl
          have ke : Hid ((av .u32 c6).size = (av .u32 c7).size) := by rw [Hid, av_size, av_size, y6.out, y7.out]
          have g : Hid (RbI st c7 w sb (w'.setRow sb (av .u32 c7))) := W6.out.step hb
          have so := W6.out.old hb
          clear s6 k6 W6 hb
          go_wp2_with (first
            | (refine wpList_store_row rfl 25 _ _ rfl _ _ rfl rfl 25 _ so k7.out ke.out (av_one _ _) ?_)
            | (refine wpList_load_row_if rfl 25 _ rfl _ rfl 25 _ (0, 0) _ (setRow_heap _ _ _ _ _ _ so) Try.underlying25 rfl k7.out ?_))
          clear so ke
          obtain ⟨w7, hw7⟩ : ∃ W, w'.setRow sb (av .u32 c7) = W := ⟨_, rfl⟩
          rw [hw7] at g ⊢
          clear hw7
          have s7 := g.out.s
          have W7 := g
          clear g
          refine (refq_any c7 y7.out z7.out 3 4 9 14 (by omega) (by omega) (by omega) (by omega) (by omega) (by omega) (by omega) (by omega) (by omega) (by omega) _).mono ?_
          rintro e w' ⟨rfl, hb⟩
          obtain ⟨c8, C8⟩ : ∃ q, Hid (qst c7 3 4 9 14 = q) := ⟨_, rfl⟩
          rw [C8.out]
          have y8 : Hid (c8.length = 16) := by rw [← C8.out, qst_length]; exact y7.out
          have z8 : Hid (W32 c8) := by rw [← C8.out]; exact qst_w32 _ _ _ _ _ z7.out
          have k8 : Hid ((Try.prog.info? 25).map (·.size) = some (av .u32 c8).size) := by rw [Hid, av_size, y8.out]; kernel_rfl
          have ke : Hid ((av .u32 c7).size = (av .u32 c8).size) := by rw [Hid, av_size, av_size, y7.out, y8.out]
          have g : Hid (RbI st c8 w sb (w'.setRow sb (av .u32 c8))) := W7.out.step hb
          have so := W7.out.old hb
          clear s7 k7 W7 hb
          go_wp2_with (first
            | (refine wpList_store_row rfl 25 _ _ rfl _ _ rfl rfl 25 _ so k8.out ke.out (av_one _ _) ?_)
            | (refine wpList_load_row_if rfl 25 _ rfl _ rfl 25 _ (0, 0) _ (setRow_heap _ _ _ _ _ _ so) Try.underlying25 rfl k8.out ?_))
          clear so ke
          obtain ⟨w8, hw8⟩ : ∃ W, w'.setRow sb (av .u32 c8) = W := ⟨_, rfl⟩
          rw [hw8] at g ⊢
          clear hw8
          have s8 := g.out.s
          have W8 := g
          clear g
          have hE : Hid (c8 = dblTo st (j + 1)) := by
            rw [Hid, ← C8.out, ← C7.out, ← C6.out, ← C5.out, ← C4.out, ← C3.out, ← C2.out, ← C1.out, hC0.out]; rfl
          have hW : Hid (RbI st (dblTo st (j + 1)) w sb w8) := by rw [Hid, ← hE.out]; exact W8.out
          clear W8 hE s8 k8
          go_roundw
          case rel => first | exact ⟨j + 1, by omega, by go_num, hW.out⟩ | ((repeat apply Exists.intro); exact ⟨⟨j + 1, by omega, by go_num, hW.out⟩, rfl⟩)
          case measure => simp [intOf]; omega
        · obtain rfl : j = 10 := by omega
          have hSl : Hid (∀ _ : Unit, (dblTo st 10).length = 16) := fun _ => (L.out 10).trans hL.out
          clear L B
          have hbu : Hid (Try.prog.built 31 [] = some (av .u8 zeros64)) := by rw [Hid]; kernel_rfl
          have s31z : Hid ((Try.prog.info? 31).map (·.size) = some (av .u8 zeros64).size) := by rw [Hid]; kernel_rfl
          go_wp2_with (first
            | (refine wpList_build_as rfl 31 rfl (av .u8 zeros64) hbu.out ?_)
            | (refine wpList_alloc_as rfl 31 rfl (av .u8 zeros64) hz.out ?_)
            | (refine wpList_store_row rfl 31 _ _ rfl _ _ rfl rfl 31 _ (heap_new wr _) s31z.out rfl (av_one _ _) ?_; rw [alloc_setRow]))
          clear hbu s31z hz
          obtain ⟨ob, hob⟩ : ∃ ob, wr.heap.size = ob := ⟨_, rfl⟩
          rw [hob]
          have hO : Hid (RoI (dblTo st 10) st (outTo (dblTo st 10) st 0) w sb ob (wr.alloc (.cells (av .u8 zeros64) 31))) := by
            have l3 := (Array.getElem?_eq_some_iff.1 hw.s).1
            refine ⟨old_alloc _ hw.r, old_alloc _ hw.f, old_alloc _ hw.s, ?_, hw.b.alloc hw.b.size _, hw.l, by omega⟩
            rw [← hob, alloc_get, if_pos rfl]; rfl
          clear hob hw
          go_loopw [13] (fun v W => ∃ i : Nat, i ≤ 16 ∧ v = .int .i64 i ∧ RoI (dblTo st 10) st (outTo (dblTo st 10) st i) w sb ob W) (fun v _ => 16 - (intOf v).toNat)
          case atStart => exact ⟨0, by omega, rfl, hO.out⟩
          case round =>
          obtain ⟨i, hi, rfl, hq⟩ := hrel
          clear hO
          by_cases hi16 : i < 16
          · obtain ⟨x, hX⟩ : ∃ x, Hid ((dblTo st 10).getD i 0 = x) := ⟨_, rfl⟩
            obtain ⟨y, hY⟩ : ∃ y, Hid (st.getD i 0 = y) := ⟨_, rfl⟩
            have hsm : ((x : Int) + (y : Int)) % 4294967296 = (sm x y : Nat) := sm_int x y
            obtain ⟨z, hZ⟩ : ∃ z, sm x y = z := ⟨_, rfl⟩
            rw [hZ] at hsm
            have hzlt : Hid (z < 4294967296) := by rw [Hid, ← hZ]; exact sm_lt _ _
            have hZ2 := Lib.hid hZ
            have e5 : IntKind.u32.wrap ((x : Int) + (y : Int)) = (z : Int) := by rw [IntKind.wrap_u32]; exact hsm
            have i4 : (0 : Int) ≤ (i : Int) := by omega
            have i5 : (i : Int) < 16 := by omega
            have hrx : Hid (∀ W, RoI (dblTo st 10) st (outTo (dblTo st 10) st i) w sb ob W → W.cell? ⟨sb, i, none⟩ = some (.int .u32 (x : Int))) := fun W h => by
              rw [cell_of_row _ _ _ _ _ _ h.s, av_get _ _ _ (by rw [hSl.out ()]; exact hi16), hX.out]
            have hry : Hid (∀ W, RoI (dblTo st 10) st (outTo (dblTo st 10) st i) w sb ob W → W.cell? ⟨w.heap.size + 1 + 1 + 1, i, none⟩ = some (.int .u32 (y : Int))) := fun W h => by
              rw [cell_of_row _ _ _ _ _ _ h.f, av_get _ _ _ (by rw [hL.out]; exact hi16), hY.out]
            have hO : Hid (∀ _ : Unit, outTo (dblTo st 10) st (i + 1) = putTo (outTo (dblTo st 10) st i) (4 * i) z 4) := fun _ => by rw [outTo, hX.out, hY.out, hZ]
            have hol : Hid (∀ _ : Unit, (outTo (dblTo st 10) st i).length = 64) := fun _ => outTo_length _ _ _
            clear hZ hsm
            go_wp2_with fail
            refine wp_region_calm_g (fun _ W => RoI (dblTo st 10) st (outTo (dblTo st 10) st i) w sb ob W) [0,0,1,0,0,1,0,0] (by kernel_rfl) (by kernel_rfl) (by kernel_rfl) hq.dr ?_
            refine wpG_plain (.int .i64 (i : Int)) rfl (fun t' w' hI K hK => ?_) ?_
            · go_simp
              exact hK _ hI
            simp only [Act.put, List.setIfInBounds_toArray, List.set_cons_succ, List.set_cons_zero]
            refine wpG_plain (.pointer (some ⟨sb, i, none⟩)) rfl (fun t' w' hI K hK => ?_) ?_
            · go_simp
              exact hK _ hI
            simp only [Act.put, List.setIfInBounds_toArray, List.set_cons_succ, List.set_cons_zero]
            refine wpG_read (.int .u32 (x : Int)) rfl (fun w' hI K hK => ?_) ?_
            · have cw := hrx.out w' hI
              go_simp
              exact hK _ hI
            simp only [Act.put, List.setIfInBounds_toArray, List.set_cons_succ, List.set_cons_zero]
            refine wpG_plain (.int .i64 (i : Int)) rfl (fun t' w' hI K hK => ?_) ?_
            · go_simp
              exact hK _ hI
            simp only [Act.put, List.setIfInBounds_toArray, List.set_cons_succ, List.set_cons_zero]
            refine wpG_plain (.pointer (some ⟨w.heap.size + 1 + 1 + 1, i, none⟩)) rfl (fun t' w' hI K hK => ?_) ?_
            · go_simp
              exact hK _ hI
            simp only [Act.put, List.setIfInBounds_toArray, List.set_cons_succ, List.set_cons_zero]
            refine wpG_read (.int .u32 (y : Int)) rfl (fun w' hI K hK => ?_) ?_
            · have cw := hry.out w' hI
              go_simp
              exact hK _ hI
            simp only [Act.put, List.setIfInBounds_toArray, List.set_cons_succ, List.set_cons_zero]
            refine wpG_plain (.int .u32 (z : Int)) rfl (fun t' w' hI K hK => ?_) ?_
            · go_simp
              exact hK _ hI
            simp only [Act.put, List.setIfInBounds_toArray, List.set_cons_succ, List.set_cons_zero]
            refine wpG_plain (.int .u32 (z : Int)) rfl (fun t' w' hI K hK => ?_) ?_
            · go_simp
              exact hK _ hI
            simp only [Act.put, List.setIfInBounds_toArray, List.set_cons_succ, List.set_cons_zero]
            refine wpG_nil fun w' hI => ?_
            clear e5
            have hI0 : Hid (RoI (dblTo st 10) st (putTo (outTo (dblTo st 10) st i) (4 * i) z 0) w sb ob w') := hI
            clear hI hq hrx hry hX hY hZ2
            go_wp2_with fail
            go_loopw [14, 15] (fun u v wq => ∃ k : Nat, k ≤ 4 ∧ v = .int .i64 k ∧ u = .int .u32 (sh z k : Int) ∧ RoI (dblTo st 10) st (putTo (outTo (dblTo st 10) st i) (4 * i) z k) w sb ob wq) (fun _ v _ => 4 - (intOf v).toNat)
            case atStart => exact ⟨0, by omega, rfl, by simp [sh], hI0.out⟩
            case round =>
            obtain ⟨k, hk, rfl, rfl, hv⟩ := hrel
            clear hI0
            obtain ⟨q, hq⟩ : ∃ q, Hid (sh z k = q) := ⟨_, rfl⟩
            rw [hq.out]
            by_cases hk4 : k < 4
            · have hN : Hid (∀ _ : Unit, sh z (k + 1) = q / 256) := fun _ => by rw [← hq.out, sh, sh, Nat.pow_succ, ← Nat.div_div_eq_div_mul]
              obtain ⟨v, cw⟩ : ∃ v, wr.cell? ⟨ob, 4 * i + k, none⟩ = some v := ⟨_, by rw [cell_of_row _ _ _ _ _ _ hv.o, av_get _ _ _ (by rw [putTo_length, hol.out ()]; omega)]⟩
              have fw : wr.frozen? ⟨ob, 4 * i + k, none⟩ = false := frozen_of_row _ _ _ _ _ hv.o
              have n1 : (0 : Int) ≤ 4 * (i : Int) + (k : Int) := by omega
              have n2 : 4 * (i : Int) + (k : Int) < 64 := by omega
              have n3 : (4 * (i : Int) + (k : Int)).toNat = 4 * i + k := by omega
              have hV := Lib.hid hv
              clear hv
              go_wp2_with fail
              have hlt : q < 4294967296 := by rw [← hq.out, sh]; exact Nat.lt_of_le_of_lt (Nat.div_le_self _ _) hzlt.out
              have e7 : ((q : Int) / 256 % 4294967296) = ((q / 256 : Nat) : Int) := by omega
              have e8 : ((q : Int) % 256) = ((q % 256 : Nat) : Int) := by omega
              refine ⟨⟨k + 1, by omega, by go_num, ?_, ?_⟩, by simp [intOf]; omega⟩
              · rw [hN.out (), e7]
              · rw [e8]
                refine hV.out.store ?_
                rw [← hq.out]; rfl
            · obtain rfl : k = 4 := by omega
              have hE : Hid (RoI (dblTo st 10) st (outTo (dblTo st 10) st (i + 1)) w sb ob wr) := by rw [Hid, hO.out ()]; exact hv
              go_wp2
              go_roundw
              case rel => first | exact ⟨i + 1, by omega, by go_num, hE.out⟩ | ((repeat apply Exists.intro); exact ⟨⟨i + 1, by omega, by go_num, hE.out⟩, rfl⟩)
              case measure => simp [intOf]; omega
          · obtain rfl : i = 16 := by omega
            have s31 : Hid (∀ _ : Unit, (Try.prog.info? 31).map (·.size) = some (av .u8 (outTo (dblTo st 10) st 16)).size) := fun _ => by rw [av_size, outTo_length]; kernel_rfl
            have s31e : Hid (∀ _ : Unit, (av .u8 zeros64).size = (av .u8 (outTo (dblTo st 10) st 16)).size) := fun _ => by rw [av_size, av_size, outTo_length]; rfl
            have qo := hq.o
            have qr := hq.r
            go_wp2_with (first
              | (refine wpList_load_row_if rfl 31 _ rfl _ rfl 31 _ (0, 0) _ qo Try.underlying31 rfl (s31.out ()) ?_)
              | (refine wpList_store_row rfl 31 _ _ rfl _ _ rfl rfl 31 _ qr (s31.out ()) (s31e.out ()) (av_one _ _) ?_))
            refine bodyPost_ret (v := .agg (av .u8 (outTo (dblTo st 10) st 16))) ?_ rfl ⟨rfl, below_setRow hq.b (by omega) _⟩
            exact results_cell_row rfl _ _ (w.heap.size + 1 + 1) 31 _ (0, 0) _ rfl (setRow_heap _ _ _ _ _ _ qr) Try.underlying31 rfl (s31.out ())
      | j + 4, hj, hw => omega
    | j + 9, hj, hw => omega
end Go.Proofs.Ythpjdgddpnpdpaa

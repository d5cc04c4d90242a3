/- Walks over cipher: Xor. -/
import Derived.Test.YthpjdgddpnpdpaaI
namespace Go.Proofs.Ythpjdgddpnpdpaa
open Go.RowKit

theorem u8_nat (a : Nat) (h : a < 256) : (BitVec.ofInt 8 (a : Int)).toNat = a := by
  rw [BitVec.ofInt_natCast, BitVec.toNat_ofNat]; exact Nat.mod_eq_of_lt (by omega)
theorem u8_xor (a b : Nat) (ha : a < 256) (hb : b < 256) : bits .xor .u8 (a : Int) (b : Int) = ((a ^^^ b : Nat) : Int) := by
  have hx : a ^^^ b < 2 ^ 8 := Nat.xor_lt_two_pow (by omega) (by omega)
  show IntKind.u8.wrap ((BitVec.ofInt 8 (a : Int) ^^^ BitVec.ofInt 8 (b : Int)).toNat : Int) = _
  rw [BitVec.toNat_xor, u8_nat a ha, u8_nat b hb, IntKind.wrap_u8]
  omega
theorem w8_set (bs : List Nat) (i v : Nat) (h : W8 bs) (hv : v < 256) : W8 (bs.set i v) := by
  intro j
  by_cases hij : i = j
  · subst hij
    by_cases hi : i < bs.length
    · rw [getD_same _ _ _ hi]; exact hv
    · have := h i
      simp only [List.getD, List.getElem?_eq_none (show bs.length ≤ i by omega)] at this
      rw [List.getD, List.getElem?_eq_none (by simp; omega)]; exact this
  · rw [getD_other _ _ _ _ hij]; exact h j
theorem putTo_w8 (bs : List Nat) (o x : Nat) (h : W8 bs) : ∀ k, W8 (putTo bs o x k)
  | 0 => h
  | k + 1 => w8_set _ _ _ (putTo_w8 bs o x h k) (Nat.mod_lt _ (by decide))
theorem outTo_w8 (S st : List Nat) : ∀ i, W8 (outTo S st i)
  | 0 => fun i => by
    show zeros64.getD i 0 < 256
    rw [zeros64, List.getD, List.getElem?_replicate]
    split <;> decide
  | i + 1 => putTo_w8 _ _ _ (outTo_w8 S st i) 4
theorem blockN_w8 (key : List Nat) (ctr : Nat) (nonce : List Nat) : W8 (blockN key ctr nonce) := outTo_w8 _ _ _

/-- Bytes under a stream. -/
def xorN (key : List Nat) (ctr : Nat) (nonce bs : List Nat) : List Nat :=
  (List.range bs.length).map fun j => bs.getD j 0 ^^^ (blockN key ((ctr + j / 64) % 4294967296) nonce).getD (j % 64) 0
theorem xorN_length (key : List Nat) (ctr : Nat) (nonce bs : List Nat) : (xorN key ctr nonce bs).length = bs.length := by simp [xorN]
theorem xorN_get (key : List Nat) (ctr : Nat) (nonce bs : List Nat) (j : Nat) (h : j < bs.length) :
    (xorN key ctr nonce bs).getD j 0 = bs.getD j 0 ^^^ (blockN key ((ctr + j / 64) % 4294967296) nonce).getD (j % 64) 0 := by
  simp [xorN, List.getD, h]
theorem take_more (l : List Nat) (j : Nat) (h : j < l.length) : l.take (j + 1) = l.take j ++ [l.getD j 0] := by
  rw [List.take_add_one]; simp [List.getD, h]
theorem xorN_w8 (key : List Nat) (ctr : Nat) (nonce bs : List Nat) (hb : W8 bs) : W8 (xorN key ctr nonce bs) := by
  intro j
  by_cases h : j < bs.length
  · rw [xorN_get _ _ _ _ _ h]
    exact Nat.xor_lt_two_pow (n := 8) (hb j) (blockN_w8 _ _ _ _)
  · rw [List.getD, List.getElem?_eq_none (by rw [xorN_length]; omega)]; decide
theorem Try.info5 : (Try.prog.info? 5).map (fun i => (i.zero, i.size, i.bytes)) = some (some (.int .u8 0), 1, 1) := by kernel_rfl

def slen : Value → Nat
  | .slice _ n _ => n
  | _ => 0
/-- The world of a round: key, nonce, and the bytes so far. -/
structure XI (key nonce X : List Nat) (n : Nat) (w : World) (p : Nat) (W : World) : Prop where
  k : W.heap[w.heap.size]? = some (.cells (av .u8 key) 33)
  m : W.heap[w.heap.size + 1]? = some (.cells (av .u8 nonce) 30)
  o : W.ownsRow w.heap.size 5 1 (.slice (some ⟨w.heap.size + 1 + 1, 0, none⟩) p n) p ((X.take p).map fun b : Nat => Value.int .u8 (b : Int))
  b : Below w.heap.size w W
theorem own_lt {W : World} {base g p n : Nat} {xs : List Value} (h : W.ownsRow base 5 1 (.slice (some ⟨g, 0, none⟩) p n) p xs) : g < W.heap.size := (h.lt g rfl).2
theorem own_old {W W' : World} {base g p n : Nat} {xs : List Value} (h : W.ownsRow base 5 1 (.slice (some ⟨g, 0, none⟩) p n) p xs) (hb : Below W.heap.size W W') : W'.ownsRow base 5 1 (.slice (some ⟨g, 0, none⟩) p n) p xs := by
  have hl := own_lt h
  obtain ⟨h1, h2⟩ := h
  refine ⟨h1, ?_⟩
  rcases h2 with ⟨h2, _⟩ | ⟨g', cap, cur, h2, h3, h4, h5⟩
  · cases h2
  · cases h2
    exact .inr ⟨_, _, cur, rfl, h3, old_row hb hl h4, h5⟩
theorem XI.old {key nonce X : List Nat} {n : Nat} {w W W' : World} {p : Nat} (h : XI key nonce X n w p W) (hb : Below W.heap.size W W') : XI key nonce X n w p W' :=
  ⟨old_row hb (Array.getElem?_eq_some_iff.1 h.k).1 h.k, old_row hb (Array.getElem?_eq_some_iff.1 h.m).1 h.m, own_old h.o hb, h.b.trans (hb.mono h.b.size)⟩
theorem XI.grow {key nonce X : List Nat} {n : Nat} {w W W' : World} {p q : Nat} (h : XI key nonce X n w p W) (hg : W.grownBy W' (some (w.heap.size + 1 + 1)))
    (ho : W'.ownsRow w.heap.size 5 1 (.slice (some ⟨w.heap.size + 1 + 1, 0, none⟩) q n) q ((X.take q).map fun b : Nat => Value.int .u8 (b : Int))) : XI key nonce X n w q W' :=
  ⟨(hg.block _ (Array.getElem?_eq_some_iff.1 h.k).1 (by simp; omega)).trans h.k, (hg.block _ (Array.getElem?_eq_some_iff.1 h.m).1 (by simp)).trans h.m, ho,
    h.b.grown hg h.b.size (fun k hk => by cases hk; omega)⟩
theorem XI.row {key nonce X : List Nat} {n : Nat} {w W : World} (h : XI key nonce X n w n W) (hX : X.length = n) : W.heap[w.heap.size + 1 + 1]? = some (.cells (av .u8 X) 5) := by
  obtain ⟨_, h2⟩ := h.o
  rcases h2 with ⟨h2, _⟩ | ⟨g', cap, cur, h2, h3, h4, h5, h6, h7, h8⟩
  · cases h2
  · cases h2
    rw [h4]
    rw [Nat.mul_one] at h7 h8
    rw [List.take_of_length_le (by simp; omega), List.take_of_length_le (by omega)] at h8
    congr 2
    apply Array.ext'
    rw [h8]; simp [av]

theorem hown_alloc {W : World} {base g p n : Nat} {xs : List Value} {o : Obj} (h : W.ownsRow base 5 1 (.slice (some ⟨g, 0, none⟩) p n) p xs) : (W.alloc o).ownsRow base 5 1 (.slice (some ⟨g, 0, none⟩) p n) p xs := own_old h ((Below.refl _ _).alloc (Nat.le_refl _) _)
theorem one_cell (W : World) (v : Value) (t : TypeId) : ∀ j u, [v][j]? = some u → (W.alloc (.cells #[v] t)).cell? ((⟨W.heap.size, 0, none⟩ : Addr).add j) = some u := by
  intro j u hj
  match j, hj with
  | 0, hj => cases hj; exact cell_of_row _ _ _ _ _ _ (heap_new W _)

set_option maxRecDepth 100000 in
set_option maxHeartbeats 8000000 in
theorem xor_any (key nonce bs : List Nat) (ctr : Nat) (hk : key.length = 32) (hn : nonce.length = 12) (hkb : W8 key) (hnb : W8 nonce) (hct : ctr < 4294967296) (x : Option Addr) (n c g o : Nat) (hx : 0 < n → x = some ⟨g, o, none⟩)
    (hcap : n ≤ c) (hl : bs.length = n) (hb : W8 bs) (hN : n ≤ 1099511627776) (hc : c ≤ 9223372036854775807) (w : World) (hg : 0 < n → g < w.heap.size) (hcell : ∀ t, t < n → w.cell? ⟨g, o + t, none⟩ = some (.int .u8 (bs.getD t 0 : Nat))) :
    Calls Try.prog 18 #[.agg (av .u8 key), .int .u32 ctr, .agg (av .u8 nonce), .slice x n c] w fun e w' =>
      e = .returned (.slice (some ⟨w.heap.size + 1 + 1, 0, none⟩) n n) ∧ w'.heap[w.heap.size + 1 + 1]? = some (.cells (av .u8 (xorN key ctr nonce bs)) 5) ∧ Below w.heap.size w w' := by
  obtain ⟨i0, hi, hz0, hz1, hz2⟩ := info_parts Try.info5
  obtain ⟨X, hX⟩ : ∃ X, Hid (∀ _ : Unit, xorN key ctr nonce bs = X) := ⟨_, fun _ => rfl⟩
  have hXl : Hid (∀ _ : Unit, X.length = n) := fun _ => by rw [← hX.out (), xorN_length, hl]
  have hXg : Hid (∀ j, j < n → X.getD j 0 = bs.getD j 0 ^^^ (blockN key ((ctr + j / 64) % 4294967296) nonce).getD (j % 64) 0) := fun j hj => by rw [← hX.out (), xorN_get _ _ _ _ _ (by omega)]
  rw [hX.out ()]
  clear hX
  have s33 : Hid ((Try.prog.info? 33).map (·.size) = some (av .u8 key).size) := by rw [Hid, av_size, hk]; kernel_rfl
  have s30 : Hid ((Try.prog.info? 30).map (·.size) = some (av .u8 nonce).size) := by rw [Hid, av_size, hn]; kernel_rfl
  have hb' : Hid (W8 bs) := hb
  have hbl := Lib.hid (fun cc hcc => block_any key nonce cc hk hn hkb hnb hcc)
  have hcell' := Lib.hid hcell
  have hg' := Lib.hid hg
  have hx' := Lib.hid hx
  clear hk hn hkb hnb hb hl hcell hg hx
  go_enter Try.func18, Try.ntmps18
  go_wp2_with (at_make; refine wpList_make_own _ rfl _ _ 36 rfl w.heap.size 5 i0 (.int .u8 0) 1 Try.underlying36 hi hz0 hz1 _ _ _ n rfl rfl rfl ?b2 ?b3 (by simp; omega) ?_)
  case b2 => rw [hz2]; omega
  case b3 => unfold maxLen; omega
  intro w0 hown0 hgrow0
  have hb0 : Below w.heap.size w w0 := (((Below.refl _ _).alloc (Nat.le_refl _) _).alloc (by simp) _).grown hgrow0 (by simp; omega) (fun k h => by cases h)
  have hI0 : Hid (XI key nonce X n w 0 w0) := by
    refine ⟨?_, ?_, by simpa using hown0, hb0⟩
    · rw [hgrow0.block _ (by simp; omega) (by simp), alloc_get, if_neg (by simp), alloc_get, if_pos rfl]
    · rw [hgrow0.block _ (by simp) (by simp), alloc_get, if_pos (by simp)]
  clear hown0 hgrow0 hb0
  go_wp2
  go_loopw [1, 3, 9] (fun c1 c3 c9 wr => ∃ (k p r cc cnt : Nat) (y : Option Addr), Hid (∀ _ : Unit, p + r = n ∧ (0 < r → p = 64 * k) ∧ cnt = (ctr + k) % 4294967296 ∧ (0 < r → y = some ⟨g, o + p, none⟩) ∧ r ≤ cc ∧ cc ≤ 9223372036854775807) ∧
      c1 = .int .u32 (cnt : Int) ∧ c3 = .slice y r cc ∧ c9 = .slice (some ⟨w.heap.size + 1 + 1, 0, none⟩) p n ∧ Hid (XI key nonce X n w p wr)) (fun _ c3 _ _ => slen c3)
  case atStart => exact ⟨0, 0, n, c, ctr, x, fun _ => ⟨by omega, fun _ => rfl, by omega, hx'.out, hcap, hc⟩, rfl, rfl, rfl, hI0.out⟩
  case round =>
  obtain ⟨k, p, r, cc, cnt, y, hh, rfl, rfl, rfl, hI⟩ := hrel
  clear hI0
  obtain ⟨h1, h2, h3, h4, h5, h6⟩ := hh.out ()
  by_cases hr : 0 < r
  · obtain rfl := h4 hr
    have hrc : cnt < 4294967296 := by rw [h3]; exact Nat.mod_lt _ (by decide)
    have hrI : (0 : Int) < (r : Int) := by omega
    have hpk := Lib.hid (h2 hr)
    clear h2 h4 hh
    have hk' := hI.out.k
    have hn' := hI.out.m
    have hC := Lib.hid h3
    clear h3
    go_wp2_with (first
      | (refine wpList_load_row_if rfl 33 _ rfl _ rfl 33 _ (0, 0) _ hk' Try.underlying33 rfl s33.out ?_)
      | (refine wpList_load_row_if rfl 30 _ rfl _ rfl 30 _ (0, 0) _ hn' Try.underlying30 rfl s30.out ?_))
    refine (hbl.out cnt hrc _).mono ?_
    rintro e w1 ⟨rfl, hb1⟩
    have hI1 := Lib.hid (hI.out.old hb1)
    obtain ⟨bl, hB⟩ : ∃ bl, Hid (∀ _ : Unit, blockN key cnt nonce = bl) := ⟨_, fun _ => rfl⟩
    rw [hB.out ()]
    have hBl : Hid (∀ _ : Unit, bl.length = 64) := fun _ => by rw [← hB.out (), blockN_length]
    have hBw : Hid (W8 bl) := by rw [Hid, ← hB.out ()]; exact blockN_w8 _ _ _
    have hBx : Hid (∀ i, i < 64 → bl.getD i 0 = (blockN key ((ctr + (p + i) / 64) % 4294967296) nonce).getD ((p + i) % 64) 0) := fun i hi => by
      rw [← hB.out (), hC.out, hpk.out, show (64 * k + i) / 64 = k by omega, show (64 * k + i) % 64 = i by omega]
    have s31 : Hid ((Try.prog.info? 31).map (·.size) = some (av .u8 bl).size) := by rw [Hid, av_size, hBl.out ()]; kernel_rfl
    have s31e : Hid ((av .u8 bl).size = (av .u8 zeros64).size) := by rw [Hid, av_size, av_size, hBl.out ()]; rfl
    have hz : Hid ((Try.prog.info? 31).bind (·.zero) = some (.agg (av .u8 zeros64))) := by rw [Hid]; kernel_rfl
    clear hk' hn' hb1 hI
    obtain ⟨q, hq⟩ : ∃ q, Hid (∀ _ : Unit, w1.heap.size = q) := ⟨_, fun _ => rfl⟩
    go_wp2_with (first
      | (refine wpList_alloc_as rfl 31 rfl (av .u8 zeros64) hz.out ?_)
      | (refine wpList_store_row rfl 31 _ _ rfl _ _ rfl rfl 31 _ (heap_new w1 _) s31.out s31e.out.symm (av_one _ _) ?_; rw [alloc_setRow]))
    · have hm1 : 64 ≤ r := by omega
      have hm2 : 64 ≤ 64 := by omega
      have hJ0 : Hid (XI key nonce X n w (p + 0) (w1.alloc (.cells (av .u8 bl) 31)) ∧ (w1.alloc (.cells (av .u8 bl) 31)).heap[q]? = some (.cells (av .u8 bl) 31)) :=
        ⟨hI1.out.old ((Below.refl _ _).alloc (Nat.le_refl _) _), by rw [← hq.out (), alloc_get, if_pos rfl]⟩
      clear hI1 s31 s31e hz hB
      rw [hq.out ()]
      go_loopw [9, 31] (fun c9 c31 wq => ∃ i : Nat, i ≤ 64 ∧ c31 = .int .i64 i ∧ c9 = .slice (some ⟨w.heap.size + 1 + 1, 0, none⟩) (p + i) n ∧ Hid (XI key nonce X n w (p + i) wq ∧ wq.heap[q]? = some (.cells (av .u8 bl) 31)))
        (fun _ c31 _ => 64 - (intOf c31).toNat)
      case atStart => exact ⟨0, by omega, rfl, by simp, hJ0⟩
      case round =>
      obtain ⟨i, hi', rfl, rfl, hJ⟩ := hrel
      clear hJ0
      by_cases him : i < 64
      · obtain ⟨a, hA⟩ : ∃ a, Hid (∀ _ : Unit, bs.getD (p + i) 0 = a) := ⟨_, fun _ => rfl⟩
        obtain ⟨b, hBb⟩ : ∃ b, Hid (∀ _ : Unit, bl.getD i 0 = b) := ⟨_, fun _ => rfl⟩
        have hpi : p + i < n := by omega
        have ca : wr.cell? ⟨g, o + p + i, none⟩ = some (.int .u8 (a : Int)) := by
          rw [← hA.out (), Nat.add_assoc]
          exact (hJ.out.1.b.cell (p := ⟨g, o + (p + i), none⟩) (hg'.out (by omega))).trans (hcell'.out _ hpi)
        have cb : wr.cell? ⟨q, i, none⟩ = some (.int .u8 (b : Int)) := by
          rw [cell_of_row _ _ _ _ _ _ hJ.out.2, av_get _ _ _ (by rw [hBl.out ()]; omega), hBb.out ()]
        have la : a < 256 := by rw [← hA.out ()]; exact hb'.out _
        have lb : b < 256 := by rw [← hBb.out ()]; exact hBw.out _
        obtain ⟨z, hz⟩ : ∃ z, a ^^^ b = z := ⟨_, rfl⟩
        have hx8 : bits .xor .u8 (a : Int) (b : Int) = (z : Int) := by rw [u8_xor a b la lb, hz]
        have hzX : Hid (∀ _ : Unit, X.getD (p + i) 0 = z) := fun _ => by
          rw [hXg.out _ hpi, hA.out (), ← hz, ← hBb.out (), ← hBx.out i (by omega)]
        have hz' := Lib.hid hz
        have hown := hJ.out.1.o
        have hi0 : (0 : Int) ≤ (i : Int) := by omega
        have hi64 : (i : Int) < 64 := by omega
        have him' : (i : Int) < 64 := by omega
        clear hz hA hBb
        go_wp2_with (at_builtin; refine wpList_append_fits _ rfl _ _ 36 rfl w.heap.size 5 i0 1 Try.underlying36 hi hz1 (w.heap.size + 1 + 1) (p + i) n _ rfl (hown_alloc hown) ⟨wr.heap.size, 0, none⟩ 1 1 [.int .u8 (z : Int)] rfl rfl (one_cell _ _ _) (by intro u hu; simp at hu; subst hu; rfl) (by omega) ?_; intro w2 hown2 hgrow2)
        have hN2 : Hid (XI key nonce X n w (p + (i + 1)) w2 ∧ w2.heap[q]? = some (.cells (av .u8 bl) 31)) := by
          have hq1 := hJ.out.2
          have hlt1 := own_lt hown
          have hlt2 := (Array.getElem?_eq_some_iff.1 hq1).1
          have hqo : q ≠ w.heap.size + 1 + 1 := by
            rintro rfl
            obtain ⟨_, h9⟩ := hown
            rcases h9 with ⟨h9, _⟩ | ⟨g', cap, cur, h9, h10, h11, _⟩
            · cases h9
            · cases h9
              rw [h11] at hq1
              cases hq1
          refine ⟨(hJ.out.1.old ((Below.refl _ _).alloc (Nat.le_refl _) _)).grow hgrow2 ?_, ?_⟩
          · rw [← Nat.add_assoc, take_more X (p + i) (by rw [hXl.out ()]; exact hpi), List.map_append, hzX.out ()]
            exact hown2
          · rw [hgrow2.block q (by simp; omega) (by simp; exact hqo)]
            exact old_alloc _ hq1
        clear hown hown2 hgrow2 hJ ca cb
        go_wp2
        go_roundw
        case rel => exact ⟨i + 1, by omega, by go_num, rfl, hN2⟩
        case measure => simp [intOf]; omega
      · obtain rfl : i = 64 := by omega
        clear him hi'
        have hc1 : ((cnt : Int) + 1) % 4294967296 = (((cnt + 1) % 4294967296 : Nat) : Int) := by omega
        have hc2 : Hid (∀ _ : Unit, (cnt + 1) % 4294967296 = (ctr + (k + 1)) % 4294967296) := fun _ => by have := hC.out; omega
        go_wp2
        go_roundw
        case rel => exact ⟨k + 1, p + 64, r - 64, cc - 64, (cnt + 1) % 4294967296, some ⟨g, o + p + 64, none⟩, fun _ => ⟨by omega, fun _ => by have := hpk.out; omega, hc2.out (), fun _ => by rw [Nat.add_assoc], by omega, by omega⟩, by rw [hc1], rfl, rfl, hJ.out.1⟩
        case measure => simp [slen]; omega
    · have hm1 : r ≤ r := by omega
      have hm2 : r ≤ 64 := by omega
      have hJ0 : Hid (XI key nonce X n w (p + 0) (w1.alloc (.cells (av .u8 bl) 31)) ∧ (w1.alloc (.cells (av .u8 bl) 31)).heap[q]? = some (.cells (av .u8 bl) 31)) :=
        ⟨hI1.out.old ((Below.refl _ _).alloc (Nat.le_refl _) _), by rw [← hq.out (), alloc_get, if_pos rfl]⟩
      clear hI1 s31 s31e hz hB
      rw [hq.out ()]
      go_loopw [9, 31] (fun c9 c31 wq => ∃ i : Nat, i ≤ r ∧ c31 = .int .i64 i ∧ c9 = .slice (some ⟨w.heap.size + 1 + 1, 0, none⟩) (p + i) n ∧ Hid (XI key nonce X n w (p + i) wq ∧ wq.heap[q]? = some (.cells (av .u8 bl) 31)))
        (fun _ c31 _ => r - (intOf c31).toNat)
      case atStart => exact ⟨0, by omega, rfl, by simp, hJ0⟩
      case round =>
      obtain ⟨i, hi', rfl, rfl, hJ⟩ := hrel
      clear hJ0
      by_cases him : i < r
      · obtain ⟨a, hA⟩ : ∃ a, Hid (∀ _ : Unit, bs.getD (p + i) 0 = a) := ⟨_, fun _ => rfl⟩
        obtain ⟨b, hBb⟩ : ∃ b, Hid (∀ _ : Unit, bl.getD i 0 = b) := ⟨_, fun _ => rfl⟩
        have hpi : p + i < n := by omega
        have ca : wr.cell? ⟨g, o + p + i, none⟩ = some (.int .u8 (a : Int)) := by
          rw [← hA.out (), Nat.add_assoc]
          exact (hJ.out.1.b.cell (p := ⟨g, o + (p + i), none⟩) (hg'.out (by omega))).trans (hcell'.out _ hpi)
        have cb : wr.cell? ⟨q, i, none⟩ = some (.int .u8 (b : Int)) := by
          rw [cell_of_row _ _ _ _ _ _ hJ.out.2, av_get _ _ _ (by rw [hBl.out ()]; omega), hBb.out ()]
        have la : a < 256 := by rw [← hA.out ()]; exact hb'.out _
        have lb : b < 256 := by rw [← hBb.out ()]; exact hBw.out _
        obtain ⟨z, hz⟩ : ∃ z, a ^^^ b = z := ⟨_, rfl⟩
        have hx8 : bits .xor .u8 (a : Int) (b : Int) = (z : Int) := by rw [u8_xor a b la lb, hz]
        have hzX : Hid (∀ _ : Unit, X.getD (p + i) 0 = z) := fun _ => by
          rw [hXg.out _ hpi, hA.out (), ← hz, ← hBb.out (), ← hBx.out i (by omega)]
        have hz' := Lib.hid hz
        have hown := hJ.out.1.o
        have hi0 : (0 : Int) ≤ (i : Int) := by omega
        have hi64 : (i : Int) < 64 := by omega
        have him' : (i : Int) < (r : Int) := by omega
        clear hz hA hBb
        go_wp2_with (at_builtin; refine wpList_append_fits _ rfl _ _ 36 rfl w.heap.size 5 i0 1 Try.underlying36 hi hz1 (w.heap.size + 1 + 1) (p + i) n _ rfl (hown_alloc hown) ⟨wr.heap.size, 0, none⟩ 1 1 [.int .u8 (z : Int)] rfl rfl (one_cell _ _ _) (by intro u hu; simp at hu; subst hu; rfl) (by omega) ?_; intro w2 hown2 hgrow2)
        have hN2 : Hid (XI key nonce X n w (p + (i + 1)) w2 ∧ w2.heap[q]? = some (.cells (av .u8 bl) 31)) := by
          have hq1 := hJ.out.2
          have hlt1 := own_lt hown
          have hlt2 := (Array.getElem?_eq_some_iff.1 hq1).1
          have hqo : q ≠ w.heap.size + 1 + 1 := by
            rintro rfl
            obtain ⟨_, h9⟩ := hown
            rcases h9 with ⟨h9, _⟩ | ⟨g', cap, cur, h9, h10, h11, _⟩
            · cases h9
            · cases h9
              rw [h11] at hq1
              cases hq1
          refine ⟨(hJ.out.1.old ((Below.refl _ _).alloc (Nat.le_refl _) _)).grow hgrow2 ?_, ?_⟩
          · rw [← Nat.add_assoc, take_more X (p + i) (by rw [hXl.out ()]; exact hpi), List.map_append, hzX.out ()]
            exact hown2
          · rw [hgrow2.block q (by simp; omega) (by simp; exact hqo)]
            exact old_alloc _ hq1
        clear hown hown2 hgrow2 hJ ca cb
        go_wp2
        go_roundw
        case rel => exact ⟨i + 1, by omega, by go_num, rfl, hN2⟩
        case measure => simp [intOf]; omega
      · obtain rfl : i = r := by omega
        clear him hi'
        have hc1 : ((cnt : Int) + 1) % 4294967296 = (((cnt + 1) % 4294967296 : Nat) : Int) := by omega
        have hc2 : Hid (∀ _ : Unit, (cnt + 1) % 4294967296 = (ctr + (k + 1)) % 4294967296) := fun _ => by have := hC.out; omega
        go_wp2
        go_roundw
        case rel => exact ⟨k + 1, p + i, 0, cc - i, (cnt + 1) % 4294967296, _, fun _ => ⟨by omega, fun h => absurd h (by omega), hc2.out (), fun h => absurd h (by omega), by omega, by omega⟩, by rw [hc1], rfl, rfl, hJ.out.1⟩
        case measure => simp [slen]; omega
  · obtain rfl : r = 0 := by omega
    obtain rfl : p = n := by omega
    go_wp2
    go_ret
    exact ⟨rfl, hI.out.row (hXl.out ()), hI.out.b⟩
end Go.Proofs.Ythpjdgddpnpdpaa

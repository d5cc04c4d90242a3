/- Words of mine that all seats share: a slice of bytes that came in, opened; bytes turned into a string. Nothing of the program stands here. -/
import Derived.Test.YthpjdgddpnpdpaaCalmH
import Derived.Test.YthpjdgddpnpdpaaRow
import Derived.Laws.BytesArg
import Derived.ChangeSlices
namespace Go.Proofs.Ythpjdgddpnpdpaa
open Go.ChangeShapes Go.WideShapes Go.ChangeAt Go.RowKit
section
variable {H : Type} {enc : TypeId × Value → H} {P : Program} {W : World}
theorem open_u8s {r : Reach} {b0 base t e : Nat} {held : Bool} {v : Value} {d : DataW H} {ps : List MemPlace} (ht : P.underlying t = some (.slice e)) (he : P.underlying e = some (.int .u8)) (hc : P.cellsOf e = 1)
    (hv : Value.okWide P W r b0 t v) (hd : DataW.Trod enc P W base (fun _ => true) held t v d ps) :
    ∃ (x : Option Addr) (n c g o : Nat) (bs : List Nat), v = .slice x n c ∧ bs.length = n ∧ n ≤ c ∧ c ≤ maxLen ∧ (∀ i, bs.getD i 0 < 256) ∧ (0 < n → x = some ⟨g, o, none⟩ ∧ g < W.heap.size) ∧
      (∀ i, i < n → W.cell? ⟨g, o + i, none⟩ = some (.int .u8 (bs.getD i 0 : Nat))) := by
  obtain ⟨x, n, c, rfl⟩ := okWide_slice ht hv
  obtain ⟨fuel, hf⟩ := hd
  rcases open_ints ht he hc hf with ⟨hcs, hx⟩ | ⟨a, len', cap', zs, hcs, _, hl, hm, hz, hx, hcell, hwz⟩
  · simp [Value.cells] at hcs
    obtain ⟨rfl, rfl, rfl⟩ := hcs
    exact ⟨none, 0, 0, 0, 0, [], rfl, rfl, Nat.le_refl _, Nat.zero_le _, fun i => by simp, fun h => absurd h (by omega), fun i h => absurd h (by omega)⟩
  · simp [Value.cells] at hcs
    obtain ⟨rfl, rfl, rfl⟩ := hcs
    simp only [if_true] at hz
    obtain ⟨ls, hls, hb⟩ := av_of .u8 256 wf_u8' (zs.map (Value.int .u8)) (fun c hc => by
      obtain ⟨z, hz1, rfl⟩ := List.mem_map.1 hc
      exact ⟨z, rfl, hwz z hz1⟩)
    have hzl : zs.length = ls.length := by have := congrArg List.length hls; simpa using this
    have hget : ∀ i, i < zs.length → zs.getD i 0 = (ls.getD i 0 : Nat) := fun i hi => by
      have := congrArg (fun l => l[i]?) hls
      simp [hi, show i < ls.length by omega] at this
      simp [List.getD, hi, show i < ls.length by omega, this]
    obtain ⟨g, o, sp⟩ := a
    have hcell' : ∀ i, i < n → W.cell? ((⟨g, o, sp⟩ : Addr).add i) = some (.int .u8 (ls.getD i 0 : Nat)) := fun i hi => by
      rw [hcell i (by omega), hget i (by omega)]
    refine ⟨some ⟨g, o, sp⟩, n, c, g, o, ls.take n, rfl, by simp; omega, hl, hm, fun i => ?_, fun h => ?_, fun i hi => ?_⟩
    · refine Nat.lt_of_le_of_lt ?_ (getD_lt ls 256 (by decide) hb i)
      by_cases hi : i < n
      · simp [List.getD, hi]
      · rw [List.getD, List.getElem?_eq_none (by simp; omega)]; exact Nat.zero_le _
    · have hsp : sp = none := by simpa [Addr.add] using World.cell?_spot (hcell' 0 h)
      subst hsp
      exact ⟨rfl, by simpa [Addr.add] using World.block_lt_of_cell? W _ (hcell' 0 h)⟩
    · have hsp : sp = none := by simpa [Addr.add] using World.cell?_spot (hcell' 0 (by omega))
      subst hsp
      have := hcell' i hi
      have hplain : (⟨g, o, none⟩ : Addr).add i = ⟨g, o + i, none⟩ := by unfold Addr.add; split <;> simp_all
      rw [hplain] at this
      rw [this]
      simp [List.getD, hi]

/-- Bytes as a string. -/
def strN (bs : List Nat) : ByteArray := strOfNums (bs.map fun b : Nat => (b : Int))
theorem run_string (src dst e : TypeId) (hs : P.underlying src = some (.slice e)) (he : P.underlying e = some (.int .u8)) (hd : P.underlying dst = some .string) (x : Option Addr) (n c g o : Nat) (bs : List Nat) (hl : bs.length = n)
    (hx : 0 < n → x = some ⟨g, o, none⟩) (hcell : ∀ i, i < n → W.cell? ⟨g, o + i, none⟩ = some (.int .u8 (bs.getD i 0 : Nat))) :
    (convert src dst (.slice x n c)).run P W = .ok (.string (strN bs)) W := by
  by_cases h0 : 0 < n
  · rw [hx h0, strN]
    exact run_convert_bytes_arg W src e hs he g o n c _ (by simpa using hl) (fun i hi => by
      rw [hcell i hi]
      simp [List.getD, show i < bs.length by omega]) dst hd
  · obtain rfl : n = 0 := by omega
    obtain rfl : bs = [] := List.length_eq_zero_iff.1 hl
    cases x with
    | none => rw [run_convert_bytes_nil W src e hs he 0 c dst hd]; rfl
    | some a =>
      rw [run_convert_bytes_string W src dst e _ 0 c hs he hd, run_bytesToString W a 0 c [] (by simpa using run_loadCells_list (P := P) W a [] (fun j v hj => by simp at hj))]
      rfl
theorem calm_convert {o : Oper} {a : Act} {w : World} {K : Value → World → Prop} {v : Value} (src dst : TypeId) (x : Operand) (ho : o.op = .convert src dst x) (hv : (convert src dst (a.eval x)).run P w = .ok v w) (h : K v w) : calm P o a w K := by
  unfold calm execOp
  simp only [ho, Sem.run_bind, hv, Result.andThen_ok]
  exact h
theorem wpList_convert {ops : Array Oper} {rest : List Oper} {o : Oper} {a : Act} {w : World} {Q : Exit → Act → World → Prop} {v : Value} (hgd : Region.wanted o (yielded ops a.tmps) = true) (src dst : TypeId) (x : Operand) (ho : o.op = .convert src dst x)
    (hv : (convert src dst (a.eval x)).run P w = .ok v w) (h : wpList P ops Q rest (a.put o.dst v) w) : wpList P ops Q (o :: rest) a w := by
  refine wpList_if hgd fun K hK => ?_
  unfold Oper.wp execOp
  simp only [ho, Sem.run_bind, hv, Result.andThen_ok]
  exact hK _ _ h
end
end Go.Proofs.Ythpjdgddpnpdpaa

/- Words of mine that all seats share: a law's row out of its walk: arrays of numbers opened, and what a law's row asks behind the call. Nothing of the program stands here. -/
import Derived.Test.YthpjdgddpnpdpaaWords
import Derived.Test.YthpjdgddpnpdpaaRows
import Derived.ProofKit
import Derived.OpenShut
import Derived.JoinedCond
import Derived.Carry
namespace Go.Proofs.Ythpjdgddpnpdpaa
open Go.ChangeShapes Go.WideShapes Go.ChangeAt Go.RowKit
section
variable {H : Type} {enc : TypeId × Value → H} {P : Program} {W W' : World}

theorem below_trodAll (hl : laidOutB P = true) (hb : Below W.heap.size W W') : ∀ (ts : List TypeId) (vs : List Value) (ds : List (DataW H)) (ps : List MemPlace), (∀ t ∈ ts, P.readableRec t = true ∧ t < P.types.size) →
    DataW.TrodAll enc P W 0 (fun _ => true) true ts vs ds ps → (∀ x ∈ ps, x.block < W.heap.size) → DataW.TrodAll enc P W' 0 (fun b => decide (b < W.heap.size)) true ts vs ds ps
  | [], vs, ds, ps, _, h, _ => by
    obtain ⟨rfl, rfl, rfl⟩ := trodAll_nil h
    exact trodAll_mk0
  | t :: ts, vs, ds, ps, ht, h, hlt => by
    obtain ⟨v, vs', d, ds', p, q, rfl, rfl, rfl, hp, hq⟩ := trodAll_cons h
    have h1 := ht t (by simp)
    exact trodAll_cons_mk (Below.trod hl h1.1 h1.2 hp hb fun x hx => hlt x (List.mem_append_left _ hx))
      (below_trodAll hl hb ts vs' ds' q (fun u hu => ht u (List.mem_cons_of_mem _ hu)) hq fun x hx => hlt x (List.mem_append_right _ hx))

/-- What a law's row asks, out of 'true' and 'nothing that was there has turned'. -/
theorem law_post {f : Func} {s : ChangeSpec} {args : Array Value} {ds gs : List (DataW H)} {before : List MemPlace} {tb : TypeId} (hl : laidOutB P = true) (hrs : ∀ t ∈ f.params.toList, P.readableRec t = true ∧ t < P.types.size)
    (hvars : s.vars = []) (hret : f.resultTypes = #[tb]) (htb : P.underlying tb = some .bool)
    (hW : DataW.Whole enc P f.params.toList s.vars false W args.toList ds gs before)
    (hres : (s.fn H (ds ++ [])).results = [.lit (.bool true)]) (hargs : (s.fn H (ds ++ [])).args = ds) (hvs : (s.fn H (ds ++ [])).vars = []) (hb : Below W.heap.size W W') :
    s.post enc P f false true false false W args (.bool true) W' := by
  have hW0 := hW
  obtain ⟨p, q, hA, hV, rfl, hfz, hnd⟩ := hW
  have hV2 := hV
  rw [hvars] at hV2
  obtain ⟨rfl, rfl⟩ := trodVars_none hV2
  have hlt := hW0.lt
  rw [List.append_nil] at hlt
  refine ⟨ds, [], p ++ [], [], p, [], hW0, ?_, ?_, ?_, hb.frame _, fun h => by cases h⟩
  · rw [hres, hret]
    exact trodAll_cons_mk (shut_bool htb true) trodAll_mk0
  · rw [hargs]
    exact below_trodAll hl hb _ _ _ _ hrs hA hlt
  · rw [hvs, hvars]
    rfl

theorem same_below {P : Program} {f : FuncId} {args : Array Value} {W : World} (h : Calls P f args W fun e w' => e = .returned (.bool true) ∧ W = w') :
    Calls P f args W fun e w' => e = .returned (.bool true) ∧ Below W.heap.size W w' :=
  h.mono fun _ _ ⟨he, hw⟩ => ⟨he, hw ▸ Below.refl _ _⟩
theorem av_of (k : IntKind) (n : Nat) (hk : ∀ x : Int, (Lit.int k x).wf = true → 0 ≤ x ∧ x < n) : ∀ cs : List Value, (∀ c ∈ cs, ∃ x : Int, c = .int k x ∧ (Lit.int k x).wf = true) →
    ∃ ls : List Nat, cs = ls.map (fun b : Nat => Value.int k (b : Int)) ∧ ∀ x ∈ ls, x < n
  | [], _ => ⟨[], rfl, by simp⟩
  | c :: cs, h => by
    obtain ⟨x, rfl, hx⟩ := h c (by simp)
    obtain ⟨ls, rfl, hls⟩ := av_of k n hk cs fun c hc => h c (List.mem_cons_of_mem _ hc)
    obtain ⟨h0, h1⟩ := hk x hx
    obtain ⟨m, rfl⟩ := Int.eq_ofNat_of_zero_le h0
    exact ⟨m :: ls, rfl, fun y hy => by
      rcases List.mem_cons.1 hy with rfl | hy
      · omega
      · exact hls y hy⟩
/-- An array of numbers that came in, as a list of naturals. -/
theorem open_nats {r : Reach} {b0 base : Nat} {spare : Nat → Bool} {held : Bool} {t e n : Nat} {k : IntKind} {v : Value} {d : DataW H} {ps : List MemPlace} (N : Nat) (ht : P.underlying t = some (.array n e)) (he : P.underlying e = some (.int k))
    (hce : P.cellsOf e = 1) (hct : P.cellsOf t = n) (hk : ∀ x : Int, (Lit.int k x).wf = true → 0 ≤ x ∧ x < N) (hv : Value.okWide P W r b0 t v) (hd : DataW.Trod enc P W base spare held t v d ps) :
    ∃ ls : List Nat, v = .agg (av k ls) ∧ ls.length = n ∧ ∀ x ∈ ls, x < N := by
  simp only [Value.okWide, ht] at hv
  obtain ⟨cs, rfl, hsz, _⟩ := hv
  obtain ⟨fuel, hf⟩ := hd
  obtain ⟨xs, m, _, hx, _, hlx, hel⟩ := DataW.trod_array ht hf
  rw [hct] at hsz
  have hall : ∀ c ∈ cs.toList, ∃ x : Int, c = .int k x ∧ (Lit.int k x).wf = true := by
    intro c hc
    obtain ⟨i, hi, rfl⟩ := List.getElem_of_mem hc
    have hin : i < n := by simpa [hsz] using hi
    have h1 := hel i hin
    rw [hce] at h1
    have h2 : ((Value.agg cs).cells.toList.drop (i * 1)).take 1 = [cs.toList[i]] := by
      rw [Nat.mul_one, List.drop_eq_getElem_cons (by simpa [Value.cells] using hi)]
      simp [Value.cells]
    rw [h2, List.getElem?_eq_getElem (by omega)] at h1
    obtain ⟨x, hx1, _, hw⟩ := DataW.trod_int he h1
    exact ⟨x, by simpa using hx1, hw⟩
  obtain ⟨ls, hls, hb⟩ := av_of k N hk cs.toList hall
  refine ⟨ls, ?_, ?_, hb⟩
  · congr 1
    apply Array.ext'
    rw [hls]; simp [av]
  · have := congrArg List.length hls
    simp at this
    omega
/-- A whole number that came in, as a natural. -/
theorem open_nat {r : Reach} {b0 base : Nat} {spare : Nat → Bool} {held : Bool} {t : Nat} {k : IntKind} {v : Value} {d : DataW H} {ps : List MemPlace} (N : Nat) (ht : P.underlying t = some (.int k))
    (hk : ∀ x : Int, (Lit.int k x).wf = true → 0 ≤ x ∧ x < N) (hv : Value.okWide P W r b0 t v) (hd : DataW.Trod enc P W base spare held t v d ps) :
    ∃ x : Nat, v = .int k x ∧ x < N := by
  obtain ⟨n, rfl, _, _, hw⟩ := open_int ht hv hd
  obtain ⟨h0, h1⟩ := hk n hw
  obtain ⟨m, rfl⟩ := Int.eq_ofNat_of_zero_le h0
  exact ⟨m, rfl, by omega⟩
theorem wf_u16' (x : Int) (h : (Lit.int .u16 x).wf = true) : 0 ≤ x ∧ x < ((65536 : Nat) : Int) := by
  simp [Lit.wf, IntKind.min, IntKind.max, IntKind.signed, IntKind.bits] at h; omega
theorem wf_u8' (x : Int) (h : (Lit.int .u8 x).wf = true) : 0 ≤ x ∧ x < ((256 : Nat) : Int) := by
  simp [Lit.wf, IntKind.min, IntKind.max, IntKind.signed, IntKind.bits] at h; omega
theorem wf_u32' (x : Int) (h : (Lit.int .u32 x).wf = true) : 0 ≤ x ∧ x < ((4294967296 : Nat) : Int) := by
  simp [Lit.wf, IntKind.min, IntKind.max, IntKind.signed, IntKind.bits] at h; omega
theorem wf_u64' (x : Int) (h : (Lit.int .u64 x).wf = true) : 0 ≤ x ∧ x < ((18446744073709551616 : Nat) : Int) := by
  simp [Lit.wf, IntKind.min, IntKind.max, IntKind.signed, IntKind.bits] at h; omega
theorem getD_lt (l : List Nat) (n : Nat) (hn : 0 < n) (h : ∀ x ∈ l, x < n) (i : Nat) : l.getD i 0 < n := by
  by_cases hi : i < l.length
  · simp only [List.getD, List.getElem?_eq_getElem hi, Option.getD_some]; exact h _ (List.getElem_mem hi)
  · simp [List.getD, List.getElem?_eq_none (Nat.le_of_not_lt hi), hn]
end
theorem ownKnob_none : ownKnob Try.prog.godebug = none := by kernel_rfl
theorem laidOut : laidOutB Try.prog = true := by kernel_rfl
end Go.Proofs.Ythpjdgddpnpdpaa

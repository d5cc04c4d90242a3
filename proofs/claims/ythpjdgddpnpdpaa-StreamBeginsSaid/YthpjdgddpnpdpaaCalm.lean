/- A word of mine that all seats share: a statement whose order is open and whose operations each answer one value in every world that keeps an invariant, and keep it: whatever order is drawn. Nothing of the program stands here. -/
import Derived.Test.YthpjdgddpnpdpaaWords
namespace Go.Proofs.Ythpjdgddpnpdpaa
section
variable {P : Program} {ops : Array Oper} {md : Region.Mode} {I : World → Prop}

/-- What an operation comes to: its value and the world behind it. -/
def calmUpon (P : Program) (K : Value → World → Prop) : Result Next → Prop
  | .ok (.value v) w' => K v w'
  | .ok .skip w' => K undef w'
  | .ok (.enter f args) w' => Calls P f args w' (fun e w'' => ∃ v, e = .returned v ∧ K v w'')
  | _ => False
def calm (P : Program) (o : Oper) (a : Act) (w : World) (K : Value → World → Prop) : Prop := calmUpon P K ((execOp a.eval o).run P w)
theorem calmUpon_value (K : Value → World → Prop) (v : Value) (w : World) : calmUpon P K (.ok (.value v) w) = K v w := rfl
theorem calmUpon_skip (K : Value → World → Prop) (w : World) : calmUpon P K (.ok .skip w) = K undef w := rfl
theorem calmUpon_enter (K : Value → World → Prop) (f : FuncId) (args : Array Value) (w : World) :
    calmUpon P K (.ok (.enter f args) w) = Calls P f args w (fun e w'' => ∃ v, e = .returned v ∧ K v w'') := rfl
theorem calm_mono {o : Oper} {a : Act} {w : World} {K K' : Value → World → Prop} (h : ∀ v w, K v w → K' v w) (hh : calm P o a w K) : calm P o a w K' := by
  unfold calm at *
  generalize (execOp a.eval o).run P w = r at *
  cases r with
  | ok n w' =>
    cases n <;> simp only [calmUpon] at hh ⊢
    case enter f args => exact hh.mono fun e w'' ⟨v, he, hk⟩ => ⟨v, he, h _ _ hk⟩
    all_goals exact h _ _ hh
  | halt x w' => simp only [calmUpon] at hh

/-- The operation answers v in every world that keeps I, and keeps it. -/
def CalmAt (P : Program) (ops : Array Oper) (I : World → Prop) (o : Oper) (v : Value) (a : Act) : Prop :=
  (Region.wanted o (yielded ops a.tmps) = true ∧ ∀ w, I w → calm P o a w fun v' w' => v' = v ∧ I w') ∨ (Region.wanted o (yielded ops a.tmps) = false ∧ v = undef)
theorem CalmAt.of_same {o : Oper} {v : Value} {a a' : Act} (hy : CalmAt P ops I o v a) (he : execOp a'.eval o = execOp a.eval o)
    (hw : Region.wanted o (yielded ops a'.tmps) = Region.wanted o (yielded ops a.tmps)) : CalmAt P ops I o v a' := by
  unfold CalmAt calm at *
  rw [he, hw]
  exact hy
theorem CalmAt.wpOp {o : Oper} {i : Nat} {v : Value} {a : Act} {w : World} {K : Act → World → Prop} {Q : Exit → Act → World → Prop} (hi : ops[i]? = some o) (hy : CalmAt P ops I o v a) (hw : I w)
    (h : ∀ w', I w' → K (a.put o.dst v) w') : wpOp P ops Q i K a w := by
  unfold Go.wpOp
  simp only [hi]
  rcases hy with ⟨hwt, hc⟩ | ⟨hwt, rfl⟩
  · simp only [hwt, if_true]
    refine .inl ?_
    have := hc w hw
    unfold calm at this
    unfold Oper.wp
    generalize (execOp a.eval o).run P w = r at *
    cases r with
    | ok n w' =>
      cases n <;> simp only [calmUpon] at this <;> simp only [Oper.upon]
      case enter f args => exact this.mono fun e w'' ⟨u, he, hu, hI⟩ => by subst he; subst hu; exact h _ hI
      all_goals (obtain ⟨rfl, hI⟩ := this; exact h _ hI)
    | halt x w' => simp only [calmUpon] at this
  · simp only [hwt, Bool.false_eq_true, if_false]
    exact h _ hw

/-- A list of operations, each calm, one behind the other. -/
def wpCalm (P : Program) (ops : Array Oper) (I : World → Prop) (Q : Act → Prop) : List Oper → Act → Prop
  | [], a => Q a
  | o :: rest, a => ∃ v, CalmAt P ops I o v a ∧ wpCalm P ops I Q rest (a.put o.dst v)
theorem wpCalm_nil {Q : Act → Prop} {a : Act} (h : Q a) : wpCalm P ops I Q [] a := h
theorem wpCalm_step {Q : Act → Prop} {a : Act} {o : Oper} {rest : List Oper} (v : Value) (hw : Region.wanted o (yielded ops a.tmps) = true)
    (hc : ∀ w, I w → ∀ K : Value → World → Prop, (∀ w', I w' → K v w') → calm P o a w K) (h : wpCalm P ops I Q rest (a.put o.dst v)) : wpCalm P ops I Q (o :: rest) a :=
  ⟨v, .inl ⟨hw, fun w hI => hc w hI _ fun _ h' => ⟨rfl, h'⟩⟩, h⟩
theorem wpCalm_plain {Q : Act → Prop} {a : Act} {o : Oper} {rest : List Oper} (v : Value) (hg : o.guard = none)
    (hc : ∀ w, I w → ∀ K : Value → World → Prop, (∀ w', I w' → K v w') → calm P o a w K) (h : wpCalm P ops I Q rest (a.put o.dst v)) : wpCalm P ops I Q (o :: rest) a :=
  wpCalm_step v (by simp [Region.wanted, hg]) hc h
theorem wpCalm_skip {Q : Act → Prop} {a : Act} {o : Oper} {rest : List Oper} (hw : Region.wanted o (yielded ops a.tmps) = false)
    (h : wpCalm P ops I Q rest (a.put o.dst undef)) : wpCalm P ops I Q (o :: rest) a :=
  ⟨undef, .inr ⟨hw, rfl⟩, h⟩
def clOp (P : Program) (ops : Array Oper) (I : World → Prop) (i : Nat) (K : Act → Prop) (a : Act) : Prop :=
  match ops[i]? with
  | none => K a
  | some o => ∃ v, CalmAt P ops I o v a ∧ K (a.put o.dst v)
theorem clOp_mono {i : Nat} {a : Act} {K K' : Act → Prop} (h : ∀ a, K a → K' a) (hh : clOp P ops I i K a) : clOp P ops I i K' a := by
  unfold clOp at *
  split
  · exact h _ (by simpa [*] using hh)
  · rename_i o ho
    simp only [ho] at hh
    obtain ⟨v, hy, hk⟩ := hh
    exact ⟨v, hy, h _ hk⟩
theorem CalmAt.clOp {i : Nat} {o : Oper} {v : Value} {a : Act} (hi : ops[i]? = some o) (hy : CalmAt P ops I o v a) {K : Act → Prop} (h : K (a.put o.dst v)) : clOp P ops I i K a := by
  unfold Go.Proofs.Ythpjdgddpnpdpaa.clOp
  simp only [hi]
  exact ⟨v, hy, h⟩
theorem wpOp_of_clOp {i : Nat} {a : Act} {w : World} {K : Act → Prop} {K' : Act → World → Prop} {Q : Exit → Act → World → Prop} (hw : I w) (h : ∀ a w, I w → K a → K' a w) (hh : clOp P ops I i K a) :
    wpOp P ops Q i K' a w := by
  cases ho : ops[i]? with
  | none =>
    unfold Go.Proofs.Ythpjdgddpnpdpaa.clOp at hh
    unfold Go.wpOp
    simp only [ho] at hh ⊢
    exact h _ _ hw hh
  | some o =>
    unfold Go.Proofs.Ythpjdgddpnpdpaa.clOp at hh
    simp only [ho] at hh
    obtain ⟨v, hy, hk⟩ := hh
    exact hy.wpOp ho hw fun w' hI => h _ _ hI hk
theorem clOp_put {j : Nat} {oi oj : Oper} {v : Value} (hj : ops[j]? = some oj) (hap : oi.apart ops oj = true)
    (hsi : ∀ cs b, oi.op ≠ .select cs b) (hsj : ∀ cs b, oj.op ≠ .select cs b) {K : Act → Prop} {a : Act}
    (hy : CalmAt P ops I oi v a) (h : clOp P ops I j K (a.put oi.dst v)) :
    clOp P ops I j (fun a' => CalmAt P ops I oi v a' ∧ K (a'.put oi.dst v)) a := by
  obtain ⟨h1, h2, h3⟩ := Oper.apart_spec hap
  unfold Go.Proofs.Ythpjdgddpnpdpaa.clOp at *
  simp only [hj] at *
  obtain ⟨u, hu, hk⟩ := h
  refine ⟨u, hu.of_same (execOp_put oj hsj a oi.dst v h1).symm (wanted_put oj a oi.dst v h1).symm, ?_, ?_⟩
  · exact hy.of_same (execOp_put oi hsi a oj.dst u h3) (wanted_put oi a oj.dst u h3)
  · rw [← Act.put_comm a v u h2]; exact hk

/-- The head of a region, any order, till nothing of it is left. -/
def wpAnyC (P : Program) (md : Region.Mode) (ops : Array Oper) (I : World → Prop) (n : Nat) (L : Array Bool → Act → Prop) : Nat → Array Bool → Act → Prop
  | 0, listed, a => L listed a
  | f + 1, listed, a =>
    Region.ready md ops listed ≠ [] ∧ ∀ i ∈ Region.ready md ops listed, i < n ∧ clOp P ops I i (wpAnyC P md ops I n L f (listed.setIfInBounds i true)) a
theorem wpAny_of_calm {n g : Nat} {L : Array Bool → Act → Prop} {Q' : Exit → Act → World → Prop} (hL : ∀ listed a w, I w → L listed a → wpAny P md ops Q' g listed a w) :
    ∀ (f : Nat) (listed : Array Bool) (a : Act) (w : World), I w → wpAnyC P md ops I n L f listed a → wpAny P md ops Q' (f + g) listed a w
  | 0, listed, a, w, hI, h => by rw [Nat.zero_add]; exact hL _ _ _ hI h
  | f + 1, listed, a, w, hI, h => by
    rw [show f + 1 + g = (f + g) + 1 by omega]
    exact ⟨fun h0 => absurd h0 h.1, fun i hi => wpOp_of_clOp hI (fun a' w' hw' h' => wpAny_of_calm hL f _ a' w' hw' h') (h.2 i hi).2⟩
/-- What must be known of what is ready while some of the head is left: it lies in the head. -/
def HeadFirst (md : Region.Mode) (ops : Array Oper) (n : Nat) (inv : Array Bool → Prop) : Prop :=
  ∀ listed, inv listed → ∀ i, i < n → listed.getD i true = false → ∀ t, n ≤ t → t ∉ Region.ready md ops listed
theorem wpAnyC_first {n i : Nat} {oi : Oper} {v : Value} {L : Array Bool → Act → Prop} {inv : Array Bool → Prop} (hi : ops[i]? = some oi) (hsel : ∀ (j : Nat) (o : Oper) cs b, ops[j]? = some o → o.op ≠ .select cs b)
    (hfirst : HeadFirst md ops n inv) (hset : ∀ listed j, inv listed → j ∈ Region.ready md ops listed → j < n → inv (listed.setIfInBounds j true)) (hin : i < n)
    (hdone : ∀ listed a, L listed a → ∀ j ∈ Region.ready md ops listed, n ≤ j) :
    ∀ (f : Nat) (listed : Array Bool) (a : Act), inv listed →
      (∀ j oj, ops[j]? = some oj → j ≠ i → listed.getD j true = false → (∀ e ∈ oj.after, Region.binds md e = true → e.on ≠ i) → oi.apart ops oj = true) →
      i ∈ Region.ready md ops listed → CalmAt P ops I oi v a →
      wpAnyC P md ops I n L f (listed.setIfInBounds i true) (a.put oi.dst v) → wpAnyC P md ops I n L (f + 1) listed a := by
  intro f
  induction f with
  | zero =>
    intro listed a hinv _ hr hy H
    have hun := (mem_ready.1 hr).1
    refine ⟨fun h => (by rw [h] at hr; cases hr), fun j hj => ?_⟩
    have hjn : j < n := by
      rcases Nat.lt_or_ge j n with h | h
      · exact h
      · exact absurd hj (hfirst listed hinv i hin hun j h)
    refine ⟨hjn, ?_⟩
    by_cases hji : j = i
    · subst hji; exact hy.clOp hi H
    · have := hdone _ _ H j (ready_mono hj hji)
      omega
  | succ f ih =>
    intro listed a hinv hfree hr hy H
    have hun := (mem_ready.1 hr).1
    refine ⟨fun h => (by rw [h] at hr; cases hr), fun j hj => ?_⟩
    have hjn : j < n := by
      rcases Nat.lt_or_ge j n with h | h
      · exact h
      · exact absurd hj (hfirst listed hinv i hin hun j h)
    refine ⟨hjn, ?_⟩
    by_cases hji : j = i
    · subst hji; exact hy.clOp hi H
    · have h1 := (H.2 j (ready_mono hj hji)).2
      obtain ⟨hjun, oj, hoj, hall⟩ := mem_ready.1 hj
      have hnot : ∀ e ∈ oj.after, Region.binds md e = true → e.on ≠ i := fun e he hb heq => by
        have h1 := hall e he hb
        rw [heq, getD_both hun] at h1
        cases h1
      have h2 := clOp_put hoj (hfree j oj hoj hji hjun hnot) (fun cs b => hsel i oi cs b hi) (fun cs b => hsel j oj cs b hoj) hy h1
      have hfree' : ∀ k ok, ops[k]? = some ok → k ≠ i → (listed.setIfInBounds j true).getD k true = false →
          (∀ e ∈ ok.after, Region.binds md e = true → e.on ≠ i) → oi.apart ops ok = true := fun k ok hk hki hun hno => by
        refine hfree k ok hk hki ?_ hno
        by_cases hjk : j = k
        · subst hjk; exact hjun
        · rw [getD_set_ne true hjk] at hun; exact hun
      refine clOp_mono (fun a' h3 => ih (listed.setIfInBounds j true) a' (hset _ _ hinv hj hjn) hfree' (ready_mono hr (Ne.symm hji)) h3.1 ?_) h2
      rw [Array.setIfInBounds_comm _ _ hji]
      exact h3.2
theorem wpAnyC_lex {n g : Nat} {Lq : Act → Prop} {inv : Array Bool → Prop} (hsel : Region.noSelect ops = true)
    (hfirst : HeadFirst md ops n inv) (hset : ∀ listed j, inv listed → j ∈ Region.ready md ops listed → j < n → inv (listed.setIfInBounds j true)) :
    ∀ (l : List Oper) (k : Nat) (listed : Array Bool) (a : Act), (∀ j, j < l.length → l[j]? = ops[k + j]?) → k + l.length = n → inv listed →
    Region.lexHead md ops g l.length k listed = true → wpCalm P ops I Lq l a →
    wpAnyC P md ops I n (fun listed' a' => Region.seqB md ops g n listed' = true ∧ Lq a') l.length listed a
  | [], k, listed, a, _, hk, _, hB, h => by
    have : k = n := by simpa using hk
    subst this
    exact ⟨by simpa [Region.lexHead] using hB, h⟩
  | o :: l, k, listed, a, hl, hk, hinv, hB, h => by
    have h0 : ops[k]? = some o := by simpa using (hl 0 (by simp)).symm
    simp only [List.length_cons, Region.lexHead, Bool.and_eq_true] at hB
    obtain ⟨⟨hr, hf⟩, hB'⟩ := hB
    have hkn : k < n := by simp only [List.length_cons] at hk; omega
    have hr' : k ∈ Region.ready md ops listed := by simpa using hr
    obtain ⟨v, hy, hK⟩ := h
    exact wpAnyC_first h0 (Region.noSelect_spec hsel) hfirst hset hkn (fun listed' a' hL => seqB_ready hL.1) l.length listed a hinv (Region.free_spec h0 hf) hr' hy
      (wpAnyC_lex hsel hfirst hset l (k + 1) _ _ (fun j hj => by have := hl (j + 1) (by simp; omega); simpa [Nat.add_assoc, Nat.add_comm 1 j] using this) (by simp only [List.length_cons] at hk; omega) (hset _ _ hinv hr' hkn) hB' hK)

/-- A region that draws, with a tail in one forced order. -/
theorem wp_region_calm_tail {id : Nat} {Q : Exit → Act → World → Prop} {a : Act} {w : World} {l : List Oper} (n : Nat) (I : World → Prop) (hm : P.follows .mixedOrders = true) (hB : Region.lexTailB .any l.toArray n = true)
    (hI : I w.drew) (h : wpCalm P l.toArray I (fun a' => ∀ w', I w' → wpList P l.toArray Q (l.drop n) a' w') (l.take n) a) : (Code.region id l.toArray true).wp P Q a w := by
  simp only [Region.lexTailB, Bool.and_eq_true, decide_eq_true_eq] at hB
  obtain ⟨⟨⟨⟨hsel, hn⟩, hs⟩, hc⟩, hlex⟩ := hB
  have hn' : n < l.length := by simpa using hn
  have htl : (l.take n).length = n := by simp; omega
  have hdl : (l.drop n).length = l.toArray.size - n := by simp
  have inv0 : HeadInv .any l.toArray n (Array.replicate l.toArray.size false) :=
    ⟨by simp, fun j oj _ hl => (by rw [getD_replicate_false] at hl; cases hl), fun t _ ht => getD_in (by simpa using ht) (getD_replicate_false _ _)⟩
  have H := wpAnyC_lex (md := .any) (g := l.toArray.size - n) (inv := HeadInv .any l.toArray n) hsel (fun listed inv i hi hun t ht => tail_waits hs hc hn inv _ i rfl hi hun t ht)
    (fun listed j inv hj hjn => inv.set hj hjn) (l.take n) 0 _ a (fun j hj => by
    have hj' : j < n := by rw [htl] at hj; exact hj
    simp [hj']) (by simpa using htl) inv0 (by rw [htl]; exact hlex) h
  refine wp_region_any hm ?_
  have := wpAny_of_calm (Q' := Q) (g := l.toArray.size - n) (fun listed a' w' hI' hL => by
    have := wpAny_of_seq (md := .any) (Q' := Q) (l.drop n) n listed a' w' (fun j => by simp [List.getElem?_drop]) (by rw [hdl]; exact hL.1) (hL.2 w' hI')
    rwa [hdl] at this) _ _ _ w.drew hI H
  rw [htl, show n + (l.toArray.size - n) = l.toArray.size by omega] at this
  exact this

/-- A region that draws, all of it calm. -/
theorem wp_region_calm {id : Nat} {Q : Exit → Act → World → Prop} {a : Act} {w : World} {l : List Oper} (I : World → Prop) (hm : P.follows .mixedOrders = true) (hB : Region.lexB .any l.toArray = true)
    (hI : I w.drew) (h : wpCalm P l.toArray I (fun a' => ∀ w', I w' → Q .normal a' w') l a) : (Code.region id l.toArray true).wp P Q a w := by
  simp only [Region.lexB, Bool.and_eq_true] at hB
  have hx : ∀ (f k : Nat) (listed : Array Bool), Region.lexFrom .any l.toArray f k listed = Region.lexHead .any l.toArray 0 f k listed := by
    intro f
    induction f with
    | zero => intro k listed; rfl
    | succ f ih => intro k listed; simp only [Region.lexFrom, Region.lexHead, ih]
  have hB2 : Region.lexHead .any l.toArray 0 l.length 0 (Array.replicate l.toArray.size false) = true := by rw [← hx]; simpa using hB.2
  have H := wpAnyC_lex (md := .any) (n := l.length) (g := 0) (inv := fun _ => True) hB.1 (fun listed _ i _ _ t ht hr => by
      obtain ⟨_, ot, hot, _⟩ := mem_ready.1 hr
      have := (Array.getElem?_eq_some_iff.1 hot).1
      have h2 : l.toArray.size = l.length := by simp
      omega) (fun _ _ _ _ _ => trivial) l 0 _ a (fun j _ => by simp) (by simp) trivial hB2 h
  refine wp_region_any hm ?_
  have := wpAny_of_calm (Q' := Q) (g := 0) (fun listed a' w' hI' hL => by
    refine ⟨by simpa [Region.seqB] using hL.1, hL.2 w' hI'⟩) _ _ _ w.drew hI H
  simpa using this
/-- A whole row read. -/
theorem calm_load_row {o : Oper} {a : Act} {w : World} {K : Value → World → Prop} (ty : TypeId) (x : Operand) (ho : o.op = .load ty x)
    (g : Nat) (hx : a.eval x = .pointer (some ⟨g, 0, none⟩)) (t : TypeId) (cs : Array Value) (fr : Nat × Nat) (d : TypeDesc) (hg : w.heap[g]? = some (.cells cs t fr))
    (hu : P.underlying ty = some d) (hd : (match d with | .struct _ | .array _ _ => true | _ => false) = true) (hi : (P.info? ty).map (·.size) = some cs.size)
    (h : K (.agg cs) w) : calm P o a w K := by
  unfold calm execOp
  simp only [ho, hx, Instr.loadAt, Instr.sureAddr, Sem.run_bind, Sem.run_pure, Result.andThen_ok, run_loadVar_row w g t ty cs fr d hg hu hd hi]
  exact h
/-- Two arrays of numbers held against each other. -/
theorem calm_eql_ints {o : Oper} {a : Act} {w : World} {K : Value → World → Prop} {t t' : TypeId} {x y : Operand} (ho : o.op = .binOp .eql t x y t') {e n : Nat} {k k' : IntKind} {as bs : List Nat}
    (hx : a.eval x = .agg (av k as)) (hy : a.eval y = .agg (av k bs)) (ht : P.underlying t = some (.array n e)) (he : P.underlying e = some (.int k')) (hs : (P.info? e).map (·.size) = some 1)
    (ha : as.length = n) (hb : bs.length = n) (hg : P.eqGuardType P.depth t = false) (h : K (.bool (as == bs)) w) : calm P o a w K := by
  unfold calm execOp
  simp only [ho, hx, hy, Sem.run_bind, run_eqGuard_agg w .eql t x y (av k as) (av k bs) hg, Result.andThen_ok, run_eql_ints t e n k k' as bs ht he hs ha hb w]
  exact h
end
attribute [go_sem] calm calmUpon
end Go.Proofs.Ythpjdgddpnpdpaa

/- A word of mine that all seats share: a statement whose order is open, with calls in it that come in one order and answer what is not known beforehand (new rows); what is read of a row that is there stays as it is from then on. Nothing of the program stands here. -/
import Derived.Test.YthpjdgddpnpdpaaCalmG
namespace Go.Proofs.Ythpjdgddpnpdpaa

/-- What an operation is: any: it answers one value at every stage; held: it answers one value from its own stage on; turn: it leads to a new stage. -/
inductive Kd where
  | any (v : Value)
  | held
  | turn
def Kd.fits : Kd → Kd → Bool
  | .turn, .any _ => true
  | .turn, _ => false
  | _, _ => true
def kdAt (kd : List Kd) (i : Nat) : Kd := (kd[i]?).getD (.any undef)
def Kd.isAny : Kd → Bool
  | .any _ => true
  | _ => false
def fitAll (md : Region.Mode) (ops : Array Oper) (kd : List Kd) : Bool :=
  (List.range ops.size).all fun j => (kdAt kd j).isAny || (List.range j).all fun i => (kdAt kd i).fits (kdAt kd j) || ancB md ops 24 j i
section
variable {P : Program} {ops : Array Oper} {md : Region.Mode} {σ : Type} {I : σ → World → Prop} {le : σ → σ → Prop}

def PlainAny (P : Program) (ops : Array Oper) (I : σ → World → Prop) (o : Oper) (v : Value) (a : Act) : Prop :=
  (Region.wanted o (yielded ops a.tmps) = true ∧ ∀ t w, I t w → calm P o a w fun v' w' => v' = v ∧ I t w') ∨ (Region.wanted o (yielded ops a.tmps) = false ∧ v = undef)
def PlainHeld (P : Program) (ops : Array Oper) (I : σ → World → Prop) (le : σ → σ → Prop) (s : σ) (o : Oper) (v : Value) (a : Act) : Prop :=
  (Region.wanted o (yielded ops a.tmps) = true ∧ ∀ t w, le s t → I t w → calm P o a w fun v' w' => v' = v ∧ I t w') ∨ (Region.wanted o (yielded ops a.tmps) = false ∧ v = undef)
def Turns (P : Program) (ops : Array Oper) (I : σ → World → Prop) (le : σ → σ → Prop) (s : σ) (o : Oper) (T : σ → Value → Prop) (a : Act) : Prop :=
  Region.wanted o (yielded ops a.tmps) = true ∧ (∃ s' v', le s s' ∧ T s' v') ∧ ∀ w, I s w → calm P o a w fun v' w' => ∃ s', le s s' ∧ T s' v' ∧ I s' w'
theorem PlainAny.of_same {o : Oper} {v : Value} {a a' : Act} (hy : PlainAny P ops I o v a) (he : execOp a'.eval o = execOp a.eval o)
    (hw : Region.wanted o (yielded ops a'.tmps) = Region.wanted o (yielded ops a.tmps)) : PlainAny P ops I o v a' := by
  unfold PlainAny calm at *
  rw [he, hw]
  exact hy
theorem PlainHeld.of_same {s : σ} {o : Oper} {v : Value} {a a' : Act} (hy : PlainHeld P ops I le s o v a) (he : execOp a'.eval o = execOp a.eval o)
    (hw : Region.wanted o (yielded ops a'.tmps) = Region.wanted o (yielded ops a.tmps)) : PlainHeld P ops I le s o v a' := by
  unfold PlainHeld calm at *
  rw [he, hw]
  exact hy
theorem Turns.of_same {s : σ} {o : Oper} {T : σ → Value → Prop} {a a' : Act} (hy : Turns P ops I le s o T a) (he : execOp a'.eval o = execOp a.eval o)
    (hw : Region.wanted o (yielded ops a'.tmps) = Region.wanted o (yielded ops a.tmps)) : Turns P ops I le s o T a' := by
  unfold Turns calm at *
  rw [he, hw]
  exact hy
theorem PlainHeld.up (htr : ∀ a b c, le a b → le b c → le a c) {s t : σ} {o : Oper} {v : Value} {a : Act} (hst : le s t) (hy : PlainHeld P ops I le s o v a) : PlainHeld P ops I le t o v a := by
  rcases hy with ⟨h1, h2⟩ | h
  · exact .inl ⟨h1, fun u w hu hI => h2 u w (htr _ _ _ hst hu) hI⟩
  · exact .inr h

def stepH (P : Program) (ops : Array Oper) (I : σ → World → Prop) (le : σ → σ → Prop) (k : Kd) (s : σ) (o : Oper) (a : Act) (K : σ → Act → Prop) : Prop :=
  match k with
  | .any v => PlainAny P ops I o v a ∧ K s (a.put o.dst v)
  | .held => ∃ v, PlainHeld P ops I le s o v a ∧ K s (a.put o.dst v)
  | .turn => ∃ T, Turns P ops I le s o T a ∧ ∀ s' v', le s s' → T s' v' → K s' (a.put o.dst v')
theorem stepH_mono {k : Kd} {s : σ} {o : Oper} {a : Act} {K K' : σ → Act → Prop} (h : ∀ s a, K s a → K' s a) (hh : stepH P ops I le k s o a K) : stepH P ops I le k s o a K' := by
  cases k with
  | any v => exact ⟨hh.1, h _ _ hh.2⟩
  | held => obtain ⟨v, h1, h2⟩ := hh; exact ⟨v, h1, h _ _ h2⟩
  | turn => obtain ⟨T, h1, h2⟩ := hh; exact ⟨T, h1, fun s' v' hl ht => h _ _ (h2 s' v' hl ht)⟩
theorem stepH_swap (htr : ∀ a b c, le a b → le b c → le a c) {ki kj : Kd} {s : σ} {oi oj : Oper} {a : Act} {K : σ → Act → Prop} (hf : ki.fits kj = true) (hap : oi.apart ops oj = true)
    (hsi : ∀ cs b, oi.op ≠ .select cs b) (hsj : ∀ cs b, oj.op ≠ .select cs b) (h : stepH P ops I le ki s oi a fun s' a' => stepH P ops I le kj s' oj a' K) :
    stepH P ops I le kj s oj a fun s' a' => stepH P ops I le ki s' oi a' K := by
  obtain ⟨h1, h2, h3⟩ := Oper.apart_spec hap
  have ej : ∀ v, execOp a.eval oj = execOp (a.put oi.dst v).eval oj := fun v => (execOp_put oj hsj a oi.dst v h1).symm
  have wj : ∀ v, Region.wanted oj (yielded ops a.tmps) = Region.wanted oj (yielded ops (a.put oi.dst v).tmps) := fun v => (wanted_put oj a oi.dst v h1).symm
  have ei : ∀ u, execOp (a.put oj.dst u).eval oi = execOp a.eval oi := fun u => execOp_put oi hsi a oj.dst u h3
  have wi : ∀ u, Region.wanted oi (yielded ops (a.put oj.dst u).tmps) = Region.wanted oi (yielded ops a.tmps) := fun u => wanted_put oi a oj.dst u h3
  have cm : ∀ v u, (a.put oi.dst v).put oj.dst u = (a.put oj.dst u).put oi.dst v := fun v u => Act.put_comm a v u h2
  cases ki with
  | any v =>
    obtain ⟨p, h⟩ := h
    cases kj with
    | any u => exact ⟨h.1.of_same (ej v) (wj v), p.of_same (ei u) (wi u), cm v u ▸ h.2⟩
    | held => obtain ⟨u, q, h⟩ := h; exact ⟨u, q.of_same (ej v) (wj v), p.of_same (ei u) (wi u), cm v u ▸ h⟩
    | turn => obtain ⟨T, q, h⟩ := h; exact ⟨T, q.of_same (ej v) (wj v), fun s' u hl ht => ⟨p.of_same (ei u) (wi u), cm v u ▸ h s' u hl ht⟩⟩
  | held =>
    obtain ⟨v, p, h⟩ := h
    cases kj with
    | any u => exact ⟨h.1.of_same (ej v) (wj v), v, p.of_same (ei u) (wi u), cm v u ▸ h.2⟩
    | held => obtain ⟨u, q, h⟩ := h; exact ⟨u, q.of_same (ej v) (wj v), v, p.of_same (ei u) (wi u), cm v u ▸ h⟩
    | turn => obtain ⟨T, q, h⟩ := h; exact ⟨T, q.of_same (ej v) (wj v), fun s' u hl ht => ⟨v, (p.up htr hl).of_same (ei u) (wi u), cm v u ▸ h s' u hl ht⟩⟩
  | turn =>
    obtain ⟨T, p, h⟩ := h
    cases kj with
    | any u =>
      obtain ⟨s0, v0, hl0, ht0⟩ := p.2.1
      exact ⟨(h s0 v0 hl0 ht0).1.of_same (ej v0) (wj v0), T, p.of_same (ei u) (wi u), fun s' v hl ht => cm v u ▸ (h s' v hl ht).2⟩
    | held => cases hf
    | turn => cases hf
theorem stepH.wpOp {k : Kd} {s : σ} {o : Oper} {i : Nat} {a : Act} {w : World} {K : σ → Act → Prop} {K' : Act → World → Prop} {Q : Exit → Act → World → Prop} (hrf : ∀ a, le a a) (hi : ops[i]? = some o) (hy : stepH P ops I le k s o a K) (hw : I s w)
    (h : ∀ s a w, I s w → K s a → K' a w) : wpOp P ops Q i K' a w := by
  have key : (Region.wanted o (yielded ops a.tmps) = true ∧ calm P o a w fun v' w' => K' (a.put o.dst v') w') ∨ (Region.wanted o (yielded ops a.tmps) = false ∧ K' (a.put o.dst undef) w) := by
    have mono : ∀ {K1 K2 : Value → World → Prop}, (∀ v w, K1 v w → K2 v w) → calm P o a w K1 → calm P o a w K2 := by
      intro K1 K2 hK hc
      unfold calm at *
      generalize (execOp a.eval o).run P w = r at *
      cases r with
      | ok n w' =>
        cases n <;> simp only [calmUpon] at *
        case enter f args => exact hc.mono fun e w'' ⟨u, he, hu⟩ => ⟨u, he, hK _ _ hu⟩
        all_goals exact hK _ _ hc
      | halt x w' => simp only [calmUpon] at hc
    cases k with
    | any v =>
      obtain ⟨p, hk⟩ := hy
      rcases p with ⟨h1, h2⟩ | ⟨h1, rfl⟩
      · exact .inl ⟨h1, mono (fun v' w' ⟨e, hI⟩ => e ▸ h _ _ _ hI hk) (h2 s w hw)⟩
      · exact .inr ⟨h1, h _ _ _ hw hk⟩
    | held =>
      obtain ⟨v, p, hk⟩ := hy
      rcases p with ⟨h1, h2⟩ | ⟨h1, rfl⟩
      · exact .inl ⟨h1, mono (fun v' w' ⟨e, hI⟩ => e ▸ h _ _ _ hI hk) (h2 s w (hrf s) hw)⟩
      · exact .inr ⟨h1, h _ _ _ hw hk⟩
    | turn =>
      obtain ⟨T, p, hk⟩ := hy
      exact .inl ⟨p.1, mono (fun v' w' ⟨s', hl, ht, hI⟩ => h _ _ _ hI (hk s' v' hl ht)) (p.2.2 w hw)⟩
  unfold Go.wpOp
  simp only [hi]
  rcases key with ⟨hwt, this⟩ | ⟨hwt, this⟩
  · simp only [hwt, if_true]
    refine .inl ?_
    unfold calm at this
    unfold Oper.wp
    generalize (execOp a.eval o).run P w = r at *
    cases r with
    | ok n w' =>
      cases n <;> simp only [calmUpon] at this <;> simp only [Oper.upon]
      case enter f args => exact this.mono fun e w'' ⟨u, he, hu⟩ => by subst he; exact hu
      all_goals exact this
    | halt x w' => simp only [calmUpon] at this
  · simp only [hwt, Bool.false_eq_true, if_false]
    exact this

def hlOp (P : Program) (ops : Array Oper) (I : σ → World → Prop) (le : σ → σ → Prop) (kd : List Kd) (i : Nat) (s : σ) (K : σ → Act → Prop) (a : Act) : Prop :=
  match ops[i]? with
  | none => K s a
  | some o => stepH P ops I le (kdAt kd i) s o a K
theorem hlOp_some {kd : List Kd} {i : Nat} {s : σ} {o : Oper} {a : Act} {K : σ → Act → Prop} (hi : ops[i]? = some o) : hlOp P ops I le kd i s K a = stepH P ops I le (kdAt kd i) s o a K := by
  simp [hlOp, hi]
theorem wpOp_of_hlOp {kd : List Kd} {i : Nat} {s : σ} {a : Act} {w : World} {K : σ → Act → Prop} {K' : Act → World → Prop} {Q : Exit → Act → World → Prop} (hrf : ∀ a, le a a) (hw : I s w) (h : ∀ s a w, I s w → K s a → K' a w)
    (hh : hlOp P ops I le kd i s K a) : wpOp P ops Q i K' a w := by
  cases ho : ops[i]? with
  | none =>
    unfold hlOp at hh
    unfold Go.wpOp
    simp only [ho] at hh ⊢
    exact h _ _ _ hw hh
  | some o =>
    rw [hlOp_some ho] at hh
    exact hh.wpOp hrf ho hw h

def wpAnyH (P : Program) (md : Region.Mode) (ops : Array Oper) (I : σ → World → Prop) (le : σ → σ → Prop) (kd : List Kd) (L : Array Bool → σ → Act → Prop) : Nat → Array Bool → σ → Act → Prop
  | 0, listed, s, a => L listed s a
  | f + 1, listed, s, a =>
    Region.ready md ops listed ≠ [] ∧ ∀ i ∈ Region.ready md ops listed, hlOp P ops I le kd i s (wpAnyH P md ops I le kd L f (listed.setIfInBounds i true)) a
theorem wpAny_of_H (hrf : ∀ a, le a a) {kd : List Kd} {g : Nat} {L : Array Bool → σ → Act → Prop} {Q' : Exit → Act → World → Prop} (hL : ∀ listed s a w, I s w → L listed s a → wpAny P md ops Q' g listed a w) :
    ∀ (f : Nat) (listed : Array Bool) (s : σ) (a : Act) (w : World), I s w → wpAnyH P md ops I le kd L f listed s a → wpAny P md ops Q' (f + g) listed a w
  | 0, listed, s, a, w, hI, h => by rw [Nat.zero_add]; exact hL _ _ _ _ hI h
  | f + 1, listed, s, a, w, hI, h => by
    rw [show f + 1 + g = (f + g) + 1 by omega]
    exact ⟨fun h0 => absurd h0 h.1, fun i hi => wpOp_of_hlOp hrf hI (fun s' a' w' hw' h' => wpAny_of_H hrf hL f _ s' a' w' hw' h') (h.2 i hi)⟩
theorem stepH_some {k : Kd} {s : σ} {o : Oper} {a : Act} {K : σ → Act → Prop} (h : stepH P ops I le k s o a K) : ∃ s' a', K s' a' := by
  cases k with
  | any v => exact ⟨_, _, h.2⟩
  | held => obtain ⟨v, _, h⟩ := h; exact ⟨_, _, h⟩
  | turn => obtain ⟨T, p, h⟩ := h; obtain ⟨s0, v0, hl, ht⟩ := p.2.1; exact ⟨_, _, h s0 v0 hl ht⟩
theorem wpAnyH_first (htr : ∀ a b c, le a b → le b c → le a c) {kd : List Kd} {i : Nat} {oi : Oper} {L : Array Bool → σ → Act → Prop} (hi : ops[i]? = some oi) (hsel : ∀ (j : Nat) (o : Oper) cs b, ops[j]? = some o → o.op ≠ .select cs b)
    (hdone : ∀ listed s a, L listed s a → ∀ j, j ∉ Region.ready md ops listed) :
    ∀ (f : Nat) (listed : Array Bool) (s : σ) (a : Act), Down md ops listed →
      (∀ j, j ≠ i → listed.getD j true = false → (kdAt kd i).fits (kdAt kd j) = true ∨ ancB md ops 24 j i = true) →
      (∀ j oj, ops[j]? = some oj → j ≠ i → listed.getD j true = false → (∀ e ∈ oj.after, Region.binds md e = true → e.on ≠ i) → oi.apart ops oj = true) →
      i ∈ Region.ready md ops listed →
      stepH P ops I le (kdAt kd i) s oi a (wpAnyH P md ops I le kd L f (listed.setIfInBounds i true)) → wpAnyH P md ops I le kd L (f + 1) listed s a := by
  intro f
  induction f with
  | zero =>
    intro listed s a hd _ _ hr H
    refine ⟨fun h => (by rw [h] at hr; cases hr), fun j hj => ?_⟩
    by_cases hji : j = i
    · subst hji; rw [hlOp_some hi]; exact H
    · obtain ⟨s', a', h⟩ := stepH_some H
      exact absurd (ready_mono hj hji) (hdone _ _ _ h j)
  | succ f ih =>
    intro listed s a hd hcomp hfree hr H
    have hun := (mem_ready.1 hr).1
    refine ⟨fun h => (by rw [h] at hr; cases hr), fun j hj => ?_⟩
    by_cases hji : j = i
    · subst hji; rw [hlOp_some hi]; exact H
    · obtain ⟨hjun, oj, hoj, hall⟩ := mem_ready.1 hj
      have h1 : stepH P ops I le (kdAt kd i) s oi a fun s' a' => stepH P ops I le (kdAt kd j) s' oj a' (wpAnyH P md ops I le kd L f ((listed.setIfInBounds i true).setIfInBounds j true)) :=
        stepH_mono (fun s' a' h => by have := h.2 j (ready_mono hj hji); rwa [hlOp_some hoj] at this) H
      have hnot : ∀ e ∈ oj.after, Region.binds md e = true → e.on ≠ i := fun e he hb heq => by
        have h1 := hall e he hb
        rw [heq, getD_both hun] at h1
        cases h1
      have hcj : (kdAt kd i).fits (kdAt kd j) = true := by
        rcases hcomp j hji hjun with h | h
        · exact h
        · exfalso
          unfold ancB at h
          simp only [hoj] at h
          obtain ⟨x, hx, he⟩ := Array.any_eq_true'.1 h
          simp only [Bool.and_eq_true, Bool.or_eq_true, beq_iff_eq] at he
          rcases he.2 with h2 | h2
          · exact hnot x hx he.1 h2
          · have := anc_listed hd _ _ _ (hall x hx he.1) h2
            rw [getD_both hun] at this
            cases this
      rw [hlOp_some hoj]
      have h2 := stepH_swap htr hcj (hfree j oj hoj hji hjun hnot) (fun cs b => hsel i oi cs b hi) (fun cs b => hsel j oj cs b hoj) h1
      have hun' : ∀ k, k ≠ i → (listed.setIfInBounds j true).getD k true = false → listed.getD k true = false := fun k _ hk => by
        by_cases hjk : j = k
        · subst hjk; exact hjun
        · rw [getD_set_ne true hjk] at hk; exact hk
      refine stepH_mono (fun s' a' h3 => ?_) h2
      refine ih (listed.setIfInBounds j true) s' a' (down_set hd hj) (fun k hki hk => hcomp k hki (hun' k hki hk)) (fun k ok hk hki hu hno => hfree k ok hk hki (hun' k hki hu) hno) (ready_mono hr (Ne.symm hji)) ?_
      rw [Array.setIfInBounds_comm _ _ (Ne.symm hji)] at h3
      exact h3

/-- A list of operations, each by its kind. -/
def wpH (P : Program) (ops : Array Oper) (I : σ → World → Prop) (le : σ → σ → Prop) (Q : σ → Act → Prop) : List Kd → List Oper → σ → Act → Prop
  | _, [], s, a => Q s a
  | k :: kd, o :: rest, s, a => stepH P ops I le k s o a (wpH P ops I le Q kd rest)
  | [], o :: rest, s, a => stepH P ops I le (.any undef) s o a (wpH P ops I le Q [] rest)
theorem wpH_nil {Q : σ → Act → Prop} {kd : List Kd} {s : σ} {a : Act} (h : Q s a) : wpH P ops I le Q kd [] s a := by cases kd <;> exact h
theorem wpH_any {Q : σ → Act → Prop} {kd : List Kd} {s : σ} {a : Act} {o : Oper} {rest : List Oper} {v : Value} (hg : Region.wanted o (yielded ops a.tmps) = true)
    (hc : ∀ t w, I t w → ∀ K : Value → World → Prop, (∀ w', I t w' → K v w') → calm P o a w K) (h : wpH P ops I le Q kd rest s (a.put o.dst v)) : wpH P ops I le Q (.any v :: kd) (o :: rest) s a :=
  ⟨.inl ⟨hg, fun t w hI => hc t w hI _ fun _ h' => ⟨rfl, h'⟩⟩, h⟩
theorem wpH_skip {Q : σ → Act → Prop} {kd : List Kd} {s : σ} {a : Act} {o : Oper} {rest : List Oper} (hg : Region.wanted o (yielded ops a.tmps) = false)
    (h : wpH P ops I le Q kd rest s (a.put o.dst undef)) : wpH P ops I le Q (.any undef :: kd) (o :: rest) s a :=
  ⟨.inr ⟨hg, rfl⟩, h⟩
theorem wpH_held {Q : σ → Act → Prop} {kd : List Kd} {s : σ} {a : Act} {o : Oper} {rest : List Oper} (v : Value) (hg : Region.wanted o (yielded ops a.tmps) = true)
    (hc : ∀ t w, le s t → I t w → ∀ K : Value → World → Prop, (∀ w', I t w' → K v w') → calm P o a w K) (h : wpH P ops I le Q kd rest s (a.put o.dst v)) : wpH P ops I le Q (.held :: kd) (o :: rest) s a :=
  ⟨v, .inl ⟨hg, fun t w hl hI => hc t w hl hI _ fun _ h' => ⟨rfl, h'⟩⟩, h⟩
theorem wpH_turn {Q : σ → Act → Prop} {kd : List Kd} {s : σ} {a : Act} {o : Oper} {rest : List Oper} (T : σ → Value → Prop) (hg : Region.wanted o (yielded ops a.tmps) = true) (hex : ∃ s' v', le s s' ∧ T s' v')
    (hc : ∀ w, I s w → ∀ K : Value → World → Prop, (∀ s' v' w', le s s' → T s' v' → I s' w' → K v' w') → calm P o a w K) (h : ∀ s' v', le s s' → T s' v' → wpH P ops I le Q kd rest s' (a.put o.dst v')) : wpH P ops I le Q (.turn :: kd) (o :: rest) s a :=
  ⟨T, ⟨hg, hex, fun w hI => hc w hI _ fun s' _ _ hl ht hI' => ⟨s', hl, ht, hI'⟩⟩, h⟩
theorem wpAnyH_lex (htr : ∀ a b c, le a b → le b c → le a c) {n : Nat} {kd : List Kd} {Lq : σ → Act → Prop} (hsel : Region.noSelect ops = true) (hn : ops.size = n) (hcomp : fitAll md ops kd = true) :
    ∀ (l : List Oper) (k : Nat) (listed : Array Bool) (s : σ) (a : Act), (∀ j, j < l.length → l[j]? = ops[k + j]?) → k + l.length = n → Down md ops listed → listed.size = n → (∀ j, j < k → listed.getD j false = true) →
    Region.lexHead md ops 0 l.length k listed = true → wpH P ops I le Lq (kd.drop k) l s a →
    wpAnyH P md ops I le kd (fun listed' s' a' => Region.seqB md ops 0 n listed' = true ∧ Lq s' a') l.length listed s a
  | [], k, listed, s, a, _, hk, _, _, _, hB, h => by
    have : k = n := by simpa using hk
    subst this
    refine ⟨by simpa [Region.lexHead] using hB, ?_⟩
    generalize kd.drop k = kk at h
    cases kk <;> exact h
  | o :: l, k, listed, s, a, hl, hk, hd, hz, hlo, hB, h => by
    have h0 : ops[k]? = some o := by simpa using (hl 0 (by simp)).symm
    simp only [List.length_cons, Region.lexHead, Bool.and_eq_true] at hB
    obtain ⟨⟨hr, hf⟩, hB'⟩ := hB
    have hkn : k < n := by simp only [List.length_cons] at hk; omega
    have hr' : k ∈ Region.ready md ops listed := by simpa using hr
    have hst : stepH P ops I le (kdAt kd k) s o a (wpH P ops I le Lq (kd.drop (k + 1)) l) := by
      by_cases hkd : k < kd.length
      · rw [List.drop_eq_getElem_cons hkd] at h
        rw [show kdAt kd k = kd[k] by simp [kdAt, List.getElem?_eq_getElem hkd]]
        exact h
      · rw [List.drop_eq_nil_of_le (by omega)] at h
        rw [show kdAt kd k = .any undef by simp [kdAt, List.getElem?_eq_none (show kd.length ≤ k by omega)], List.drop_eq_nil_of_le (by omega)]
        exact h
    refine wpAnyH_first htr h0 (Region.noSelect_spec hsel) (fun listed' s a hL j hj => ?_) l.length listed s a hd (fun j hjk hun => ?_) (Region.free_spec h0 hf) hr'
      (stepH_mono (fun s' a' hK => wpAnyH_lex htr hsel hn hcomp l (k + 1) _ s' _ (fun j hj => by have := hl (j + 1) (by simp; omega); simpa [Nat.add_assoc, Nat.add_comm 1 j] using this) (by simp only [List.length_cons] at hk; omega) (down_set hd hr') (by simpa using hz)
        (fun j hj => by
          by_cases hjk : k = j
          · subst hjk; simp [Array.getD, hz, hkn]
          · rw [getD_set_ne false hjk]; exact hlo j (by omega)) hB' hK) hst)
    · have h1 := seqB_ready hL.1 j hj
      obtain ⟨oj, hoj, _⟩ := (mem_ready.1 hj).2
      have := (Array.getElem?_eq_some_iff.1 hoj).1
      omega
    · have hkj : k < j := by
        rcases Nat.lt_trichotomy k j with h | h | h
        · exact h
        · exact absurd h.symm hjk
        · have := hlo j h
          rw [getD_both hun] at this
          cases this
      by_cases hj0 : (kdAt kd j).isAny = true
      · refine .inl ?_
        revert hj0
        cases kdAt kd k <;> cases kdAt kd j <;> simp [Kd.fits, Kd.isAny]
      · by_cases hjn : j < ops.size
        · have := List.all_eq_true.1 hcomp j (List.mem_range.2 hjn)
          simp only [Bool.or_eq_true] at this
          rcases this with h | h
          · exact absurd h hj0
          · have := List.all_eq_true.1 h k (List.mem_range.2 hkj)
            simpa only [Bool.or_eq_true] using this
        · have : listed.getD j true = true := by simp [Array.getD, hz, ← hn, hjn]
          rw [this] at hun; cases hun

/-- A region that draws, with calls that turn the world. -/
theorem wp_region_calm_h {id : Nat} {Q : Exit → Act → World → Prop} {a : Act} {w : World} {l : List Oper} (I : σ → World → Prop) (le : σ → σ → Prop) (hrf : ∀ a, le a a) (htr : ∀ a b c, le a b → le b c → le a c) (s0 : σ) (kd : List Kd) (hm : P.follows .mixedOrders = true)
    (hB : Region.lexB .any l.toArray = true) (hC : fitAll .any l.toArray kd = true) (hI : I s0 w.drew) (h : wpH P l.toArray I le (fun s a' => ∀ w', I s w' → Q .normal a' w') kd l s0 a) : (Code.region id l.toArray true).wp P Q a w := by
  simp only [Region.lexB, Bool.and_eq_true] at hB
  have hx : ∀ (f k : Nat) (listed : Array Bool), Region.lexFrom .any l.toArray f k listed = Region.lexHead .any l.toArray 0 f k listed := by
    intro f
    induction f with
    | zero => intro k listed; rfl
    | succ f ih => intro k listed; simp only [Region.lexFrom, Region.lexHead, ih]
  have hB2 : Region.lexHead .any l.toArray 0 l.length 0 (Array.replicate l.toArray.size false) = true := by rw [← hx]; simpa using hB.2
  have H := wpAnyH_lex (md := .any) (n := l.length) (kd := kd) htr hB.1 (by simp) hC l 0 (Array.replicate l.toArray.size false) s0 a (fun j _ => by simp) (by simp)
    (fun k ok hok hk => by simp [Array.getD] at hk) (by simp) (fun j hj => by omega) hB2 (by simpa using h)
  refine wp_region_any hm ?_
  have := wpAny_of_H (Q' := Q) (g := 0) hrf (fun listed s a' w' hI' hL => by
    refine ⟨by simpa [Region.seqB] using hL.1, hL.2 w' hI'⟩) _ _ _ _ w.drew hI H
  simpa using this
end
end Go.Proofs.Ythpjdgddpnpdpaa

/- A word of mine that all seats share: a statement whose order is open, in which reads come ahead of stores by what they wait for, and all else looks at no memory: the stores are done in one order. Nothing of the program stands here. -/
import Derived.Test.YthpjdgddpnpdpaaCalm
namespace Go.Proofs.Ythpjdgddpnpdpaa
section
variable {P : Program} {ops : Array Oper} {md : Region.Mode} {I : Nat → World → Prop}

/-- j waits for i. -/
def ancB (md : Region.Mode) (ops : Array Oper) : Nat → Nat → Nat → Bool
  | 0, _, _ => false
  | f + 1, j, i => match ops[j]? with
    | none => false
    | some o => o.after.any fun e => Region.binds md e && (e.on == i || ancB md ops f e.on i)
/-- What an operation is: 0 looks at no memory, 1 reads, 2 stores. -/
def compat (a b : Nat) : Bool := a == 0 || b == 0 || (a == 1 && b == 1)
def compAll (md : Region.Mode) (ops : Array Oper) (kd : List Nat) : Bool :=
  (List.range ops.size).all fun j => (kd.getD j 0 == 0) || (List.range j).all fun i => compat (kd.getD i 0) (kd.getD j 0) || ancB md ops 12 j i

def Down (md : Region.Mode) (ops : Array Oper) (listed : Array Bool) : Prop :=
  ∀ k ok, ops[k]? = some ok → listed.getD k false = true → ∀ e ∈ ok.after, Region.binds md e = true → listed.getD e.on false = true
theorem anc_listed {listed : Array Bool} (hd : Down md ops listed) : ∀ (f j i : Nat), listed.getD j false = true → ancB md ops f j i = true → listed.getD i false = true
  | 0, _, _, _, h => by simp [ancB] at h
  | f + 1, j, i, hj, h => by
    unfold ancB at h
    split at h
    · cases h
    · rename_i o ho
      obtain ⟨x, hx, he⟩ := Array.any_eq_true'.1 h
      simp only [Bool.and_eq_true, Bool.or_eq_true, beq_iff_eq] at he
      have hl := hd j o ho hj x hx he.1
      rcases he.2 with h1 | h1
      · exact h1 ▸ hl
      · exact anc_listed hd f x.on i hl h1

/-- One step, by kind. -/
def StepAt (P : Program) (ops : Array Oper) (I : Nat → World → Prop) (k s s' : Nat) (o : Oper) (v : Value) (a : Act) : Prop :=
  match k with
  | 0 => s' = s ∧ ((Region.wanted o (yielded ops a.tmps) = true ∧ ∀ t w, I t w → calm P o a w fun v' w' => v' = v ∧ I t w') ∨ (Region.wanted o (yielded ops a.tmps) = false ∧ v = undef))
  | 1 => s' = s ∧ Region.wanted o (yielded ops a.tmps) = true ∧ ∀ w, I s w → calm P o a w fun v' w' => v' = v ∧ I s w'
  | _ => s' = s + 1 ∧ Region.wanted o (yielded ops a.tmps) = true ∧ ∀ w, I s w → calm P o a w fun v' w' => v' = v ∧ I (s + 1) w'
theorem StepAt.of_same {k s s' : Nat} {o : Oper} {v : Value} {a a' : Act} (hy : StepAt P ops I k s s' o v a) (he : execOp a'.eval o = execOp a.eval o)
    (hw : Region.wanted o (yielded ops a'.tmps) = Region.wanted o (yielded ops a.tmps)) : StepAt P ops I k s s' o v a' := by
  unfold StepAt calm at *
  rw [he, hw]
  exact hy
theorem StepAt.wpOp {k s s' : Nat} {o : Oper} {i : Nat} {v : Value} {a : Act} {w : World} {K : Act → World → Prop} {Q : Exit → Act → World → Prop} (hi : ops[i]? = some o) (hy : StepAt P ops I k s s' o v a) (hw : I s w)
    (h : ∀ w', I s' w' → K (a.put o.dst v) w') : wpOp P ops Q i K a w := by
  have key : (Region.wanted o (yielded ops a.tmps) = true ∧ calm P o a w fun v' w' => v' = v ∧ I s' w') ∨ (Region.wanted o (yielded ops a.tmps) = false ∧ v = undef ∧ s' = s) := by
    unfold StepAt at hy
    split at hy
    · obtain ⟨rfl, hy⟩ := hy
      rcases hy with ⟨h1, h2⟩ | ⟨h1, h2⟩
      · exact .inl ⟨h1, h2 _ _ hw⟩
      · exact .inr ⟨h1, h2, rfl⟩
    · obtain ⟨rfl, h1, h2⟩ := hy
      exact .inl ⟨h1, h2 _ hw⟩
    · obtain ⟨rfl, h1, h2⟩ := hy
      exact .inl ⟨h1, h2 _ hw⟩
  unfold Go.wpOp
  simp only [hi]
  rcases key with ⟨hwt, this⟩ | ⟨hwt, rfl, rfl⟩
  · simp only [hwt, if_true]
    refine .inl ?_
    unfold calm at this
    unfold Oper.wp
    generalize (execOp a.eval o).run P w = r at *
    cases r with
    | ok n w' =>
      cases n <;> simp only [calmUpon] at this <;> simp only [Oper.upon]
      case enter f args => exact this.mono fun e w'' ⟨u, he, hu, hI⟩ => by subst he; subst hu; exact h _ hI
      all_goals (obtain ⟨rfl, hI⟩ := this; exact h _ hI)
    | halt x w' => simp only [calmUpon] at this
  · simp only [hwt, Bool.false_eq_true, if_false]
    exact h _ hw

def glOp (P : Program) (ops : Array Oper) (I : Nat → World → Prop) (kd : List Nat) (i s : Nat) (K : Nat → Act → Prop) (a : Act) : Prop :=
  match ops[i]? with
  | none => K s a
  | some o => ∃ v s', StepAt P ops I (kd.getD i 0) s s' o v a ∧ K s' (a.put o.dst v)
theorem glOp_mono {kd : List Nat} {i s : Nat} {a : Act} {K K' : Nat → Act → Prop} (h : ∀ s a, K s a → K' s a) (hh : glOp P ops I kd i s K a) : glOp P ops I kd i s K' a := by
  unfold glOp at *
  split
  · exact h _ _ (by simpa [*] using hh)
  · rename_i o ho
    simp only [ho] at hh
    obtain ⟨v, s', hy, hk⟩ := hh
    exact ⟨v, s', hy, h _ _ hk⟩
theorem StepAt.glOp {kd : List Nat} {i s s' : Nat} {o : Oper} {v : Value} {a : Act} (hi : ops[i]? = some o) (hy : StepAt P ops I (kd.getD i 0) s s' o v a) {K : Nat → Act → Prop} (h : K s' (a.put o.dst v)) : glOp P ops I kd i s K a := by
  unfold Go.Proofs.Ythpjdgddpnpdpaa.glOp
  simp only [hi]
  exact ⟨v, s', hy, h⟩
theorem wpOp_of_glOp {kd : List Nat} {i s : Nat} {a : Act} {w : World} {K : Nat → Act → Prop} {K' : Act → World → Prop} {Q : Exit → Act → World → Prop} (hw : I s w) (h : ∀ s a w, I s w → K s a → K' a w) (hh : glOp P ops I kd i s K a) :
    wpOp P ops Q i K' a w := by
  cases ho : ops[i]? with
  | none =>
    unfold Go.Proofs.Ythpjdgddpnpdpaa.glOp at hh
    unfold Go.wpOp
    simp only [ho] at hh ⊢
    exact h _ _ _ hw hh
  | some o =>
    unfold Go.Proofs.Ythpjdgddpnpdpaa.glOp at hh
    simp only [ho] at hh
    obtain ⟨v, s', hy, hk⟩ := hh
    exact hy.wpOp ho hw fun w' hI => h _ _ _ hI hk
theorem step_swap {k l s s' s'' : Nat} {oi oj : Oper} {v u : Value} {a b : Act} (hc : compat k l = true) (hi : StepAt P ops I k s s' oi v a) (hj : StepAt P ops I l s' s'' oj u b) :
    ∃ t, (∀ c, (StepAt P ops I l s' s'' oj u c → StepAt P ops I l s t oj u c)) ∧ (∀ c, (StepAt P ops I k s s' oi v c → StepAt P ops I k t s'' oi v c)) := by
  match k, l, hc, hi, hj with
  | 0, l, _, hi, hj =>
    obtain ⟨rfl, _⟩ := hi
    exact ⟨s'', fun c h => h, fun c h => ⟨rfl, h.2⟩⟩
  | k + 1, 0, _, hi, hj =>
    obtain ⟨rfl, _⟩ := hj
    exact ⟨s, fun c h => ⟨rfl, h.2⟩, fun c h => h⟩
  | 1, 1, _, hi, hj =>
    obtain ⟨rfl, _⟩ := hi
    obtain ⟨rfl, _⟩ := hj
    exact ⟨s'', fun c h => h, fun c h => h⟩
  | 1, l + 2, hc, _, _ => simp [compat] at hc
  | k + 2, l + 1, hc, _, _ => simp [compat] at hc
theorem glOp_put {kd : List Nat} {i j s s' : Nat} {oi oj : Oper} {v : Value} (hj : ops[j]? = some oj) (hap : oi.apart ops oj = true) (hc : compat (kd.getD i 0) (kd.getD j 0) = true)
    (hsi : ∀ cs b, oi.op ≠ .select cs b) (hsj : ∀ cs b, oj.op ≠ .select cs b) {K : Nat → Act → Prop} {a : Act}
    (hy : StepAt P ops I (kd.getD i 0) s s' oi v a) (h : glOp P ops I kd j s' K (a.put oi.dst v)) :
    glOp P ops I kd j s (fun t a' => ∃ s'', StepAt P ops I (kd.getD i 0) t s'' oi v a' ∧ K s'' (a'.put oi.dst v)) a := by
  obtain ⟨h1, h2, h3⟩ := Oper.apart_spec hap
  unfold Go.Proofs.Ythpjdgddpnpdpaa.glOp at *
  simp only [hj] at *
  obtain ⟨u, s'', hu, hk⟩ := h
  obtain ⟨t, e1, e2⟩ := step_swap hc hy hu
  refine ⟨u, t, e1 _ (hu.of_same (execOp_put oj hsj a oi.dst v h1).symm (wanted_put oj a oi.dst v h1).symm), s'', ?_, ?_⟩
  · exact e2 _ (hy.of_same (execOp_put oi hsi a oj.dst u h3) (wanted_put oi a oj.dst u h3))
  · rw [← Act.put_comm a v u h2]; exact hk

def wpAnyG (P : Program) (md : Region.Mode) (ops : Array Oper) (I : Nat → World → Prop) (kd : List Nat) (L : Array Bool → Nat → Act → Prop) : Nat → Array Bool → Nat → Act → Prop
  | 0, listed, s, a => L listed s a
  | f + 1, listed, s, a =>
    Region.ready md ops listed ≠ [] ∧ ∀ i ∈ Region.ready md ops listed, glOp P ops I kd i s (wpAnyG P md ops I kd L f (listed.setIfInBounds i true)) a
theorem wpAny_of_G {kd : List Nat} {g : Nat} {L : Array Bool → Nat → Act → Prop} {Q' : Exit → Act → World → Prop} (hL : ∀ listed s a w, I s w → L listed s a → wpAny P md ops Q' g listed a w) :
    ∀ (f : Nat) (listed : Array Bool) (s : Nat) (a : Act) (w : World), I s w → wpAnyG P md ops I kd L f listed s a → wpAny P md ops Q' (f + g) listed a w
  | 0, listed, s, a, w, hI, h => by rw [Nat.zero_add]; exact hL _ _ _ _ hI h
  | f + 1, listed, s, a, w, hI, h => by
    rw [show f + 1 + g = (f + g) + 1 by omega]
    exact ⟨fun h0 => absurd h0 h.1, fun i hi => wpOp_of_glOp hI (fun s' a' w' hw' h' => wpAny_of_G hL f _ s' a' w' hw' h') (h.2 i hi)⟩
theorem down_set {listed : Array Bool} {j : Nat} (hd : Down md ops listed) (hj : j ∈ Region.ready md ops listed) : Down md ops (listed.setIfInBounds j true) := by
  obtain ⟨hun, oj, hoj, hall⟩ := mem_ready.1 hj
  have up : ∀ k, listed.getD k false = true → (listed.setIfInBounds j true).getD k false = true := fun k hk => by
    by_cases hjk : j = k
    · subst hjk
      rw [getD_both hun] at hk; cases hk
    · rw [getD_set_ne false hjk]; exact hk
  intro k ok hok hk e he hb
  by_cases hjk : j = k
  · subst hjk
    obtain rfl : oj = ok := by rw [hoj] at hok; exact Option.some.inj hok
    exact up _ (hall e he hb)
  · rw [getD_set_ne false hjk] at hk
    exact up _ (hd k ok hok hk e he hb)
theorem wpAnyG_first {kd : List Nat} {i : Nat} {oi : Oper} {v : Value} {L : Array Bool → Nat → Act → Prop} (hi : ops[i]? = some oi) (hsel : ∀ (j : Nat) (o : Oper) cs b, ops[j]? = some o → o.op ≠ .select cs b)
    (hdone : ∀ listed s a, L listed s a → ∀ j, j ∉ Region.ready md ops listed) :
    ∀ (f : Nat) (listed : Array Bool) (s s' : Nat) (a : Act), Down md ops listed →
      (∀ j, j ≠ i → listed.getD j true = false → compat (kd.getD i 0) (kd.getD j 0) = true ∨ ancB md ops 12 j i = true) →
      (∀ j oj, ops[j]? = some oj → j ≠ i → listed.getD j true = false → (∀ e ∈ oj.after, Region.binds md e = true → e.on ≠ i) → oi.apart ops oj = true) →
      i ∈ Region.ready md ops listed → StepAt P ops I (kd.getD i 0) s s' oi v a →
      wpAnyG P md ops I kd L f (listed.setIfInBounds i true) s' (a.put oi.dst v) → wpAnyG P md ops I kd L (f + 1) listed s a := by
  intro f
  induction f with
  | zero =>
    intro listed s s' a hd _ _ hr hy H
    refine ⟨fun h => (by rw [h] at hr; cases hr), fun j hj => ?_⟩
    by_cases hji : j = i
    · subst hji; exact hy.glOp hi H
    · exact absurd (ready_mono hj hji) (hdone _ _ _ H j)
  | succ f ih =>
    intro listed s s' a hd hcomp hfree hr hy H
    have hun := (mem_ready.1 hr).1
    refine ⟨fun h => (by rw [h] at hr; cases hr), fun j hj => ?_⟩
    by_cases hji : j = i
    · subst hji; exact hy.glOp hi H
    · have h1 := H.2 j (ready_mono hj hji)
      obtain ⟨hjun, oj, hoj, hall⟩ := mem_ready.1 hj
      have hnot : ∀ e ∈ oj.after, Region.binds md e = true → e.on ≠ i := fun e he hb heq => by
        have h1 := hall e he hb
        rw [heq, getD_both hun] at h1
        cases h1
      have hcj : compat (kd.getD i 0) (kd.getD j 0) = true := by
        rcases hcomp j hji hjun with h | h
        · exact h
        · exfalso
          unfold ancB at h
          simp only [hoj] at h
          obtain ⟨x, hx, he⟩ := Array.any_eq_true'.1 h
          simp only [Bool.and_eq_true, Bool.or_eq_true, beq_iff_eq] at he
          rcases he.2 with h2 | h2
          · exact hnot x hx he.1 h2
          · have := anc_listed hd _ _ _ (hall x hx he.1) h2
            rw [getD_both hun] at this
            cases this
      have h2 := glOp_put hoj (hfree j oj hoj hji hjun hnot) hcj (fun cs b => hsel i oi cs b hi) (fun cs b => hsel j oj cs b hoj) hy h1
      have hun' : ∀ k, k ≠ i → (listed.setIfInBounds j true).getD k true = false → listed.getD k true = false := fun k _ hk => by
        by_cases hjk : j = k
        · subst hjk; exact hjun
        · rw [getD_set_ne true hjk] at hk; exact hk
      refine glOp_mono (fun t a' h3 => ?_) h2
      obtain ⟨s'', g1, g2⟩ := h3
      refine ih (listed.setIfInBounds j true) t s'' a' (down_set hd hj) (fun k hki hk => hcomp k hki (hun' k hki hk)) (fun k ok hk hki hu hno => hfree k ok hk hki (hun' k hki hu) hno) (ready_mono hr (Ne.symm hji)) g1 ?_
      rw [Array.setIfInBounds_comm _ _ hji]
      exact g2

/-- A list of operations, each by its kind. -/
def wpG (P : Program) (ops : Array Oper) (I : Nat → World → Prop) (Q : Nat → Act → Prop) : List Nat → List Oper → Nat → Act → Prop
  | _, [], s, a => Q s a
  | k :: kd, o :: rest, s, a => ∃ v s', StepAt P ops I k s s' o v a ∧ wpG P ops I Q kd rest s' (a.put o.dst v)
  | [], o :: rest, s, a => ∃ v s', StepAt P ops I 0 s s' o v a ∧ wpG P ops I Q [] rest s' (a.put o.dst v)
theorem wpG_nil {Q : Nat → Act → Prop} {kd : List Nat} {s : Nat} {a : Act} (h : Q s a) : wpG P ops I Q kd [] s a := by cases kd <;> exact h
theorem wpG_plain {Q : Nat → Act → Prop} {kd : List Nat} {s : Nat} {a : Act} {o : Oper} {rest : List Oper} (v : Value) (hg : o.guard = none)
    (hc : ∀ t w, I t w → ∀ K : Value → World → Prop, (∀ w', I t w' → K v w') → calm P o a w K) (h : wpG P ops I Q kd rest s (a.put o.dst v)) : wpG P ops I Q (0 :: kd) (o :: rest) s a :=
  ⟨v, s, ⟨rfl, .inl ⟨by simp [Region.wanted, hg], fun t w hI => hc t w hI _ fun _ h' => ⟨rfl, h'⟩⟩⟩, h⟩
theorem wpG_read {Q : Nat → Act → Prop} {kd : List Nat} {s : Nat} {a : Act} {o : Oper} {rest : List Oper} (v : Value) (hg : o.guard = none)
    (hc : ∀ w, I s w → ∀ K : Value → World → Prop, (∀ w', I s w' → K v w') → calm P o a w K) (h : wpG P ops I Q kd rest s (a.put o.dst v)) : wpG P ops I Q (1 :: kd) (o :: rest) s a :=
  ⟨v, s, ⟨rfl, by simp [Region.wanted, hg], fun w hI => hc w hI _ fun _ h' => ⟨rfl, h'⟩⟩, h⟩
theorem wpG_store {Q : Nat → Act → Prop} {kd : List Nat} {s : Nat} {a : Act} {o : Oper} {rest : List Oper} (hg : o.guard = none)
    (hc : ∀ w, I s w → ∀ K : Value → World → Prop, (∀ w', I (s + 1) w' → K undef w') → calm P o a w K) (h : wpG P ops I Q kd rest (s + 1) (a.put o.dst undef)) : wpG P ops I Q (2 :: kd) (o :: rest) s a :=
  ⟨undef, s + 1, ⟨rfl, by simp [Region.wanted, hg], fun w hI => hc w hI _ fun _ h' => ⟨rfl, h'⟩⟩, h⟩
theorem wpG_write {Q : Nat → Act → Prop} {kd : List Nat} {s : Nat} {a : Act} {o : Oper} {rest : List Oper} (v : Value) (hg : o.guard = none)
    (hc : ∀ w, I s w → ∀ K : Value → World → Prop, (∀ w', I (s + 1) w' → K v w') → calm P o a w K) (h : wpG P ops I Q kd rest (s + 1) (a.put o.dst v)) : wpG P ops I Q (2 :: kd) (o :: rest) s a :=
  ⟨v, s + 1, ⟨rfl, by simp [Region.wanted, hg], fun w hI => hc w hI _ fun _ h' => ⟨rfl, h'⟩⟩, h⟩
theorem wpAnyG_lex {n : Nat} {kd : List Nat} {Lq : Nat → Act → Prop} (hsel : Region.noSelect ops = true) (hn : ops.size = n) (hcomp : compAll md ops kd = true) :
    ∀ (l : List Oper) (k : Nat) (listed : Array Bool) (s : Nat) (a : Act), (∀ j, j < l.length → l[j]? = ops[k + j]?) → k + l.length = n → Down md ops listed → listed.size = n → (∀ j, j < k → listed.getD j false = true) →
    Region.lexHead md ops 0 l.length k listed = true → wpG P ops I Lq (kd.drop k) l s a →
    wpAnyG P md ops I kd (fun listed' s' a' => Region.seqB md ops 0 n listed' = true ∧ Lq s' a') l.length listed s a
  | [], k, listed, s, a, _, hk, _, _, _, hB, h => by
    have : k = n := by simpa using hk
    subst this
    refine ⟨by simpa [Region.lexHead] using hB, ?_⟩
    generalize kd.drop k = kk at h
    cases kk <;> exact h
  | o :: l, k, listed, s, a, hl, hk, hd, hz, hlo, hB, h => by
    have h0 : ops[k]? = some o := by simpa using (hl 0 (by simp)).symm
    simp only [List.length_cons, Region.lexHead, Bool.and_eq_true] at hB
    obtain ⟨⟨hr, hf⟩, hB'⟩ := hB
    have hkn : k < n := by simp only [List.length_cons] at hk; omega
    have hr' : k ∈ Region.ready md ops listed := by simpa using hr
    have hst : ∃ v s', StepAt P ops I (kd.getD k 0) s s' o v a ∧ wpG P ops I Lq (kd.drop (k + 1)) l s' (a.put o.dst v) := by
      by_cases hkd : k < kd.length
      · rw [List.drop_eq_getElem_cons hkd] at h
        obtain ⟨v, s', hy, hK⟩ := h
        exact ⟨v, s', by rw [show kd.getD k 0 = kd[k] by simp [List.getD, List.getElem?_eq_getElem hkd]]; exact hy, hK⟩
      · rw [List.drop_eq_nil_of_le (by omega)] at h
        obtain ⟨v, s', hy, hK⟩ := h
        exact ⟨v, s', by rw [show kd.getD k 0 = 0 by simp [List.getD, List.getElem?_eq_none (show kd.length ≤ k by omega)]]; exact hy, by rw [List.drop_eq_nil_of_le (by omega)]; exact hK⟩
    obtain ⟨v, s', hy, hK⟩ := hst
    refine wpAnyG_first h0 (Region.noSelect_spec hsel) (fun listed' s a hL j hj => ?_) l.length listed s s' a hd (fun j hjk hun => ?_) (Region.free_spec h0 hf) hr' hy
      (wpAnyG_lex hsel hn hcomp l (k + 1) _ s' _ (fun j hj => by have := hl (j + 1) (by simp; omega); simpa [Nat.add_assoc, Nat.add_comm 1 j] using this) (by simp only [List.length_cons] at hk; omega) (down_set hd hr') (by simpa using hz)
        (fun j hj => by
          by_cases hjk : k = j
          · subst hjk; simp [Array.getD, hz, hkn]
          · rw [getD_set_ne false hjk]; exact hlo j (by omega)) hB' hK)
    · have h1 := seqB_ready hL.1 j hj
      have h2 := (mem_ready.1 hj).2
      obtain ⟨oj, hoj, _⟩ := h2
      have := (Array.getElem?_eq_some_iff.1 hoj).1
      omega
    · have hkj : k < j := by
        rcases Nat.lt_trichotomy k j with h | h | h
        · exact h
        · exact absurd h.symm hjk
        · have := hlo j h
          rw [getD_both hun] at this
          cases this
      by_cases hj0 : kd.getD j 0 = 0
      · exact .inl (by rw [hj0]; simp [compat])
      · by_cases hjn : j < ops.size
        · have := List.all_eq_true.1 hcomp j (List.mem_range.2 hjn)
          simp only [Bool.or_eq_true, beq_iff_eq] at this
          rcases this with h | h
          · exact absurd h hj0
          · have := List.all_eq_true.1 h k (List.mem_range.2 hkj)
            simpa only [Bool.or_eq_true] using this
        · have : listed.getD j true = true := by simp [Array.getD, hz, ← hn, hjn]
          rw [this] at hun; cases hun

/-- A region that draws: reads, then stores in one order; all else looks at no memory. -/
theorem wp_region_calm_g {id : Nat} {Q : Exit → Act → World → Prop} {a : Act} {w : World} {l : List Oper} (I : Nat → World → Prop) (kd : List Nat) (hm : P.follows .mixedOrders = true) (hB : Region.lexB .any l.toArray = true)
    (hC : compAll .any l.toArray kd = true) (hI : I 0 w.drew) (h : wpG P l.toArray I (fun s a' => ∀ w', I s w' → Q .normal a' w') kd l 0 a) : (Code.region id l.toArray true).wp P Q a w := by
  simp only [Region.lexB, Bool.and_eq_true] at hB
  have hx : ∀ (f k : Nat) (listed : Array Bool), Region.lexFrom .any l.toArray f k listed = Region.lexHead .any l.toArray 0 f k listed := by
    intro f
    induction f with
    | zero => intro k listed; rfl
    | succ f ih => intro k listed; simp only [Region.lexFrom, Region.lexHead, ih]
  have hB2 : Region.lexHead .any l.toArray 0 l.length 0 (Array.replicate l.toArray.size false) = true := by rw [← hx]; simpa using hB.2
  have H := wpAnyG_lex (md := .any) (n := l.length) (kd := kd) hB.1 (by simp) hC l 0 (Array.replicate l.toArray.size false) 0 a (fun j _ => by simp) (by simp)
    (fun k ok hok hk => by simp [Array.getD] at hk) (by simp) (fun j hj => by omega) hB2 (by simpa using h)
  refine wp_region_any hm ?_
  have := wpAny_of_G (Q' := Q) (g := 0) (fun listed s a' w' hI' hL => by
    refine ⟨by simpa [Region.seqB] using hL.1, hL.2 w' hI'⟩) _ _ _ _ w.drew hI H
  simpa using this
end
end Go.Proofs.Ythpjdgddpnpdpaa

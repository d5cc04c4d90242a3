/- The calm region (Calm) in a round of a loop over a function, at the wide fence. Nothing of the program stands here. -/
import Derived.Test.YtcamniadkackdaaCalm
import Derived.OrdersIn
import Derived.RangeFuncNested
import Derived.RangeFuncBound
import Derived.RangeFuncCalls
import Derived.RangeFuncLeaves
import Derived.RangeFuncBox
import Derived.Shelf.Abstract
import Derived.Shelf.RegionOpen
import Derived.OwnWalkIn
import Derived.TacticsInMore
import Derived.LoopNIn
import Derived.LoopIn
namespace Go.Proofs.Ytcamniadkackdaa
section
variable {P : Program} {ops : Array Oper} {md : Region.Mode} {I : World → Prop} {r n : Nat}

def noDefer (o : Oper) : Bool := match o.op with | .defer _ => false | _ => true
theorem noDefer_spec {o : Oper} (h : noDefer o = true) : ∀ c, o.op ≠ .defer c := by
  intro c hc
  simp [noDefer, hc] at h
theorem CalmAt.wpOpIn {o : Oper} {i : Nat} {v : Value} {a : Act} {w : World} {K : Act → World → Prop} {Q : Exit → Act → World → Prop} (hi : ops[i]? = some o) (hnd : noDefer o = true) (hy : CalmAt P ops I o v a) (hw : I w)
    (h : ∀ w', I w' → K (a.put o.dst v) w') : wpOpIn (Fence.wide.inRound r) n P ops Q i K a w := by
  unfold Go.wpOpIn
  simp only [hi]
  rcases hy with ⟨hwt, hc⟩ | ⟨hwt, rfl⟩
  · simp only [hwt, if_true]
    have := hc w hw
    unfold calm at this
    unfold Oper.wpIn
    refine ⟨fun _ _ => trivial, ?_⟩
    rw [Fence.inRound_round, Oper.semAt_some r a.eval o (noDefer_spec hnd)]
    generalize (execOp a.eval o).run P w = x at *
    cases x with
    | ok m w' =>
      cases m <;> simp only [calmUpon] at this <;> simp only [Oper.uponIn]
      case enter f args =>
        refine ⟨fun hd => by simp [Fence.wide] at hd, ?_⟩
        exact CallsIn.inRound r (callsIn_wide.2 (this.mono fun e w'' ⟨u, he, hu, hI⟩ => by subst he; subst hu; exact h _ hI))
      all_goals (obtain ⟨rfl, hI⟩ := this; exact h _ hI)
    | halt x w' => simp only [calmUpon] at this
  · simp only [hwt, Bool.false_eq_true, if_false]
    exact ⟨fun _ _ => trivial, h _ hw⟩
theorem wpOpIn_of_clOp {i : Nat} {a : Act} {w : World} {K : Act → Prop} {K' : Act → World → Prop} {Q : Exit → Act → World → Prop} (hnd : ∀ (j : Nat) (o : Oper), ops[j]? = some o → noDefer o = true) (hw : I w) (h : ∀ a w, I w → K a → K' a w) (hh : clOp P ops I i K a) :
    wpOpIn (Fence.wide.inRound r) n P ops Q i K' a w := by
  cases ho : ops[i]? with
  | none =>
    unfold Go.Proofs.Ytcamniadkackdaa.clOp at hh
    unfold Go.wpOpIn
    simp only [ho] at hh ⊢
    exact h _ _ hw hh
  | some o =>
    unfold Go.Proofs.Ytcamniadkackdaa.clOp at hh
    simp only [ho] at hh
    obtain ⟨v, hy, hk⟩ := hh
    exact hy.wpOpIn ho (hnd i o ho) hw fun w' hI => h _ _ hI hk
theorem wpAnyIn_of_calm {m g : Nat} {L : Array Bool → Act → Prop} {Q' : Exit → Act → World → Prop} (hnd : ∀ (j : Nat) (o : Oper), ops[j]? = some o → noDefer o = true)
    (hL : ∀ listed a w, I w → L listed a → wpAnyIn (Fence.wide.inRound r) n P md ops Q' g listed a w) :
    ∀ (f : Nat) (listed : Array Bool) (a : Act) (w : World), I w → wpAnyC P md ops I m L f listed a → wpAnyIn (Fence.wide.inRound r) n P md ops Q' (f + g) listed a w
  | 0, listed, a, w, hI, h => by rw [Nat.zero_add]; exact hL _ _ _ hI h
  | f + 1, listed, a, w, hI, h => by
    rw [show f + 1 + g = (f + g) + 1 by omega]
    exact ⟨fun h0 => absurd h0 h.1, fun i hi => wpOpIn_of_clOp hnd hI (fun a' w' hw' h' => wpAnyIn_of_calm hnd hL f _ a' w' hw' h') (h.2 i hi).2⟩
/-- A region that draws, all of it calm, in a round. -/
theorem wpIn_region_calm {id : Nat} {Q : Exit → Act → World → Prop} {a : Act} {w : World} {l : List Oper} (I : World → Prop) (hm : P.follows .mixedOrders = true) (hB : Region.lexB .any l.toArray = true) (hD : l.all noDefer = true)
    (hI : I w.drew) (h : wpCalm P l.toArray I (fun a' => ∀ w', I w' → Q .normal a' w') l a) : (Code.region id l.toArray true).wpIn (Fence.wide.inRound r) n P Q a w := by
  simp only [Region.lexB, Bool.and_eq_true] at hB
  have hnd : ∀ j o, l.toArray[j]? = some o → noDefer o = true := fun j o ho => List.all_eq_true.1 hD o (by
    have := Array.mem_of_getElem? ho
    simpa using this)
  have hx : ∀ (f k : Nat) (listed : Array Bool), Region.lexFrom .any l.toArray f k listed = Region.lexHead .any l.toArray 0 f k listed := by
    intro f
    induction f with
    | zero => intro k listed; rfl
    | succ f ih => intro k listed; simp only [Region.lexFrom, Region.lexHead, ih]
  have hB2 : Region.lexHead .any l.toArray 0 l.length 0 (Array.replicate l.toArray.size false) = true := by rw [← hx]; simpa using hB.2
  have H := wpAnyC_lex (md := .any) (n := l.length) (g := 0) (inv := fun _ => True) hB.1 (fun listed _ i _ _ t ht hr => by
      obtain ⟨_, ot, hot, _⟩ := mem_ready.1 hr
      have := (Array.getElem?_eq_some_iff.1 hot).1
      have h2 : l.toArray.size = l.length := by simp
      omega) (fun _ _ _ _ _ => trivial) l 0 _ a (fun j _ => by simp) (by simp) trivial hB2 h
  refine wpIn_region_any hm ?_
  have := wpAnyIn_of_calm (r := r) (n := n) (Q' := Q) (g := 0) hnd (fun listed a' w' hI' hL => by
    refine ⟨by simpa [Region.seqB] using hL.1, hL.2 w' hI'⟩) _ _ _ w.drew hI H
  simpa using this
end
end Go.Proofs.Ytcamniadkackdaa

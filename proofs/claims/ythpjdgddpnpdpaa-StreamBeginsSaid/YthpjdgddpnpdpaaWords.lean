/- Words of mine that all seats share: rows of numbers as values, arrays held against each other, a whole row written. Nothing of the program stands here. -/
import Derived.WalkKit
import Derived.WalkSpells
import Derived.WalkLawsBesides
import Derived.StillTailTactics
import Derived.Laws.StructEq
namespace Go.Proofs.Ythpjdgddpnpdpaa
open Go.RowKit
section
variable {P : Program}

/-- Numbers as values of one kind. -/
def av (k : IntKind) (ls : List Nat) : Array Value := (ls.map fun b : Nat => Value.int k (b : Int)).toArray
theorem av_get (k : IntKind) (ls : List Nat) (i : Nat) (h : i < ls.length) : (av k ls)[i]? = some (.int k (ls.getD i 0 : Nat)) := by
  simp [av, h]
theorem av_set (k : IntKind) (ls : List Nat) (i x : Nat) : (av k ls).setIfInBounds i (.int k (x : Int)) = av k (ls.set i x) := by
  simp [av, List.map_set]
theorem av_size (k : IntKind) (ls : List Nat) : (av k ls).size = ls.length := by simp [av]
theorem av_one (k : IntKind) (ls : List Nat) : (av k ls).all (·.oneCell') = true := by
  simp [av, Value.oneCell']
theorem av_part (k : IntKind) (ls : List Nat) (e i : Nat) (w : World) (k' : IntKind) (he : P.underlying e = some (.int k')) (h : i < ls.length) :
    (part e (av k ls) i).run P w = .ok (.int k (ls.getD i 0 : Nat)) w := by
  have hag : (isAgg e).run P w = .ok false w := by
    unfold isAgg
    rw [Sem.run_bind, run_underlying he w]
    rfl
  simp only [part, Sem.run_bind, hag, Result.andThen_ok, Bool.false_eq_true, if_false, av_get k ls i h]
  rfl

theorem eq_loop (d : Nat) (e n : Nat) (k k' : IntKind) (as bs : List Nat) (he : P.underlying e = some (.int k')) (ha : as.length = n) (hb : bs.length = n) (w : World)
    (body : Nat → Option Bool × Unit → Sem (ForInStep (Option Bool × Unit)))
    (hbody : body = fun i _ => do
      if !(← Op.equalIn (d + 1) e (← part e (av k as) (i * 1)) (← part e (av k bs) (i * 1))) then pure (.done (some false, ())) else pure (.yield (none, ()))) :
    ∀ m i, i + m = n → (forIn (List.range' i m) ((none, ()) : Option Bool × Unit) body).run P w = .ok (if as.drop i = bs.drop i then (none, ()) else (some false, ())) w := by
  intro m
  induction m with
  | zero =>
    intro i hi
    have h1 : as.drop i = [] := List.drop_eq_nil_of_le (by omega)
    have h2 : bs.drop i = [] := List.drop_eq_nil_of_le (by omega)
    simp [h1, h2]
  | succ m ih =>
    intro i hi
    have h1 : as.drop i = as.getD i 0 :: as.drop (i + 1) := by
      rw [List.drop_eq_getElem_cons (by omega)]; simp [List.getD, List.getElem?_eq_getElem (show i < as.length by omega)]
    have h2 : bs.drop i = bs.getD i 0 :: bs.drop (i + 1) := by
      rw [List.drop_eq_getElem_cons (by omega)]; simp [List.getD, List.getElem?_eq_getElem (show i < bs.length by omega)]
    simp only [List.range'_succ, List.forIn_cons]
    have hb0 : (body i (none, ())).run P w = .ok (if as.getD i 0 = bs.getD i 0 then .yield (none, ()) else .done (some false, ())) w := by
      rw [hbody]
      simp only [Nat.mul_one, Sem.run_bind, av_part k as e i w k' he (by omega), av_part k bs e i w k' he (by omega), Result.andThen_ok, run_equalIn_int w d e k k' _ _ he]
      generalize as.getD i 0 = x
      generalize bs.getD i 0 = y
      by_cases h : x = y
      · subst h; simp
      · have : ¬ (x : Int) = (y : Int) := by omega
        have hbq : ((x : Int) == (y : Int)) = false := by simpa using this
        rw [hbq]
        simp only [h, if_false]
        rfl
    rw [Sem.run_bind, hb0]
    simp only [Result.andThen_ok]
    by_cases h : as.getD i 0 = bs.getD i 0
    · rw [if_pos h, h1, h2, h]
      simp only [List.cons.injEq, true_and]
      exact ih (i + 1) (by omega)
    · rw [if_neg h, h1, h2]
      simp only [List.cons.injEq, h, false_and, if_false]
      rfl

/-- '==' of two arrays of whole numbers. -/
theorem run_equal_ints (t e n : Nat) (k k' : IntKind) (as bs : List Nat) (ht : P.underlying t = some (.array n e)) (he : P.underlying e = some (.int k')) (hs : (P.info? e).map (·.size) = some 1)
    (ha : as.length = n) (hb : bs.length = n) (w : World) : (Op.equal t (.agg (av k as)) (.agg (av k bs))).run P w = .ok (as == bs) w := by
  have hsz : (sizeOf e).run P w = .ok 1 w := by
    cases hq : P.info? e with
    | none => simp [hq] at hs
    | some i =>
      have : i.size = 1 := by simpa [hq] using hs
      simp [sizeOf, typeInfo, hq, this]
  have hl := eq_loop (P := P) 9998 e n k k' as bs he ha hb w _ rfl n 0 (by omega)
  show (Op.equalIn 10000 t (.agg (av k as)) (.agg (av k bs))).run P w = _
  unfold Op.equalIn
  simp only [Sem.run_bind, run_underlying ht, Result.andThen_ok, hsz, Std.Legacy.Range.forIn_eq_forIn_range', Std.Legacy.Range.size]
  have hn : (n - 0 + 1 - 1) / 1 = n := by simp
  rw [hn]
  rw [hl]
  simp only [Result.andThen_ok, List.drop_zero]
  by_cases h : as = bs
  · subst h; simp
  · rw [if_neg h]
    have : (as == bs) = false := by simpa using h
    rw [this]
    rfl
theorem run_eql_ints (t e n : Nat) (k k' : IntKind) (as bs : List Nat) (ht : P.underlying t = some (.array n e)) (he : P.underlying e = some (.int k')) (hs : (P.info? e).map (·.size) = some 1)
    (ha : as.length = n) (hb : bs.length = n) (w : World) : (binOp .eql t (.agg (av k as)) (.agg (av k bs))).run P w = .ok (.bool (as == bs)) w := by
  simp only [binOp, Sem.run_bind, run_equal_ints t e n k k' as bs ht he hs ha hb w, Result.andThen_ok]
  rfl
theorem run_neq_ints (t e n : Nat) (k k' : IntKind) (as bs : List Nat) (ht : P.underlying t = some (.array n e)) (he : P.underlying e = some (.int k')) (hs : (P.info? e).map (·.size) = some 1)
    (ha : as.length = n) (hb : bs.length = n) (w : World) : (binOp .neq t (.agg (av k as)) (.agg (av k bs))).run P w = .ok (.bool (!(as == bs))) w := by
  simp only [binOp, Sem.run_bind, run_equal_ints t e n k k' as bs ht he hs ha hb w, Result.andThen_ok]
  rfl

theorem below_setRow {B g : Nat} {a w : World} (h : Below B a w) (hg : B ≤ g) (cs : Array Value) : Below B a (w.setRow g cs) :=
  h.trans ⟨rfl, rfl, rfl, by simp, fun k hk => setRow_other _ _ _ _ (by omega)⟩
theorem heap_new (w : World) (o : Obj) : (w.alloc o).heap[w.heap.size]? = some o := heap_alloc_new w o
theorem run_index_av (t e n : Nat) (k k' : IntKind) (ls : List Nat) (i : Nat) (ht : P.underlying t = some (.array n e)) (he : P.underlying e = some (.int k')) (hs : (P.info? e).map (·.size) = some 1)
    (hl : ls.length = n) (hi : i < n) (w : World) : (Instr.index t (.agg (av k ls)) (.int .i64 (i : Int))).run P w = .ok (.int k (ls.getD i 0 : Nat)) w := by
  have hsz : (sizeOf e).run P w = .ok 1 w := by
    cases hq : P.info? e with
    | none => simp [hq] at hs
    | some i =>
      have : i.size = 1 := by simpa [hq] using hs
      simp [sizeOf, typeInfo, hq, this]
  have hb : 0 ≤ (i : Int) ∧ (i : Int) < n := ⟨by omega, by omega⟩
  simp only [Instr.index, asIntOf, Sem.run_bind, Sem.run_pure, Result.andThen_ok, run_underlying ht, if_pos hb, hsz, Int.toNat_natCast, Nat.mul_one]
  exact av_part k ls e i w k' he (by omega)
/-- A new variable whose zero value is known by name: 'alloc'. -/
theorem wpList_alloc_as {ops : Array Oper} {rest : List Oper} {o : Oper} {a : Act} {w : World} {Q : Exit → Act → World → Prop} (hgd : o.guard = none) (ty : TypeId) (ho : o.op = .alloc ty)
    (cs : Array Value) (hz : (P.info? ty).bind (·.zero) = some (.agg cs))
    (h : wpList P ops Q rest (a.put o.dst (.pointer (some ⟨w.heap.size, 0, none⟩))) (w.alloc (.cells cs ty))) : wpList P ops Q (o :: rest) a w := by
  refine wpList_plain hgd fun K hK => ?_
  unfold Oper.wp execOp
  have hzero : (zeroValue ty).run P w = .ok (.agg cs) w := by
    cases hq : P.info? ty with
    | none => simp [hq] at hz
    | some i =>
      have h1 : i.zero = some (.agg cs) := by simpa [hq] using hz
      simp [zeroValue, typeInfo, hq, h1]
  have hal : (Instr.alloc ty true (.tuple #[])).run P w = .ok (.pointer (some ⟨w.heap.size, 0, none⟩)) (w.alloc (.cells cs ty)) := by
    simp [Instr.alloc, Sem.run_bind, hzero, newVar, newRow, newObj, Value.cells]
    rfl
  simp only [ho, Sem.run_bind, hal, Result.andThen_ok]
  exact hK _ _ h
theorem wpList_build_to {ops : Array Oper} {rest : List Oper} {o : Oper} {a : Act} {w : World} {Q : Exit → Act → World → Prop} (hgd : o.guard = none) (t : TypeId) (parts : Array (Nat × Operand)) (ho : o.op = .build t parts)
    (ps : List (Nat × Value)) (hp : parts.toList.map (fun p => (p.1, a.eval p.2)) = ps) (cs : Array Value) (hb : P.built t ps = some cs) (h : wpList P ops Q rest (a.put o.dst (.agg cs)) w) : wpList P ops Q (o :: rest) a w := by
  have he : (parts.map fun (i, x) => (i, a.eval x)).toList = ps := by rw [Array.toList_map]; exact hp
  refine wpList_build hgd t parts ho (by rw [he, hb]; rfl) ?_
  rw [he, hb]
  exact h
/-- A whole row read, under a guard that holds. -/
theorem wpList_load_row_if {ops : Array Oper} {rest : List Oper} {o : Oper} {a : Act} {w : World} {Q : Exit → Act → World → Prop} (hgd : Region.wanted o (yielded ops a.tmps) = true) (ty : TypeId) (x : Operand) (ho : o.op = .load ty x)
    (g : Nat) (hx : a.eval x = .pointer (some ⟨g, 0, none⟩)) (t : TypeId) (cs : Array Value) (fr : Nat × Nat) (d : TypeDesc) (hg : w.heap[g]? = some (.cells cs t fr))
    (hu : P.underlying ty = some d) (hd : (match d with | .struct _ | .array _ _ => true | _ => false) = true) (hi : (P.info? ty).map (·.size) = some cs.size)
    (h : wpList P ops Q rest (a.put o.dst (.agg cs)) w) : wpList P ops Q (o :: rest) a w := by
  unfold wpList
  rw [if_pos hgd]
  exact .inl (wp_load_row ty x ho g hx t cs fr d hg hu hd hi h)
theorem wpList_if {ops : Array Oper} {rest : List Oper} {o : Oper} {a : Act} {w : World} {Q : Exit → Act → World → Prop} (hgd : Region.wanted o (yielded ops a.tmps) = true)
    (h : ∀ K : Act → World → Prop, (∀ a w, wpList P ops Q rest a w → K a w) → o.wp P a w K Q) : wpList P ops Q (o :: rest) a w := by
  unfold wpList
  rw [if_pos hgd]
  exact .inl (h _ fun _ _ h => h)
theorem wpList_build_if {ops : Array Oper} {rest : List Oper} {o : Oper} {a : Act} {w : World} {Q : Exit → Act → World → Prop} (hgd : Region.wanted o (yielded ops a.tmps) = true) (t : TypeId) (ho : o.op = .build t #[])
    (cs : Array Value) (hb : P.built t [] = some cs) (h : wpList P ops Q rest (a.put o.dst (.agg cs)) w) : wpList P ops Q (o :: rest) a w := by
  refine wpList_if hgd fun K hK => ?_
  refine wp_build t #[] ho (by simpa using congrArg Option.isSome hb) (hK _ _ ?_)
  simpa [hb] using h
/-- Two arrays of numbers held against each other. -/
theorem wpList_eql_ints {ops : Array Oper} {rest : List Oper} {o : Oper} {a : Act} {w : World} {Q : Exit → Act → World → Prop} (hgd : Region.wanted o (yielded ops a.tmps) = true) {t t' : TypeId} {x y : Operand} (ho : o.op = .binOp .eql t x y t') {e n : Nat} {k k' : IntKind} {as bs : List Nat}
    (hx : a.eval x = .agg (av k as)) (hy : a.eval y = .agg (av k bs)) (ht : P.underlying t = some (.array n e)) (he : P.underlying e = some (.int k')) (hs : (P.info? e).map (·.size) = some 1)
    (ha : as.length = n) (hb : bs.length = n) (hg : P.eqGuardType P.depth t = false) (h : wpList P ops Q rest (a.put o.dst (.bool (as == bs))) w) : wpList P ops Q (o :: rest) a w := by
  refine wpList_if hgd fun K hK => ?_
  unfold Oper.wp execOp
  simp only [ho, hx, hy, Sem.run_bind, run_eqGuard_agg w .eql t x y (av k as) (av k bs) hg, Result.andThen_ok, run_eql_ints t e n k k' as bs ht he hs ha hb w]
  exact hK _ _ h
theorem old_row {B g : Nat} {w w' : World} (h : Below B w w') (hg : g < B) {o : Obj} (hr : w.heap[g]? = some o) : w'.heap[g]? = some o := by
  rw [h.block g hg]; exact hr
theorem old_alloc {g : Nat} {w : World} {r : Obj} (o : Obj) (hr : w.heap[g]? = some r) : (w.alloc o).heap[g]? = some r := by
  have : g < w.heap.size := (Array.getElem?_eq_some_iff.1 hr).1
  exact (heap_alloc_old w o this).trans hr
theorem results_row_tmp {fn : Func} {p u : Tmp} {ty : TypeId} (h : fn.results = #[.cell p ty, .tmp u]) (tmps : Array Value) (w : World) (g : Nat) (t : TypeId) (cs : Array Value) (fr : Nat × Nat) (d : TypeDesc)
    (hp : tmps.getD p undef = .pointer (some ⟨g, 0, none⟩)) (hg : w.heap[g]? = some (.cells cs t fr))
    (hu : P.underlying ty = some d) (hd : (match d with | .struct _ | .array _ _ => true | _ => false) = true) (hi : (P.info? ty).map (·.size) = some cs.size) :
    (results fn tmps).run P w = .ok (.tuple #[.agg cs, tmps.getD u undef]) w := by
  have hp' : tmps[p]?.getD undef = .pointer (some ⟨g, 0, none⟩) := by simpa using hp
  simp [results, h, hp', asAddr, run_loadVar_row w g t ty cs fr d hg hu hd hi]
theorem wpList_build_as {ops : Array Oper} {rest : List Oper} {o : Oper} {a : Act} {w : World} {Q : Exit → Act → World → Prop} (hgd : o.guard = none) (t : TypeId) (ho : o.op = .build t #[])
    (cs : Array Value) (hb : P.built t [] = some cs) (h : wpList P ops Q rest (a.put o.dst (.agg cs)) w) : wpList P ops Q (o :: rest) a w := by
  refine wpList_build hgd t #[] ho (by simpa using congrArg Option.isSome hb) ?_
  simpa [hb] using h
theorem alloc_get (w : World) (o : Obj) (i : Nat) : (w.alloc o).heap[i]? = if i = w.heap.size then some o else w.heap[i]? := by
  show (w.heap.push o)[i]? = _
  rw [Array.getElem?_push]
theorem alloc_setRow (w : World) (cs ds : Array Value) (t : TypeId) : (w.alloc (.cells cs t)).setRow w.heap.size ds = w.alloc (.cells ds t) := by
  have h : (w.heap.push (.cells cs t)).modify w.heap.size (fun | .cells _ elem frozen => .cells ds elem frozen | o => o) = w.heap.push (.cells ds t) := by
    apply Array.ext
    · simp
    · intro i h1 h2
      rw [Array.getElem_modify]
      by_cases h : w.heap.size = i
      · subst h; simp
      · rw [if_neg h]
        have : i < w.heap.size := by simp at h1; omega
        simp [Array.getElem_push, this]
  show World.mk _ _ _ _ _ = World.mk _ _ _ _ _
  exact congrArg (fun x => World.mk x w.tape w.drawn w.os w.output) h
theorem get3_0 (w : World) (a b c : Obj) : (((w.alloc a).alloc b).alloc c).heap[w.heap.size]? = some a := by
  rw [alloc_get, if_neg (by simp; omega), alloc_get, if_neg (by simp), alloc_get, if_pos rfl]
theorem get3_1 (w : World) (a b c : Obj) : (((w.alloc a).alloc b).alloc c).heap[w.heap.size + 1]? = some b := by
  rw [alloc_get, if_neg (by simp), alloc_get, if_pos (by simp)]
theorem get3_2 (w : World) (a b c : Obj) : (((w.alloc a).alloc b).alloc c).heap[w.heap.size + 1 + 1]? = some c := by
  rw [alloc_get, if_pos (by simp)]
theorem below3 (w : World) (a b c : Obj) : Below w.heap.size w (((w.alloc a).alloc b).alloc c) :=
  (((Below.refl _ _).alloc (Nat.le_refl _) _).alloc (by simp) _).alloc (by simp; omega) _
end
end Go.Proofs.Ythpjdgddpnpdpaa

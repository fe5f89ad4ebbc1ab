/- A region that draws its order, all orders at once: each operation by itself, out of what those ahead of it have yielded; then what follows, out of all of it. -/
import Derived.RegionTactic
import Derived.RowKit
import Derived.Below
import Derived.Tactics
namespace Gy
open Go Go.RowKit

/-- what operation j has yielded -/
def At (ops : Array Oper) (a : Act) (j : Nat) : Value := match (ops[j]?).bind (·.dst) with
  | some d => a.tmps.getD d undef
  | none => undef
/-- an act of this region: only its own slots have turned -/
structure Same (ops : Array Oper) (a a' : Act) : Prop where
  defers : a'.defers = a.defers
  size : a'.tmps.size = a.tmps.size
  other : ∀ t, (∀ (j : Nat) (o : Oper), ops[j]? = some o → o.dst ≠ some t) → a'.tmps.getD t undef = a.tmps.getD t undef
/-- each operation writes a slot of its own, and waits for elder ones alone -/
def flowB (ops : Array Oper) (n : Nat) : Bool :=
  (List.range ops.size).all fun i => match ops[i]? with
    | none => true
    | some o => (match o.dst with | some d => decide (d < n) | none => false) &&
        ((List.range i).all fun j => match ops[j]? with | some p => p.dst != o.dst | none => true) &&
        o.after.all fun e => decide (e.on < i)
section
variable {P : Program} {ops : Array Oper} {Q : Exit → Act → World → Prop} {a a' : Act} {n : Nat}
theorem flow_at (h : flowB ops n = true) {i : Nat} {o : Oper} (ho : ops[i]? = some o) : (∃ d, o.dst = some d ∧ d < n) ∧ (∀ j p, j < i → ops[j]? = some p → p.dst ≠ o.dst) ∧ (∀ e ∈ o.after, e.on < i) := by
  have hi : i < ops.size := (Array.getElem?_eq_some_iff.1 ho).1
  have h1 := List.all_eq_true.1 h i (List.mem_range.2 hi)
  rw [ho] at h1
  simp only [Bool.and_eq_true] at h1
  obtain ⟨⟨h1, h2⟩, h3⟩ := h1
  refine ⟨?_, fun j p hj hp => ?_, fun e he => ?_⟩
  · cases hd : o.dst with
    | none => rw [hd] at h1; cases h1
    | some d => rw [hd] at h1; exact ⟨d, rfl, of_decide_eq_true h1⟩
  · have := List.all_eq_true.1 h2 j (List.mem_range.2 hj)
    rw [hp] at this
    simpa using this
  · have := Array.all_eq_true_iff_forall_mem.1 h3 e he
    exact of_decide_eq_true this
theorem flow_ne (h : flowB ops n = true) {i j : Nat} {o p : Oper} (ho : ops[i]? = some o) (hp : ops[j]? = some p) (hne : i ≠ j) : p.dst ≠ o.dst := by
  rcases Nat.lt_or_gt_of_ne hne with h1 | h1
  · exact fun e => (flow_at h hp).2.1 i o h1 ho e.symm
  · exact (flow_at h ho).2.1 j p h1 hp
theorem put_getD_ne {a : Act} {d : Option Tmp} {t : Tmp} (v : Value) (h : d ≠ some t) : (a.put d v).tmps.getD t undef = a.tmps.getD t undef := by
  cases d with
  | none => rfl
  | some d =>
    have hne : d ≠ t := fun e => h (by rw [e])
    simp [Act.put, Array.getElem?_setIfInBounds_ne hne]
theorem put_getD {a : Act} {d : Tmp} (v : Value) (h : d < a.tmps.size) : (a.put (some d) v).tmps.getD d undef = v := by
  simp [Act.put, h]
theorem put_size {a : Act} {d : Option Tmp} (v : Value) : (a.put d v).tmps.size = a.tmps.size := by cases d <;> simp [Act.put]
theorem put_defers {a : Act} {d : Option Tmp} (v : Value) : (a.put d v).defers = a.defers := by cases d <;> rfl
theorem at_put_ne (h : flowB ops n = true) {i j : Nat} {o : Oper} (ho : ops[i]? = some o) (hne : i ≠ j) (v : Value) : At ops (a.put o.dst v) j = At ops a j := by
  unfold At
  cases hp : ops[j]? with
  | none => rfl
  | some p =>
    obtain ⟨d, hd, _⟩ := (flow_at h hp).1
    have := flow_ne h ho hp hne
    simp only [Option.bind_some, hd]
    rw [put_getD_ne v (by rw [← hd]; exact this.symm)]
theorem at_put (h : flowB ops n = true) {i : Nat} {o : Oper} (ho : ops[i]? = some o) (hn : a.tmps.size = n) (v : Value) : At ops (a.put o.dst v) i = v := by
  obtain ⟨d, hd, hlt⟩ := (flow_at h ho).1
  unfold At
  simp only [ho, Option.bind_some, hd]
  exact put_getD v (hn ▸ hlt)
theorem same_put {i : Nat} {o : Oper} (ho : ops[i]? = some o) (hs : Same ops a a') (v : Value) : Same ops a (a'.put o.dst v) :=
  ⟨(put_defers v).trans hs.defers, (put_size v).trans hs.size, fun t ht => (put_getD_ne v (ht i o ho)).trans (hs.other t ht)⟩
/-- one operation, out of what it waits for -/
def StepOk (P : Program) (ops : Array Oper) (Q : Exit → Act → World → Prop) (V : Value → World → Prop) (J : World → Prop) (o : Oper) (a : Act) (w : World) : Prop :=
  ∀ K : Act → World → Prop, (∀ v w', V v w' → J w' → Below w.heap.size w w' → K (a.put o.dst v) w') → if Region.wanted o (yielded ops a.tmps) = true then Oper.wp P o a w K Q else K (a.put o.dst undef) w
def waits (o : Oper) (j : Nat) : Bool := o.after.any fun e => Region.binds .any e && e.on == j
theorem setB {l : Array Bool} {i j : Nat} (hj : j < l.size) : (l.setIfInBounds i true)[j]'(by simpa using hj) = (if i = j then true else l[j]) := by
  rw [Array.getElem_setIfInBounds]
theorem flow_any (V : Nat → Value → World → Prop) (J : World → Prop) (hd : flowB ops a.tmps.size = true) (hV : ∀ i v w w', V i v w → Below w.heap.size w w' → V i v w')
    (hstep : ∀ i o, ops[i]? = some o → ∀ a' w, Same ops a a' → J w → (∀ j, waits o j = true → V j (At ops a' j) w) → StepOk P ops Q (V i) J o a' w)
    (hend : ∀ a' w, Same ops a a' → J w → (∀ i, i < ops.size → V i (At ops a' i) w) → Q .normal a' w) :
    ∀ (fuel : Nat) (listed : Array Bool) (a' : Act) (w : World), listed.size = ops.size → ops.size ≤ fuel + listed.toList.countP id → Same ops a a' → J w → (∀ i (h : i < listed.size), listed[i] = true → V i (At ops a' i) w) →
      wpAny P .any ops Q fuel listed a' w := by
  intro fuel
  have hready : ∀ (listed : Array Bool) i, i ∈ Region.ready .any ops listed → ∃ o, ops[i]? = some o ∧ listed.getD i true = false ∧ ∀ e ∈ o.after, Region.binds .any e = true → listed.getD e.on false = true := by
    intro listed i hi
    unfold Region.ready at hi
    obtain ⟨h1, h2⟩ := List.mem_filter.1 hi
    simp only [Bool.and_eq_true, Bool.not_eq_true'] at h2
    have hlt := List.mem_range.1 h1
    refine ⟨ops[i], Array.getElem?_eq_getElem hlt, h2.1, fun e he hb => ?_⟩
    have h3 := h2.2
    rw [Array.getElem?_eq_getElem hlt] at h3
    simp only [Option.map_some, Option.getD_some] at h3
    have := Array.all_eq_true_iff_forall_mem.1 h3 e he
    simpa [hb] using this
  have hall : ∀ (listed : Array Bool) a' w, listed.size = ops.size → Same ops a a' → J w → (∀ i (h : i < listed.size), listed[i] = true → V i (At ops a' i) w) → Region.ready .any ops listed = [] → Q .normal a' w := by
    intro listed a' w hsz hs hJ hl hr
    have key : ∀ i (h : i < listed.size), listed[i] = true := by
      intro i
      induction i using Nat.strongRecOn with
      | _ i ih =>
        intro h
        cases hb : listed[i] with
        | true => rfl
        | false =>
          exfalso
          have hi : i < ops.size := by omega
          have : i ∈ Region.ready .any ops listed := by
            unfold Region.ready
            refine List.mem_filter.2 ⟨List.mem_range.2 hi, ?_⟩
            rw [Array.getElem?_eq_getElem hi]
            simp only [Option.map_some, Option.getD_some, Bool.and_eq_true, Bool.not_eq_true']
            refine ⟨by simp [h, hb], Array.all_eq_true_iff_forall_mem.2 fun e he => ?_⟩
            have hlt := (flow_at hd (Array.getElem?_eq_getElem hi)).2.2 e he
            have h2 : e.on < listed.size := by omega
            simp [ih e.on hlt h2, h2]
          rw [hr] at this
          cases this
    exact hend a' w hs hJ (fun i hi => hl i (by omega) (key i (by omega)))
  induction fuel with
  | zero =>
    intro listed a' w hsz hc hs hJ hl
    have hz : listed.toList.countP id = listed.toList.length := by
      have := List.countP_le_length (p := id) (l := listed.toList)
      simp only [Array.length_toList] at this ⊢
      omega
    have ht := List.countP_eq_length.1 hz
    have hr : Region.ready .any ops listed = [] := by
      rw [List.eq_nil_iff_forall_not_mem]
      intro i hi
      obtain ⟨o, ho, hf, _⟩ := hready listed i hi
      have hlt : i < listed.size := by have := (Array.getElem?_eq_some_iff.1 ho).1; omega
      have : listed[i] = true := ht _ (by simp)
      simp [hlt, this] at hf
    exact ⟨hr, hall listed a' w hsz hs hJ hl hr⟩
  | succ fuel ih =>
    intro listed a' w hsz hc hs hJ hl
    refine ⟨hall listed a' w hsz hs hJ hl, fun i hi => ?_⟩
    obtain ⟨o, ho, hf, haft⟩ := hready listed i hi
    have hlt : i < listed.size := by have := (Array.getElem?_eq_some_iff.1 ho).1; omega
    have hfi : listed[i] = false := by simpa [hlt] using hf
    have hw : ∀ j, waits o j = true → V j (At ops a' j) w := by
      intro j hj
      unfold waits at hj
      obtain ⟨e, he, hb⟩ := Array.any_eq_true'.1 hj
      simp only [Bool.and_eq_true, beq_iff_eq] at hb
      obtain ⟨hb1, rfl⟩ := hb
      have h1 := haft e he hb1
      have h2 : e.on < listed.size := by
        have := (flow_at hd ho).2.2 e he; omega
      exact hl e.on h2 (by simpa [h2] using h1)
    refine wpOp_step ho ?_
    refine fun K hK => hstep i o ho a' w hs hJ hw K fun v w' hv hJ' hb => hK _ _ (ih _ _ _ (by simpa using hsz) ?_ (same_put ho hs v) hJ' fun j h hj => ?_)
    · have hcs : (listed.setIfInBounds i true).toList.countP id = listed.toList.countP id + 1 := by
        rw [Array.toList_setIfInBounds, List.countP_set (by simpa using hlt)]
        have : listed.toList[i]'(by simpa using hlt) = false := by simpa using hfi
        simp [this]
      omega
    · have hj' : j < listed.size := by simpa using h
      rw [setB hj'] at hj
      by_cases e : i = j
      · subst e
        rw [at_put hd ho hs.size v]
        exact hv
      · rw [if_neg e] at hj
        rw [at_put_ne hd ho e v]
        exact hV j _ w w' (hl j hj' hj) hb
/-- The region, all orders at once. -/
theorem flow {id : Nat} {w : World} (hm : P.follows .mixedOrders = true) (V : Nat → Value → World → Prop) (J : World → Prop) (hd : flowB ops a.tmps.size = true) (hJ : J w.drew)
    (hV : ∀ i v w w', V i v w → Below w.heap.size w w' → V i v w')
    (hstep : ∀ i o, ops[i]? = some o → ∀ a' w, Same ops a a' → J w → (∀ j, waits o j = true → V j (At ops a' j) w) → StepOk P ops Q (V i) J o a' w)
    (hend : ∀ a' w, Same ops a a' → J w → (∀ i, i < ops.size → V i (At ops a' i) w) → Q .normal a' w) : (Code.region id ops true).wp P Q a w := by
  refine wp_region_any hm (flow_any V J hd hV hstep hend ops.size _ a _ (by simp) (by omega) ⟨rfl, rfl, fun _ _ => rfl⟩ hJ fun i h hi => ?_)
  simp at hi
/-- what each operation's fact needs: that it stays -/
def MonoAll : List (Value → World → Prop) → Prop
  | [] => True
  | V :: l => (∀ v w w', V v w → Below w.heap.size w w' → V v w') ∧ MonoAll l
theorem mono_list : ∀ (l : List (Value → World → Prop)), MonoAll l → ∀ (i : Nat) (v : Value) (w w' : World), l.getD i (fun _ _ => True) v w → Below w.heap.size w w' → l.getD i (fun _ _ => True) v w'
  | [], _, i, v, w, w', h, hb => by simp
  | V :: l, hl, 0, v, w, w', h, hb => hl.1 v w w' h hb
  | V :: l, hl, i + 1, v, w, w', h, hb => mono_list l hl.2 i v w w' h hb
/-- every operation of a list, with its number -/
def AllFrom (C : Nat → Oper → Prop) : Nat → List Oper → Prop
  | _, [] => True
  | k, o :: l => C k o ∧ AllFrom C (k + 1) l
theorem allFrom_at {C : Nat → Oper → Prop} : ∀ (l : List Oper) (k : Nat), AllFrom C k l → ∀ (i : Nat) (o : Oper), l[i]? = some o → C (k + i) o
  | [], _, _, i, o, h => by simp at h
  | p :: l, k, h, i, o, ho => by
    cases i with
    | zero =>
      simp only [List.getElem?_cons_zero, Option.some.injEq] at ho
      subst ho
      exact h.1
    | succ i =>
      have := allFrom_at l (k + 1) h.2 i o (by simpa using ho)
      rw [show k + (i + 1) = k + 1 + i from by omega]
      exact this
theorem of_allFrom {C : Nat → Oper → Prop} {l : List Oper} (h : AllFrom C 0 l) : ∀ (i : Nat) (o : Oper), l.toArray[i]? = some o → C i o := fun i o ho => by
  have := allFrom_at l 0 h i o (by simpa using ho)
  rwa [Nat.zero_add] at this
def noDst (ops : Array Oper) (t : Tmp) : Bool := ops.all fun o => o.dst != some t
theorem Same.at_other (hs : Same ops a a') (t : Tmp) (h : noDst ops t = true) : a'.eval (.tmp t) = a.tmps.getD t undef :=
  hs.other t fun j o ho => by
    have := Array.all_eq_true_iff_forall_mem.1 h o (Array.mem_of_getElem? ho)
    simpa using this
section
variable {V : Value → World → Prop} {J : World → Prop} {o : Oper} {w : World} {v : Value}
theorem wanted_none (h : o.guard = none) : Region.wanted o (yielded ops a.tmps) = true := by simp [Region.wanted, h]
theorem yielded_of {g : Nat} {b : Bool} (h : At ops a g = .bool b) : yielded ops a.tmps g = some b := by
  unfold At at h
  unfold yielded
  cases hd : (ops[g]?).bind (·.dst) with
  | none => rw [hd] at h; cases h
  | some d =>
    rw [hd] at h
    simp only [Option.bind_some]
    simp only [Array.getD_eq_getD_getElem?] at h
    cases he : a.tmps[d]? with
    | none => rw [he] at h; cases h
    | some u => rw [he] at h; simp only [Option.getD_some] at h; rw [h]
theorem wanted_some {g : Nat} {b : Bool} (h : o.guard = some (g, b)) (hg : At ops a g = .bool b) : Region.wanted o (yielded ops a.tmps) = true := by
  simp [Region.wanted, h, yielded_of hg]
theorem step_value {w1 : World} (hw : Region.wanted o (yielded ops a.tmps) = true) (hrun : (execOp a.eval o).run P w = .ok (.value v) w1) (hV : V v w1) (hJ : J w1) (hb : Below w.heap.size w w1) : StepOk P ops Q V J o a w := by
  intro K hK
  rw [if_pos hw]
  unfold Oper.wp
  rw [hrun]
  exact hK v w1 hV hJ hb
theorem step_same (hw : Region.wanted o (yielded ops a.tmps) = true) (hrun : (execOp a.eval o).run P w = .ok (.value v) w) (hV : V v w) (hJ : J w) : StepOk P ops Q V J o a w := step_value hw hrun hV hJ (Below.refl _ _)
theorem step_move {x : Operand} (hop : o.op = .move x) (hw : Region.wanted o (yielded ops a.tmps) = true) (hV : V (a.eval x) w) (hJ : J w) : StepOk P ops Q V J o a w :=
  step_same hw (by unfold execOp; simp [hop]) hV hJ
theorem step_assign {x : Operand} (hop : o.op = .assign x) (hw : Region.wanted o (yielded ops a.tmps) = true) (hV : V (a.eval x) w) (hJ : J w) : StepOk P ops Q V J o a w :=
  step_same hw (by unfold execOp; simp [hop]) hV hJ
theorem step_pick {c x y : Operand} {b : Bool} (hop : o.op = .pick c x y) (hw : Region.wanted o (yielded ops a.tmps) = true) (hc : a.eval c = .bool b) (hV : V (a.eval (if b then x else y)) w) (hJ : J w) : StepOk P ops Q V J o a w :=
  step_same hw (by unfold execOp; cases b <;> simp [hop, hc, asBool]) hV hJ
theorem step_call {f : FuncId} {fn : Func} {as : Array Operand} {ts : Array TypeId} {args : Array Value} (hw : Region.wanted o (yielded ops a.tmps) = true) (hf : P.funcs[f]? = some fn) (hname : (fn.name == "runtime.NumGoroutine") = false) (hb : fn.body.isSome = true)
    (hop : o.op = .call { callee := .value (.func f), args := as, argTypes := ts }) (hargs : as.map a.eval = args)
    (h : Calls P f args w fun e w' => ∃ v, e = .returned v ∧ V v w' ∧ J w' ∧ Below w.heap.size w w') : StepOk P ops Q V J o a w := by
  intro K hK
  rw [if_pos hw]
  unfold Oper.wp
  have hrun : (execOp a.eval o).run P w = .ok (.enter f args) w := by
    have h1 : fn.name ≠ "runtime.NumGoroutine" := by simpa using hname
    obtain ⟨c, hc⟩ := Option.isSome_iff_exists.1 hb
    have he : (callFunc f args).run P w = .ok (.enter f args) w := by simp [callFunc, hf, h1, hc]
    unfold execOp
    simp [hop, resolve, Deferred.ofValue, invoke, Act.eval, hargs, he]
  rw [hrun]
  simp only [Oper.upon]
  refine h.mono ?_
  rintro e w' ⟨v, rfl, h1, h2, h3⟩
  exact hK v w' h1 h2 h3
end
end
end Gy

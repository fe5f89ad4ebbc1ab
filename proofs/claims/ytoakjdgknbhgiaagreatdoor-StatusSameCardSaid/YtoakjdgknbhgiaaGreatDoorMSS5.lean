/- Frames: what an act's slots hold, written out. -/
import Derived.Test.YtoakjdgknbhgiaaGreatDoorMSS4
import Derived.RowKit
import Derived.Laws.Cover3
import Derived.WalkKit
import Derived.Below
import Derived.Lib.Hide
import Derived.Test.YtoakjdgknbhgiaaGreatDoorProg
import Derived.Lib.MinMax
import Derived.Test.YtoakjdgknbhgiaaGreatDoorWWords
import Derived.ChangeArms
import Derived.DataReads
import Derived.OpenShut
import Derived.HandedShaped
import Derived.MakeChecks

namespace Gy
open Go

/-- these slots hold these values -/
def AllAt (a : Act) : List (Nat × Value) → Prop
  | [] => True
  | (k, v) :: l => a.tmps.getD k undef = v ∧ AllAt a l
def lk : List (Nat × Value) → Nat → Option Value
  | [], _ => none
  | (k, v) :: l, i => if k = i then some v else lk l i
theorem AllAt.lk {a : Act} : ∀ {l : List (Nat × Value)}, AllAt a l → ∀ {i : Nat} {v : Value}, lk l i = some v → a.tmps.getD i undef = v
  | [], _, _, _, h => by cases h
  | (k, u) :: l, g, i, v, h => by
    unfold Gy.lk at h
    by_cases e : k = i
    · rw [if_pos e] at h
      injection h with h
      rw [← e, ← h]
      exact g.1
    · rw [if_neg e] at h
      exact g.2.lk h
/-- an act of so many slots, of which these are known -/
structure Fr (n : Nat) (l : List (Nat × Value)) (a : Act) : Prop where
  size : a.tmps.size = n
  defers : a.defers = []
  all : AllAt a l
theorem Fr.at {n : Nat} {l : List (Nat × Value)} {a : Act} (h : Fr n l a) (i : Nat) (v : Value) (e : Gy.lk l i = some v) : a.tmps.getD i undef = v := h.all.lk e
/-- the act, written out: the known slots' values, letters for all others -/
theorem Fr.out {n : Nat} {l : List (Nat × Value)} {a : Act} (h : Fr n l a) : ∃ u : Nat → Value, a = ⟨((List.range n).map fun i => (Gy.lk l i).getD (u i)).toArray, []⟩ := by
  refine ⟨fun i => a.tmps.getD i undef, ?_⟩
  have h1 : a.tmps = ((List.range n).map fun i => (Gy.lk l i).getD (a.tmps.getD i undef)).toArray := by
    apply Array.ext
    · simp [h.size]
    · intro i h1 h2
      have e : a.tmps[i] = a.tmps.getD i undef := by simp [h1]
      rw [e]
      simp only [List.getElem_toArray, List.getElem_map, List.getElem_range]
      cases hk : Gy.lk l i with
      | none => rfl
      | some v => exact h.at i v hk
  have hd := h.defers
  cases a with
  | mk t d => simp only at h1 hd ⊢; rw [hd, ← h1]
end Gy
/- A region that draws its order, all orders at once, with stores: what holds of the world may hang on what has been done, and on what it has yielded. -/
namespace Gy.FlowV
open Go Go.RowKit Gy.FlowL
set_option linter.unusedVariables false
section
variable {P : Program} {ops : Array Oper} {Q : Exit → Act → World → Prop} {a a' : Act} {n : Nat}
/-- what has been yielded, with one more -/
def upd (f : Nat → Value) (i : Nat) (v : Value) : Nat → Value := fun j => if j = i then v else f j
theorem upd_ne {f : Nat → Value} {i j : Nat} (v : Value) (h : j ≠ i) : upd f i v j = f j := if_neg h
theorem upd_at (f : Nat → Value) (i : Nat) (v : Value) : upd f i v i = v := if_pos rfl
theorem add_ne {L : Nat → Bool} {i j : Nat} (h : j ≠ i) : add L i j = L j := if_neg h
theorem add_at (L : Nat → Bool) (i : Nat) : add L i i = true := if_pos rfl
theorem at_upd (h : flowB ops n = true) {i : Nat} {o : Oper} (ho : ops[i]? = some o) (hn : a.tmps.size = n) (v : Value) : At ops (a.put o.dst v) = upd (At ops a) i (if o.dst = none then undef else v) := by
  funext j
  by_cases e : j = i
  · subst e
    rw [upd_at, at_put h ho hn v]
  · rw [upd_ne _ e, at_put_ne h ho (fun h => e h.symm) v]
/-- one operation, out of what it waits for; a store yields nothing -/
def StepOk (P : Program) (ops : Array Oper) (Q : Exit → Act → World → Prop) (V : Value → World → Prop) (J : Value → World → Prop) (E : World → World → Prop) (o : Oper) (a : Act) (w : World) : Prop :=
  ∀ K : Act → World → Prop, (∀ v w', V (if o.dst = none then undef else v) w' → J (if o.dst = none then undef else v) w' → E w w' → K (a.put o.dst v) w') → if Region.wanted o (yielded ops a.tmps) = true then Oper.wp P o a w K Q else K (a.put o.dst undef) w
/-- what is done when operation o comes up -/
structure Done (ops : Array Oper) (V : Nat → Value → World → Prop) (J : (Nat → Bool) → (Nat → Value) → World → Prop) (a : Act) (i : Nat) (o : Oper) (L : Nat → Bool) (a' : Act) (w : World) : Prop where
  not : L i = false
  waits : ∀ j, waits o j = true → L j = true
  down : ∀ j p, ops[j]? = some p → L j = true → ∀ k, FlowL.waits p k = true → L k = true
  same : Same ops a a'
  J : J L (At ops a') w
  V : ∀ j, j < ops.size → L j = true → V j (At ops a' j) w
theorem flow_any (V : Nat → Value → World → Prop) (J : (Nat → Bool) → (Nat → Value) → World → Prop) (E : World → World → Prop) (hd : flowB ops a.tmps.size = true) (hV : ∀ i v w w', V i v w → E w w' → V i v w')
    (hstep : ∀ i o, ops[i]? = some o → ∀ L a' w, Done ops V J a i o L a' w → StepOk P ops Q (V i) (fun v => J (add L i) (upd (At ops a') i v)) E o a' w)
    (hend : ∀ L a' w, Same ops a a' → J L (At ops a') w → (∀ i, i < ops.size → L i = true) → (∀ i, i < ops.size → V i (At ops a' i) w) → Q .normal a' w) :
    ∀ (fuel : Nat) (listed : Array Bool) (L : Nat → Bool) (a' : Act) (w : World), listed.size = ops.size → ops.size ≤ fuel + listed.toList.countP id → (∀ i, L i = listed.getD i false) → Same ops a a' → J L (At ops a') w →
      (∀ j p, ops[j]? = some p → L j = true → ∀ k, waits p k = true → L k = true) → (∀ i, i < ops.size → L i = true → V i (At ops a' i) w) → wpAny P .any ops Q fuel listed a' w := by
  intro fuel
  have hready : ∀ (listed : Array Bool) i, i ∈ Region.ready .any ops listed → ∃ o, ops[i]? = some o ∧ listed.getD i true = false ∧ ∀ e ∈ o.after, Region.binds .any e = true → listed.getD e.on false = true := by
    intro listed i hi
    unfold Region.ready at hi
    obtain ⟨h1, h2⟩ := List.mem_filter.1 hi
    simp only [Bool.and_eq_true, Bool.not_eq_true'] at h2
    have hlt := List.mem_range.1 h1
    refine ⟨ops[i], Array.getElem?_eq_getElem hlt, h2.1, fun e he hb => ?_⟩
    have h3 := h2.2
    rw [Array.getElem?_eq_getElem hlt] at h3
    simp only [Option.map_some, Option.getD_some] at h3
    have := Array.all_eq_true_iff_forall_mem.1 h3 e he
    simpa [hb] using this
  have hall : ∀ (listed : Array Bool) (L : Nat → Bool) a' w, listed.size = ops.size → (∀ i, L i = listed.getD i false) → Same ops a a' → J L (At ops a') w → (∀ i, i < ops.size → L i = true → V i (At ops a' i) w) → Region.ready .any ops listed = [] → Q .normal a' w := by
    intro listed L a' w hsz hL hs hJ hl hr
    have key : ∀ i (h : i < listed.size), listed[i] = true := by
      intro i
      induction i using Nat.strongRecOn with
      | _ i ih =>
        intro h
        cases hb : listed[i] with
        | true => rfl
        | false =>
          exfalso
          have hi : i < ops.size := by omega
          have : i ∈ Region.ready .any ops listed := by
            unfold Region.ready
            refine List.mem_filter.2 ⟨List.mem_range.2 hi, ?_⟩
            rw [Array.getElem?_eq_getElem hi]
            simp only [Option.map_some, Option.getD_some, Bool.and_eq_true, Bool.not_eq_true']
            refine ⟨by simp [h, hb], Array.all_eq_true_iff_forall_mem.2 fun e he => ?_⟩
            by_cases hbe : Region.binds .any e = true
            · have hlt := (flow_at hd (Array.getElem?_eq_getElem hi)).2.2 e he hbe
              have h2 : e.on < listed.size := by omega
              simp [ih e.on hlt h2, h2]
            · simp [hbe]
          rw [hr] at this
          cases this
    have hLt : ∀ i, i < ops.size → L i = true := fun i hi => by
      rw [hL]
      have h1 : i < listed.size := by omega
      simp [h1, key i h1]
    exact hend L a' w hs hJ hLt (fun i hi => hl i hi (hLt i hi))
  induction fuel with
  | zero =>
    intro listed L a' w hsz hc hL hs hJ hdn hl
    have hz : listed.toList.countP id = listed.toList.length := by
      have := List.countP_le_length (p := id) (l := listed.toList)
      simp only [Array.length_toList] at this ⊢
      omega
    have ht := List.countP_eq_length.1 hz
    have hr : Region.ready .any ops listed = [] := by
      rw [List.eq_nil_iff_forall_not_mem]
      intro i hi
      obtain ⟨o, ho, hf, _⟩ := hready listed i hi
      have hlt : i < listed.size := by have := (Array.getElem?_eq_some_iff.1 ho).1; omega
      have : listed[i] = true := ht _ (by simp)
      simp [hlt, this] at hf
    exact ⟨hr, hall listed L a' w hsz hL hs hJ hl hr⟩
  | succ fuel ih =>
    intro listed L a' w hsz hc hL hs hJ hdn hl
    refine ⟨hall listed L a' w hsz hL hs hJ hl, fun i hi => ?_⟩
    obtain ⟨o, ho, hf, haft⟩ := hready listed i hi
    have hlt : i < listed.size := by have := (Array.getElem?_eq_some_iff.1 ho).1; omega
    have hfi : listed[i] = false := by simpa [hlt] using hf
    have hLi : L i = false := by rw [hL]; simp [hlt, hfi]
    have hw : ∀ j, waits o j = true → L j = true := by
      intro j hj
      unfold waits at hj
      obtain ⟨e, he, hb⟩ := Array.any_eq_true'.1 hj
      simp only [Bool.and_eq_true, beq_iff_eq] at hb
      obtain ⟨hb1, rfl⟩ := hb
      rw [hL]
      exact haft e he hb1
    have hLs : ∀ j, add L i j = (listed.setIfInBounds i true).getD j false := by
      intro j
      unfold add
      by_cases e : j = i
      · subst e
        simp [hlt]
      · rw [if_neg e, hL]
        simp [Array.getElem?_setIfInBounds_ne (fun h => e h.symm)]
    refine wpOp_step ho ?_
    refine fun K hK => hstep i o ho L a' w ⟨hLi, hw, hdn, hs, hJ, hl⟩ K fun v w' hv hJ' hb => hK _ _ (ih _ (add L i) _ _ (by simpa using hsz) ?_ hLs (same_put ho hs v) (by rw [at_upd hd ho hs.size v]; exact hJ') (fun j p hp hj k hk => ?_) fun j h hj => ?_)
    · have hcs : (listed.setIfInBounds i true).toList.countP id = listed.toList.countP id + 1 := by
        rw [Array.toList_setIfInBounds, List.countP_set (by simpa using hlt)]
        have : listed.toList[i]'(by simpa using hlt) = false := by simpa using hfi
        simp [this]
      omega
    · unfold add at hj ⊢
      by_cases e : k = i
      · rw [if_pos e]
      · rw [if_neg e]
        by_cases e2 : j = i
        · subst e2
          rw [ho] at hp
          injection hp with hp
          subst hp
          exact hw k hk
        · rw [if_neg e2] at hj
          exact hdn j p hp hj k hk
    · by_cases e : i = j
      · subst e
        rw [at_put hd ho hs.size v]
        exact hv
      · have hj' : L j = true := by
          unfold add at hj
          rwa [if_neg (fun h => e h.symm)] at hj
        rw [at_put_ne hd ho e v]
        exact hV j _ w w' (hl j h hj') hb
/-- The region, all orders at once. -/
theorem flow {id : Nat} {w : World} (hm : P.follows .mixedOrders = true) (V : Nat → Value → World → Prop) (J : (Nat → Bool) → (Nat → Value) → World → Prop) (E : World → World → Prop) (hd : flowB ops a.tmps.size = true) (hJ : ∀ f, J (fun _ => false) f w.drew)
    (hV : ∀ i v w w', V i v w → E w w' → V i v w')
    (hstep : ∀ i o, ops[i]? = some o → ∀ L a' w, Done ops V J a i o L a' w → StepOk P ops Q (V i) (fun v => J (add L i) (upd (At ops a') i v)) E o a' w)
    (hend : ∀ L a' w, Same ops a a' → J L (At ops a') w → (∀ i, i < ops.size → L i = true) → (∀ i, i < ops.size → V i (At ops a' i) w) → Q .normal a' w) : (Code.region id ops true).wp P Q a w := by
  refine wp_region_any hm (flow_any V J E hd hV hstep hend ops.size _ (fun _ => false) a _ (by simp) (by omega) (fun i => ?_) ⟨rfl, rfl, fun _ _ => rfl⟩ (hJ _) (fun j p _ h => by cases h) fun i h hi => by cases hi)
  by_cases h : i < ops.size <;> simp [h]
theorem Done.at {V : Nat → Value → World → Prop} {J : (Nat → Bool) → (Nat → Value) → World → Prop} {i : Nat} {o : Oper} {L : Nat → Bool} {w : World} (h : Done ops V J a i o L a' w) (j : Nat) (hj : (FlowL.waits o j && decide (j < ops.size)) = true) : V j (At ops a' j) w := by
  simp only [Bool.and_eq_true, decide_eq_true_eq] at hj
  exact h.V j hj.2 (h.waits j hj.1)
/-- not done: it waits for this one -/
theorem Done.later {V : Nat → Value → World → Prop} {J : (Nat → Bool) → (Nat → Value) → World → Prop} {i : Nat} {o : Oper} {L : Nat → Bool} {w : World} (h : Done ops V J a i o L a' w) (j : Nat) (hj : ((ops[j]?).map fun p => FlowL.waits p i) = some true) : L j = false := by
  obtain ⟨p, hp, hw⟩ := Option.map_eq_some_iff.1 hj
  cases hl : L j with
  | false => rfl
  | true =>
    have := h.down j p hp hl i hw
    rw [h.not] at this
    cases this
section
variable {V : Value → World → Prop} {J : Value → World → Prop} {E : World → World → Prop} {o : Oper} {w : World} {v : Value}
theorem step_value {d : Tmp} {w1 : World} (hdst : o.dst = some d) (hw : Region.wanted o (yielded ops a.tmps) = true) (hrun : (execOp a.eval o).run P w = .ok (.value v) w1) (hV : V v w1) (hJ : J v w1) (hb : E w w1) : StepOk P ops Q V J E o a w := by
  intro K hK
  rw [if_pos hw]
  unfold Oper.wp
  rw [hrun]
  exact hK v w1 (by rw [if_neg (by rw [hdst]; simp)]; exact hV) (by rw [if_neg (by rw [hdst]; simp)]; exact hJ) hb
theorem step_skip {w1 : World} (hdst : o.dst = none) (hw : Region.wanted o (yielded ops a.tmps) = true) (hrun : (execOp a.eval o).run P w = .ok .skip w1) (hV : V undef w1) (hJ : J undef w1) (hb : E w w1) : StepOk P ops Q V J E o a w := by
  intro K hK
  rw [if_pos hw]
  unfold Oper.wp
  rw [hrun]
  exact hK undef w1 (by rw [if_pos hdst]; exact hV) (by rw [if_pos hdst]; exact hJ) hb
theorem step_move {x : Operand} {d : Tmp} (hop : o.op = .move x) (hdst : o.dst = some d) (hw : Region.wanted o (yielded ops a.tmps) = true) (hV : V (a.eval x) w) (hJ : J (a.eval x) w) (hE : E w w) : StepOk P ops Q V J E o a w :=
  step_value hdst hw (by unfold execOp; simp [hop]) hV hJ hE
theorem step_assign {x : Operand} {d : Tmp} (hop : o.op = .assign x) (hdst : o.dst = some d) (hw : Region.wanted o (yielded ops a.tmps) = true) (hV : V (a.eval x) w) (hJ : J (a.eval x) w) (hE : E w w) : StepOk P ops Q V J E o a w :=
  step_value hdst hw (by unfold execOp; simp [hop]) hV hJ hE
theorem step_pick {c x y : Operand} {b : Bool} {d : Tmp} (hop : o.op = .pick c x y) (hdst : o.dst = some d) (hw : Region.wanted o (yielded ops a.tmps) = true) (hc : a.eval c = .bool b) (hV : V (a.eval (if b then x else y)) w) (hJ : J (a.eval (if b then x else y)) w) (hE : E w w) : StepOk P ops Q V J E o a w :=
  step_value hdst hw (by unfold execOp; cases b <;> simp [hop, hc, asBool]) hV hJ hE
theorem step_call {f : FuncId} {fn : Func} {as_ : Array Operand} {ts : Array TypeId} {args : Array Value} {d : Tmp} (hdst : o.dst = some d) (hw : Region.wanted o (yielded ops a.tmps) = true) (hf : P.funcs[f]? = some fn) (hname : (fn.name == "runtime.NumGoroutine") = false) (hb : fn.body.isSome = true)
    (hop : o.op = .call { callee := .value (.func f), args := as_, argTypes := ts }) (hargs : as_.map a.eval = args)
    (h : Calls P f args w fun e w' => ∃ v, e = .returned v ∧ V v w' ∧ J v w' ∧ E w w') : StepOk P ops Q V J E o a w := by
  intro K hK
  rw [if_pos hw]
  unfold Oper.wp
  have hrun : (execOp a.eval o).run P w = .ok (.enter f args) w := by
    have h1 : fn.name ≠ "runtime.NumGoroutine" := by simpa using hname
    obtain ⟨c, hc⟩ := Option.isSome_iff_exists.1 hb
    have he : (callFunc f args).run P w = .ok (.enter f args) w := by simp [callFunc, hf, h1, hc]
    unfold execOp
    simp [hop, resolve, Deferred.ofValue, invoke, Act.eval, hargs, he]
  rw [hrun]
  simp only [Oper.upon]
  refine h.mono ?_
  rintro e w' ⟨v, rfl, h1, h2, h3⟩
  exact hK v w' (by rw [if_neg (by rw [hdst]; simp)]; exact h1) (by rw [if_neg (by rw [hdst]; simp)]; exact h2) h3
end
end
/-- an append, then the store of what it gives: what holds ahead of both, between them, behind them -/
def AppJ (ia is : Nat) (B : World → Prop) (M E : Value → World → Prop) (L : Nat → Bool) (f : Nat → Value) (w : World) : Prop :=
  (L ia = false → B w) ∧ (L ia = true → L is = false → M (f ia) w) ∧ (L is = true → E (f ia) w)
section
variable {ia is : Nat} {B : World → Prop} {M E : Value → World → Prop} {L : Nat → Bool} {f : Nat → Value} {w : World}
theorem AppJ.start (h : B w) : AppJ ia is B M E (fun _ => false) f w := ⟨fun _ => h, fun h => (by cases h), fun h => (by cases h)⟩
theorem AppJ.keep (h : AppJ ia is B M E L f w) (i : Nat) (v : Value) (h1 : ia ≠ i) (h2 : is ≠ i) : AppJ ia is B M E (add L i) (upd f i v) w :=
  ⟨fun g => h.1 (by rwa [add_ne h1] at g), fun g k => by rw [upd_ne v h1]; exact h.2.1 (by rwa [add_ne h1] at g) (by rwa [add_ne h2] at k), fun g => by rw [upd_ne v h1]; exact h.2.2 (by rwa [add_ne h2] at g)⟩
theorem AppJ.early (h : AppJ ia is B M E L f w) (hL : L ia = false) : B w := h.1 hL
theorem AppJ.go {w' : World} (hL : L ia = false) (hS : L is = false) (hB : B w') (i : Nat) (v : Value) (h1 : ia ≠ i) (h2 : is ≠ i) : AppJ ia is B M E (add L i) (upd f i v) w' :=
  ⟨fun _ => hB, fun g => (by rw [add_ne h1, hL] at g; cases g), fun g => (by rw [add_ne h2, hS] at g; cases g)⟩
theorem AppJ.app {w' : World} {v : Value} (hne : is ≠ ia) (hS : L is = false) (hM : M v w') : AppJ ia is B M E (add L ia) (upd f ia v) w' :=
  ⟨fun g => (by rw [add_at] at g; cases g), fun _ _ => by rw [upd_at]; exact hM, fun g => (by rw [add_ne hne, hS] at g; cases g)⟩
theorem AppJ.store {w' : World} {v : Value} (hne : ia ≠ is) (hL : L ia = true) (hE : E (f ia) w') : AppJ ia is B M E (add L is) (upd f is v) w' :=
  ⟨fun g => (by rw [add_ne hne, hL] at g; cases g), fun _ g => (by rw [add_at] at g; cases g), fun _ => by rw [upd_ne v hne]; exact hE⟩
end
theorem Done.not_yet {ops : Array Oper} {a a' : Act} {V : Nat → Value → World → Prop} {J : (Nat → Bool) → (Nat → Value) → World → Prop} {i : Nat} {o : Oper} {L : Nat → Bool} {w : World} (h : Done ops V J a i o L a' w) {k : Nat} (hk : L k = false) (j : Nat) (hj : ((ops[j]?).map fun p => FlowL.waits p k) = some true) : L j = false := by
  obtain ⟨p, hp, hw⟩ := Option.map_eq_some_iff.1 hj
  cases hl : L j with
  | false => rfl
  | true =>
    have := h.down j p hp hl k hw
    rw [hk] at this
    cases this
end Gy.FlowV
/- bytes.Clone, called. -/
namespace Gy
open Go Go.Proofs Go.RowKit Go.Proofs.YtoakjdgknbhgiaaGreatDoorW.PrintWords Go.Proofs.YtoakjdgknbhgiaaGreatDoorW.PrintLast Go.Proofs.YtoakjdgknbhgiaaGreatDoorW.PrintMore

theorem info_u8 : (Tryz.prog.info? 5).map (fun i => (i.zero, i.size, i.bytes)) = some (some (.int .u8 0), 1, 1) := by kernel_rfl
theorem eql_nil {P : Program} (w : World) (t e : TypeId) (a : Option Addr) (l c : Nat) (h : P.underlying t = some (.slice e)) : (binOp .eql t (.slice a l c) (.slice none 0 0)).run P w = .ok (.bool a.isNone) w := by
  simp [binOp, run_equal_slice_nil w t e a l c h]
theorem reads_alloc {w : World} {k : IntKind} {A : Option Addr} {n : Nat} {xs : List Int} (h : ReadsInt w k A n xs) (o : Obj) : ReadsInt (w.alloc o) k A n xs := Gy.reads_below h (Gy.alloc_below w o)
/-- a copy stands in a row of its own -/
def CopyPost (w : World) (xs : List Int) (e : Ending) (w' : World) : Prop := ∃ v, e = .returned v ∧ w'.ownsRow w.heap.size 5 1 v xs.length (nums .u8 xs) ∧ Below w.heap.size w w'
set_option maxHeartbeats 2000000 in
set_option maxRecDepth 100000 in
theorem clone_calls (A : Option Addr) (n c : Nat) (xs : List Int) (w : World) (hR : ReadsInt w .u8 A n xs) (hl : xs.length ≤ 140737488355328) :
    Calls Tryz.prog 11 #[.slice A n c] w fun e w' => CopyPost w xs e w' := by
  have HR := Lib.hid hR
  have HL := Lib.hid hl
  have hnil : ∀ W : World, (binOp .eql 22 (.slice A n c) (.slice none 0 0)).run Tryz.prog W = .ok (.bool A.isNone) W := fun W => eql_nil W _ _ A n c Tryz.underlying22
  rcases A with _ | ad
  · have h0 : xs = [] := by
      rcases Nat.eq_zero_or_pos n with h | h
      · exact List.eq_nil_of_length_eq_zero (hR.1.trans h)
      · obtain ⟨ad, h, _⟩ := hR.2.2 h; cases h
    subst h0
    clear hR hl
    go_enter Tryz.func11, Tryz.ntmps11
    go_wp2
    go_ret
    exact ⟨_, rfl, ⟨rfl, .inl ⟨rfl, rfl⟩⟩, Below.refl _ _⟩
  · clear hR hl
    go_enter Tryz.func11, Tryz.ntmps11
    go_wp2_with (at_builtin; refine print_append_row (w0 := w) w.heap.size rfl (.tmp 5) (.tmp 6) 22 5 .u8 1 rfl Tryz.underlying22 info_u8 (by decide) (.slice (some ⟨w.heap.size, 0, none⟩) 0 0) [] xs (some ad) n c rfl rfl (World.ownsRow_lit w #[] 0 (Nat.le_refl _) (by decide) rfl) (reads_alloc HR.out _) ((Below.refl _ _).alloc (Nat.le_refl _) _) (by simp) (by have := HR.out.1; have := HL.out; simp; omega) ?_; intro v1 w1 ho hb hgr hat; have E := Lib.hid (And.intro ho hb); clear ho hb hgr hat)
    go_ret
    exact ⟨_, rfl, E.out.1, E.out.2⟩
end Gy
/- Machine-made by a program of this claim: functions of the Go program as Lean functions, and that its calls do what these say. Lean checks it. -/
namespace Go.Proofs.YtoakjdgknbhgiaaGreatDoor.QDig
open Go.RowKit Go.Proofs.YtoakjdgknbhgiaaGreatDoorW.PrintWords Go.Proofs.YtoakjdgknbhgiaaGreatDoorW.PrintLast Go.Proofs.YtoakjdgknbhgiaaGreatDoorW.PrintMore
attribute [local go_sem] max2_int min2_int max_two min_two max_three min_three max_four min_four   -- for this text's walks alone
set_option linter.unusedVariables false
set_option linter.unusedSimpArgs false

end Go.Proofs.YtoakjdgknbhgiaaGreatDoor.QDig
/- The CRC of the program, called, answers the plain word. -/
namespace Go.Proofs.YtoakjdgknbhgiaaGreatDoor.Pure
open Go Go.RowKit Go.Proofs.YtoakjdgknbhgiaaGreatDoor.QDig Go.Proofs.YtoakjdgknbhgiaaGreatDoorW.PrintWords Go.Proofs.YtoakjdgknbhgiaaGreatDoorW.PrintLast

theorem turn_l0 : ∀ (n c i k : Nat), i + n = 8 → c < 4294967296 → n < k → sum_turn.l0 k c i = some ((Gy.cturn n c : Nat) : Int) := by
  intro n
  induction n with
  | zero =>
    intro c i k hi hc hk
    obtain ⟨k, rfl⟩ : ∃ m, k = m + 1 := ⟨k - 1, by omega⟩
    simp only [sum_turn.l0]
    rw [if_neg (by omega)]
    rfl
  | succ n ih =>
    intro c i k hi hc hk
    obtain ⟨k, rfl⟩ : ∃ m, k = m + 1 := ⟨k - 1, by omega⟩
    simp only [sum_turn.l0]
    rw [if_pos (by omega)]
    have e1 : Go.bits .and .u32 (c : Int) 1 = ((c % 2 : Nat) : Int) := by
      have h := Go.u32_and_nat c 1 hc (by omega)
      rw [Nat.and_one_is_mod] at h
      exact h
    rw [e1]
    have e2 : wrap64 ((i : Int) + 1) = ((i + 1 : Nat) : Int) := by rw [Gy.wrap64_id (by omega) (by omega)]; omega
    rw [e2]
    have e3 : Go.bits .xor .u32 ((c : Int) / 2) (Go.bits .and .u32 3988292384 ((-((c % 2 : Nat) : Int)) % 4294967296)) = ((Gy.cstep c : Nat) : Int) := by
      unfold Gy.cstep
      have ed : (c : Int) / 2 = ((c / 2 : Nat) : Int) := by omega
      rw [ed]
      by_cases h : c % 2 = 1
      · rw [if_pos h, h]
        have ea : Go.bits .and .u32 3988292384 ((-((1 : Nat) : Int)) % 4294967296) = ((3988292384 : Nat) : Int) := by decide +kernel
        rw [ea, Go.u32_xor_nat _ _ (by omega) (by omega)]
      · rw [if_neg h, show c % 2 = 0 from by omega]
        have ea : Go.bits .and .u32 3988292384 ((-((0 : Nat) : Int)) % 4294967296) = ((0 : Nat) : Int) := by decide +kernel
        rw [ea, Go.u32_xor_nat _ _ (by omega) (by omega), Nat.xor_zero]
    rw [e3]
    exact ih _ _ _ (by omega) (Gy.cstep_lt hc) (by omega)
theorem turn_f {k c : Nat} (hk : 9 ≤ k) (hc : c < 4294967296) : sum_turn.f k c = some ((Gy.cturn 8 c : Nat) : Int) := by
  unfold sum_turn.f
  exact turn_l0 8 c 0 k (by omega) hc (by omega)
theorem low_byte (c x : Nat) (hc : c < 4294967296) : (c &&& (4294967295 - 255)) ^^^ ((c % 256) ^^^ x) = c ^^^ x := by
  have h : (c &&& 4294967040) ^^^ (c % 256) = c := by
    have h2 : c % 256 = c &&& 255 := by
      have := Nat.and_two_pow_sub_one_eq_mod c 8
      simpa using this.symm
    rw [h2]
    apply Nat.eq_of_testBit_eq
    intro i
    simp only [Nat.testBit_xor, Nat.testBit_and]
    by_cases hi : i < 32
    · have : (4294967040 : Nat).testBit i = !((255 : Nat).testBit i) := by
        have := allB32 i hi
        exact this
      rw [this]
      cases c.testBit i <;> cases (255 : Nat).testBit i <;> rfl
    · have hcb : c.testBit i = false := Nat.testBit_lt_two_pow (Nat.lt_of_lt_of_le hc (Nat.pow_le_pow_right (n := 2) (i := 32) (by omega) (by omega)))
      rw [hcb]; rfl
  show (c &&& 4294967040) ^^^ ((c % 256) ^^^ x) = c ^^^ x
  rw [← Nat.xor_assoc, h]
where
  allB32 : ∀ i, i < 32 → (4294967040 : Nat).testBit i = !((255 : Nat).testBit i) := by decide
theorem crc_l0 : ∀ (d : Nat) (c i k : Nat) (l : List Int), c < 4294967296 → (∀ x ∈ l, 0 ≤ x ∧ x < 256) → l.length ≤ 9223372036854775807 → i + d = l.length → d + 10 < k →
    sum_CRC.l0 k c l (l.length : Int) i = some ((Gy.crcFold c (l.drop i) ^^^ 4294967295 : Nat) : Int) := by
  intro d
  induction d with
  | zero =>
    intro c i k l hc hx hl hi hk
    obtain ⟨k, rfl⟩ : ∃ m, k = m + 1 := ⟨k - 1, by omega⟩
    simp only [sum_CRC.l0]
    rw [if_neg (by omega), List.drop_eq_nil_of_le (by omega)]
    have h := Go.u32_xor_nat 4294967295 c (by omega) hc
    rw [Nat.xor_comm] at h
    exact congrArg some h
  | succ d ih =>
    intro c i k l hc hx hl hi hk
    obtain ⟨k, rfl⟩ : ∃ m, k = m + 1 := ⟨k - 1, by omega⟩
    simp only [sum_CRC.l0]
    have hi' : i < l.length := by omega
    rw [if_pos (by omega), if_pos (by omega), if_pos (by omega)]
    have hr : rd l (i : Int) = l[i] := by
      unfold rd
      rw [Int.toNat_natCast, List.getD_eq_getElem?_getD, List.getElem?_eq_getElem hi']
      rfl
    have hb := hx l[i] (List.getElem_mem hi')
    obtain ⟨n, hn⟩ : ∃ n : Nat, l[i] = n := ⟨l[i].toNat, by omega⟩
    have hn2 : n < 256 := by omega
    rw [hr, hn]
    have e0 : (c : Int) % 256 = ((c % 256 : Nat) : Int) := by omega
    have e1 : Go.bits .xor .u8 ((c : Int) % 256) (n : Int) = ((c % 256 ^^^ n : Nat) : Int) := by rw [e0]; exact Go.u8_xor_nat _ _ (by omega) (by omega)
    have h8 : c % 256 ^^^ n < 256 := Nat.xor_lt_two_pow (n := 8) (by omega) (by omega)
    rw [e1, show (((c % 256 ^^^ n : Nat) : Int)) % 4294967296 = ((c % 256 ^^^ n : Nat) : Int) from by omega]
    have e2 : Go.bits .andNot .u32 (c : Int) 255 = ((c &&& (4294967295 - 255) : Nat) : Int) := Go.u32_andNot_nat c 255 hc (by omega)
    have hle : (c &&& (4294967295 - 255)) < 4294967296 := Nat.lt_of_le_of_lt Nat.and_le_left hc
    rw [e2, Go.u32_xor_nat _ _ hle (by omega), low_byte c n hc]
    have hlt : c ^^^ n < 4294967296 := Gy.xor_lt32 hc (by omega)
    rw [turn_f (by omega) hlt, Option.bind_some, show wrap64 ((i : Int) + 1) = ((i + 1 : Nat) : Int) from by rw [Gy.wrap64_id (by omega) (by omega)]; omega]
    rw [ih _ (i + 1) k l (Gy.cturn_lt 8 _ hlt) hx hl (by omega) (by omega)]
    rw [List.drop_eq_getElem_cons hi', hn]
    rfl
theorem crc_f {k : Nat} {l : List Int} (hx : ∀ x ∈ l, 0 ≤ x ∧ x < 256) (hl : l.length ≤ 9223372036854775807) (hk : l.length + 10 < k) : sum_CRC.f k l = some ((Gy.crc l : Nat) : Int) := by
  unfold sum_CRC.f
  exact crc_l0 l.length 4294967295 0 k l (by omega) hx hl (by omega) hk
theorem kd_of_reads {w : World} {A : Option Addr} {n : Nat} {xs : List Int} (h : ReadsInt w .u8 A n xs) : Kd.C (Kd.int .u8) w A xs.length xs := by
  obtain rfl : xs.length = n := h.1
  exact Kd.C_of_reads (enc := Value.int .u8) (d := (0 : Int)) (h1 := fun _ => rfl) h
theorem crc_calls (A : Option Addr) (c : Nat) (xs : List Int) (w : World) (hR : ReadsInt w .u8 A xs.length xs) (hc : xs.length ≤ c) (hx : ∀ x ∈ xs, 0 ≤ x ∧ x < 256) (hl : xs.length ≤ 1000000) :
    Calls Tryz.prog 12 #[.slice A xs.length c] w fun e w' => e = .returned (.int .u32 (Gy.crc xs : Nat)) ∧ Below w.heap.size w w' := by
  obtain ⟨k, hk⟩ : ∃ k : Nat, xs.length + 10 < k := ⟨xs.length + 11, by omega⟩
  exact (sum_CRC.calls k A c xs _ w (kd_of_reads hR) hc (crc_f hx (by omega) hk)).mono fun e w' h => ⟨h.1, h.2.below⟩

end Go.Proofs.YtoakjdgknbhgiaaGreatDoor.Pure
/- Package cut, the walk in pieces: the inner loop of Make: one slice after the other. -/
namespace Go.Proofs.YtoakjdgknbhgiaaGreatDoor.Cuts
open Go Go.RowKit Go.Proofs.YtoakjdgknbhgiaaGreatDoorW.PrintWords Go.Proofs.YtoakjdgknbhgiaaGreatDoorW.PrintLast Go.Proofs.YtoakjdgknbhgiaaGreatDoorW.PrintMore Gy

/-- the loops of a text, each ahead of those within it -/
def loopsOf : Code → List Code
  | .loop c => c :: loopsOf c
  | .seq a b => loopsOf a ++ loopsOf b
  | .block _ c => loopsOf c
  | .scope c => loopsOf c
  | .cond _ a b => loopsOf a ++ loopsOf b
  | _ => []
noncomputable def bodyOf (k : Nat) : Code := ((Tryz.f5.body.map loopsOf).getD []).getD k .skip
abbrev frI (w : World) (L0 : Value) (s SB xb n i : Nat) (rv R : Value) : List (Nat × Value) :=
  [(0, L0), (1, .int .i64 (s : Int)), (4, .pointer (some ⟨w.heap.size, 0, none⟩)), (8, .pointer (some ⟨SB, 0, none⟩)), (9, rv), (11, .pointer (some ⟨xb, 0, none⟩)), (12, R), (23, L0), (24, .int .i64 (n : Int)), (25, .int .i64 (i : Int))]
theorem own_some1 {w : World} {base : Nat} {e : TypeId} {n : Nat} {v : Value} {xs : List Value} (h : w.ownsRow base e 1 v n xs) (hn : 0 < n) : ∃ g c, v = .slice (some ⟨g, 0, none⟩) n c ∧ n ≤ c ∧ base ≤ g ∧ g < w.heap.size := by
  rcases h.2 with ⟨_, h0⟩ | ⟨g, cap, cur, hv, hb, hg, hc, _⟩
  · omega
  · exact ⟨g, cap, hv, hc, hb, (Array.getElem?_eq_some_iff.1 hg).1⟩
theorem info8 : ∃ i, Tryz.prog.info? 5 = some i ∧ i.size = 1 := by
  obtain ⟨i0, hi, hzz⟩ := Option.map_eq_some_iff.1 info_u8
  simp only [Prod.mk.injEq] at hzz
  exact ⟨i0, hi, hzz.2.1⟩
/-- so many of a row's first bytes, and the others -/
theorem cut_at (A : Option Addr) (c : Nat) (rest : List Int) (m : Nat) (hm : m ≤ rest.length) (hc : rest.length ≤ c) :
    (∀ W : World, (Instr.slice 22 (.slice A rest.length c) none (some (.int .i64 (m : Int))) none).run Tryz.prog W = .ok (.slice A m c) W) ∧ (∀ w : World, ReadsInt w .u8 A rest.length rest → ReadsInt w .u8 A m (rest.take m)) ∧
    ∃ A' : Option Addr, (∀ W : World, (Instr.slice 22 (.slice A rest.length c) (some (.int .i64 (m : Int))) none none).run Tryz.prog W = .ok (.slice A' (rest.drop m).length (c - m)) W) ∧ (∀ w : World, ReadsInt w .u8 A rest.length rest → ReadsInt w .u8 A' (rest.drop m).length (rest.drop m)) ∧ (rest.drop m).length ≤ c - m := by
  obtain ⟨i, hi, hs⟩ := info8
  obtain ⟨h1, h2, -⟩ := print_take_of (P := Tryz.prog) (Value.int .u8) (0 : Int) 22 5 .i64 Tryz.underlying22 hi hs A c rest (m : Int) (by omega) (by omega) hc
  obtain ⟨A', g1, g2, g3⟩ := print_drop_of (P := Tryz.prog) (Value.int .u8) (0 : Int) 22 5 .i64 Tryz.underlying22 hi hs A c rest (m : Int) (by omega) (by omega) hc
  have e : (rest.take m).length = m := by rw [List.length_take]; omega
  rw [Int.toNat_natCast] at h1 h2 g1 g2 g3
  rw [e] at h1 h2
  exact ⟨h1, h2, A', g1, g2, g3⟩
/-- a clone's block gets its role -/
theorem clone_state {w wr w2 : World} {ρ0 : Nat → Nat} {SB xb n : Nat} {cs : List Value} {fv lv rv v : Value} {ks xs ys : List Value} {st : Cut} {e : TypeId} (hM : Mk w wr ρ0 SB cs fv lv rv ks st) (hX : RArr wr ρ0 6 xb xs) (ho : w2.ownsRow wr.heap.size e 1 v n ys) (hn : 0 < n) (hd : Below wr.heap.size wr w2) :
    ∃ g1 cap1 ρ1, v = .slice (some ⟨g1, 0, none⟩) n cap1 ∧ n ≤ cap1 ∧ Mk w w2 ρ1 SB cs fv lv rv ks st ∧ RArr w2 ρ1 6 xb xs ∧ Gy.Rows w2 ρ1 w.heap.size 5 e 1 v n ys := by
  have hs := hM.size
  obtain ⟨g1, cap1, rfl, hc, hb, hg⟩ := own_some1 ho hn
  have t : ∀ R, Turn wr w2 ρ0 (asRole ρ0 g1 5) R := fun R => ⟨hd.size, fun k hk _ => hd.block k hk, fun k hk => asRole_ne 5 (by omega)⟩
  refine ⟨g1, cap1, asRole ρ0 g1 5, rfl, hc, hM.turn (t 6) (by omega) (hM.bel.trans (hd.mono hM.bel.size)), hX.turn (t 7) (by omega), ⟨⟨ho.1, ?_⟩, fun k hk => ?_⟩⟩
  · rcases ho.2 with h | ⟨g, cap, cur, h1, h2, h3⟩
    · exact .inl h
    · exact .inr ⟨g, cap, cur, h1, Nat.le_trans hs h2, h3⟩
  · injection hk with hk
    rw [← hk]
    exact asRole_at _ _ _
set_option maxHeartbeats 4000000 in
set_option maxRecDepth 100000 in
theorem i_step {u2 u3 u5 u6 u7 u10 u13 u14 u15 u16 u17 u18 u19 u20 u21 u22 u26 u27 u28 u29 u30 u31 u32 u33 u34 u35 u36 u37 u38 u39 u40 u41 u42 u43 u44 u45 u46 u47 u48 u49 u50 u51 u52 u53 u54 u55 u56 u57 u58 u59 u60 u61 u62 u63 u64 u65 u66 u67 u68 u69 u70 u71 u72 u73 u74 u75 u76 u77 u78 u79 u80 u81 : Value} {w wr : World} {ρ0 : Nat → Nat} {SB xb n i : Nat} {fv lv rv0 L0 : Value} {ks0 xs : List Value} {st0 : Cut} {s : Nat} {rest : List Int} {A : Option Addr} {c : Nat} (Q : Exit → Act → World → Prop) (hs1 : 1 ≤ s) (hs2 : s ≤ 256) (hb : Bytes rest) (hr : 0 < rest.length) (hl : rest.length ≤ 100000) (hc : rest.length ≤ c) (hR : ReadsInt w .u8 A rest.length rest)
    (hM : Mk w wr ρ0 SB [.int .i64 (s : Int), fv, lv] fv lv rv0 ks0 st0) (hX : RArr wr ρ0 6 xb xs) (hf : st0.src.length ≤ 80000) (hf2 : st0.slices.length ≤ 80000)
    (hQ : ∀ a' w' ρ' lv' rv' ks' A' c', Fr 82 (frI w L0 s SB xb n i rv' (.slice A' (rest.drop s).length c')) a' → (rest.drop s).length ≤ c' → ReadsInt w .u8 A' (rest.drop s).length (rest.drop s) → Mk w w' ρ' SB [.int .i64 (s : Int), fv, lv'] fv lv' rv' ks' (st0.addC (rest.take s)) → RArr w' ρ' 6 xb xs → Q .normal a' w') :
    Code.wp Tryz.prog (bodyOf 1) Q ⟨#[L0, .int .i64 (s : Int), u2, u3, .pointer (some ⟨w.heap.size, 0, none⟩), u5, u6, u7, .pointer (some ⟨SB, 0, none⟩), rv0, u10, .pointer (some ⟨xb, 0, none⟩), .slice A rest.length c, u13, u14, u15, u16, u17, u18, u19, u20, u21, u22, L0, .int .i64 (n : Int), .int .i64 (i : Int), u26, u27, u28, u29, u30, u31, u32, u33, u34, u35, u36, u37, u38, u39, u40, u41, u42, u43, u44, u45, u46, u47, u48, u49, u50, u51, u52, u53, u54, u55, u56, u57, u58, u59, u60, u61, u62, u63, u64, u65, u66, u67, u68, u69, u70, u71, u72, u73, u74, u75, u76, u77, u78, u79, u80, u81], []⟩ wr := by
  conv => arg 2; whnf
  have HQ := Lib.hid hQ
  have t49 : decide ((0 : Int) < (rest.length : Int)) = true := decide_eq_true (by omega)
  have b49 : 0 < rest.length := hr
  obtain ⟨m, hm⟩ : ∃ m, m = min s rest.length := ⟨_, rfl⟩
  have hm1 : 1 ≤ m := by omega
  have hm2 : m ≤ rest.length := by omega
  obtain ⟨row, hrow⟩ : ∃ row, row = rest.take m := ⟨_, rfl⟩
  have hrs : rest.take s = row := by
    rw [hrow, hm]
    rcases Nat.le_total s rest.length with h | h
    · rw [Nat.min_eq_left h]
    · rw [Nat.min_eq_right h, List.take_of_length_le h, List.take_of_length_le (Nat.le_refl _)]
  have hds : rest.drop s = rest.drop m := by
    rw [hm]
    rcases Nat.le_total s rest.length with h | h
    · rw [Nat.min_eq_left h]
    · rw [Nat.min_eq_right h, List.drop_of_length_le h, List.drop_of_length_le (Nat.le_refl _)]
  have hrl : row.length = m := by rw [hrow, List.length_take]; omega
  obtain ⟨k1, k2, A2, d1, d2, d3⟩ := cut_at A c rest m hm2 hc
  have HRow := Lib.hid (k2 w hR)
  have HDr := Lib.hid (And.intro (d2 w hR) d3)
  have HX := Lib.hid (show Bytes row by rw [hrow]; exact hb.take m)
  rw [← hrow] at HRow
  have HL := Lib.hid (show row.length ≤ 1000000 by omega)
  have hmin : (if (rest.length : Int) < (s : Int) then (rest.length : Int) else (s : Int)) = (m : Int) := by split <;> omega
  have hmin3 : min (s : Int) (rest.length : Int) = (m : Int) := by omega
  have hmin2 : (if rest.length < s then (rest.length : Int) else (s : Int)) = (m : Int) := by split <;> omega
  have HRL := Lib.hid hrl
  rw [hrs, hds] at HQ
  have HM0 := Lib.hid hM
  have HX0 := Lib.hid hX
  have HF0 := Lib.hid hf
  have HF := Lib.hid (show st0.slices.length ≤ 90000 by omega)
  clear k2 d2 d3 hrow hrl hrs hds hQ hR hM hX hf hf2 hb hc hm hr
  have HE := Lib.hid (show 0 < row.length by have := HRL.out; omega)
  have HF1 := Lib.hid (show st0.src.length ≤ 90000 from Nat.le_trans HF0.out (by decide))
  obtain ⟨st, hst⟩ : ∃ st : Cut, st = ⟨st0.files, st0.slices, st0.src ++ [row]⟩ := ⟨_, rfl⟩
  have HST := Lib.hid hst
  clear hst
  go_wp2_with (first
    | (go_at_call 11; (with_reducible refine (clone_calls A m c row wr (Gy.reads_below HRow.out HM0.out.bel) (Nat.le_trans HL.out (by decide))).mono ?_); rintro e w2 ⟨v2, rfl, ho2, hd2⟩; obtain ⟨g1, cap1, ρ1, rfl, hc1, hM1, hX1, hK1⟩ := clone_state HM0.out HX0.out ho2 HE.out hd2; have HC := Lib.hid hc1; have HM1 := Lib.hid hM1; have HX1 := Lib.hid hX1; have HK1 := Lib.hid hK1; clear hc1 hM1 hX1 hK1 ho2 hd2)
    | (at_builtin; obtain ⟨rv, wv, hr3, ⟨ρ, hM3, hX3, hK3⟩, -⟩ := Mk.addSrc (HM1.out.below (Gy.alloc_below _ (.cells #[.slice (some ⟨g1, 0, none⟩) row.length cap1] 22))) (HX1.out.below (Gy.alloc_below _ _)) (HK1.out.below (Gy.alloc_below _ _)) rfl (Gy.alloc_at _ _) HF1.out 31; refine wpList_value rfl (exec_append (t := 31) rfl rfl rfl hr3) ?_; rw [← HST.out] at hM3; obtain ⟨ks, hks⟩ : ∃ ks, ks0 ++ [.slice (some ⟨g1, 0, none⟩) row.length cap1] = ks := ⟨_, rfl⟩; rw [hks] at hM3; have HM := Lib.hid hM3; have HXB := Lib.hid hX3; have HR := Lib.hid (Gy.own_reads hK3.own rfl (Nat.le_trans HL.out (by decide))); clear hr3 hM3 hX3 hK3 hks HM1 HX1 HK1))
  replace HF : Hid (st.slices.length ≤ 90000) := Lib.hid (by rw [HST.out]; exact HF.out)
  refine Gy.FlowV.flow (by kernel_rfl) (fun i_ => List.getD [(fun v _ => v = .pointer (some ⟨SB, 2, none⟩)), (fun v _ => v = lv), (fun v _ => v = .slice (some ⟨g1, 0, none⟩) row.length cap1), (fun v _ => v = .int .i64 (row.length : Int)), (fun v _ => v = .slice (some ⟨g1, 0, none⟩) row.length cap1), (fun v _ => v = .int .u32 ((Gy.crc row : Nat) : Int)), (fun v _ => v = .slice (some ⟨g1, 0, none⟩) row.length cap1), (fun v _ => v = .agg (nums .u8 (sha row)).toArray), (fun v _ => v = .agg (sliceL (row.length : Int) ((Gy.crc row : Nat) : Int) (sha row)).toArray), (fun v w => ∃ g, v = .slice (some ⟨g, 0, none⟩) 1 1 ∧ wv.heap.size ≤ g ∧ w.heap[g]? = some (.cells (sliceL (row.length : Int) ((Gy.crc row : Nat) : Int) (sha row)).toArray 46 (0, 0))), (fun _ _ => True), (fun v _ => v = .pointer (some ⟨SB, 2, none⟩)), (fun _ _ => True)] i_ (fun _ _ => True)) (Gy.FlowV.AppJ 10 12 (fun w5 => Below wv.heap.size wv w5) (fun v w5 => ∃ ρ', Mk w w5 ρ' SB [.int .i64 (s : Int), fv, lv] fv v rv ks ⟨st.files, st.slices ++ [sliceOf row], st.src⟩ ∧ RArr w5 ρ' 6 xb xs) (fun v w5 => ∃ ρ', Mk w w5 ρ' SB [.int .i64 (s : Int), fv, v] fv v rv ks ⟨st.files, st.slices ++ [sliceOf row], st.src⟩ ∧ RArr w5 ρ' 6 xb xs)) (fun w w' => w.heap.size ≤ w'.heap.size ∧ ∀ k, wv.heap.size ≤ k → k < w.heap.size → w'.heap[k]? = w.heap[k]?) (by kernel_rfl) (fun f => .start (Gy.drew_below _)) (Gy.FlowL.mono_list [(fun v _ => v = .pointer (some ⟨SB, 2, none⟩)), (fun v _ => v = lv), (fun v _ => v = .slice (some ⟨g1, 0, none⟩) row.length cap1), (fun v _ => v = .int .i64 (row.length : Int)), (fun v _ => v = .slice (some ⟨g1, 0, none⟩) row.length cap1), (fun v _ => v = .int .u32 ((Gy.crc row : Nat) : Int)), (fun v _ => v = .slice (some ⟨g1, 0, none⟩) row.length cap1), (fun v _ => v = .agg (nums .u8 (sha row)).toArray), (fun v _ => v = .agg (sliceL (row.length : Int) ((Gy.crc row : Nat) : Int) (sha row)).toArray), (fun v w => ∃ g, v = .slice (some ⟨g, 0, none⟩) 1 1 ∧ wv.heap.size ≤ g ∧ w.heap[g]? = some (.cells (sliceL (row.length : Int) ((Gy.crc row : Nat) : Int) (sha row)).toArray 46 (0, 0))), (fun _ _ => True), (fun v _ => v = .pointer (some ⟨SB, 2, none⟩)), (fun _ _ => True)] ?_) (Gy.FlowL.of_allFrom ⟨?_, ?_, ?_, ?_, ?_, ?_, ?_, ?_, ?_, ?_, ?_, ?_, ?_, trivial⟩) ?_
  · exact ⟨fun v w w' h hb => h, fun v w w' h hb => h, fun v w w' h hb => h, fun v w w' h hb => h, fun v w w' h hb => h, fun v w w' h hb => h, fun v w w' h hb => h, fun v w w' h hb => h, fun v w w' h hb => h, fun v w w' ⟨g, e, h1, h2⟩ hb => ⟨g, e, h1, (hb.2 g h1 (Array.getElem?_eq_some_iff.1 h2).1).trans h2⟩, fun v w w' h hb => h, fun v w w' h hb => h, fun v w w' h hb => h, trivial⟩
  · intro L a w5 hD
    have e8 : a.eval (.tmp 8) = .pointer (some ⟨SB, 0, none⟩) := hD.same.at_other 8 (by kernel_rfl)
    have f8 := e8; simp only [Act.eval, Array.getD_eq_getD_getElem?] at f8
    refine Gy.FlowV.step_value rfl (Gy.FlowL.wanted_none rfl) (v := .pointer (some ⟨SB, 2, none⟩)) (w1 := w5) ?_ rfl (hD.J.keep 0 _ (by decide) (by decide)) ⟨Nat.le_refl _, fun _ _ _ => rfl⟩
    first | (simp only [execOp]; go_simp; done) | (simp only [execOp, e8]; go_simp)
  · intro L a w5 hD
    have e67 : a.eval (.tmp 67) = .pointer (some ⟨SB, 2, none⟩) := hD.at 0 (by kernel_rfl)
    have n10 := hD.later 10 (by kernel_rfl)
    have hB := hD.J.early n10
    have hcell : w5.cell? ⟨SB, 2, none⟩ = some lv := (HM.out.below hB).s.arr.cell rfl
    have f67 := e67; simp only [Act.eval, Array.getD_eq_getD_getElem?] at f67
    refine Gy.FlowV.step_value rfl (Gy.FlowL.wanted_none rfl) (v := lv) (w1 := w5) ?_ rfl (hD.J.keep 1 _ (by decide) (by decide)) ⟨Nat.le_refl _, fun _ _ _ => rfl⟩
    first | (simp only [execOp]; go_simp; done) | (simp only [execOp, e67]; go_simp)
  · intro L a w5 hD
    have e13 : a.eval (.tmp 13) = .slice (some ⟨g1, 0, none⟩) row.length cap1 := hD.same.at_other 13 (by kernel_rfl)
    exact Gy.FlowV.step_move rfl rfl (Gy.FlowL.wanted_none rfl) e13 (hD.J.keep 2 _ (by decide) (by decide)) ⟨Nat.le_refl _, fun _ _ _ => rfl⟩
  · intro L a w5 hD
    have e69 : a.eval (.tmp 69) = .slice (some ⟨g1, 0, none⟩) row.length cap1 := hD.at 2 (by kernel_rfl)
    have f69 := e69; simp only [Act.eval, Array.getD_eq_getD_getElem?] at f69
    refine Gy.FlowV.step_value rfl (Gy.FlowL.wanted_none rfl) (v := .int .i64 (row.length : Int)) (w1 := w5) ?_ rfl (hD.J.keep 3 _ (by decide) (by decide)) ⟨Nat.le_refl _, fun _ _ _ => rfl⟩
    first | (simp only [execOp]; go_simp; done) | (simp only [execOp, e69]; go_simp)
  · intro L a w5 hD
    have e13 : a.eval (.tmp 13) = .slice (some ⟨g1, 0, none⟩) row.length cap1 := hD.same.at_other 13 (by kernel_rfl)
    exact Gy.FlowV.step_move rfl rfl (Gy.FlowL.wanted_none rfl) e13 (hD.J.keep 4 _ (by decide) (by decide)) ⟨Nat.le_refl _, fun _ _ _ => rfl⟩
  · intro L a w5 hD
    have e71 : a.eval (.tmp 71) = .slice (some ⟨g1, 0, none⟩) row.length cap1 := hD.at 4 (by kernel_rfl)
    have n8 := hD.later 8 (by kernel_rfl)
    have n9 := hD.not_yet n8 9 (by kernel_rfl)
    have n10 := hD.not_yet n9 10 (by kernel_rfl)
    have hs0 := hD.not_yet n10 12 (by kernel_rfl)
    have hB := hD.J.early n10
    refine Gy.FlowV.step_call rfl (args := #[.slice (some ⟨g1, 0, none⟩) row.length cap1]) (Gy.FlowL.wanted_none rfl) Tryz.func12 (by kernel_rfl) (by kernel_rfl) rfl (by simp only [List.map_toArray, List.map_cons, List.map_nil, e71]) ?_
    exact (Go.Proofs.YtoakjdgknbhgiaaGreatDoor.Pure.crc_calls _ cap1 row w5 (Gy.reads_below HR.out hB) HC.out HX.out HL.out).mono fun e w6 h => ⟨_, h.1, rfl, (Gy.FlowV.AppJ.go n10 hs0 (hB.trans (h.2.mono hB.size)) 5 _ (by decide) (by decide)), h.2.size, fun k _ hk => h.2.block k hk⟩
  · intro L a w5 hD
    have e13 : a.eval (.tmp 13) = .slice (some ⟨g1, 0, none⟩) row.length cap1 := hD.same.at_other 13 (by kernel_rfl)
    exact Gy.FlowV.step_move rfl rfl (Gy.FlowL.wanted_none rfl) e13 (hD.J.keep 6 _ (by decide) (by decide)) ⟨Nat.le_refl _, fun _ _ _ => rfl⟩
  · intro L a w5 hD
    have e73 : a.eval (.tmp 73) = .slice (some ⟨g1, 0, none⟩) row.length cap1 := hD.at 6 (by kernel_rfl)
    have n8 := hD.later 8 (by kernel_rfl)
    have n9 := hD.not_yet n8 9 (by kernel_rfl)
    have n10 := hD.not_yet n9 10 (by kernel_rfl)
    have hs0 := hD.not_yet n10 12 (by kernel_rfl)
    have hB := hD.J.early n10
    refine Gy.FlowV.step_call rfl (args := #[.slice (some ⟨g1, 0, none⟩) row.length cap1]) (Gy.FlowL.wanted_none rfl) Tryz.func10 (by kernel_rfl) (by kernel_rfl) rfl (by simp only [List.map_toArray, List.map_cons, List.map_nil, e73]) ?_
    exact (Go.Proofs.YtoakjdgknbhgiaaGreatDoor.Dig.digest_calls _ _ cap1 row w5 (Gy.reads_below HR.out hB) HX.out HL.out).mono fun e w6 h => ⟨_, h.1, rfl, (Gy.FlowV.AppJ.go n10 hs0 (hB.trans (h.2.mono hB.size)) 7 _ (by decide) (by decide)), h.2.size, fun k _ hk => h.2.block k hk⟩
  · intro L a w5 hD
    have e70 : a.eval (.tmp 70) = .int .i64 (row.length : Int) := hD.at 3 (by kernel_rfl)
    have e72 : a.eval (.tmp 72) = .int .u32 ((Gy.crc row : Nat) : Int) := hD.at 5 (by kernel_rfl)
    have e74 : a.eval (.tmp 74) = .agg (nums .u8 (sha row)).toArray := hD.at 7 (by kernel_rfl)
    refine Gy.FlowV.step_value rfl (Gy.FlowL.wanted_none rfl) (v := .agg (sliceL (row.length : Int) ((Gy.crc row : Nat) : Int) (sha row)).toArray) (w1 := w5) ?_ rfl (hD.J.keep 8 _ (by decide) (by decide)) ⟨Nat.le_refl _, fun _ _ _ => rfl⟩
    have hb := build_slice (row.length : Int) ((Gy.crc row : Nat) : Int) (sha row) (Gy.sha_length _) w5
    simp only [execOp, List.map_toArray, List.map_cons, List.map_nil, e70, e72, e74, Sem.run_bind, hb, Result.andThen_ok]
    rfl
  · intro L a w5 hD
    have e75 : a.eval (.tmp 75) = .agg (sliceL (row.length : Int) ((Gy.crc row : Nat) : Int) (sha row)).toArray := hD.at 8 (by kernel_rfl)
    have n10 := hD.later 10 (by kernel_rfl)
    have hs0 := hD.not_yet n10 12 (by kernel_rfl)
    have hB := hD.J.early n10
    have hb := lay_slice (row.length : Int) ((Gy.crc row : Nat) : Int) (sha row) (Gy.sha_length _) w5
    refine Gy.FlowV.step_value rfl (Gy.FlowL.wanted_none rfl) (v := .slice (some ⟨w5.heap.size, 0, none⟩) 1 1) (w1 := w5.alloc (.cells (sliceL (row.length : Int) ((Gy.crc row : Nat) : Int) (sha row)).toArray 46)) ?_ ⟨_, rfl, hB.size, Gy.alloc_at _ _⟩ (Gy.FlowV.AppJ.go n10 hs0 (hB.alloc hB.size _) 9 _ (by decide) (by decide)) ⟨(Gy.alloc_below _ _).size, fun k _ hk => (Gy.alloc_below _ _).block k hk⟩
    simp only [execOp, List.map_toArray, List.map_cons, List.map_nil, e75, Sem.run_bind, hb, Result.andThen_ok]
    rfl
  · intro L a w5 hD
    have e68 : a.eval (.tmp 68) = lv := hD.at 1 (by kernel_rfl)
    have q76 : (fun v w => ∃ g, v = .slice (some ⟨g, 0, none⟩) 1 1 ∧ wv.heap.size ≤ g ∧ w.heap[g]? = some (.cells (sliceL (row.length : Int) ((Gy.crc row : Nat) : Int) (sha row)).toArray 46 (0, 0))) (a.eval (.tmp 76)) w5 := hD.at 9 (by kernel_rfl)
    obtain ⟨g76, e76, h76, c76⟩ := q76
    have hB := hD.J.early hD.not
    obtain ⟨v6, w6, hr, hM6, hgr⟩ := (HM.out.below hB).addSlice (HXB.out.below hB) (sliceOf row) (Gy.sha_length _) c76 HF.out 28
    refine Gy.FlowV.step_value rfl (Gy.FlowL.wanted_none rfl) (v := v6) (w1 := w6) (exec_append rfl e68 e76 hr) trivial (Gy.FlowV.AppJ.app (by decide) (hD.later 12 (by kernel_rfl)) hM6) ⟨hgr.size, fun k h1 h2 => hgr.block k h2 fun hk => ?_⟩
    have := (HM.out.l.own.lt k hk.symm).2
    omega
  · intro L a w5 hD
    have e8 : a.eval (.tmp 8) = .pointer (some ⟨SB, 0, none⟩) := hD.same.at_other 8 (by kernel_rfl)
    have f8 := e8; simp only [Act.eval, Array.getD_eq_getD_getElem?] at f8
    refine Gy.FlowV.step_value rfl (Gy.FlowL.wanted_none rfl) (v := .pointer (some ⟨SB, 2, none⟩)) (w1 := w5) ?_ rfl (hD.J.keep 11 _ (by decide) (by decide)) ⟨Nat.le_refl _, fun _ _ _ => rfl⟩
    first | (simp only [execOp]; go_simp; done) | (simp only [execOp, e8]; go_simp)
  · intro L a w5 hD
    have e78 : a.eval (.tmp 78) = .pointer (some ⟨SB, 2, none⟩) := hD.at 11 (by kernel_rfl)
    have hL := hD.waits 10 (by kernel_rfl)
    obtain ⟨ρ6, hM6, hX6⟩ := hD.J.2.1 hL hD.not
    obtain ⟨g7, cap7, e7, -, -⟩ := hM6.l.own.form (by simp)
    have e77 : a.eval (.tmp 77) = .slice (some ⟨g7, 0, none⟩) (st.slices ++ [sliceOf row]).length cap7 := e7
    have c77 : w5.cell? ⟨SB, 2, none⟩ = some lv := hM6.s.arr.cell rfl
    have z77 := hM6.s.arr.fr 2
    have f77 := e77; simp only [Act.eval, Array.getD_eq_getD_getElem?] at f77
    have f78 := e78; simp only [Act.eval, Array.getD_eq_getD_getElem?] at f78
    have hE := Gy.FlowV.AppJ.store (ia := 10) (is := 12) (B := fun w5 => Below wv.heap.size wv w5) (M := fun v w5 => ∃ ρ', Mk w w5 ρ' SB [.int .i64 (s : Int), fv, lv] fv v rv ks ⟨st.files, st.slices ++ [sliceOf row], st.src⟩ ∧ RArr w5 ρ' 6 xb xs) (E := fun v w5 => ∃ ρ', Mk w w5 ρ' SB [.int .i64 (s : Int), fv, v] fv v rv ks ⟨st.files, st.slices ++ [sliceOf row], st.src⟩ ∧ RArr w5 ρ' 6 xb xs) (v := undef) (L := L) (f := Gy.FlowL.At _ a) (by decide) hL ⟨ρ6, hM6.put (i := 2) (by simp) _, hX6.turn (.set 2 _ hM6.s.role) (by omega)⟩
    refine Gy.FlowV.step_skip (w1 := w5.setCell ⟨SB, 2, none⟩ (.slice (some ⟨g7, 0, none⟩) (st.slices ++ [sliceOf row]).length cap7)) rfl (Gy.FlowL.wanted_none rfl) ?_ trivial (by rw [e7] at hE; exact hE) ⟨by rw [Gy.set_size]; exact Nat.le_refl _, fun k h1 _ => Below.heap_setCell w5 _ _ k (fun hk => ?_)⟩
    · first | (simp only [execOp]; go_simp; done) | (simp only [execOp, e78, e77]; go_simp)
    · have h3 : k = SB := hk
      have := HM.out.s.arr.lt
      omega
  · intro L a w5 hs hJ hL hv
    obtain ⟨ρ7, hM7, hX7⟩ := hJ.2.2 (hL 12 (by decide))
    have hp := Gy.FlowL.same_puts (by kernel_rfl) hs
    generalize Gy.FlowL.At _ a = vs at hp hM7
    clear hv hs hJ hL
    subst hp
    simp only [Gy.FlowL.puts, Act.put, List.setIfInBounds_toArray, List.set_cons_zero, List.set_cons_succ]
    have HM7 := Lib.hid (show Mk w w5 ρ7 SB [.int .i64 (s : Int), fv, vs 10] fv (vs 10) rv ks (st0.addC row) by rw [HST.out] at hM7; exact hM7)
    have HX7 := Lib.hid hX7
    clear hM7 hX7
    go_wp2
    exact HQ.out _ _ ρ7 _ rv ks A2 (c - m) ⟨rfl, rfl, rfl, rfl, rfl, rfl, rfl, rfl, by rw [List.length_drop]; rfl, rfl, rfl, rfl, trivial⟩ HDr.out.2 HDr.out.1 HM7.out HX7.out
set_option maxHeartbeats 2000000 in
set_option maxRecDepth 100000 in
theorem i_last {u2 u3 u5 u6 u7 u10 u13 u14 u15 u16 u17 u18 u19 u20 u21 u22 u26 u27 u28 u29 u30 u31 u32 u33 u34 u35 u36 u37 u38 u39 u40 u41 u42 u43 u44 u45 u46 u47 u48 u49 u50 u51 u52 u53 u54 u55 u56 u57 u58 u59 u60 u61 u62 u63 u64 u65 u66 u67 u68 u69 u70 u71 u72 u73 u74 u75 u76 u77 u78 u79 u80 u81 : Value} {w wr : World} {SB xb n i : Nat} {rv L0 : Value} {s : Nat} {A : Option Addr} {c : Nat} (Q : Exit → Act → World → Prop)
    (hQ : ∀ a', Fr 82 (frI w L0 s SB xb n i rv (.slice A 0 c)) a' → Q (.exit 2) a' wr) :
    Code.wp Tryz.prog (bodyOf 1) Q ⟨#[L0, .int .i64 (s : Int), u2, u3, .pointer (some ⟨w.heap.size, 0, none⟩), u5, u6, u7, .pointer (some ⟨SB, 0, none⟩), rv, u10, .pointer (some ⟨xb, 0, none⟩), .slice A 0 c, u13, u14, u15, u16, u17, u18, u19, u20, u21, u22, L0, .int .i64 (n : Int), .int .i64 (i : Int), u26, u27, u28, u29, u30, u31, u32, u33, u34, u35, u36, u37, u38, u39, u40, u41, u42, u43, u44, u45, u46, u47, u48, u49, u50, u51, u52, u53, u54, u55, u56, u57, u58, u59, u60, u61, u62, u63, u64, u65, u66, u67, u68, u69, u70, u71, u72, u73, u74, u75, u76, u77, u78, u79, u80, u81], []⟩ wr := by
  conv => arg 2; whnf
  have HQ := Lib.hid hQ
  clear hQ
  go_wp2
  exact HQ.out _ ⟨rfl, rfl, rfl, rfl, rfl, rfl, rfl, rfl, rfl, rfl, rfl, rfl, trivial⟩
def lenOf : Value → Nat
  | .slice _ n _ => n
  | _ => 0
set_option maxHeartbeats 1000000 in
set_option maxRecDepth 100000 in
/-- all slices of a file -/
theorem i_loop {w wr : World} {ρ : Nat → Nat} {SB xb n i : Nat} {fv lv rv L0 : Value} {ks xs : List Value} {st : Cut} {s : Nat} {b : List Int} {A : Option Addr} {c : Nat} {a : Act} (Q : Exit → Act → World → Prop) (hs1 : 1 ≤ s) (hs2 : s ≤ 256) (hb : Bytes b) (hl : b.length ≤ 30000) (hc : b.length ≤ c) (hR : ReadsInt w .u8 A b.length b)
    (hF : Fr 82 (frI w L0 s SB xb n i rv (.slice A b.length c)) a) (hM : Mk w wr ρ SB [.int .i64 (s : Int), fv, lv] fv lv rv ks st) (hX : RArr wr ρ 6 xb xs) (hf : st.src.length ≤ 40000) (hf2 : st.slices.length ≤ 40000)
    (hQ : ∀ a' w' ρ' lv' rv' ks' A' c', Fr 82 (frI w L0 s SB xb n i rv' (.slice A' 0 c')) a' → Mk w w' ρ' SB [.int .i64 (s : Int), fv, lv'] fv lv' rv' ks' (st.addCs (chunks s b)) → RArr w' ρ' 6 xb xs → Q (.exit 2) a' w') :
    Code.wp Tryz.prog (Code.loop (bodyOf 1)) Q a wr := by
  refine wp_loop (fun a w' => ∃ ρ' lv' rv' ks' A' c' st' rest, Fr 82 (frI w L0 s SB xb n i rv' (.slice A' rest.length c')) a ∧ rest.length ≤ b.length ∧ Bytes rest ∧ rest.length ≤ c' ∧ ReadsInt w .u8 A' rest.length rest ∧ Mk w w' ρ' SB [.int .i64 (s : Int), fv, lv'] fv lv' rv' ks' st' ∧ RArr w' ρ' 6 xb xs ∧ st'.src.length + rest.length ≤ 70000 ∧ st'.slices.length + rest.length ≤ 70000 ∧ st'.addCs (chunks s rest) = st.addCs (chunks s b)) (fun a _ => lenOf (a.tmps.getD 12 undef))
    ⟨ρ, lv, rv, ks, A, c, st, b, hF, Nat.le_refl _, hb, hc, hR, hM, hX, by omega, by omega, rfl⟩ ?_
  rintro a w' ⟨ρ', lv', rv', ks', A', c', st', rest, hF', h1, h2, h3, h4, h5, h6, h7, h8, h9⟩
  have h12 := hF'.at 12 _ rfl
  obtain ⟨u, e⟩ := hF'.out
  rw [e]
  by_cases h0 : rest.length = 0
  · obtain rfl : rest = [] := List.eq_nil_of_length_eq_zero h0
    refine i_last _ fun a2 hF2 => ?_
    rw [chunks_nil] at h9
    exact hQ a2 w' ρ' lv' rv' ks' A' c' hF2 (by rw [← h9]; exact h5) h6
  · have hpos : 0 < rest.length := by omega
    refine i_step _ hs1 hs2 h2 hpos (by omega) h3 h4 h5 h6 (by omega) (by omega) ?_
    intro a2 w2 ρ2 lv2 rv2 ks2 A2 c2 g1 g2 g3 g4 g5
    refine ⟨⟨ρ2, lv2, rv2, ks2, A2, c2, _, rest.drop s, g1, by rw [List.length_drop]; omega, h2.drop s, g2, g3, g4, g5, ?_, ?_, ?_⟩, ?_⟩
    · simp only [Cut.addC, List.length_append, List.length_singleton, List.length_drop]; omega
    · simp only [Cut.addC, List.length_append, List.length_singleton, List.length_drop]; omega
    · rw [← h9, Cut.addCs_step hs1 st' hpos]
    · rw [g1.at 12 _ rfl, ← e, h12]
      show (rest.drop s).length < rest.length
      rw [List.length_drop]; omega
end Go.Proofs.YtoakjdgknbhgiaaGreatDoor.Cuts
/- Package cut, the walk in pieces: the outer loop of Make: one file after the other. -/
namespace Go.Proofs.YtoakjdgknbhgiaaGreatDoor.Cuts
open Go Go.RowKit Go.Proofs.YtoakjdgknbhgiaaGreatDoorW.PrintWords Go.Proofs.YtoakjdgknbhgiaaGreatDoorW.PrintLast Go.Proofs.YtoakjdgknbhgiaaGreatDoorW.PrintMore Gy

theorem _root_.Gy.own_slice {w : World} {base : Nat} {e : TypeId} {size n : Nat} {v : Value} {xs : List Value} (h : w.ownsRow base e size v n xs) : ∃ A c, v = .slice A n c := by
  rcases h.2 with ⟨rfl, rfl⟩ | ⟨g, cap, _, rfl, _⟩
  · exact ⟨_, _, rfl⟩
  · exact ⟨_, _, rfl⟩
theorem cell_kept {w w' : World} {b o : Nat} {v : Value} (hb : Below w.heap.size w w') (h : w.cell? ⟨b, o, none⟩ = some v) : w'.cell? ⟨b, o, none⟩ = some v := by
  rw [World.cell?_of_block (a := ⟨b, o, none⟩) (hb.block b (Gy.cell_lt h))]
  exact h
/-- files in memory -/
structure InAt (w : World) (LB lo : Nat) (l : List Inp) : Prop where
  name : ∀ (i : Nat) (x : Inp), l[i]? = some x → w.cell? ⟨LB, lo + i * 2, none⟩ = some (.string x.name)
  b : ∀ (i : Nat) (x : Inp), l[i]? = some x → ∃ A c, w.cell? ⟨LB, lo + i * 2 + 1, none⟩ = some (.slice A x.b.length c) ∧ x.b.length ≤ c ∧ ReadsInt w .u8 A x.b.length x.b ∧ Bytes x.b
abbrev frO (w : World) (L0 : Value) (s SB n i : Nat) (rv : Value) : List (Nat × Value) :=
  [(0, L0), (1, .int .i64 (s : Int)), (4, .pointer (some ⟨w.heap.size, 0, none⟩)), (8, .pointer (some ⟨SB, 0, none⟩)), (9, rv), (23, L0), (24, .int .i64 (n : Int)), (25, .int .i64 (i : Int))]
set_option maxHeartbeats 4000000 in
set_option maxRecDepth 100000 in
theorem o_step {u2 u3 u5 u6 u7 u10 u11 u12 u13 u14 u15 u16 u17 u18 u19 u20 u21 u22 u26 u27 u28 u29 u30 u31 u32 u33 u34 u35 u36 u37 u38 u39 u40 u41 u42 u43 u44 u45 u46 u47 u48 u49 u50 u51 u52 u53 u54 u55 u56 u57 u58 u59 u60 u61 u62 u63 u64 u65 u66 u67 u68 u69 u70 u71 u72 u73 u74 u75 u76 u77 u78 u79 u80 u81 : Value} {w wr : World} {ρ0 : Nat → Nat} {SB LB lo cl n i : Nat} {fv0 lv rv : Value} {ks : List Value} {st0 : Cut} {s : Nat} {x : Inp} {A : Option Addr} {c : Nat} (Q : Exit → Act → World → Prop) (hs1 : 1 ≤ s) (hs2 : s ≤ 256) (hi : i < n) (hn : n ≤ 100)
    (h0 : w.cell? ⟨LB, lo + i * 2, none⟩ = some (.string x.name)) (h1 : w.cell? ⟨LB, lo + i * 2 + 1, none⟩ = some (.slice A x.b.length c)) (hb : Bytes x.b) (hl : x.b.length ≤ 30000) (hc : x.b.length ≤ c) (hR : ReadsInt w .u8 A x.b.length x.b)
    (hM : Mk w wr ρ0 SB [.int .i64 (s : Int), fv0, lv] fv0 lv rv ks st0) (hf : st0.src.length ≤ 40000) (hf2 : st0.slices.length ≤ 40000) (hf3 : st0.files.length ≤ 100)
    (hQ : ∀ a' w' ρ' fv' lv' rv' ks', Fr 82 (frO w (.slice (some ⟨LB, lo, none⟩) n cl) s SB n (i + 1) rv') a' → Mk w w' ρ' SB [.int .i64 (s : Int), fv', lv'] fv' lv' rv' ks' ((st0.addF x).addCs (chunks s x.b)) → Q .normal a' w') :
    Code.wp Tryz.prog (bodyOf 0) Q ⟨#[.slice (some ⟨LB, lo, none⟩) n cl, .int .i64 (s : Int), u2, u3, .pointer (some ⟨w.heap.size, 0, none⟩), u5, u6, u7, .pointer (some ⟨SB, 0, none⟩), rv, u10, u11, u12, u13, u14, u15, u16, u17, u18, u19, u20, u21, u22, .slice (some ⟨LB, lo, none⟩) n cl, .int .i64 (n : Int), .int .i64 (i : Int), u26, u27, u28, u29, u30, u31, u32, u33, u34, u35, u36, u37, u38, u39, u40, u41, u42, u43, u44, u45, u46, u47, u48, u49, u50, u51, u52, u53, u54, u55, u56, u57, u58, u59, u60, u61, u62, u63, u64, u65, u66, u67, u68, u69, u70, u71, u72, u73, u74, u75, u76, u77, u78, u79, u80, u81], []⟩ wr := by
  conv => arg 2; whnf
  have HQ := Lib.hid hQ
  have t26 : decide ((i : Int) < (n : Int)) = true := decide_eq_true (by omega)
  have b26 : i < n := hi
  have HM0 := Lib.hid hM
  have z0 := cell_kept hM.bel h0
  have z1 := cell_kept hM.bel h1
  clear hQ hM h0 h1
  have HR := Lib.hid hR
  have HX := Lib.hid hb
  have HL := Lib.hid (show x.b.length ≤ 1000000 by omega)
  have HL3 := Lib.hid hl
  have HC := Lib.hid hc
  have HF := Lib.hid (show st0.files.length ≤ 1000 by omega)
  have HF1 := Lib.hid hf
  have HF2 := Lib.hid hf2
  obtain ⟨Ar, cr, hrv⟩ := Gy.own_slice HM0.out.r.own
  subst hrv
  clear hR hb hl hc hf hf2 hf3
  go_wp2
  obtain ⟨xb, hxb⟩ : ∃ xb, xb = wr.heap.size := ⟨_, rfl⟩
  have HM := Lib.hid (HM0.out.turn (Turn.alloc wr (.cells #[.string x.name, .slice A x.b.length c] 36) ρ0 6 6) (by omega) (HM0.out.bel.alloc HM0.out.bel.size _))
  have HXB : Hid (RArr (wr.alloc (.cells #[.string x.name, .slice A x.b.length c] 36)) (asRole ρ0 wr.heap.size 6) 6 xb [.string x.name, .slice A x.b.length c]) := Lib.hid (by rw [hxb]; exact ⟨Gy.Arr.fresh wr _ _ rfl _, asRole_at _ _ _⟩)
  rw [← hxb]
  generalize wr.alloc (.cells #[.string x.name, .slice A x.b.length c] 36) = wv at HM HXB ⊢
  generalize asRole ρ0 wr.heap.size 6 = ρ at HM HXB
  clear hxb z0 z1 HM0
  refine Gy.FlowV.flow (by kernel_rfl) (fun i_ => List.getD [(fun v _ => v = .pointer (some ⟨SB, 1, none⟩)), (fun v _ => v = fv0), (fun v _ => v = .pointer (some ⟨xb, 0, none⟩)), (fun v _ => v = .string x.name), (fun v _ => v = .pointer (some ⟨xb, 1, none⟩)), (fun v _ => v = .slice A x.b.length c), (fun v _ => v = .int .i64 (x.b.length : Int)), (fun v _ => v = .pointer (some ⟨xb, 1, none⟩)), (fun v _ => v = .slice A x.b.length c), (fun v _ => v = .agg (nums .u8 (sha x.b)).toArray), (fun v _ => v = .slice Ar st0.src.length cr), (fun v _ => v = .int .i64 (st0.src.length : Int)), (fun v _ => v = .agg (fileL x.name (x.b.length : Int) (sha x.b) (st0.src.length : Int)).toArray), (fun v w => ∃ g, v = .slice (some ⟨g, 0, none⟩) 1 1 ∧ wv.heap.size ≤ g ∧ w.heap[g]? = some (.cells (fileL x.name (x.b.length : Int) (sha x.b) (st0.src.length : Int)).toArray 25 (0, 0))), (fun _ _ => True), (fun v _ => v = .pointer (some ⟨SB, 1, none⟩)), (fun _ _ => True)] i_ (fun _ _ => True)) (Gy.FlowV.AppJ 14 16 (fun w5 => Below wv.heap.size wv w5) (fun v w5 => ∃ ρ', Mk w w5 ρ' SB [.int .i64 (s : Int), fv0, lv] v lv (.slice Ar st0.src.length cr) ks ⟨st0.files ++ [⟨x.name, (x.b.length : Int), sha x.b, (st0.src.length : Int)⟩], st0.slices, st0.src⟩ ∧ RArr w5 ρ' 6 xb [.string x.name, .slice A x.b.length c]) (fun v w5 => ∃ ρ', Mk w w5 ρ' SB [.int .i64 (s : Int), v, lv] v lv (.slice Ar st0.src.length cr) ks ⟨st0.files ++ [⟨x.name, (x.b.length : Int), sha x.b, (st0.src.length : Int)⟩], st0.slices, st0.src⟩ ∧ RArr w5 ρ' 6 xb [.string x.name, .slice A x.b.length c])) (fun w w' => w.heap.size ≤ w'.heap.size ∧ ∀ k, wv.heap.size ≤ k → k < w.heap.size → w'.heap[k]? = w.heap[k]?) (by kernel_rfl) (fun f => .start (Gy.drew_below _)) (Gy.FlowL.mono_list [(fun v _ => v = .pointer (some ⟨SB, 1, none⟩)), (fun v _ => v = fv0), (fun v _ => v = .pointer (some ⟨xb, 0, none⟩)), (fun v _ => v = .string x.name), (fun v _ => v = .pointer (some ⟨xb, 1, none⟩)), (fun v _ => v = .slice A x.b.length c), (fun v _ => v = .int .i64 (x.b.length : Int)), (fun v _ => v = .pointer (some ⟨xb, 1, none⟩)), (fun v _ => v = .slice A x.b.length c), (fun v _ => v = .agg (nums .u8 (sha x.b)).toArray), (fun v _ => v = .slice Ar st0.src.length cr), (fun v _ => v = .int .i64 (st0.src.length : Int)), (fun v _ => v = .agg (fileL x.name (x.b.length : Int) (sha x.b) (st0.src.length : Int)).toArray), (fun v w => ∃ g, v = .slice (some ⟨g, 0, none⟩) 1 1 ∧ wv.heap.size ≤ g ∧ w.heap[g]? = some (.cells (fileL x.name (x.b.length : Int) (sha x.b) (st0.src.length : Int)).toArray 25 (0, 0))), (fun _ _ => True), (fun v _ => v = .pointer (some ⟨SB, 1, none⟩)), (fun _ _ => True)] ?_) (Gy.FlowL.of_allFrom ⟨?_, ?_, ?_, ?_, ?_, ?_, ?_, ?_, ?_, ?_, ?_, ?_, ?_, ?_, ?_, ?_, ?_, trivial⟩) ?_
  · exact ⟨fun v w w' h hb => h, fun v w w' h hb => h, fun v w w' h hb => h, fun v w w' h hb => h, fun v w w' h hb => h, fun v w w' h hb => h, fun v w w' h hb => h, fun v w w' h hb => h, fun v w w' h hb => h, fun v w w' h hb => h, fun v w w' h hb => h, fun v w w' h hb => h, fun v w w' h hb => h, fun v w w' ⟨g, e, h1, h2⟩ hb => ⟨g, e, h1, (hb.2 g h1 (Array.getElem?_eq_some_iff.1 h2).1).trans h2⟩, fun v w w' h hb => h, fun v w w' h hb => h, fun v w w' h hb => h, trivial⟩
  · intro L a w5 hD
    have e8 : a.eval (.tmp 8) = .pointer (some ⟨SB, 0, none⟩) := hD.same.at_other 8 (by kernel_rfl)
    have f8 := e8; simp only [Act.eval, Array.getD_eq_getD_getElem?] at f8
    refine Gy.FlowV.step_value rfl (Gy.FlowL.wanted_none rfl) (v := .pointer (some ⟨SB, 1, none⟩)) (w1 := w5) ?_ rfl (hD.J.keep 0 _ (by decide) (by decide)) ⟨Nat.le_refl _, fun _ _ _ => rfl⟩
    first | (simp only [execOp]; go_simp; done) | (simp only [execOp, e8]; go_simp)
  · intro L a w5 hD
    have e29 : a.eval (.tmp 29) = .pointer (some ⟨SB, 1, none⟩) := hD.at 0 (by kernel_rfl)
    have n14 := hD.later 14 (by kernel_rfl)
    have hs0 := hD.not_yet n14 16 (by kernel_rfl)
    have hB := hD.J.early n14
    have hcell : w5.cell? ⟨SB, 1, none⟩ = some fv0 := (HM.out.below hB).s.arr.cell rfl
    have f29 := e29; simp only [Act.eval, Array.getD_eq_getD_getElem?] at f29
    refine Gy.FlowV.step_value rfl (Gy.FlowL.wanted_none rfl) (v := fv0) (w1 := w5) ?_ rfl (hD.J.keep 1 _ (by decide) (by decide)) ⟨Nat.le_refl _, fun _ _ _ => rfl⟩
    first | (simp only [execOp]; go_simp; done) | (simp only [execOp, e29]; go_simp)
  · intro L a w5 hD
    have e11 : a.eval (.tmp 11) = .pointer (some ⟨xb, 0, none⟩) := hD.same.at_other 11 (by kernel_rfl)
    have f11 := e11; simp only [Act.eval, Array.getD_eq_getD_getElem?] at f11
    refine Gy.FlowV.step_value rfl (Gy.FlowL.wanted_none rfl) (v := .pointer (some ⟨xb, 0, none⟩)) (w1 := w5) ?_ rfl (hD.J.keep 2 _ (by decide) (by decide)) ⟨Nat.le_refl _, fun _ _ _ => rfl⟩
    first | (simp only [execOp]; go_simp; done) | (simp only [execOp, e11]; go_simp)
  · intro L a w5 hD
    have e31 : a.eval (.tmp 31) = .pointer (some ⟨xb, 0, none⟩) := hD.at 2 (by kernel_rfl)
    have n12 := hD.later 12 (by kernel_rfl)
    have n13 := hD.not_yet n12 13 (by kernel_rfl)
    have n14 := hD.not_yet n13 14 (by kernel_rfl)
    have hs0 := hD.not_yet n14 16 (by kernel_rfl)
    have hB := hD.J.early n14
    have hcell : w5.cell? ⟨xb, 0, none⟩ = some (.string x.name) := (HXB.out.below hB).arr.cell rfl
    have f31 := e31; simp only [Act.eval, Array.getD_eq_getD_getElem?] at f31
    refine Gy.FlowV.step_value rfl (Gy.FlowL.wanted_none rfl) (v := .string x.name) (w1 := w5) ?_ rfl (hD.J.keep 3 _ (by decide) (by decide)) ⟨Nat.le_refl _, fun _ _ _ => rfl⟩
    first | (simp only [execOp]; go_simp; done) | (simp only [execOp, e31]; go_simp)
  · intro L a w5 hD
    have e11 : a.eval (.tmp 11) = .pointer (some ⟨xb, 0, none⟩) := hD.same.at_other 11 (by kernel_rfl)
    have f11 := e11; simp only [Act.eval, Array.getD_eq_getD_getElem?] at f11
    refine Gy.FlowV.step_value rfl (Gy.FlowL.wanted_none rfl) (v := .pointer (some ⟨xb, 1, none⟩)) (w1 := w5) ?_ rfl (hD.J.keep 4 _ (by decide) (by decide)) ⟨Nat.le_refl _, fun _ _ _ => rfl⟩
    first | (simp only [execOp]; go_simp; done) | (simp only [execOp, e11]; go_simp)
  · intro L a w5 hD
    have e33 : a.eval (.tmp 33) = .pointer (some ⟨xb, 1, none⟩) := hD.at 4 (by kernel_rfl)
    have n6 := hD.later 6 (by kernel_rfl)
    have n12 := hD.not_yet n6 12 (by kernel_rfl)
    have n13 := hD.not_yet n12 13 (by kernel_rfl)
    have n14 := hD.not_yet n13 14 (by kernel_rfl)
    have hs0 := hD.not_yet n14 16 (by kernel_rfl)
    have hB := hD.J.early n14
    have hcell : w5.cell? ⟨xb, 1, none⟩ = some (.slice A x.b.length c) := (HXB.out.below hB).arr.cell rfl
    have f33 := e33; simp only [Act.eval, Array.getD_eq_getD_getElem?] at f33
    refine Gy.FlowV.step_value rfl (Gy.FlowL.wanted_none rfl) (v := .slice A x.b.length c) (w1 := w5) ?_ rfl (hD.J.keep 5 _ (by decide) (by decide)) ⟨Nat.le_refl _, fun _ _ _ => rfl⟩
    first | (simp only [execOp]; go_simp; done) | (simp only [execOp, e33]; go_simp)
  · intro L a w5 hD
    have e34 : a.eval (.tmp 34) = .slice A x.b.length c := hD.at 5 (by kernel_rfl)
    have f34 := e34; simp only [Act.eval, Array.getD_eq_getD_getElem?] at f34
    refine Gy.FlowV.step_value rfl (Gy.FlowL.wanted_none rfl) (v := .int .i64 (x.b.length : Int)) (w1 := w5) ?_ rfl (hD.J.keep 6 _ (by decide) (by decide)) ⟨Nat.le_refl _, fun _ _ _ => rfl⟩
    first | (simp only [execOp]; go_simp; done) | (simp only [execOp, e34]; go_simp)
  · intro L a w5 hD
    have e11 : a.eval (.tmp 11) = .pointer (some ⟨xb, 0, none⟩) := hD.same.at_other 11 (by kernel_rfl)
    have f11 := e11; simp only [Act.eval, Array.getD_eq_getD_getElem?] at f11
    refine Gy.FlowV.step_value rfl (Gy.FlowL.wanted_none rfl) (v := .pointer (some ⟨xb, 1, none⟩)) (w1 := w5) ?_ rfl (hD.J.keep 7 _ (by decide) (by decide)) ⟨Nat.le_refl _, fun _ _ _ => rfl⟩
    first | (simp only [execOp]; go_simp; done) | (simp only [execOp, e11]; go_simp)
  · intro L a w5 hD
    have e36 : a.eval (.tmp 36) = .pointer (some ⟨xb, 1, none⟩) := hD.at 7 (by kernel_rfl)
    have n9 := hD.later 9 (by kernel_rfl)
    have n12 := hD.not_yet n9 12 (by kernel_rfl)
    have n13 := hD.not_yet n12 13 (by kernel_rfl)
    have n14 := hD.not_yet n13 14 (by kernel_rfl)
    have hs0 := hD.not_yet n14 16 (by kernel_rfl)
    have hB := hD.J.early n14
    have hcell : w5.cell? ⟨xb, 1, none⟩ = some (.slice A x.b.length c) := (HXB.out.below hB).arr.cell rfl
    have f36 := e36; simp only [Act.eval, Array.getD_eq_getD_getElem?] at f36
    refine Gy.FlowV.step_value rfl (Gy.FlowL.wanted_none rfl) (v := .slice A x.b.length c) (w1 := w5) ?_ rfl (hD.J.keep 8 _ (by decide) (by decide)) ⟨Nat.le_refl _, fun _ _ _ => rfl⟩
    first | (simp only [execOp]; go_simp; done) | (simp only [execOp, e36]; go_simp)
  · intro L a w5 hD
    have e37 : a.eval (.tmp 37) = .slice A x.b.length c := hD.at 8 (by kernel_rfl)
    have n12 := hD.later 12 (by kernel_rfl)
    have n13 := hD.not_yet n12 13 (by kernel_rfl)
    have n14 := hD.not_yet n13 14 (by kernel_rfl)
    have hs0 := hD.not_yet n14 16 (by kernel_rfl)
    have hB := hD.J.early n14
    refine Gy.FlowV.step_call rfl (args := #[.slice A x.b.length c]) (Gy.FlowL.wanted_none rfl) Tryz.func10 (by kernel_rfl) (by kernel_rfl) rfl (by simp only [List.map_toArray, List.map_cons, List.map_nil, e37]) ?_
    exact (Go.Proofs.YtoakjdgknbhgiaaGreatDoor.Dig.digest_calls _ _ c x.b w5 (Gy.reads_below HR.out (HM.out.bel.trans (hB.mono HM.out.bel.size))) HX.out HL.out).mono fun e w6 h => ⟨_, h.1, rfl, (Gy.FlowV.AppJ.go n14 hs0 (hB.trans (h.2.mono hB.size)) 9 _ (by decide) (by decide)), h.2.size, fun k _ hk => h.2.block k hk⟩
  · intro L a w5 hD
    have e9 : a.eval (.tmp 9) = .slice Ar st0.src.length cr := hD.same.at_other 9 (by kernel_rfl)
    exact Gy.FlowV.step_move rfl rfl (Gy.FlowL.wanted_none rfl) e9 (hD.J.keep 10 _ (by decide) (by decide)) ⟨Nat.le_refl _, fun _ _ _ => rfl⟩
  · intro L a w5 hD
    have e39 : a.eval (.tmp 39) = .slice Ar st0.src.length cr := hD.at 10 (by kernel_rfl)
    have f39 := e39; simp only [Act.eval, Array.getD_eq_getD_getElem?] at f39
    refine Gy.FlowV.step_value rfl (Gy.FlowL.wanted_none rfl) (v := .int .i64 (st0.src.length : Int)) (w1 := w5) ?_ rfl (hD.J.keep 11 _ (by decide) (by decide)) ⟨Nat.le_refl _, fun _ _ _ => rfl⟩
    first | (simp only [execOp]; go_simp; done) | (simp only [execOp, e39]; go_simp)
  · intro L a w5 hD
    have e32 : a.eval (.tmp 32) = .string x.name := hD.at 3 (by kernel_rfl)
    have e35 : a.eval (.tmp 35) = .int .i64 (x.b.length : Int) := hD.at 6 (by kernel_rfl)
    have e38 : a.eval (.tmp 38) = .agg (nums .u8 (sha x.b)).toArray := hD.at 9 (by kernel_rfl)
    have e40 : a.eval (.tmp 40) = .int .i64 (st0.src.length : Int) := hD.at 11 (by kernel_rfl)
    refine Gy.FlowV.step_value rfl (Gy.FlowL.wanted_none rfl) (v := .agg (fileL x.name (x.b.length : Int) (sha x.b) (st0.src.length : Int)).toArray) (w1 := w5) ?_ rfl (hD.J.keep 12 _ (by decide) (by decide)) ⟨Nat.le_refl _, fun _ _ _ => rfl⟩
    have hb := build_file x.name (x.b.length : Int) (st0.src.length : Int) (sha x.b) (Gy.sha_length _) w5
    simp only [execOp, List.map_toArray, List.map_cons, List.map_nil, e32, e35, e38, e40, Sem.run_bind, hb, Result.andThen_ok]
    rfl
  · intro L a w5 hD
    have e41 : a.eval (.tmp 41) = .agg (fileL x.name (x.b.length : Int) (sha x.b) (st0.src.length : Int)).toArray := hD.at 12 (by kernel_rfl)
    have n14 := hD.later 14 (by kernel_rfl)
    have hs0 := hD.not_yet n14 16 (by kernel_rfl)
    have hB := hD.J.early n14
    have hb := lay_file x.name (x.b.length : Int) (st0.src.length : Int) (sha x.b) (Gy.sha_length _) w5
    refine Gy.FlowV.step_value rfl (Gy.FlowL.wanted_none rfl) (v := .slice (some ⟨w5.heap.size, 0, none⟩) 1 1) (w1 := w5.alloc (.cells (fileL x.name (x.b.length : Int) (sha x.b) (st0.src.length : Int)).toArray 25)) ?_ ⟨_, rfl, hB.size, Gy.alloc_at _ _⟩ (Gy.FlowV.AppJ.go n14 hs0 (hB.alloc hB.size _) 13 _ (by decide) (by decide)) ⟨(Gy.alloc_below _ _).size, fun k _ hk => (Gy.alloc_below _ _).block k hk⟩
    simp only [execOp, List.map_toArray, List.map_cons, List.map_nil, e41, Sem.run_bind, hb, Result.andThen_ok]
    rfl
  · intro L a w5 hD
    have e30 : a.eval (.tmp 30) = fv0 := hD.at 1 (by kernel_rfl)
    have q42 : (fun v w => ∃ g, v = .slice (some ⟨g, 0, none⟩) 1 1 ∧ wv.heap.size ≤ g ∧ w.heap[g]? = some (.cells (fileL x.name (x.b.length : Int) (sha x.b) (st0.src.length : Int)).toArray 25 (0, 0))) (a.eval (.tmp 42)) w5 := hD.at 13 (by kernel_rfl)
    obtain ⟨g42, e42, h42, c42⟩ := q42
    have hB := hD.J.early hD.not
    obtain ⟨v6, w6, hr, hM6, hgr⟩ := (HM.out.below hB).addFile (HXB.out.below hB) ⟨x.name, (x.b.length : Int), sha x.b, (st0.src.length : Int)⟩ (Gy.sha_length _) c42 HF.out 27
    refine Gy.FlowV.step_value rfl (Gy.FlowL.wanted_none rfl) (v := v6) (w1 := w6) (exec_append rfl e30 e42 hr) trivial (Gy.FlowV.AppJ.app (by decide) (hD.later 16 (by kernel_rfl)) hM6) ⟨hgr.size, fun k h1 h2 => hgr.block k h2 fun hk => ?_⟩
    have := (HM.out.f.own.lt k hk.symm).2
    omega
  · intro L a w5 hD
    have e8 : a.eval (.tmp 8) = .pointer (some ⟨SB, 0, none⟩) := hD.same.at_other 8 (by kernel_rfl)
    have f8 := e8; simp only [Act.eval, Array.getD_eq_getD_getElem?] at f8
    refine Gy.FlowV.step_value rfl (Gy.FlowL.wanted_none rfl) (v := .pointer (some ⟨SB, 1, none⟩)) (w1 := w5) ?_ rfl (hD.J.keep 15 _ (by decide) (by decide)) ⟨Nat.le_refl _, fun _ _ _ => rfl⟩
    first | (simp only [execOp]; go_simp; done) | (simp only [execOp, e8]; go_simp)
  · intro L a w5 hD
    have e44 : a.eval (.tmp 44) = .pointer (some ⟨SB, 1, none⟩) := hD.at 15 (by kernel_rfl)
    have hL := hD.waits 14 (by kernel_rfl)
    obtain ⟨ρ6, hM6, hX6⟩ := hD.J.2.1 hL hD.not
    obtain ⟨g7, cap7, e7, -, -⟩ := hM6.f.own.form (by simp)
    have e43 : a.eval (.tmp 43) = .slice (some ⟨g7, 0, none⟩) (st0.files ++ [(⟨x.name, (x.b.length : Int), sha x.b, (st0.src.length : Int)⟩ : FileR)]).length cap7 := e7
    have c43 : w5.cell? ⟨SB, 1, none⟩ = some fv0 := hM6.s.arr.cell rfl
    have z43 := hM6.s.arr.fr 1
    have f43 := e43; simp only [Act.eval, Array.getD_eq_getD_getElem?] at f43
    have f44 := e44; simp only [Act.eval, Array.getD_eq_getD_getElem?] at f44
    have hE := Gy.FlowV.AppJ.store (ia := 14) (is := 16) (B := (fun w5 => Below wv.heap.size wv w5)) (M := (fun v w5 => ∃ ρ', Mk w w5 ρ' SB [.int .i64 (s : Int), fv0, lv] v lv (.slice Ar st0.src.length cr) ks ⟨st0.files ++ [⟨x.name, (x.b.length : Int), sha x.b, (st0.src.length : Int)⟩], st0.slices, st0.src⟩ ∧ RArr w5 ρ' 6 xb [.string x.name, .slice A x.b.length c])) (E := (fun v w5 => ∃ ρ', Mk w w5 ρ' SB [.int .i64 (s : Int), v, lv] v lv (.slice Ar st0.src.length cr) ks ⟨st0.files ++ [⟨x.name, (x.b.length : Int), sha x.b, (st0.src.length : Int)⟩], st0.slices, st0.src⟩ ∧ RArr w5 ρ' 6 xb [.string x.name, .slice A x.b.length c])) (v := undef) (L := L) (f := Gy.FlowL.At _ a) (by decide) hL ⟨ρ6, hM6.put (i := 1) (by simp) _, hX6.turn (.set 1 _ hM6.s.role) (by omega)⟩
    refine Gy.FlowV.step_skip (w1 := w5.setCell ⟨SB, 1, none⟩ (.slice (some ⟨g7, 0, none⟩) (st0.files ++ [(⟨x.name, (x.b.length : Int), sha x.b, (st0.src.length : Int)⟩ : FileR)]).length cap7)) rfl (Gy.FlowL.wanted_none rfl) ?_ trivial (by rw [e7] at hE; exact hE) ⟨by rw [Gy.set_size]; exact Nat.le_refl _, fun k h1 _ => Below.heap_setCell w5 _ _ k (fun hk => ?_)⟩
    · first | (simp only [execOp]; go_simp; done) | (simp only [execOp, e44, e43]; go_simp)
    · have h3 : k = SB := hk
      have := HM.out.s.arr.lt
      omega
  · intro L a w5 hs hJ hL hv
    obtain ⟨ρ7, hM7, hX7⟩ := hJ.2.2 (hL 16 (by decide))
    have hp := Gy.FlowL.same_puts (by kernel_rfl) hs
    generalize Gy.FlowL.At _ a = vs at hp hM7
    clear hv hs hJ hL
    subst hp
    simp only [Gy.FlowL.puts, Act.put, List.setIfInBounds_toArray, List.set_cons_zero, List.set_cons_succ]
    have HM7 := Lib.hid hM7
    have HX7 := Lib.hid hX7
    have k1 := hX7.arr.cell (i := 1) (v := .slice A x.b.length c) rfl
    clear hM7 hX7
    go_wp2
    refine i_loop (b := x.b) (i := i) (n := n) (A := A) (c := c) _ hs1 hs2 HX.out HL3.out HC.out HR.out ⟨rfl, rfl, rfl, rfl, rfl, rfl, rfl, rfl, rfl, rfl, rfl, rfl, trivial⟩ HM7.out HX7.out HF1.out HF2.out ?_
    intro a' w' ρ' lv' rv' ks' A' c' g1 g2 g3
    obtain ⟨u, e⟩ := g1.out
    have e2 : a' = ⟨#[.slice (some ⟨LB, lo, none⟩) n cl, .int .i64 (s : Int), u 2, u 3, .pointer (some ⟨w.heap.size, 0, none⟩), u 5, u 6, u 7, .pointer (some ⟨SB, 0, none⟩), rv', u 10, .pointer (some ⟨xb, 0, none⟩), .slice A' 0 c', u 13, u 14, u 15, u 16, u 17, u 18, u 19, u 20, u 21, u 22, .slice (some ⟨LB, lo, none⟩) n cl, .int .i64 (n : Int), .int .i64 (i : Int), u 26, u 27, u 28, u 29, u 30, u 31, u 32, u 33, u 34, u 35, u 36, u 37, u 38, u 39, u 40, u 41, u 42, u 43, u 44, u 45, u 46, u 47, u 48, u 49, u 50, u 51, u 52, u 53, u 54, u 55, u 56, u 57, u 58, u 59, u 60, u 61, u 62, u 63, u 64, u 65, u 66, u 67, u 68, u 69, u 70, u 71, u 72, u 73, u 74, u 75, u 76, u 77, u 78, u 79, u 80, u 81], []⟩ := e
    rw [e2]
    clear e e2 g1 g3 k1 HM7 HX7
    have HM9 := Lib.hid g2
    clear g2
    go_wp2
    exact HQ.out _ _ ρ' _ lv' rv' ks' ⟨rfl, rfl, rfl, rfl, rfl, rfl, rfl, rfl, rfl, rfl, trivial⟩ HM9.out
set_option maxHeartbeats 2000000 in
set_option maxRecDepth 100000 in
theorem o_last {u2 u3 u5 u6 u7 u10 u11 u12 u13 u14 u15 u16 u17 u18 u19 u20 u21 u22 u26 u27 u28 u29 u30 u31 u32 u33 u34 u35 u36 u37 u38 u39 u40 u41 u42 u43 u44 u45 u46 u47 u48 u49 u50 u51 u52 u53 u54 u55 u56 u57 u58 u59 u60 u61 u62 u63 u64 u65 u66 u67 u68 u69 u70 u71 u72 u73 u74 u75 u76 u77 u78 u79 u80 u81 : Value} {w wr : World} {SB n : Nat} {rv L0 : Value} {s : Nat} (Q : Exit → Act → World → Prop)
    (hQ : ∀ a', Fr 82 (frO w L0 s SB n n rv) a' → Q (.exit 0) a' wr) :
    Code.wp Tryz.prog (bodyOf 0) Q ⟨#[L0, .int .i64 (s : Int), u2, u3, .pointer (some ⟨w.heap.size, 0, none⟩), u5, u6, u7, .pointer (some ⟨SB, 0, none⟩), rv, u10, u11, u12, u13, u14, u15, u16, u17, u18, u19, u20, u21, u22, L0, .int .i64 (n : Int), .int .i64 (n : Int), u26, u27, u28, u29, u30, u31, u32, u33, u34, u35, u36, u37, u38, u39, u40, u41, u42, u43, u44, u45, u46, u47, u48, u49, u50, u51, u52, u53, u54, u55, u56, u57, u58, u59, u60, u61, u62, u63, u64, u65, u66, u67, u68, u69, u70, u71, u72, u73, u74, u75, u76, u77, u78, u79, u80, u81], []⟩ wr := by
  conv => arg 2; whnf
  have HQ := Lib.hid hQ
  have t26 : decide ((n : Int) < (n : Int)) = false := by simp
  clear hQ
  go_wp2
  exact HQ.out _ ⟨rfl, rfl, rfl, rfl, rfl, rfl, rfl, rfl, rfl, rfl, trivial⟩
def lensOf (l : List Inp) : Nat := (l.map fun x => x.b.length).sum
theorem lensOf_drop {l : List Inp} {i : Nat} {x : Inp} (h : l[i]? = some x) : lensOf (l.drop i) = x.b.length + lensOf (l.drop (i + 1)) := by
  obtain ⟨hi, e⟩ := List.getElem?_eq_some_iff.1 h
  rw [List.drop_eq_getElem_cons hi, e]
  simp [lensOf]
theorem intOf_int (k : IntKind) (x : Int) : intOf (.int k x) = x := rfl
set_option maxHeartbeats 1000000 in
set_option maxRecDepth 100000 in
/-- all files -/
theorem o_loop {w wr : World} {ρ : Nat → Nat} {SB LB lo cl : Nat} {fv lv rv : Value} {ks : List Value} {st : Cut} {s : Nat} {l : List Inp} {a : Act} (Q : Exit → Act → World → Prop) (hs1 : 1 ≤ s) (hs2 : s ≤ 256) (hI : InAt w LB lo l) (hln : l.length ≤ 50) (hsz : lensOf l ≤ 30000)
    (hF : Fr 82 (frO w (.slice (some ⟨LB, lo, none⟩) l.length cl) s SB l.length 0 rv) a) (hM : Mk w wr ρ SB [.int .i64 (s : Int), fv, lv] fv lv rv ks st) (hf : st.src.length = 0) (hf2 : st.slices.length = 0) (hf3 : st.files.length = 0)
    (hQ : ∀ a' w' ρ' fv' lv' rv' ks', Fr 82 (frO w (.slice (some ⟨LB, lo, none⟩) l.length cl) s SB l.length l.length rv') a' → Mk w w' ρ' SB [.int .i64 (s : Int), fv', lv'] fv' lv' rv' ks' (Cut.addAll s st l) → Q (.exit 0) a' w') :
    Code.wp Tryz.prog (Code.loop (bodyOf 0)) Q a wr := by
  refine wp_loop (fun a w' => ∃ (i : Nat) (ρ' : Nat → Nat) (fv' lv' rv' : Value) (ks' : List Value) (st' : Cut), i ≤ l.length ∧ Fr 82 (frO w (.slice (some ⟨LB, lo, none⟩) l.length cl) s SB l.length i rv') a ∧ Mk w w' ρ' SB [.int .i64 (s : Int), fv', lv'] fv' lv' rv' ks' st' ∧ st'.src.length + lensOf (l.drop i) ≤ 30000 ∧ st'.slices.length = st'.src.length ∧ st'.files.length = i ∧ Cut.addAll s st' (l.drop i) = Cut.addAll s st l) (fun a _ => l.length - (intOf (a.tmps.getD 25 undef)).toNat)
    ⟨0, ρ, fv, lv, rv, ks, st, by omega, hF, hM, by rw [hf]; simpa using hsz, by omega, hf3, rfl⟩ ?_
  rintro a w' ⟨i, ρ', fv', lv', rv', ks', st', h1, hF', h5, h6, h7, h8, h9⟩
  have h25 := hF'.at 25 _ rfl
  obtain ⟨u, e⟩ := hF'.out
  rw [e]
  by_cases h0 : i < l.length
  · obtain ⟨x, hx⟩ : ∃ x, l[i]? = some x := ⟨l[i], List.getElem?_eq_getElem h0⟩
    have hd := lensOf_drop hx
    obtain ⟨A, c, g1, g2, g3, g4⟩ := hI.b i x hx
    refine o_step (x := x) _ hs1 hs2 h0 (by omega) (hI.name i x hx) g1 g4 (by omega) g2 g3 h5 (by omega) (by omega) (by omega) ?_
    intro a2 w2 ρ2 fv2 lv2 rv2 ks2 k1 k2
    have hch := chunks_length_le hs1 x.b.length x.b (Nat.le_refl _)
    have hform := Cut.addCs_form (chunks s x.b) (st'.addF x)
    refine ⟨⟨i + 1, ρ2, fv2, lv2, rv2, ks2, _, h0, k1, k2, ?_, ?_, ?_, ?_⟩, ?_⟩
    · rw [hform]; simp only [Cut.addF, List.length_append]; omega
    · rw [hform]; simp only [Cut.addF, List.length_append, List.length_map]; omega
    · rw [hform]; simp only [Cut.addF, List.length_append, List.length_singleton]; omega
    · rw [← h9]
      obtain ⟨hi, ex⟩ := List.getElem?_eq_some_iff.1 hx
      rw [List.drop_eq_getElem_cons hi, ex]
      rfl
    · rw [k1.at 25 _ rfl, ← e, h25, intOf_int, intOf_int]
      omega
  · obtain rfl : i = l.length := by omega
    refine o_last _ fun a2 hF2 => ?_
    rw [List.drop_of_length_le (Nat.le_refl _)] at h9
    exact hQ a2 w' ρ' fv' lv' rv' ks' hF2 (by rw [← h9]; exact h5)
end Go.Proofs.YtoakjdgknbhgiaaGreatDoor.Cuts
/- Package cut: Make of files that can be cut. -/
namespace Go.Proofs.YtoakjdgknbhgiaaGreatDoor.Cuts
open Go Go.RowKit Go.Proofs.YtoakjdgknbhgiaaGreatDoorW.PrintWords Go.Proofs.YtoakjdgknbhgiaaGreatDoorW.PrintLast Go.Proofs.YtoakjdgknbhgiaaGreatDoorW.PrintMore Gy

/-- what Make hands back, in memory -/
structure MkOut (w wr : World) (ρ : Nat → Nat) (fv lv rv : Value) (ks : List Value) (st : Cut) : Prop where
  bel : Below w.heap.size w wr
  f : Gy.Rows wr ρ w.heap.size 2 25 35 fv st.files.length (st.files.flatMap FileR.cells)
  l : Gy.Rows wr ρ w.heap.size 3 46 34 lv st.slices.length (st.slices.flatMap SliceR.cells)
  r : Gy.Rows wr ρ w.heap.size 4 22 1 rv st.src.length ks
  c : Each (fun k row => Gy.Rows wr ρ w.heap.size 5 5 1 k row.length (nums .u8 row)) ks st.src
theorem MkOut.below {w wr wr' : World} {ρ : Nat → Nat} {fv lv rv : Value} {ks : List Value} {st : Cut} (h : MkOut w wr ρ fv lv rv ks st) (hb : Below wr.heap.size wr wr') : MkOut w wr' ρ fv lv rv ks st :=
  ⟨h.bel.trans (hb.mono h.bel.size), h.f.below hb, h.l.below hb, h.r.below hb, h.c.mono fun _ _ g => g.below hb⟩
theorem info_set : (Tryz.prog.info? 30).map (·.size) = some 3 := by kernel_rfl
theorem fin_set {f : Func} (hf : f.results = #[.cell 4 30, .tmp 5, .tmp 6]) {tmps : Array Value} {w : World} {b : Nat} {k5 k6 : Value} {vs : List Value} (hl : vs.length = 3) (hp : tmps.getD 4 undef = .pointer (some ⟨b, 0, none⟩)) (h5 : tmps.getD 5 undef = k5) (h6 : tmps.getD 6 undef = k6) (h : Gy.Arr w b vs) :
    (results f tmps).run Tryz.prog w = .ok (.tuple #[.agg vs.toArray, k5, k6]) w := by
  have hT : (loadVar 30 ⟨b, 0, none⟩).run Tryz.prog w = .ok (.agg vs.toArray) w := h.loadV Tryz.underlying30 rfl (by rw [hl]; exact info_set)
  unfold results
  rw [hf]
  have e : #[ResultVar.cell 4 30, ResultVar.tmp 5, ResultVar.tmp 6] = [ResultVar.cell 4 30, ResultVar.tmp 5, ResultVar.tmp 6].toArray := rfl
  rw [e, List.mapM_toArray]
  simp only [Sem.run_bind, Sem.run_map]
  have hp2 : tmps[4]?.getD undef = .pointer (some ⟨b, 0, none⟩) := by rw [← hp, Array.getD_eq_getD_getElem?]
  have h52 : tmps[5]?.getD undef = k5 := by rw [← h5, Array.getD_eq_getD_getElem?]
  have h62 : tmps[6]?.getD undef = k6 := by rw [← h6, Array.getD_eq_getD_getElem?]
  simp [List.mapM_cons, hp2, h52, h62, asAddr, hT]
/-- the start -/
theorem mk_start {w w2 : World} (T T2 : TypeId) (s : Nat) (hd : Below (w.alloc (.cells #[.int .i64 0, .slice none 0 0, .slice none 0 0] T)).heap.size (w.alloc (.cells #[.int .i64 0, .slice none 0 0, .slice none 0 0] T)) w2) :
    Mk w (w2.alloc (.cells #[.int .i64 (s : Int), .slice none 0 0, .slice none 0 0] T2)) (fun k => if k = w.heap.size then 0 else 1) w2.heap.size [.int .i64 (s : Int), .slice none 0 0, .slice none 0 0] (.slice none 0 0) (.slice none 0 0) (.slice none 0 0) [] ⟨[], [], []⟩ := by
  have e : (w.alloc (.cells #[.int .i64 0, .slice none 0 0, .slice none 0 0] T)).heap.size = w.heap.size + 1 := Gy.size_alloc' _ _
  have hlt : w.heap.size < w2.heap.size := by have := hd.size; omega
  exact ⟨((Below.refl w.heap.size w).alloc (Nat.le_refl _) _).trans (hd.mono (by omega)) |>.alloc (Nat.le_of_lt hlt) _,
    ⟨((Gy.Arr.fresh w [.int .i64 0, .slice none 0 0, .slice none 0 0] _ rfl T).below hd).alloc _, if_pos rfl⟩, Nat.le_of_lt hlt, ⟨Gy.Arr.fresh w2 [.int .i64 (s : Int), .slice none 0 0, .slice none 0 0] _ rfl T2, if_neg (by omega)⟩,
    Rows.nil _ _ _ _ _ _, Rows.nil _ _ _ _ _ _, Rows.nil _ _ _ _ _ _, trivial⟩
theorem _root_.Gy.Mk.done {w wr : World} {ρ : Nat → Nat} {SB : Nat} {cs : List Value} {fv lv rv : Value} {ks : List Value} {st : Cut} (h : Mk w wr ρ SB cs fv lv rv ks st) (v0 v1 v2 : Value) :
    MkOut w (((wr.setCell ⟨w.heap.size, 0, none⟩ v0).setCell ⟨w.heap.size, 1, none⟩ v1).setCell ⟨w.heap.size, 2, none⟩ v2) ρ fv lv rv ks st ∧ Gy.Arr (((wr.setCell ⟨w.heap.size, 0, none⟩ v0).setCell ⟨w.heap.size, 1, none⟩ v1).setCell ⟨w.heap.size, 2, none⟩ v2) w.heap.size [v0, v1, v2] := by
  have t : Turn wr (((wr.setCell ⟨w.heap.size, 0, none⟩ v0).setCell ⟨w.heap.size, 1, none⟩ v1).setCell ⟨w.heap.size, 2, none⟩ v2) ρ ρ 0 := ((Turn.set 0 v0 h.res.role).trans (.set 1 v1 h.res.role)).trans (.set 2 v2 h.res.role)
  have b : ∀ {W : World} (i : Nat) (v : Value), Below w.heap.size w W → Below w.heap.size w (W.setCell ⟨w.heap.size, i, none⟩ v) := fun i v hb => hb.setCell (Nat.le_refl _) v
  exact ⟨⟨b 2 v2 (b 1 v1 (b 0 v0 h.bel)), h.f.turn t (by omega), h.l.turn t (by omega), h.r.turn t (by omega), h.c.mono fun _ _ g => g.turn t (by omega)⟩, ((h.res.arr.set (i := 0) (by simp) v0).set (i := 1) (by simp) v1).set (i := 2) (by simp) v2⟩
set_option maxHeartbeats 4000000 in
set_option maxRecDepth 100000 in
theorem make_calls {w : World} {LB lo cl : Nat} {s : Nat} {l : List Inp} (hs1 : 1 ≤ s) (hs2 : s ≤ 256) (hI : InAt w LB lo l) (hln : l.length ≤ 50) (hsz : lensOf l ≤ 30000)
    (hchk : ∀ W, Below w.heap.size w W → Calls Tryz.prog 9 #[.slice (some ⟨LB, lo, none⟩) l.length cl, .int .i64 (s : Int)] W fun e w' => e = .returned (.int .i64 0) ∧ Below W.heap.size W w') :
    Calls Tryz.prog 5 #[.slice (some ⟨LB, lo, none⟩) l.length cl, .int .i64 (s : Int)] w fun e w' => ∃ ρ fv lv rv ks, e = .returned (.tuple #[.agg #[.int .i64 (s : Int), fv, lv], rv, .int .i64 0]) ∧ MkOut w w' ρ fv lv rv ks (cutOf s l) := by
  have HI := Lib.hid hI
  have HC := Lib.hid hchk
  have HL := Lib.hid (And.intro hln hsz)
  clear hI hchk hln hsz
  go_enter Tryz.func5, Tryz.ntmps5
  go_wp2_with (go_at_call 9; refine (HC.out _ ((Below.refl w.heap.size w).alloc (Nat.le_refl _) _)).mono ?_; rintro e w2 ⟨rfl, hd⟩; have HD := Lib.hid hd; clear hd)
  refine o_loop (LB := LB) (lo := lo) (cl := cl) (st := ⟨[], [], []⟩) _ hs1 hs2 HI.out HL.out.1 HL.out.2 ⟨rfl, rfl, rfl, rfl, rfl, rfl, rfl, rfl, rfl, rfl, trivial⟩ (mk_start _ _ s HD.out) rfl rfl rfl ?_
  intro a' w' ρ' fv' lv' rv' ks' g1 g2
  obtain ⟨u, e⟩ := g1.out
  have e2 : a' = ⟨#[.slice (some ⟨LB, lo, none⟩) l.length cl, .int .i64 (s : Int), u 2, u 3, .pointer (some ⟨w.heap.size, 0, none⟩), u 5, u 6, u 7, .pointer (some ⟨w2.heap.size, 0, none⟩), rv', u 10, u 11, u 12, u 13, u 14, u 15, u 16, u 17, u 18, u 19, u 20, u 21, u 22, .slice (some ⟨LB, lo, none⟩) l.length cl, .int .i64 (l.length : Int), .int .i64 (l.length : Int), u 26, u 27, u 28, u 29, u 30, u 31, u 32, u 33, u 34, u 35, u 36, u 37, u 38, u 39, u 40, u 41, u 42, u 43, u 44, u 45, u 46, u 47, u 48, u 49, u 50, u 51, u 52, u 53, u 54, u 55, u 56, u 57, u 58, u 59, u 60, u 61, u 62, u 63, u 64, u 65, u 66, u 67, u 68, u 69, u 70, u 71, u 72, u 73, u 74, u 75, u 76, u 77, u 78, u 79, u 80, u 81], []⟩ := e
  rw [e2]
  clear e e2 g1
  have HM := Lib.hid g2
  have s0 := g2.s.arr.cell (i := 0) (v := .int .i64 (s : Int)) rfl
  have s1 := g2.s.arr.cell (i := 1) (v := fv') rfl
  have s2 := g2.s.arr.cell (i := 2) (v := lv') rfl
  have r0 := g2.res.arr.cell (i := 0) (v := .int .i64 0) rfl
  have r1 := g2.res.arr.cell (i := 1) (v := .slice none 0 0) rfl
  have r2 := g2.res.arr.cell (i := 2) (v := .slice none 0 0) rfl
  have rf := g2.res.arr.fr
  obtain ⟨Af, cf, hfv⟩ := Gy.own_slice g2.f.own
  obtain ⟨Al, cl', hlv⟩ := Gy.own_slice g2.l.own
  clear g2
  subst hfv hlv
  go_wp2
  obtain ⟨hO, hA⟩ := HM.out.done (.int .i64 (s : Int)) (.slice Af (cutOf s l).files.length cf) (.slice Al (cutOf s l).slices.length cl')
  exact bodyPost_ret (fin_set rfl rfl rfl rfl rfl hA) rfl ⟨ρ', _, _, rv', ks', rfl, hO⟩
end Go.Proofs.YtoakjdgknbhgiaaGreatDoor.Cuts
/- What an argument's data are, kind by kind: slices of slices, of structs, of texts. -/
namespace Gy
open Go Go.RowKit Go.Proofs.YtoakjdgknbhgiaaGreatDoorW.PrintWords
section
variable {P : Program}

theorem list_of {α : Type} (n : Nat) (Q : Nat → α → Prop) (h : ∀ i, i < n → ∃ a, Q i a) : ∃ xs : List α, xs.length = n ∧ ∀ j p, xs[j]? = some p → Q j p := by
  induction n with
  | zero => exact ⟨[], rfl, fun j p h => by simp at h⟩
  | succ n ih =>
    obtain ⟨xs, hl, hx⟩ := ih (fun i hi => h i (by omega))
    obtain ⟨a, ha⟩ := h n (by omega)
    refine ⟨xs ++ [a], by simp [hl], fun j p hj => ?_⟩
    rcases Nat.lt_or_ge j xs.length with hj' | hj'
    · rw [List.getElem?_append_left hj'] at hj
      exact hx j p hj
    · rw [List.getElem?_append_right hj'] at hj
      have h0 : j - xs.length = 0 := by
        rcases Nat.eq_zero_or_pos (j - xs.length) with h | h
        · exact h
        · rw [List.getElem?_eq_none (by simp; omega)] at hj; exact absurd hj (by simp)
      rw [h0] at hj
      simp at hj
      subst hj
      have : j = n := by omega
      subst this
      exact ha

/-- Whatever can be read as a value of type t is of the kind d, and good. -/
def Opens (P : Program) (t : TypeId) {α : Type} (d : Kd α) (good : α → Prop) : Prop :=
  P.cellsOf t = d.sz ∧ ∀ (H : Type) (enc : TypeId × Value → H) (W : World) (base : Nat) (held : Bool) (fuel : Nat) (cs : List Value) (x : DataW H × List MemPlace),
    DataW.trod enc P W base (fun _ => true) held fuel t cs = some x → ∃ a, d.K W a cs ∧ good a

theorem Opens.int {t : TypeId} {k : IntKind} (ht : P.underlying t = some (.int k)) (hc : P.cellsOf t = 1) : Opens P t (Kd.int k) (fun n => (Lit.int k n).wf = true) := by
  refine ⟨hc, fun H enc W base held fuel cs x h => ?_⟩
  cases fuel with
  | zero => simp [DataW.trod] at h
  | succ n =>
    unfold DataW.trod at h
    rw [ht] at h
    split at h <;> simp_all
    exact ⟨_, rfl, h.1.2⟩
theorem Opens.bool {t : TypeId} (ht : P.underlying t = some .bool) (hc : P.cellsOf t = 1) : Opens P t Kd.bool (fun _ => True) := by
  refine ⟨hc, fun H enc W base held fuel cs x h => ?_⟩
  cases fuel with
  | zero => simp [DataW.trod] at h
  | succ n =>
    unfold DataW.trod at h
    rw [ht] at h
    split at h <;> first | exact ⟨_, rfl, trivial⟩ | simp_all
theorem Opens.string {t : TypeId} (ht : P.underlying t = some .string) (hc : P.cellsOf t = 1) : Opens P t Kd.string (fun s => s.size ≤ maxLen) := by
  refine ⟨hc, fun H enc W base held fuel cs x h => ?_⟩
  cases fuel with
  | zero => simp [DataW.trod] at h
  | succ n =>
    unfold DataW.trod at h
    rw [ht] at h
    split at h <;> simp_all
    exact ⟨_, rfl, h.1⟩
theorem Opens.slice {t e : TypeId} {α : Type} {d : Kd α} {good : α → Prop} (ht : P.underlying t = some (.slice e)) (hc : P.cellsOf t = 1) (he : Opens P e d good) :
    Opens P t (Kd.slice e d) (fun xs => xs.length ≤ 9223372036854775807 ∧ ∀ x ∈ xs, good x) := by
  refine ⟨hc, fun H enc W base held fuel cs x h => ?_⟩
  rcases DataW.trod_slice ht h with ⟨rfl, _⟩ | ⟨a, len, cap, elems, rest, n, _, rfl, _, hb, hl, hm, hlen, hel, _, _⟩
  · exact ⟨[], ⟨none, 0, rfl, Nat.le_refl _, rfl, by simp, fun h => absurd h (by simp)⟩, by simp, fun x hx => by simp at hx⟩
  · unfold maxLen at hm
    obtain ⟨xs, hxl, hx⟩ := list_of len (fun j p => (∃ c, c.length = d.sz ∧ d.K W p c ∧ ∀ i u, c[i]? = some u → W.cell? (a.add (j * d.sz + i)) = some u) ∧ good p) (fun i hi => by
      have h1 := hel i hi
      rw [he.1, List.getElem?_eq_getElem (by omega)] at h1
      obtain ⟨cs', h2, h3⟩ := Option.bind_eq_some_iff.1 h1
      obtain ⟨_, hl2, hc2⟩ := World.cells?_some h2
      obtain ⟨p, hp, hg⟩ := he.2 H enc W base held n cs' _ h3
      refine ⟨p, ⟨cs', hl2, hp, fun j u hj => ?_⟩, hg⟩
      have hjl : j < cs'.length := by
        rcases Nat.lt_or_ge j cs'.length with h | h
        · exact h
        · rw [List.getElem?_eq_none h] at hj; exact absurd hj (by simp)
      have h4 := hc2 j (by omega)
      rw [hj] at h4
      rw [← h4]
      congr 1
      unfold Addr.add
      split <;> split <;> simp_all <;> (try omega) <;> (try (split <;> simp_all <;> omega)))
    refine ⟨xs, ⟨some a, cap, by rw [hxl], by omega, rfl, by omega, fun _ => ⟨a, rfl, fun j p hj => (hx j p hj).1⟩⟩, by omega, fun x hx' => ?_⟩
    obtain ⟨j, hj⟩ := List.mem_iff_getElem?.1 hx'
    exact (hx j x hj).2

/-- Fields from the place off on. -/
def OpensAt (P : Program) (fs : List Field) (off : Nat) {α : Type} (d : Kd α) (good : α → Prop) : Prop :=
  ∀ (H : Type) (enc : TypeId × Value → H) (W : World) (base : Nat) (held : Bool) (n : Nat) (cs : List Value),
    (∀ f ∈ fs, ∃ y, DataW.trod enc P W base (fun _ => true) held n f.type ((cs.drop f.offset).take (P.cellsOf f.type)) = some y) → cs.length = off + d.sz → ∃ a, d.K W a (cs.drop off) ∧ good a
theorem OpensAt.one {f : Field} {off : Nat} {α : Type} {d : Kd α} {good : α → Prop} (ho : f.offset = off) (hf : Opens P f.type d good) : OpensAt P [f] off d good := by
  intro H enc W base held n cs h hl
  obtain ⟨y, hy⟩ := h f (by simp)
  rw [ho, hf.1, List.take_of_length_le (by rw [List.length_drop]; omega)] at hy
  exact hf.2 H enc W base held n _ _ hy
theorem OpensAt.cons {f : Field} {fs : List Field} {off : Nat} {α β : Type} {d : Kd α} {d' : Kd β} {good : α → Prop} {good' : β → Prop} (ho : f.offset = off) (hf : Opens P f.type d good) (hfs : OpensAt P fs (off + d.sz) d' good') :
    OpensAt P (f :: fs) off (Kd.pair d d') (fun x => good x.1 ∧ good' x.2) := by
  intro H enc W base held n cs h hl
  obtain ⟨y, hy⟩ := h f (by simp)
  rw [ho, hf.1] at hy
  obtain ⟨a, ha, hga⟩ := hf.2 H enc W base held n _ _ hy
  have hl' : cs.length = off + (d.sz + d'.sz) := hl
  obtain ⟨b, hb, hgb⟩ := hfs H enc W base held n cs (fun g hg => h g (by simp [hg])) (by omega)
  refine ⟨(a, b), ⟨_, _, ?_, ha, hb⟩, hga, hgb⟩
  rw [← List.drop_drop, List.take_append_drop]
theorem Opens.struct {t : TypeId} {fs : Array Field} {α : Type} {d : Kd α} {good : α → Prop} (ht : P.underlying t = some (.struct fs)) (hc : P.cellsOf t = d.sz) (hfs : OpensAt P fs.toList 0 d good) : Opens P t d good := by
  refine ⟨hc, fun H enc W base held fuel cs x h => ?_⟩
  obtain ⟨xs, n, _, _, hl, hxl, hx⟩ := DataW.trod_struct ht h
  have h2 := hfs H enc W base held n cs (fun f hf => by
    obtain ⟨i, hi, e⟩ := List.mem_iff_getElem.1 hf
    have h3 := hx i f (by rw [← Array.getElem?_toList, List.getElem?_eq_getElem hi, e])
    exact ⟨_, h3.trans (List.getElem?_eq_getElem (by rw [hxl]; simpa using hi))⟩) (by omega)
  rw [List.drop_zero] at h2
  exact h2
theorem Opens.iso {t : TypeId} {α β : Type} {d : Kd α} {good : α → Prop} (h : Opens P t d good) (f : β → α) (g : α → β) (hg : ∀ a, f (g a) = a) : Opens P t (Kd.iso d f) (fun b => good (f b)) := by
  refine ⟨h.1, fun H enc W base held fuel cs x hx => ?_⟩
  obtain ⟨a, ha, hga⟩ := h.2 H enc W base held fuel cs x hx
  exact ⟨g a, by show d.K W (f (g a)) cs; rw [hg]; exact ha, by show good (f (g a)); rw [hg]; exact hga⟩
/-- An argument that is a slice. -/
theorem Opens.arg {t e : TypeId} {α : Type} {d : Kd α} {good : List α → Prop} (h : Opens P t (Kd.slice e d) good) {H : Type} {enc : TypeId × Value → H} {W : World} {base : Nat} {held : Bool} {A : Option Addr} {n c : Nat} {x : DataW H} {ps : List MemPlace}
    (hx : DataW.Trod enc P W base (fun _ => true) held t (.slice A n c) x ps) : ∃ xs : List α, n = xs.length ∧ xs.length ≤ c ∧ d.C W A xs.length xs ∧ good xs := by
  obtain ⟨fuel, hf⟩ := hx
  obtain ⟨xs, ⟨A', c', e1, hl, hC⟩, hg⟩ := h.2 H enc W base held fuel _ _ hf
  have e2 : (.slice A n c : Value) = .slice A' xs.length c' := by simpa [Value.cells] using e1
  injection e2 with e3 e4 e5
  subst e3 e5
  exact ⟨xs, e4, hl, hC, hg⟩
end
end Gy
/- What an argument of the type api.File is. -/
namespace Go.Proofs.YtoakjdgknbhgiaaGreatDoor.Cuts
open Go Go.RowKit Go.ChangeShapes Go.Proofs.YtoakjdgknbhgiaaGreatDoorW.PrintWords Go.Proofs.YtoakjdgknbhgiaaGreatDoorW.PrintMore Gy

set_option maxRecDepth 100000 in
theorem opens_bytes : Gy.Opens Tryz.prog 22 (Kd.slice 5 (Kd.int .u8)) (fun xs => xs.length ≤ 9223372036854775807 ∧ ∀ x ∈ xs, (Lit.int .u8 x).wf = true) :=
  Gy.Opens.slice Tryz.underlying22 (by kernel_rfl) (Gy.Opens.int Tryz.underlying5 (by kernel_rfl))
theorem cells_string : Tryz.prog.cellsOf 9 = 1 := by kernel_rfl
theorem cells_int : Tryz.prog.cellsOf 3 = 1 := by kernel_rfl
theorem cells_u8 : Tryz.prog.cellsOf 5 = 1 := by kernel_rfl
theorem cells_d32 : Tryz.prog.cellsOf 23 = 32 := by kernel_rfl
theorem cells_file : Tryz.prog.cellsOf 25 = 35 := by kernel_rfl
/-- cells that are all bytes -/
theorem all_nums {us : List Value} (h : ∀ i, i < us.length → ∃ x : Int, us[i]? = some (.int .u8 x)) : ∃ D : List Int, us = nums .u8 D := by
  induction us with
  | nil => exact ⟨[], rfl⟩
  | cons u us ih =>
    obtain ⟨D, hD⟩ := ih (fun i hi => by have := h (i + 1) (by simp only [List.length_cons]; omega); simpa using this)
    obtain ⟨x, hx⟩ := h 0 (by simp)
    simp only [List.getElem?_cons_zero, Option.some.injEq] at hx
    exact ⟨x :: D, by rw [hx, hD]; rfl⟩
theorem open_d32 {H : Type} {enc : TypeId × Value → H} {W : World} {base : Nat} {held : Bool} {fuel : Nat} {us : List Value} {x : DataW H × List MemPlace}
    (h : DataW.trod enc Tryz.prog W base (fun _ => true) held fuel 23 us = some x) : ∃ D : List Int, us = nums .u8 D ∧ D.length = 32 := by
  obtain ⟨xs, m, -, -, hl, hx, hf⟩ := DataW.trod_array Tryz.underlying23 h
  rw [cells_d32] at hl
  rw [cells_u8] at hf
  obtain ⟨D, hD⟩ := all_nums (us := us) (fun i hi => by
    have h1 := hf i (by omega)
    rw [Nat.mul_one] at h1
    obtain ⟨y, hy⟩ : ∃ y, xs[i]? = some y := ⟨xs[i]'(by omega), List.getElem?_eq_getElem (by omega)⟩
    rw [hy] at h1
    obtain ⟨n, e, -, -⟩ := DataW.trod_int Tryz.underlying5 h1
    refine ⟨n, ?_⟩
    have e2 : ((us.drop i).take 1)[0]? = some (.int .u8 n) := by rw [e]; rfl
    rw [List.getElem?_take, if_pos (by omega), List.getElem?_drop] at e2
    exact e2)
  refine ⟨D, hD, ?_⟩
  rw [hD, Gy.nums_len] at hl
  exact hl
def FileOk (cs : Array Value) : Prop := ∃ (nm : ByteArray) (sz : Int) (D : List Int) (first : Int), cs = (fileL nm sz D first).toArray ∧ D.length = 32
theorem open_fileL {H : Type} {enc : TypeId × Value → H} {W : World} {base : Nat} {held : Bool} {fuel : Nat} {us : List Value} {x : DataW H × List MemPlace}
    (hf : DataW.trod enc Tryz.prog W base (fun _ => true) held fuel 25 us = some x) : ∃ (nm : ByteArray) (sz : Int) (D : List Int) (first : Int), us = fileL nm sz D first ∧ D.length = 32 := by
  obtain ⟨xs, n, -, -, hlen, hxl, hf⟩ := DataW.trod_struct Tryz.underlying25 hf
  rw [cells_file] at hlen
  have hx4 : xs.length = 4 := hxl
  have g0 : DataW.trod enc Tryz.prog W base (fun _ => true) held n 9 ((us.drop 0).take (Tryz.prog.cellsOf 9)) = some (xs[0]'(by omega)) := (hf 0 _ rfl).trans (List.getElem?_eq_getElem (by omega))
  have g1 : DataW.trod enc Tryz.prog W base (fun _ => true) held n 3 ((us.drop 1).take (Tryz.prog.cellsOf 3)) = some (xs[1]'(by omega)) := (hf 1 _ rfl).trans (List.getElem?_eq_getElem (by omega))
  have g2 : DataW.trod enc Tryz.prog W base (fun _ => true) held n 23 ((us.drop 2).take (Tryz.prog.cellsOf 23)) = some (xs[2]'(by omega)) := (hf 2 _ rfl).trans (List.getElem?_eq_getElem (by omega))
  have g3 : DataW.trod enc Tryz.prog W base (fun _ => true) held n 3 ((us.drop 34).take (Tryz.prog.cellsOf 3)) = some (xs[3]'(by omega)) := (hf 3 _ rfl).trans (List.getElem?_eq_getElem (by omega))
  rw [cells_string] at g0
  rw [cells_int] at g1 g3
  rw [cells_d32] at g2
  obtain ⟨nm, e0, -, -⟩ := DataW.trod_string Tryz.underlying9 g0
  obtain ⟨sz, e1, -, -⟩ := DataW.trod_int Tryz.underlying3 g1
  obtain ⟨D, e2, hD⟩ := open_d32 g2
  obtain ⟨first, e3, -, -⟩ := DataW.trod_int Tryz.underlying3 g3
  refine ⟨nm, sz, D, first, ?_, hD⟩
  have s1 : us = us.take 1 ++ us.drop 1 := (List.take_append_drop 1 us).symm
  have s2 : us.drop 1 = (us.drop 1).take 1 ++ us.drop 2 := by
    have := (List.take_append_drop 1 (us.drop 1)).symm
    rwa [List.drop_drop] at this
  have s3 : us.drop 2 = (us.drop 2).take 32 ++ us.drop 34 := by
    have := (List.take_append_drop 32 (us.drop 2)).symm
    rwa [List.drop_drop] at this
  have s4 : us.drop 34 = (us.drop 34).take 1 := (List.take_of_length_le (by rw [List.length_drop]; omega)).symm
  rw [List.drop_zero] at e0
  rw [s1, e0, s2, e1, s3, e2, s4, e3]
  rfl
theorem open_file {H : Type} {enc : TypeId × Value → H} {W : World} {base : Nat} {held : Bool} {cs : Array Value} {x : DataW H} {ps : List MemPlace}
    (hx : DataW.Trod enc Tryz.prog W base (fun _ => true) held 25 (.agg cs) x ps) : FileOk cs := by
  obtain ⟨fuel, hf⟩ := hx
  have e : (Value.agg cs).cells = cs := rfl
  rw [e] at hf
  obtain ⟨nm, sz, D, first, e, hD⟩ := open_fileL hf
  exact ⟨nm, sz, D, first, by rw [← e], hD⟩
end Go.Proofs.YtoakjdgknbhgiaaGreatDoor.Cuts
/- The law StatusSame: it answers true. -/
namespace Go.Proofs.YtoakjdgknbhgiaaGreatDoor.Cuts
open Go Go.RowKit Go.Proofs.YtoakjdgknbhgiaaGreatDoorW.PrintWords Go.Proofs.YtoakjdgknbhgiaaGreatDoorW.PrintLast Go.Proofs.YtoakjdgknbhgiaaGreatDoorW.PrintMore Gy

def z32 : List Int := List.replicate 32 0
set_option maxRecDepth 100000 in
theorem zero_file (W : World) : (Instr.build 25 #[]).run Tryz.prog W = .ok (.agg (fileL ⟨#[]⟩ 0 z32 0).toArray) W := run_build W _ _ _ (by kernel_rfl)
theorem one_at (W : World) (T : TypeId) : ReadsInt (W.alloc (.cells #[.int .u8 1] T)) .u8 (some ⟨W.heap.size, 0, none⟩) 1 [1] := (Gy.Arr.fresh W (nums .u8 [1]) _ rfl T).reads (xs := [1]) (by decide)
theorem same_false : Dig.sameB [1] 0 z32 = false := by
  unfold Dig.sameB
  rw [decide_eq_false (by decide), Bool.false_and]
set_option maxHeartbeats 1000000 in
set_option maxRecDepth 100000 in
theorem awake_calls (w : World) : Calls Tryz.prog 4 #[] w fun e w' => e = .returned (.bool true) ∧ Below w.heap.size w w' := by
  have HS : Hid (∀ (A : Option Addr) (c : Nat) (w : World), ReadsInt w .u8 A 1 [1] → Calls Tryz.prog 6 #[.slice A 1 c, .agg (fileL ⟨#[]⟩ 0 z32 0).toArray] w fun e w' => e = .returned (.bool false) ∧ Below w.heap.size w w') :=
    Lib.hid fun A c w h => by
      rw [← same_false]
      exact Dig.status_same A c [1] ⟨#[]⟩ 0 z32 0 w h (fun x hx => by rw [List.mem_singleton.1 hx]; decide) (by decide) (by decide)
  go_enter Tryz.func4, Tryz.ntmps4
  go_wp2_with (first
    | (go_at_call 6; refine (HS.out _ _ _ (one_at _ _)).mono ?_; rintro e w1 ⟨rfl, e1⟩; have E1 := Lib.hid ((Gy.alloc_below _ _).trans (e1.mono (Gy.alloc_below _ _).size)); clear e1)
    | (go_at_call 8; (with_reducible refine (Path.notFormed_calls _).mono ?_); rintro e w2 ⟨rfl, e1⟩; have E2 := Lib.hid (E1.out.trans (e1.mono E1.out.size)); clear e1))
  go_ret
  exact ⟨rfl, E2.out⟩
theorem box_at (w : World) (nm : ByteArray) (sz : Int) (D : List Int) (first : Int) (cs : Array Value) (h : (fileL nm sz D first).toArray = cs) (T : TypeId) : Gy.Arr (w.alloc (.cells cs T)) w.heap.size (fileL nm sz D first) ∧ Below w.heap.size w (w.alloc (.cells cs T)) := ⟨Gy.Arr.fresh w _ _ h.symm T, Gy.alloc_below _ _⟩
theorem info_file1 : (Tryz.prog.info? 25).map (·.size) = some 35 := by kernel_rfl
theorem load_file {w : World} {b : Nat} {nm : ByteArray} {sz : Int} {D : List Int} {first : Int} (h : Gy.Arr w b (fileL nm sz D first)) (hD : D.length = 32) : (Instr.loadAt 25 (.pointer (some ⟨b, 0, none⟩))).run Tryz.prog w = .ok (.agg (fileL nm sz D first).toArray) w :=
  h.load Tryz.underlying25 rfl (by rw [len_file _ _ _ _ hD]; exact info_file1)
set_option maxHeartbeats 4000000 in
set_option maxRecDepth 100000 in
theorem ss_long (A : Option Addr) (n c : Nat) (cs : Array Value) (own : Bool) (w : World) (hn : 5000 < n) :
    Calls Tryz.prog 3 #[.slice A n c, .agg cs, .bool own] w fun e w' => e = .returned (.bool true) ∧ Below w.heap.size w w' := by
  have g1 : (n : Int) > 5000 := by omega
  have HB := Lib.hid (Gy.alloc_below w (.cells cs 25))
  clear hn
  go_enter Tryz.func3, Tryz.ntmps3
  go_wp2_with (go_at_call 4; (with_reducible refine (awake_calls _).mono ?_); rintro e w1 ⟨rfl, e1⟩; have HB := Lib.hid (HB.out.trans (e1.mono HB.out.size)); clear e1)
  go_ret
  exact ⟨rfl, HB.out⟩
set_option maxHeartbeats 4000000 in
set_option maxRecDepth 100000 in
theorem ss_arg (A : Option Addr) (c : Nat) (xs : List Int) (nm : ByteArray) (sz : Int) (D : List Int) (first : Int) (hD : D.length = 32) (w : World) (hR : ReadsInt w .u8 A xs.length xs) (hb : Bytes xs) (hx : xs.length ≤ 5000) :
    Calls Tryz.prog 3 #[.slice A xs.length c, .agg (fileL nm sz D first).toArray, .bool false] w fun e w' => e = .returned (.bool true) ∧ Below w.heap.size w w' := by
  have g1 : ¬ (xs.length : Int) > 5000 := by omega
  have HR := Lib.hid hR
  have HX := Lib.hid hb
  have HD := Lib.hid hD
  have HL := Lib.hid (show xs.length ≤ 1000000 by omega)
  obtain ⟨cs, hcs⟩ : ∃ cs, (fileL nm sz D first).toArray = cs := ⟨_, rfl⟩
  have HK := Lib.hid (box_at w nm sz D first cs hcs 25)
  have HC := Lib.hid hcs
  rw [hcs]
  clear hR hb hD hx hcs
  go_enter Tryz.func3, Tryz.ntmps3
  go_wp2_with (go_at_call 4; (with_reducible refine (awake_calls _).mono ?_); rintro e w1 ⟨rfl, e1⟩; have HK := Lib.hid (And.intro (HK.out.1.below e1) (HK.out.2.trans (e1.mono HK.out.2.size))); clear e1)
  refine Gy.FlowL.flow (by kernel_rfl) (fun i_ => List.getD [(fun v _ => v = .slice A xs.length c), (fun v _ => v = .agg cs), (fun v _ => v = .bool (Dig.sameB xs sz D)), (fun v _ => v = .slice A xs.length c), (fun v _ => v = .agg cs), (fun v _ => v = .bool (Dig.sameB xs sz D)), (fun v _ => v = .bool true), (fun v _ => v = .bool true)] i_ (fun _ _ => True)) (fun _ w5 => Gy.Arr w5 w.heap.size (fileL nm sz D first) ∧ Below w.heap.size w w5) (fun _ _ => True) (by kernel_rfl) ⟨HK.out.1.drew, pw_below_drewN HK.out.2 1⟩ (Gy.FlowL.mono_list [(fun v _ => v = .slice A xs.length c), (fun v _ => v = .agg cs), (fun v _ => v = .bool (Dig.sameB xs sz D)), (fun v _ => v = .slice A xs.length c), (fun v _ => v = .agg cs), (fun v _ => v = .bool (Dig.sameB xs sz D)), (fun v _ => v = .bool true), (fun v _ => v = .bool true)] ?_) (Gy.FlowL.of_allFrom ⟨?_, ?_, ?_, ?_, ?_, ?_, ?_, ?_, trivial⟩) ?_
  · exact ⟨fun v w w' h hb => h, fun v w w' h hb => h, fun v w w' h hb => h, fun v w w' h hb => h, fun v w w' h hb => h, fun v w w' h hb => h, fun v w w' h hb => h, fun v w w' h hb => h, trivial⟩
  · intro L a w5 hD
    have e0 : a.eval (.tmp 0) = .slice A xs.length c := hD.same.at_other 0 (by kernel_rfl)
    exact Gy.FlowL.step_move rfl rfl (Gy.FlowL.wanted_none rfl) e0 hD.J trivial
  · intro L a w5 hD
    have e4 : a.eval (.tmp 4) = .pointer (some ⟨w.heap.size, 0, none⟩) := hD.same.at_other 4 (by kernel_rfl)
    have hl := load_file hD.J.1 HD.out
    rw [HC.out] at hl
    refine Gy.FlowL.step_value rfl (Gy.FlowL.wanted_none rfl) (v := .agg cs) (w1 := w5) ?_ rfl hD.J trivial
    simp only [execOp, e4, Sem.run_bind, hl, Result.andThen_ok]
    rfl
  · intro L a w5 hD
    have e37 : a.eval (.tmp 37) = .slice A xs.length c := hD.at 0 (by kernel_rfl)
    have e38 : a.eval (.tmp 38) = .agg cs := hD.at 1 (by kernel_rfl)
    refine Gy.FlowL.step_call rfl (args := #[.slice A xs.length c, .agg cs]) (Gy.FlowL.wanted_none rfl) Tryz.func6 (by kernel_rfl) (by kernel_rfl) rfl (by simp only [List.map_toArray, List.map_cons, List.map_nil, e37, e38]) ?_
    have hJ := hD.J
    rw [← HC.out]
    exact (Dig.status_same A c xs nm sz D first w5 (Gy.reads_below HR.out hJ.2) HX.out HL.out HD.out).mono fun e w6 h => ⟨_, h.1, rfl, ⟨hJ.1.below h.2, hJ.2.trans (h.2.mono hJ.2.size)⟩, trivial⟩
  · intro L a w5 hD
    have e0 : a.eval (.tmp 0) = .slice A xs.length c := hD.same.at_other 0 (by kernel_rfl)
    exact Gy.FlowL.step_move rfl rfl (Gy.FlowL.wanted_none rfl) e0 hD.J trivial
  · intro L a w5 hD
    have e4 : a.eval (.tmp 4) = .pointer (some ⟨w.heap.size, 0, none⟩) := hD.same.at_other 4 (by kernel_rfl)
    have hl := load_file hD.J.1 HD.out
    rw [HC.out] at hl
    refine Gy.FlowL.step_value rfl (Gy.FlowL.wanted_none rfl) (v := .agg cs) (w1 := w5) ?_ rfl hD.J trivial
    simp only [execOp, e4, Sem.run_bind, hl, Result.andThen_ok]
    rfl
  · intro L a w5 hD
    have e40 : a.eval (.tmp 40) = .slice A xs.length c := hD.at 3 (by kernel_rfl)
    have e41 : a.eval (.tmp 41) = .agg cs := hD.at 4 (by kernel_rfl)
    refine Gy.FlowL.step_call rfl (args := #[.slice A xs.length c, .agg cs]) (Gy.FlowL.wanted_none rfl) Tryz.func7 (by kernel_rfl) (by kernel_rfl) rfl (by simp only [List.map_toArray, List.map_cons, List.map_nil, e40, e41]) ?_
    have hJ := hD.J
    rw [← HC.out]
    exact (Dig.ref_same A c xs nm sz D first w5 (Gy.reads_below HR.out hJ.2) HX.out HL.out HD.out).mono fun e w6 h => ⟨_, h.1, rfl, ⟨hJ.1.below h.2, hJ.2.trans (h.2.mono hJ.2.size)⟩, trivial⟩
  · intro L a w5 hD
    have e39 : a.eval (.tmp 39) = .bool (Dig.sameB xs sz D) := hD.at 2 (by kernel_rfl)
    have e42 : a.eval (.tmp 42) = .bool (Dig.sameB xs sz D) := hD.at 5 (by kernel_rfl)
    refine Gy.FlowL.step_value rfl (Gy.FlowL.wanted_none rfl) (v := .bool true) (w1 := w5) ?_ rfl hD.J trivial
    generalize Dig.sameB xs sz D = bb at e39 e42
    cases bb <;> (simp only [execOp, e39, e42]; go_simp)
  · intro L a w5 hD
    have e43 : a.eval (.tmp 43) = .bool true := hD.at 6 (by kernel_rfl)
    exact Gy.FlowL.step_assign rfl rfl (Gy.FlowL.wanted_none rfl) e43 hD.J trivial
  · intro L a w5 hs hJ hL hv
    have e6 : a.eval (.tmp 6) = .bool true := hv 7 (by decide)
    go_wp2
    exact bodyPost_ret (results_tmp rfl _ _ _) hs.defers ⟨congrArg Ending.returned e6, hJ.2⟩
/-- one file's cells -/
theorem one_in (w1 : World) (A : Option Addr) (c : Nat) (xs : List Int) (hR : ReadsInt w1 .u8 A xs.length xs) (hb : Bytes xs) (hc : xs.length ≤ c) (T : TypeId) : InAt (w1.alloc (.cells #[.string Path.aB, .slice A xs.length c] T)) w1.heap.size 0 [⟨Path.aB, xs⟩] := by
  have h := Gy.Arr.fresh w1 [.string Path.aB, .slice A xs.length c] _ rfl T
  refine ⟨fun i x hx => ?_, fun i x hx => ?_⟩
  · cases i with
    | zero => simp only [List.getElem?_cons_zero, Option.some.injEq] at hx; subst hx; exact h.cell (i := 0) rfl
    | succ i => simp at hx
  · cases i with
    | zero => simp only [List.getElem?_cons_zero, Option.some.injEq] at hx; subst hx; exact ⟨A, c, h.cell (i := 1) rfl, hc, Gy.reads_below hR (Gy.alloc_below _ _), hb⟩
    | succ i => simp at hx
theorem one_out {w w' : World} {ρ : Nat → Nat} {fv lv rv : Value} {ks : List Value} {xs : List Int} (h : MkOut w w' ρ fv lv rv ks (cutOf 256 [⟨Path.aB, xs⟩])) :
    ∃ g cap, fv = .slice (some ⟨g, 0, none⟩) 1 cap ∧ w'.rangeAt g 0 (fileL Path.aB (xs.length : Int) (sha xs) 0) := by
  have e : (cutOf 256 [⟨Path.aB, xs⟩]).files = [⟨Path.aB, (xs.length : Int), sha xs, 0⟩] := by
    show (Cut.addCs (Cut.addF ⟨[], [], []⟩ ⟨Path.aB, xs⟩) (chunks 256 xs)).files = _
    rw [Cut.addCs_form]
    rfl
  have hf := h.f
  rw [e] at hf
  obtain ⟨g, cap, hv, -, -⟩ := hf.own.form (by simp)
  refine ⟨g, cap, hv, fun j u hu => ?_⟩
  have h1 := hf.own.cells (g := g) (by rw [hv]; rfl) j u (by simpa [FileR.cells] using hu)
  rw [Addr.add_mid] at h1
  exact h1
theorem make_one (w1 : World) (A : Option Addr) (c : Nat) (xs : List Int) (hR : ReadsInt w1 .u8 A xs.length xs) (hb : Bytes xs) (hc : xs.length ≤ c) (hx : xs.length ≤ 5000) (G : Path.Good w1) :
    Calls Tryz.prog 5 #[.slice (some ⟨w1.heap.size, 0, none⟩) 1 1, .int .i64 256] (w1.alloc (.cells #[.string Path.aB, .slice A xs.length c] 36)) fun e w' => ∃ g cap Al nl cl rv, e = .returned (.tuple #[.agg #[.int .i64 256, .slice (some ⟨g, 0, none⟩) 1 cap, .slice Al nl cl], rv, .int .i64 0]) ∧ w'.rangeAt g 0 (fileL Path.aB (xs.length : Int) (sha xs) 0) ∧ Below w1.heap.size w1 w' := by
  have hI := one_in w1 A c xs hR hb hc 36
  have ha := Gy.alloc_below w1 (.cells #[.string Path.aB, .slice A xs.length c] 36)
  have n0 := hI.name 0 _ rfl
  have n1 := (Gy.Arr.fresh w1 [.string Path.aB, .slice A xs.length c] _ rfl 36).cell (i := 1) (v := .slice A xs.length c) rfl
  refine (make_calls (s := 256) (cl := 1) (by omega) (by omega) hI (by simp) (by simp [lensOf]; omega) (fun W hW => ?_)).mono ?_
  · exact Path.check_calls _ A xs.length c hx W ((G.below ha).below hW) (cell_kept hW n0) (cell_kept hW n1)
  · rintro e w' ⟨ρ, fv, lv, rv, ks, rfl, h⟩
    obtain ⟨g, cap, rfl, hr⟩ := one_out h
    obtain ⟨Al, cl, rfl⟩ := Gy.own_slice h.l.own
    exact ⟨g, cap, Al, _, cl, rv, rfl, hr, ha.trans (h.bel.mono ha.size)⟩
set_option maxHeartbeats 4000000 in
set_option maxRecDepth 100000 in
theorem ss_own (A : Option Addr) (c : Nat) (xs : List Int) (nm0 : ByteArray) (sz0 : Int) (D0 : List Int) (first0 : Int) (hD0 : D0.length = 32) (hc : xs.length ≤ c) (w : World) (hR : ReadsInt w .u8 A xs.length xs) (hb : Bytes xs) (hx : xs.length ≤ 5000) (G : Path.Good w) :
    Calls Tryz.prog 3 #[.slice A xs.length c, .agg (fileL nm0 sz0 D0 first0).toArray, .bool true] w fun e w' => e = .returned (.bool true) ∧ Below w.heap.size w w' := by
  have g1 : ¬ (xs.length : Int) > 5000 := by omega
  have HR := Lib.hid hR
  have HX := Lib.hid hb
  have HG := Lib.hid G
  have HCc := Lib.hid hc
  have HD0 := Lib.hid hD0
  have HN := Lib.hid hx
  have HL := Lib.hid (show xs.length ≤ 1000000 by omega)
  obtain ⟨cs0, hcs0⟩ : ∃ cs0, (fileL nm0 sz0 D0 first0).toArray = cs0 := ⟨_, rfl⟩
  have HK0 := Lib.hid (box_at w nm0 sz0 D0 first0 cs0 hcs0 25)
  rw [hcs0]
  clear hR hb hD0 hx hcs0 G hc
  obtain ⟨nm, hnm⟩ : ∃ nm, nm = Path.aB := ⟨_, rfl⟩
  obtain ⟨sz, hsz⟩ : ∃ sz, sz = (xs.length : Int) := ⟨_, rfl⟩
  obtain ⟨D, hD⟩ : ∃ D, D = sha xs := ⟨_, rfl⟩
  obtain ⟨first, hfirst⟩ : ∃ first : Int, first = 0 := ⟨_, rfl⟩
  have HE := Lib.hid (And.intro hnm (And.intro hsz (And.intro hD hfirst)))
  have HD := Lib.hid (show D.length = 32 by rw [hD]; exact Gy.sha_length _)
  clear hnm hsz hD hfirst
  go_enter Tryz.func3, Tryz.ntmps3
  go_wp2_with (first
    | (go_at_call 4; (with_reducible refine (awake_calls _).mono ?_); rintro e w1 ⟨rfl, e1⟩; have HK1 := Lib.hid (And.intro (HK0.out.1.below e1) (HK0.out.2.trans (e1.mono HK0.out.2.size))); clear e1)
    | (go_at_call 5; refine (make_one w1 A c xs (Gy.reads_below HR.out HK1.out.2) HX.out HCc.out HN.out (HG.out.below HK1.out.2)).mono ?_; rintro e w3 ⟨g, cap, Al, nl, cl, rv, rfl, hr, hd⟩; rw [← HE.out.1, ← HE.out.2.1, ← HE.out.2.2.1, ← HE.out.2.2.2] at hr; have HM := Lib.hid hr; have HK3 := Lib.hid (And.intro (HK1.out.1.below hd) (HK1.out.2.trans (hd.mono HK1.out.2.size))); clear hr hd)
    | (with_reducible refine wpList_load_mid rfl 25 (.tmp 35) rfl g 0 rfl (fileL nm sz D first) _ (World.rangeAt_alloc HM.out _) Tryz.underlying25 rfl (by rw [len_file _ _ _ _ HD.out]; exact info_file1) ?_)
    | (with_reducible refine wpList_store_mid rfl 25 (.tmp 4) (.tmp 36) rfl w.heap.size 0 (fileL nm sz D first).toArray rfl rfl ((HK3.out.1.alloc _).there2 _ (by rw [len_file _ _ _ _ HD.out, len_file _ _ _ _ HD0.out])) (by rw [List.size_toArray, len_file _ _ _ _ HD.out]; exact info_file1) (all_oneCell_toArray (one_file _ _ _ _)) ?_))
  have hlen : (fileL nm sz D first).length = (fileL nm0 sz0 D0 first0).length := by rw [len_file _ _ _ _ HD.out, len_file _ _ _ _ HD0.out]
  have HK := Lib.hid (And.intro ((HK3.out.1.alloc (.cells #[.int .i64 256, .slice (some ⟨g, 0, none⟩) 1 cap, .slice Al nl cl] 30)).put (fileL nm sz D first) hlen) (Gy.setCells_below (Nat.le_refl w.heap.size) (fileL nm sz D first) 0 (HK3.out.2.alloc HK3.out.2.size (.cells #[.int .i64 256, .slice (some ⟨g, 0, none⟩) 1 cap, .slice Al nl cl] 30))))
  simp only [Act.put]
  generalize World.setCells _ w.heap.size 0 _ = wv at HK ⊢
  obtain ⟨cs, hcs⟩ : ∃ cs, (fileL nm sz D first).toArray = cs := ⟨_, rfl⟩
  have HC := Lib.hid hcs
  rw [hcs]
  clear hcs hlen HM HK3 HE HN HCc
  refine Gy.FlowL.flow (by kernel_rfl) (fun i_ => List.getD [(fun v _ => v = .slice A xs.length c), (fun v _ => v = .agg cs), (fun v _ => v = .bool (Dig.sameB xs sz D)), (fun v _ => v = .slice A xs.length c), (fun v _ => v = .agg cs), (fun v _ => v = .bool (Dig.sameB xs sz D)), (fun v _ => v = .bool true), (fun v _ => v = .bool true)] i_ (fun _ _ => True)) (fun _ w5 => Gy.Arr w5 w.heap.size (fileL nm sz D first) ∧ Below w.heap.size w w5) (fun _ _ => True) (by kernel_rfl) ⟨HK.out.1.drew, pw_below_drewN HK.out.2 1⟩ (Gy.FlowL.mono_list [(fun v _ => v = .slice A xs.length c), (fun v _ => v = .agg cs), (fun v _ => v = .bool (Dig.sameB xs sz D)), (fun v _ => v = .slice A xs.length c), (fun v _ => v = .agg cs), (fun v _ => v = .bool (Dig.sameB xs sz D)), (fun v _ => v = .bool true), (fun v _ => v = .bool true)] ?_) (Gy.FlowL.of_allFrom ⟨?_, ?_, ?_, ?_, ?_, ?_, ?_, ?_, trivial⟩) ?_
  · exact ⟨fun v w w' h hb => h, fun v w w' h hb => h, fun v w w' h hb => h, fun v w w' h hb => h, fun v w w' h hb => h, fun v w w' h hb => h, fun v w w' h hb => h, fun v w w' h hb => h, trivial⟩
  · intro L a w5 hD
    have e0 : a.eval (.tmp 0) = .slice A xs.length c := hD.same.at_other 0 (by kernel_rfl)
    exact Gy.FlowL.step_move rfl rfl (Gy.FlowL.wanted_none rfl) e0 hD.J trivial
  · intro L a w5 hD
    have e4 : a.eval (.tmp 4) = .pointer (some ⟨w.heap.size, 0, none⟩) := hD.same.at_other 4 (by kernel_rfl)
    have hl := load_file hD.J.1 HD.out
    rw [HC.out] at hl
    refine Gy.FlowL.step_value rfl (Gy.FlowL.wanted_none rfl) (v := .agg cs) (w1 := w5) ?_ rfl hD.J trivial
    simp only [execOp, e4, Sem.run_bind, hl, Result.andThen_ok]
    rfl
  · intro L a w5 hD
    have e37 : a.eval (.tmp 37) = .slice A xs.length c := hD.at 0 (by kernel_rfl)
    have e38 : a.eval (.tmp 38) = .agg cs := hD.at 1 (by kernel_rfl)
    refine Gy.FlowL.step_call rfl (args := #[.slice A xs.length c, .agg cs]) (Gy.FlowL.wanted_none rfl) Tryz.func6 (by kernel_rfl) (by kernel_rfl) rfl (by simp only [List.map_toArray, List.map_cons, List.map_nil, e37, e38]) ?_
    have hJ := hD.J
    rw [← HC.out]
    exact (Dig.status_same A c xs nm sz D first w5 (Gy.reads_below HR.out hJ.2) HX.out HL.out HD.out).mono fun e w6 h => ⟨_, h.1, rfl, ⟨hJ.1.below h.2, hJ.2.trans (h.2.mono hJ.2.size)⟩, trivial⟩
  · intro L a w5 hD
    have e0 : a.eval (.tmp 0) = .slice A xs.length c := hD.same.at_other 0 (by kernel_rfl)
    exact Gy.FlowL.step_move rfl rfl (Gy.FlowL.wanted_none rfl) e0 hD.J trivial
  · intro L a w5 hD
    have e4 : a.eval (.tmp 4) = .pointer (some ⟨w.heap.size, 0, none⟩) := hD.same.at_other 4 (by kernel_rfl)
    have hl := load_file hD.J.1 HD.out
    rw [HC.out] at hl
    refine Gy.FlowL.step_value rfl (Gy.FlowL.wanted_none rfl) (v := .agg cs) (w1 := w5) ?_ rfl hD.J trivial
    simp only [execOp, e4, Sem.run_bind, hl, Result.andThen_ok]
    rfl
  · intro L a w5 hD
    have e40 : a.eval (.tmp 40) = .slice A xs.length c := hD.at 3 (by kernel_rfl)
    have e41 : a.eval (.tmp 41) = .agg cs := hD.at 4 (by kernel_rfl)
    refine Gy.FlowL.step_call rfl (args := #[.slice A xs.length c, .agg cs]) (Gy.FlowL.wanted_none rfl) Tryz.func7 (by kernel_rfl) (by kernel_rfl) rfl (by simp only [List.map_toArray, List.map_cons, List.map_nil, e40, e41]) ?_
    have hJ := hD.J
    rw [← HC.out]
    exact (Dig.ref_same A c xs nm sz D first w5 (Gy.reads_below HR.out hJ.2) HX.out HL.out HD.out).mono fun e w6 h => ⟨_, h.1, rfl, ⟨hJ.1.below h.2, hJ.2.trans (h.2.mono hJ.2.size)⟩, trivial⟩
  · intro L a w5 hD
    have e39 : a.eval (.tmp 39) = .bool (Dig.sameB xs sz D) := hD.at 2 (by kernel_rfl)
    have e42 : a.eval (.tmp 42) = .bool (Dig.sameB xs sz D) := hD.at 5 (by kernel_rfl)
    refine Gy.FlowL.step_value rfl (Gy.FlowL.wanted_none rfl) (v := .bool true) (w1 := w5) ?_ rfl hD.J trivial
    generalize Dig.sameB xs sz D = bb at e39 e42
    cases bb <;> (simp only [execOp, e39, e42]; go_simp)
  · intro L a w5 hD
    have e43 : a.eval (.tmp 43) = .bool true := hD.at 6 (by kernel_rfl)
    exact Gy.FlowL.step_assign rfl rfl (Gy.FlowL.wanted_none rfl) e43 hD.J trivial
  · intro L a w5 hs hJ hL hv
    have e6 : a.eval (.tmp 6) = .bool true := hv 7 (by decide)
    go_wp2
    exact bodyPost_ret (results_tmp rfl _ _ _) hs.defers ⟨congrArg Ending.returned e6, hJ.2⟩
theorem status_same_law (A : Option Addr) (c : Nat) (xs : List Int) (cs : Array Value) (own : Bool) (w : World) (hC : (Kd.int .u8).C w A xs.length xs) (hc : xs.length ≤ c) (hg : xs.length ≤ 9223372036854775807 ∧ ∀ x ∈ xs, (Lit.int .u8 x).wf = true) (h : FileOk cs) (G : Path.Good w) :
    Calls Tryz.prog 3 #[.slice A xs.length c, .agg cs, .bool own] w fun e w' => e = .returned (.bool true) ∧ Below w.heap.size w w' := by
  by_cases hn : 5000 < xs.length
  · exact ss_long A xs.length c cs own w hn
  · have hb : Bytes xs := fun x h => by obtain ⟨n, rfl, h⟩ := Gy.wf_u8 (hg.2 x h); omega
    obtain ⟨nm, sz, D, first, rfl, hD⟩ := h
    cases own with
    | false => exact ss_arg A c xs nm sz D first hD w (Gy.reads_of_kd hC) hb (by omega)
    | true => exact ss_own A c xs nm sz D first hD hc w (Gy.reads_of_kd hC) hb (by omega) G
end Go.Proofs.YtoakjdgknbhgiaaGreatDoor.Cuts
/- What a row hands to the walks of package path that read internal/bytealg.MaxLen alone; and the wrap that hands on both the list and the world's shape. -/
namespace Go.Proofs.YtoakjdgknbhgiaaGreatDoor.Path
open Go Go.RowKit Go.Shelf

theorem good_of {p : Prop} {W : World} (_ : p) (hsh : W.ShapedOpen Tryz.prog) : Good W := ⟨Tryz.splitLay.s1_3 W hsh⟩

/-- the wrap: the row's further condition and the world's shape -/
theorem and_shaped {H : Type} {enc : TypeId × Value → H} {a : Assume} {C : Checked} {os : Os} {f : FuncId} {fn : Func} {s : ChangeSpec} {conds : List PathCond} {X : World → Array Value → Prop}
    (hX : ∀ (w w' : World) (args : Array Value), w.heap = w'.heap → X w args → X w' args)
    (own : ownKnob C.prog.godebug = none) (started : os.Started) (noInit : C.prog.inits.idxOf? f = none) (hfn : C.prog.funcs[f]? = some fn)
    (witness : ∃ (w : World) (tape : Tape) (i : Input), w.os = os ∧ (w.forCall tape i).Shaped C.prog ∧ i.vars = [] ∧ Input.okWide C.prog (w.forCall tape i) .any w.heap.size f i ∧
      ((s.pre enc C.prog fn conds false (w.forCall tape i).memory i.args ∧ X (w.forCall tape i).memory i.args) ∧ sizedMet enc C.prog fn (OpenSpec.ofChange s) false (w.forCall tape i).memory i.args) ∧ a.holds C.prog (lone (Frame.enter C.prog f i.args .normal) [] (w.forCall tape i)))
    (contract : ∀ (W : World) (base : Nat) (args : Array Value) (ds gs : List (DataW H)) (before : List MemPlace),
      (∀ (j : Nat) t v, fn.params[j]? = some t → args[j]? = some v → Value.okWide C.prog W .any base t v) →
      DataW.Whole enc C.prog fn.params.toList s.vars false W args.toList ds gs before → X W args → W.ShapedOpen C.prog →
      Calls C.prog f args W fun e W' => ∃ v, e = .returned v ∧ s.post enc C.prog fn false true false false W args v W') :
    ReturnsInHanded a C os f .any (fun w args => (s.pre enc C.prog fn conds false w args ∧ X w args) ∧ sizedMet enc C.prog fn (OpenSpec.ofChange s) false w args) (s.post enc C.prog fn false true false false) := by
  refine returnsInHanded_of_calls own started noInit witness ?_
  intro w tape i _ hsh _ hok hpre _
  obtain ⟨_, _, _, fn', hfn', _, _, _, _, hval⟩ := hok
  obtain rfl : fn' = fn := Option.some.inj (hfn'.symm.trans hfn)
  obtain ⟨⟨⟨ds, gs, before, hw, hc⟩, hx⟩, hz⟩ := hpre
  refine (contract (w.forCall tape i) w.heap.size i.args ds gs before hval (DataW.Whole.of_heap (w' := w.forCall tape i) (by rfl) hw) (hX _ _ _ (by rfl) hx) hsh).mono fun e W' ⟨v, he, hp⟩ => ?_
  subst he
  exact ChangeSpec.post_blind hp
end Go.Proofs.YtoakjdgknbhgiaaGreatDoor.Path

/- A region that draws its order, all orders at once, with stores: what holds of the world may hang on what has been done. -/
import Derived.Test.YtoakjdgknbhgiaaGreatDoorMSS2
import Derived.RegionTactic
import Derived.RowKit
import Derived.Below
import Derived.Tactics

namespace Gy.FlowL
open Go Go.RowKit
set_option linter.unusedVariables false

/-- what operation j has yielded -/
def At (ops : Array Oper) (a : Act) (j : Nat) : Value := match (ops[j]?).bind (·.dst) with
  | some d => a.tmps.getD d undef
  | none => undef
/-- an act of this region: only its own slots have turned -/
structure Same (ops : Array Oper) (a a' : Act) : Prop where
  defers : a'.defers = a.defers
  size : a'.tmps.size = a.tmps.size
  other : ∀ t, (∀ (j : Nat) (o : Oper), ops[j]? = some o → o.dst ≠ some t) → a'.tmps.getD t undef = a.tmps.getD t undef
/-- each operation writes a slot of its own, and waits for elder ones alone -/
def flowB (ops : Array Oper) (n : Nat) : Bool :=
  (List.range ops.size).all fun i => match ops[i]? with
    | none => true
    | some o => (match o.dst with | some d => decide (d < n) | none => true) &&
        (o.dst.isNone || (List.range i).all fun j => match ops[j]? with | some p => p.dst != o.dst | none => true) &&
        o.after.all fun e => !Region.binds .any e || decide (e.on < i)
section
variable {P : Program} {ops : Array Oper} {Q : Exit → Act → World → Prop} {a a' : Act} {n : Nat}
theorem flow_at (h : flowB ops n = true) {i : Nat} {o : Oper} (ho : ops[i]? = some o) : (∀ d, o.dst = some d → d < n) ∧ (∀ j p d, j < i → ops[j]? = some p → o.dst = some d → p.dst ≠ some d) ∧ (∀ e ∈ o.after, Region.binds .any e = true → e.on < i) := by
  have hi : i < ops.size := (Array.getElem?_eq_some_iff.1 ho).1
  have h1 := List.all_eq_true.1 h i (List.mem_range.2 hi)
  rw [ho] at h1
  simp only [Bool.and_eq_true] at h1
  obtain ⟨⟨h1, h2⟩, h3⟩ := h1
  refine ⟨fun d hd => ?_, fun j p d hj hp hd => ?_, fun e he => ?_⟩
  · rw [hd] at h1; exact of_decide_eq_true h1
  · rw [hd] at h2
    simp only [Option.isNone_some, Bool.false_or] at h2
    have := List.all_eq_true.1 h2 j (List.mem_range.2 hj)
    rw [hp] at this
    simpa using this
  · have := Array.all_eq_true_iff_forall_mem.1 h3 e he
    intro hbe
    simpa [hbe] using this
theorem flow_ne (h : flowB ops n = true) {i j : Nat} {o p : Oper} {d : Tmp} (ho : ops[i]? = some o) (hp : ops[j]? = some p) (hne : i ≠ j) (hd : o.dst = some d) : p.dst ≠ some d := by
  rcases Nat.lt_or_gt_of_ne hne with h1 | h1
  · intro e
    exact (flow_at h hp).2.1 i o d h1 ho e hd
  · exact (flow_at h ho).2.1 j p d h1 hp hd
theorem put_getD_ne {a : Act} {d : Option Tmp} {t : Tmp} (v : Value) (h : d ≠ some t) : (a.put d v).tmps.getD t undef = a.tmps.getD t undef := by
  cases d with
  | none => rfl
  | some d =>
    have hne : d ≠ t := fun e => h (by rw [e])
    simp [Act.put, Array.getElem?_setIfInBounds_ne hne]
theorem put_getD {a : Act} {d : Tmp} (v : Value) (h : d < a.tmps.size) : (a.put (some d) v).tmps.getD d undef = v := by
  simp [Act.put, h]
theorem put_size {a : Act} {d : Option Tmp} (v : Value) : (a.put d v).tmps.size = a.tmps.size := by cases d <;> simp [Act.put]
theorem put_defers {a : Act} {d : Option Tmp} (v : Value) : (a.put d v).defers = a.defers := by cases d <;> rfl
theorem at_put_ne (h : flowB ops n = true) {i j : Nat} {o : Oper} (ho : ops[i]? = some o) (hne : i ≠ j) (v : Value) : At ops (a.put o.dst v) j = At ops a j := by
  unfold At
  cases hp : ops[j]? with
  | none => rfl
  | some p =>
    cases hpd : p.dst with
    | none => simp [hpd]
    | some d =>
      simp only [Option.bind_some, hpd]
      refine put_getD_ne v (fun e => ?_)
      exact flow_ne h hp ho (fun e => hne e.symm) hpd e
theorem at_put (h : flowB ops n = true) {i : Nat} {o : Oper} (ho : ops[i]? = some o) (hn : a.tmps.size = n) (v : Value) : At ops (a.put o.dst v) i = if o.dst = none then undef else v := by
  unfold At
  cases hd : o.dst with
  | none => simp [ho, hd]
  | some d =>
    have hlt := (flow_at h ho).1 d hd
    simp only [ho, Option.bind_some, hd]
    rw [if_neg (by simp)]
    exact put_getD v (hn ▸ hlt)
theorem same_put {i : Nat} {o : Oper} (ho : ops[i]? = some o) (hs : Same ops a a') (v : Value) : Same ops a (a'.put o.dst v) :=
  ⟨(put_defers v).trans hs.defers, (put_size v).trans hs.size, fun t ht => (put_getD_ne v (ht i o ho)).trans (hs.other t ht)⟩
def add (L : Nat → Bool) (i : Nat) : Nat → Bool := fun j => if j = i then true else L j
/-- one operation, out of what it waits for; a store yields nothing -/
def StepOk (P : Program) (ops : Array Oper) (Q : Exit → Act → World → Prop) (V : Value → World → Prop) (J : World → Prop) (E : World → World → Prop) (o : Oper) (a : Act) (w : World) : Prop :=
  ∀ K : Act → World → Prop, (∀ v w', V (if o.dst = none then undef else v) w' → J w' → E w w' → K (a.put o.dst v) w') → if Region.wanted o (yielded ops a.tmps) = true then Oper.wp P o a w K Q else K (a.put o.dst undef) w
def waits (o : Oper) (j : Nat) : Bool := o.after.any fun e => Region.binds .any e && e.on == j
/-- what is done when operation o comes up -/
structure Done (ops : Array Oper) (V : Nat → Value → World → Prop) (J : (Nat → Bool) → World → Prop) (a : Act) (i : Nat) (o : Oper) (L : Nat → Bool) (a' : Act) (w : World) : Prop where
  not : L i = false
  waits : ∀ j, waits o j = true → L j = true
  down : ∀ j p, ops[j]? = some p → L j = true → ∀ k, FlowL.waits p k = true → L k = true
  same : Same ops a a'
  J : J L w
  V : ∀ j, j < ops.size → L j = true → V j (At ops a' j) w
theorem setB {l : Array Bool} {i j : Nat} (hj : j < l.size) : (l.setIfInBounds i true)[j]'(by simpa using hj) = (if i = j then true else l[j]) := by
  rw [Array.getElem_setIfInBounds]
theorem flow_any (V : Nat → Value → World → Prop) (J : (Nat → Bool) → World → Prop) (E : World → World → Prop) (hd : flowB ops a.tmps.size = true) (hV : ∀ i v w w', V i v w → E w w' → V i v w')
    (hstep : ∀ i o, ops[i]? = some o → ∀ L a' w, Done ops V J a i o L a' w → StepOk P ops Q (V i) (J (add L i)) E o a' w)
    (hend : ∀ L a' w, Same ops a a' → J L w → (∀ i, i < ops.size → L i = true) → (∀ i, i < ops.size → V i (At ops a' i) w) → Q .normal a' w) :
    ∀ (fuel : Nat) (listed : Array Bool) (L : Nat → Bool) (a' : Act) (w : World), listed.size = ops.size → ops.size ≤ fuel + listed.toList.countP id → (∀ i, L i = listed.getD i false) → Same ops a a' → J L w →
      (∀ j p, ops[j]? = some p → L j = true → ∀ k, waits p k = true → L k = true) → (∀ i, i < ops.size → L i = true → V i (At ops a' i) w) → wpAny P .any ops Q fuel listed a' w := by
  intro fuel
  have hready : ∀ (listed : Array Bool) i, i ∈ Region.ready .any ops listed → ∃ o, ops[i]? = some o ∧ listed.getD i true = false ∧ ∀ e ∈ o.after, Region.binds .any e = true → listed.getD e.on false = true := by
    intro listed i hi
    unfold Region.ready at hi
    obtain ⟨h1, h2⟩ := List.mem_filter.1 hi
    simp only [Bool.and_eq_true, Bool.not_eq_true'] at h2
    have hlt := List.mem_range.1 h1
    refine ⟨ops[i], Array.getElem?_eq_getElem hlt, h2.1, fun e he hb => ?_⟩
    have h3 := h2.2
    rw [Array.getElem?_eq_getElem hlt] at h3
    simp only [Option.map_some, Option.getD_some] at h3
    have := Array.all_eq_true_iff_forall_mem.1 h3 e he
    simpa [hb] using this
  have hall : ∀ (listed : Array Bool) (L : Nat → Bool) a' w, listed.size = ops.size → (∀ i, L i = listed.getD i false) → Same ops a a' → J L w → (∀ i, i < ops.size → L i = true → V i (At ops a' i) w) → Region.ready .any ops listed = [] → Q .normal a' w := by
    intro listed L a' w hsz hL hs hJ hl hr
    have key : ∀ i (h : i < listed.size), listed[i] = true := by
      intro i
      induction i using Nat.strongRecOn with
      | _ i ih =>
        intro h
        cases hb : listed[i] with
        | true => rfl
        | false =>
          exfalso
          have hi : i < ops.size := by omega
          have : i ∈ Region.ready .any ops listed := by
            unfold Region.ready
            refine List.mem_filter.2 ⟨List.mem_range.2 hi, ?_⟩
            rw [Array.getElem?_eq_getElem hi]
            simp only [Option.map_some, Option.getD_some, Bool.and_eq_true, Bool.not_eq_true']
            refine ⟨by simp [h, hb], Array.all_eq_true_iff_forall_mem.2 fun e he => ?_⟩
            by_cases hbe : Region.binds .any e = true
            · have hlt := (flow_at hd (Array.getElem?_eq_getElem hi)).2.2 e he hbe
              have h2 : e.on < listed.size := by omega
              simp [ih e.on hlt h2, h2]
            · simp [hbe]
          rw [hr] at this
          cases this
    have hLt : ∀ i, i < ops.size → L i = true := fun i hi => by
      rw [hL]
      have h1 : i < listed.size := by omega
      simp [h1, key i h1]
    exact hend L a' w hs hJ hLt (fun i hi => hl i hi (hLt i hi))
  induction fuel with
  | zero =>
    intro listed L a' w hsz hc hL hs hJ hdn hl
    have hz : listed.toList.countP id = listed.toList.length := by
      have := List.countP_le_length (p := id) (l := listed.toList)
      simp only [Array.length_toList] at this ⊢
      omega
    have ht := List.countP_eq_length.1 hz
    have hr : Region.ready .any ops listed = [] := by
      rw [List.eq_nil_iff_forall_not_mem]
      intro i hi
      obtain ⟨o, ho, hf, _⟩ := hready listed i hi
      have hlt : i < listed.size := by have := (Array.getElem?_eq_some_iff.1 ho).1; omega
      have : listed[i] = true := ht _ (by simp)
      simp [hlt, this] at hf
    exact ⟨hr, hall listed L a' w hsz hL hs hJ hl hr⟩
  | succ fuel ih =>
    intro listed L a' w hsz hc hL hs hJ hdn hl
    refine ⟨hall listed L a' w hsz hL hs hJ hl, fun i hi => ?_⟩
    obtain ⟨o, ho, hf, haft⟩ := hready listed i hi
    have hlt : i < listed.size := by have := (Array.getElem?_eq_some_iff.1 ho).1; omega
    have hfi : listed[i] = false := by simpa [hlt] using hf
    have hLi : L i = false := by rw [hL]; simp [hlt, hfi]
    have hw : ∀ j, waits o j = true → L j = true := by
      intro j hj
      unfold waits at hj
      obtain ⟨e, he, hb⟩ := Array.any_eq_true'.1 hj
      simp only [Bool.and_eq_true, beq_iff_eq] at hb
      obtain ⟨hb1, rfl⟩ := hb
      rw [hL]
      exact haft e he hb1
    have hLs : ∀ j, add L i j = (listed.setIfInBounds i true).getD j false := by
      intro j
      unfold add
      by_cases e : j = i
      · subst e
        simp [hlt]
      · rw [if_neg e, hL]
        simp [Array.getElem?_setIfInBounds_ne (fun h => e h.symm)]
    refine wpOp_step ho ?_
    refine fun K hK => hstep i o ho L a' w ⟨hLi, hw, hdn, hs, hJ, hl⟩ K fun v w' hv hJ' hb => hK _ _ (ih _ (add L i) _ _ (by simpa using hsz) ?_ hLs (same_put ho hs v) hJ' (fun j p hp hj k hk => ?_) fun j h hj => ?_)
    · have hcs : (listed.setIfInBounds i true).toList.countP id = listed.toList.countP id + 1 := by
        rw [Array.toList_setIfInBounds, List.countP_set (by simpa using hlt)]
        have : listed.toList[i]'(by simpa using hlt) = false := by simpa using hfi
        simp [this]
      omega
    · unfold add at hj ⊢
      by_cases e : k = i
      · rw [if_pos e]
      · rw [if_neg e]
        by_cases e2 : j = i
        · subst e2
          rw [ho] at hp
          injection hp with hp
          subst hp
          exact hw k hk
        · rw [if_neg e2] at hj
          exact hdn j p hp hj k hk
    · by_cases e : i = j
      · subst e
        rw [at_put hd ho hs.size v]
        exact hv
      · have hj' : L j = true := by
          unfold add at hj
          rwa [if_neg (fun h => e h.symm)] at hj
        rw [at_put_ne hd ho e v]
        exact hV j _ w w' (hl j h hj') hb
/-- The region, all orders at once. -/
theorem flow {id : Nat} {w : World} (hm : P.follows .mixedOrders = true) (V : Nat → Value → World → Prop) (J : (Nat → Bool) → World → Prop) (E : World → World → Prop) (hd : flowB ops a.tmps.size = true) (hJ : J (fun _ => false) w.drew)
    (hV : ∀ i v w w', V i v w → E w w' → V i v w')
    (hstep : ∀ i o, ops[i]? = some o → ∀ L a' w, Done ops V J a i o L a' w → StepOk P ops Q (V i) (J (add L i)) E o a' w)
    (hend : ∀ L a' w, Same ops a a' → J L w → (∀ i, i < ops.size → L i = true) → (∀ i, i < ops.size → V i (At ops a' i) w) → Q .normal a' w) : (Code.region id ops true).wp P Q a w := by
  refine wp_region_any hm (flow_any V J E hd hV hstep hend ops.size _ (fun _ => false) a _ (by simp) (by omega) (fun i => ?_) ⟨rfl, rfl, fun _ _ => rfl⟩ hJ (fun j p _ h => by cases h) fun i h hi => by cases hi)
  by_cases h : i < ops.size <;> simp [h]
end
/-- the act, written out -/
def puts : Act → List Oper → (Nat → Value) → Nat → Act
  | a, [], _, _ => a
  | a, o :: l, vs, k => puts (a.put o.dst (vs k)) l vs (k + 1)
section
variable {ops : Array Oper} {a a' : Act} {n : Nat}
theorem puts_size : ∀ (l : List Oper) (a : Act) (vs : Nat → Value) (k : Nat), (puts a l vs k).tmps.size = a.tmps.size
  | [], _, _, _ => rfl
  | o :: l, a, vs, k => (puts_size l _ vs (k + 1)).trans (put_size _)
theorem puts_defers : ∀ (l : List Oper) (a : Act) (vs : Nat → Value) (k : Nat), (puts a l vs k).defers = a.defers
  | [], _, _, _ => rfl
  | o :: l, a, vs, k => (puts_defers l _ vs (k + 1)).trans (put_defers _)
theorem puts_none (t : Tmp) : ∀ (l : List Oper) (a : Act) (vs : Nat → Value) (k : Nat), (∀ o ∈ l, o.dst ≠ some t) → (puts a l vs k).tmps.getD t undef = a.tmps.getD t undef
  | [], _, _, _, _ => rfl
  | o :: l, a, vs, k, h => (puts_none t l _ vs (k + 1) (fun p hp => h p (List.mem_cons_of_mem _ hp))).trans (put_getD_ne _ (h o List.mem_cons_self))
theorem puts_at (t : Tmp) : ∀ (l : List Oper) (a : Act) (vs : Nat → Value) (k i : Nat) (o : Oper), l[i]? = some o → o.dst = some t → (∀ j p, i < j → l[j]? = some p → p.dst ≠ some t) → t < a.tmps.size → (puts a l vs k).tmps.getD t undef = vs (k + i)
  | [], _, _, _, _, _, h, _, _, _ => by simp at h
  | p :: l, a, vs, k, 0, o, h, hd, hl, ht => by
    simp only [List.getElem?_cons_zero, Option.some.injEq] at h
    subst h
    refine (puts_none t l _ vs (k + 1) (fun q hq => ?_)).trans (by rw [hd]; exact put_getD _ ht)
    obtain ⟨j, hj⟩ := List.getElem?_of_mem hq
    exact hl (j + 1) q (by omega) (by simpa using hj)
  | p :: l, a, vs, k, i + 1, o, h, hd, hl, ht => by
    have := puts_at t l (a.put p.dst (vs k)) vs (k + 1) i o (by simpa using h) hd (fun j q hj hq => hl (j + 1) q (by omega) (by simpa using hq)) (by rw [put_size]; exact ht)
    rw [show k + (i + 1) = k + 1 + i from by omega]
    exact this
theorem same_puts (hd : flowB ops a.tmps.size = true) (hs : Same ops a a') : a' = puts a ops.toList (At ops a') 0 := by
  have h1 : a'.defers = (puts a ops.toList (At ops a') 0).defers := hs.defers.trans (puts_defers _ _ _ _).symm
  have h2 : a'.tmps = (puts a ops.toList (At ops a') 0).tmps := by
    apply Array.ext
    · rw [hs.size, puts_size]
    · intro t h3 h4
      have g3 : a'.tmps[t] = a'.tmps.getD t undef := by simp [h3]
      have g4 : (puts a ops.toList (At ops a') 0).tmps[t] = (puts a ops.toList (At ops a') 0).tmps.getD t undef := by simp [h4]
      rw [g3, g4]
      by_cases hex : ∃ (i : Nat) (o : Oper), ops[i]? = some o ∧ o.dst = some t
      · obtain ⟨i, o, ho, hdo⟩ := hex
        have ht : t < a.tmps.size := by rw [hs.size] at h3; exact h3
        rw [puts_at t ops.toList a (At ops a') 0 i o (by simpa using ho) hdo (fun j p hj hp => by
          have hp' : ops[j]? = some p := by simpa using hp
          exact flow_ne hd ho hp' (by omega) hdo) ht, Nat.zero_add]
        unfold At
        simp only [ho, Option.bind_some, hdo]
      · rw [puts_none t ops.toList a (At ops a') 0 (fun o ho hdo => by
          obtain ⟨i, hi⟩ := List.getElem?_of_mem ho
          exact hex ⟨i, o, by simpa using hi, hdo⟩)]
        exact hs.other t (fun j o ho hdo => hex ⟨j, o, ho, hdo⟩)
  cases a' with
  | mk t d =>
    cases hp : puts a ops.toList (At ops ⟨t, d⟩) 0 with
    | mk t2 d2 =>
      rw [hp] at h1 h2
      simp only at h1 h2
      subst h1 h2
      rfl
end
/-- what each operation's fact needs: that it stays -/
def MonoAll (E : World → World → Prop) : List (Value → World → Prop) → Prop
  | [] => True
  | V :: l => (∀ v w w', V v w → E w w' → V v w') ∧ MonoAll E l
theorem mono_list {E : World → World → Prop} : ∀ (l : List (Value → World → Prop)), MonoAll E l → ∀ (i : Nat) (v : Value) (w w' : World), l.getD i (fun _ _ => True) v w → E w w' → l.getD i (fun _ _ => True) v w'
  | [], _, i, v, w, w', h, hb => by simp
  | V :: l, hl, 0, v, w, w', h, hb => hl.1 v w w' h hb
  | V :: l, hl, i + 1, v, w, w', h, hb => mono_list l hl.2 i v w w' h hb
/-- every operation of a list, with its number -/
def AllFrom (C : Nat → Oper → Prop) : Nat → List Oper → Prop
  | _, [] => True
  | k, o :: l => C k o ∧ AllFrom C (k + 1) l
theorem allFrom_at {C : Nat → Oper → Prop} : ∀ (l : List Oper) (k : Nat), AllFrom C k l → ∀ (i : Nat) (o : Oper), l[i]? = some o → C (k + i) o
  | [], _, _, i, o, h => by simp at h
  | p :: l, k, h, i, o, ho => by
    cases i with
    | zero =>
      simp only [List.getElem?_cons_zero, Option.some.injEq] at ho
      subst ho
      exact h.1
    | succ i =>
      have := allFrom_at l (k + 1) h.2 i o (by simpa using ho)
      rw [show k + (i + 1) = k + 1 + i from by omega]
      exact this
theorem of_allFrom {C : Nat → Oper → Prop} {l : List Oper} (h : AllFrom C 0 l) : ∀ (i : Nat) (o : Oper), l.toArray[i]? = some o → C i o := fun i o ho => by
  have := allFrom_at l 0 h i o (by simpa using ho)
  rwa [Nat.zero_add] at this
def noDst (ops : Array Oper) (t : Tmp) : Bool := ops.all fun o => o.dst != some t
section
variable {P : Program} {ops : Array Oper} {Q : Exit → Act → World → Prop} {a a' : Act} {n : Nat}
theorem Same.at_other (hs : Same ops a a') (t : Tmp) (h : noDst ops t = true) : a'.eval (.tmp t) = a.tmps.getD t undef :=
  hs.other t fun j o ho => by
    have := Array.all_eq_true_iff_forall_mem.1 h o (Array.mem_of_getElem? ho)
    simpa using this
theorem Done.at {V : Nat → Value → World → Prop} {J : (Nat → Bool) → World → Prop} {i : Nat} {o : Oper} {L : Nat → Bool} {w : World} (h : Done ops V J a i o L a' w) (j : Nat) (hj : (FlowL.waits o j && decide (j < ops.size)) = true) : V j (At ops a' j) w := by
  simp only [Bool.and_eq_true, decide_eq_true_eq] at hj
  exact h.V j hj.2 (h.waits j hj.1)
/-- not done: it waits for this one -/
theorem Done.later {V : Nat → Value → World → Prop} {J : (Nat → Bool) → World → Prop} {i : Nat} {o : Oper} {L : Nat → Bool} {w : World} (h : Done ops V J a i o L a' w) (j : Nat) (hj : ((ops[j]?).map fun p => FlowL.waits p i) = some true) : L j = false := by
  obtain ⟨p, hp, hw⟩ := Option.map_eq_some_iff.1 hj
  cases hl : L j with
  | false => rfl
  | true =>
    have := h.down j p hp hl i hw
    rw [h.not] at this
    cases this
section
variable {V : Value → World → Prop} {J : World → Prop} {E : World → World → Prop} {o : Oper} {w : World} {v : Value}
theorem wanted_none (h : o.guard = none) : Region.wanted o (yielded ops a.tmps) = true := by simp [Region.wanted, h]
theorem yielded_of {g : Nat} {b : Bool} (h : At ops a g = .bool b) : yielded ops a.tmps g = some b := by
  unfold At at h
  unfold yielded
  cases hd : (ops[g]?).bind (·.dst) with
  | none => rw [hd] at h; cases h
  | some d =>
    rw [hd] at h
    simp only [Option.bind_some]
    simp only [Array.getD_eq_getD_getElem?] at h
    cases he : a.tmps[d]? with
    | none => rw [he] at h; cases h
    | some u => rw [he] at h; simp only [Option.getD_some] at h; rw [h]
theorem wanted_some {g : Nat} {b : Bool} (h : o.guard = some (g, b)) (hg : At ops a g = .bool b) : Region.wanted o (yielded ops a.tmps) = true := by
  simp [Region.wanted, h, yielded_of hg]
theorem step_value {d : Tmp} {w1 : World} (hdst : o.dst = some d) (hw : Region.wanted o (yielded ops a.tmps) = true) (hrun : (execOp a.eval o).run P w = .ok (.value v) w1) (hV : V v w1) (hJ : J w1) (hb : E w w1) : StepOk P ops Q V J E o a w := by
  intro K hK
  rw [if_pos hw]
  unfold Oper.wp
  rw [hrun]
  exact hK v w1 (by rw [if_neg (by rw [hdst]; simp)]; exact hV) hJ hb
theorem step_skip {w1 : World} (hdst : o.dst = none) (hw : Region.wanted o (yielded ops a.tmps) = true) (hrun : (execOp a.eval o).run P w = .ok .skip w1) (hV : V undef w1) (hJ : J w1) (hb : E w w1) : StepOk P ops Q V J E o a w := by
  intro K hK
  rw [if_pos hw]
  unfold Oper.wp
  rw [hrun]
  exact hK undef w1 (by rw [if_pos hdst]; exact hV) hJ hb
theorem step_move {x : Operand} {d : Tmp} (hop : o.op = .move x) (hdst : o.dst = some d) (hw : Region.wanted o (yielded ops a.tmps) = true) (hV : V (a.eval x) w) (hJ : J w) (hE : E w w) : StepOk P ops Q V J E o a w :=
  step_value hdst hw (by unfold execOp; simp [hop]) hV hJ hE
theorem step_assign {x : Operand} {d : Tmp} (hop : o.op = .assign x) (hdst : o.dst = some d) (hw : Region.wanted o (yielded ops a.tmps) = true) (hV : V (a.eval x) w) (hJ : J w) (hE : E w w) : StepOk P ops Q V J E o a w :=
  step_value hdst hw (by unfold execOp; simp [hop]) hV hJ hE
theorem step_pick {c x y : Operand} {b : Bool} {d : Tmp} (hop : o.op = .pick c x y) (hdst : o.dst = some d) (hw : Region.wanted o (yielded ops a.tmps) = true) (hc : a.eval c = .bool b) (hV : V (a.eval (if b then x else y)) w) (hJ : J w) (hE : E w w) : StepOk P ops Q V J E o a w :=
  step_value hdst hw (by unfold execOp; cases b <;> simp [hop, hc, asBool]) hV hJ hE
theorem step_call {f : FuncId} {fn : Func} {as_ : Array Operand} {ts : Array TypeId} {args : Array Value} {d : Tmp} (hdst : o.dst = some d) (hw : Region.wanted o (yielded ops a.tmps) = true) (hf : P.funcs[f]? = some fn) (hname : (fn.name == "runtime.NumGoroutine") = false) (hb : fn.body.isSome = true)
    (hop : o.op = .call { callee := .value (.func f), args := as_, argTypes := ts }) (hargs : as_.map a.eval = args)
    (h : Calls P f args w fun e w' => ∃ v, e = .returned v ∧ V v w' ∧ J w' ∧ E w w') : StepOk P ops Q V J E o a w := by
  intro K hK
  rw [if_pos hw]
  unfold Oper.wp
  have hrun : (execOp a.eval o).run P w = .ok (.enter f args) w := by
    have h1 : fn.name ≠ "runtime.NumGoroutine" := by simpa using hname
    obtain ⟨c, hc⟩ := Option.isSome_iff_exists.1 hb
    have he : (callFunc f args).run P w = .ok (.enter f args) w := by simp [callFunc, hf, h1, hc]
    unfold execOp
    simp [hop, resolve, Deferred.ofValue, invoke, Act.eval, hargs, he]
  rw [hrun]
  simp only [Oper.upon]
  refine h.mono ?_
  rintro e w' ⟨v, rfl, h1, h2, h3⟩
  exact hK v w' (by rw [if_neg (by rw [hdst]; simp)]; exact h1) h2 h3
end
end
end Gy.FlowL
/- The walk over the reference's digest in pieces: the loops' bodies, frames. -/
namespace Go.Proofs.YtoakjdgknbhgiaaGreatDoor.Dig
open Go Go.RowKit Go.Proofs.YtoakjdgknbhgiaaGreatDoor.QDig Go.Proofs.YtoakjdgknbhgiaaGreatDoorW.PrintWords Go.Proofs.YtoakjdgknbhgiaaGreatDoorW.PrintLast Go.Proofs.YtoakjdgknbhgiaaGreatDoorW.PrintMore Gy

/-- the loops of a text, each ahead of those within it -/
def loopsOf : Code → List Code
  | .loop c => c :: loopsOf c
  | .seq a b => loopsOf a ++ loopsOf b
  | .block _ c => loopsOf c
  | .scope c => loopsOf c
  | .cond _ a b => loopsOf a ++ loopsOf b
  | _ => []
noncomputable def bodyOf (k : Nat) : Code := ((Tryz.f13.body.map loopsOf).getD []).getD k .skip
set_option maxRecDepth 100000 in
theorem frame_out (a : Act) (h : a.tmps.size = 242) (hd : a.defers = []) : a = ⟨#[a.tmps.getD 0 undef, a.tmps.getD 1 undef, a.tmps.getD 2 undef, a.tmps.getD 3 undef, a.tmps.getD 4 undef, a.tmps.getD 5 undef, a.tmps.getD 6 undef, a.tmps.getD 7 undef, a.tmps.getD 8 undef, a.tmps.getD 9 undef, a.tmps.getD 10 undef, a.tmps.getD 11 undef, a.tmps.getD 12 undef, a.tmps.getD 13 undef, a.tmps.getD 14 undef, a.tmps.getD 15 undef, a.tmps.getD 16 undef, a.tmps.getD 17 undef, a.tmps.getD 18 undef, a.tmps.getD 19 undef, a.tmps.getD 20 undef, a.tmps.getD 21 undef, a.tmps.getD 22 undef, a.tmps.getD 23 undef, a.tmps.getD 24 undef, a.tmps.getD 25 undef, a.tmps.getD 26 undef, a.tmps.getD 27 undef, a.tmps.getD 28 undef, a.tmps.getD 29 undef, a.tmps.getD 30 undef, a.tmps.getD 31 undef, a.tmps.getD 32 undef, a.tmps.getD 33 undef, a.tmps.getD 34 undef, a.tmps.getD 35 undef, a.tmps.getD 36 undef, a.tmps.getD 37 undef, a.tmps.getD 38 undef, a.tmps.getD 39 undef, a.tmps.getD 40 undef, a.tmps.getD 41 undef, a.tmps.getD 42 undef, a.tmps.getD 43 undef, a.tmps.getD 44 undef, a.tmps.getD 45 undef, a.tmps.getD 46 undef, a.tmps.getD 47 undef, a.tmps.getD 48 undef, a.tmps.getD 49 undef, a.tmps.getD 50 undef, a.tmps.getD 51 undef, a.tmps.getD 52 undef, a.tmps.getD 53 undef, a.tmps.getD 54 undef, a.tmps.getD 55 undef, a.tmps.getD 56 undef, a.tmps.getD 57 undef, a.tmps.getD 58 undef, a.tmps.getD 59 undef, a.tmps.getD 60 undef, a.tmps.getD 61 undef, a.tmps.getD 62 undef, a.tmps.getD 63 undef, a.tmps.getD 64 undef, a.tmps.getD 65 undef, a.tmps.getD 66 undef, a.tmps.getD 67 undef, a.tmps.getD 68 undef, a.tmps.getD 69 undef, a.tmps.getD 70 undef, a.tmps.getD 71 undef, a.tmps.getD 72 undef, a.tmps.getD 73 undef, a.tmps.getD 74 undef, a.tmps.getD 75 undef, a.tmps.getD 76 undef, a.tmps.getD 77 undef, a.tmps.getD 78 undef, a.tmps.getD 79 undef, a.tmps.getD 80 undef, a.tmps.getD 81 undef, a.tmps.getD 82 undef, a.tmps.getD 83 undef, a.tmps.getD 84 undef, a.tmps.getD 85 undef, a.tmps.getD 86 undef, a.tmps.getD 87 undef, a.tmps.getD 88 undef, a.tmps.getD 89 undef, a.tmps.getD 90 undef, a.tmps.getD 91 undef, a.tmps.getD 92 undef, a.tmps.getD 93 undef, a.tmps.getD 94 undef, a.tmps.getD 95 undef, a.tmps.getD 96 undef, a.tmps.getD 97 undef, a.tmps.getD 98 undef, a.tmps.getD 99 undef, a.tmps.getD 100 undef, a.tmps.getD 101 undef, a.tmps.getD 102 undef, a.tmps.getD 103 undef, a.tmps.getD 104 undef, a.tmps.getD 105 undef, a.tmps.getD 106 undef, a.tmps.getD 107 undef, a.tmps.getD 108 undef, a.tmps.getD 109 undef, a.tmps.getD 110 undef, a.tmps.getD 111 undef, a.tmps.getD 112 undef, a.tmps.getD 113 undef, a.tmps.getD 114 undef, a.tmps.getD 115 undef, a.tmps.getD 116 undef, a.tmps.getD 117 undef, a.tmps.getD 118 undef, a.tmps.getD 119 undef, a.tmps.getD 120 undef, a.tmps.getD 121 undef, a.tmps.getD 122 undef, a.tmps.getD 123 undef, a.tmps.getD 124 undef, a.tmps.getD 125 undef, a.tmps.getD 126 undef, a.tmps.getD 127 undef, a.tmps.getD 128 undef, a.tmps.getD 129 undef, a.tmps.getD 130 undef, a.tmps.getD 131 undef, a.tmps.getD 132 undef, a.tmps.getD 133 undef, a.tmps.getD 134 undef, a.tmps.getD 135 undef, a.tmps.getD 136 undef, a.tmps.getD 137 undef, a.tmps.getD 138 undef, a.tmps.getD 139 undef, a.tmps.getD 140 undef, a.tmps.getD 141 undef, a.tmps.getD 142 undef, a.tmps.getD 143 undef, a.tmps.getD 144 undef, a.tmps.getD 145 undef, a.tmps.getD 146 undef, a.tmps.getD 147 undef, a.tmps.getD 148 undef, a.tmps.getD 149 undef, a.tmps.getD 150 undef, a.tmps.getD 151 undef, a.tmps.getD 152 undef, a.tmps.getD 153 undef, a.tmps.getD 154 undef, a.tmps.getD 155 undef, a.tmps.getD 156 undef, a.tmps.getD 157 undef, a.tmps.getD 158 undef, a.tmps.getD 159 undef, a.tmps.getD 160 undef, a.tmps.getD 161 undef, a.tmps.getD 162 undef, a.tmps.getD 163 undef, a.tmps.getD 164 undef, a.tmps.getD 165 undef, a.tmps.getD 166 undef, a.tmps.getD 167 undef, a.tmps.getD 168 undef, a.tmps.getD 169 undef, a.tmps.getD 170 undef, a.tmps.getD 171 undef, a.tmps.getD 172 undef, a.tmps.getD 173 undef, a.tmps.getD 174 undef, a.tmps.getD 175 undef, a.tmps.getD 176 undef, a.tmps.getD 177 undef, a.tmps.getD 178 undef, a.tmps.getD 179 undef, a.tmps.getD 180 undef, a.tmps.getD 181 undef, a.tmps.getD 182 undef, a.tmps.getD 183 undef, a.tmps.getD 184 undef, a.tmps.getD 185 undef, a.tmps.getD 186 undef, a.tmps.getD 187 undef, a.tmps.getD 188 undef, a.tmps.getD 189 undef, a.tmps.getD 190 undef, a.tmps.getD 191 undef, a.tmps.getD 192 undef, a.tmps.getD 193 undef, a.tmps.getD 194 undef, a.tmps.getD 195 undef, a.tmps.getD 196 undef, a.tmps.getD 197 undef, a.tmps.getD 198 undef, a.tmps.getD 199 undef, a.tmps.getD 200 undef, a.tmps.getD 201 undef, a.tmps.getD 202 undef, a.tmps.getD 203 undef, a.tmps.getD 204 undef, a.tmps.getD 205 undef, a.tmps.getD 206 undef, a.tmps.getD 207 undef, a.tmps.getD 208 undef, a.tmps.getD 209 undef, a.tmps.getD 210 undef, a.tmps.getD 211 undef, a.tmps.getD 212 undef, a.tmps.getD 213 undef, a.tmps.getD 214 undef, a.tmps.getD 215 undef, a.tmps.getD 216 undef, a.tmps.getD 217 undef, a.tmps.getD 218 undef, a.tmps.getD 219 undef, a.tmps.getD 220 undef, a.tmps.getD 221 undef, a.tmps.getD 222 undef, a.tmps.getD 223 undef, a.tmps.getD 224 undef, a.tmps.getD 225 undef, a.tmps.getD 226 undef, a.tmps.getD 227 undef, a.tmps.getD 228 undef, a.tmps.getD 229 undef, a.tmps.getD 230 undef, a.tmps.getD 231 undef, a.tmps.getD 232 undef, a.tmps.getD 233 undef, a.tmps.getD 234 undef, a.tmps.getD 235 undef, a.tmps.getD 236 undef, a.tmps.getD 237 undef, a.tmps.getD 238 undef, a.tmps.getD 239 undef, a.tmps.getD 240 undef, a.tmps.getD 241 undef], []⟩ := by
  have h1 : a.tmps = ((List.range 242).map fun i => a.tmps.getD i undef).toArray := by
    apply Array.ext
    · simp [h]
    · intro i h1 h2
      simp [h1]
  have h2 : a = ⟨((List.range 242).map fun i => a.tmps.getD i undef).toArray, []⟩ := by
    cases a with
    | mk t d => simp only at h1 hd ⊢; rw [hd, ← h1]
  exact h2
set_option maxRecDepth 100000 in
theorem frame_fn (a : Act) (h : a.tmps.size = 242) (hd : a.defers = []) : ∃ v : Nat → Value, (∀ k, v k = a.tmps.getD k undef) ∧ a = ⟨#[v 0, v 1, v 2, v 3, v 4, v 5, v 6, v 7, v 8, v 9, v 10, v 11, v 12, v 13, v 14, v 15, v 16, v 17, v 18, v 19, v 20, v 21, v 22, v 23, v 24, v 25, v 26, v 27, v 28, v 29, v 30, v 31, v 32, v 33, v 34, v 35, v 36, v 37, v 38, v 39, v 40, v 41, v 42, v 43, v 44, v 45, v 46, v 47, v 48, v 49, v 50, v 51, v 52, v 53, v 54, v 55, v 56, v 57, v 58, v 59, v 60, v 61, v 62, v 63, v 64, v 65, v 66, v 67, v 68, v 69, v 70, v 71, v 72, v 73, v 74, v 75, v 76, v 77, v 78, v 79, v 80, v 81, v 82, v 83, v 84, v 85, v 86, v 87, v 88, v 89, v 90, v 91, v 92, v 93, v 94, v 95, v 96, v 97, v 98, v 99, v 100, v 101, v 102, v 103, v 104, v 105, v 106, v 107, v 108, v 109, v 110, v 111, v 112, v 113, v 114, v 115, v 116, v 117, v 118, v 119, v 120, v 121, v 122, v 123, v 124, v 125, v 126, v 127, v 128, v 129, v 130, v 131, v 132, v 133, v 134, v 135, v 136, v 137, v 138, v 139, v 140, v 141, v 142, v 143, v 144, v 145, v 146, v 147, v 148, v 149, v 150, v 151, v 152, v 153, v 154, v 155, v 156, v 157, v 158, v 159, v 160, v 161, v 162, v 163, v 164, v 165, v 166, v 167, v 168, v 169, v 170, v 171, v 172, v 173, v 174, v 175, v 176, v 177, v 178, v 179, v 180, v 181, v 182, v 183, v 184, v 185, v 186, v 187, v 188, v 189, v 190, v 191, v 192, v 193, v 194, v 195, v 196, v 197, v 198, v 199, v 200, v 201, v 202, v 203, v 204, v 205, v 206, v 207, v 208, v 209, v 210, v 211, v 212, v 213, v 214, v 215, v 216, v 217, v 218, v 219, v 220, v 221, v 222, v 223, v 224, v 225, v 226, v 227, v 228, v 229, v 230, v 231, v 232, v 233, v 234, v 235, v 236, v 237, v 238, v 239, v 240, v 241], []⟩ :=
  ⟨fun k => a.tmps.getD k undef, fun _ => rfl, frame_out a h hd⟩
/-- what the frame holds from the chunks' loop on -/
structure FrA (w : World) (g c5 : Nat) (al : List Int) (j : Nat) (a : Act) : Prop where
  size : a.tmps.size = 242
  defers : a.defers = []
  t2 : a.tmps.getD 2 undef = .pointer (some ⟨w.heap.size, 0, none⟩)
  t3 : a.tmps.getD 3 undef = .pointer (some ⟨w.heap.size + 1, 0, none⟩)
  t4 : a.tmps.getD 4 undef = .pointer (some ⟨w.heap.size + 1 + 1, 0, none⟩)
  t5 : a.tmps.getD 5 undef = .slice (some ⟨g, 0, none⟩) al.length c5
  t6 : a.tmps.getD 6 undef = .int .i64 (64 * (j : Int))
structure FrW (w : World) (g gw c5 : Nat) (al : List Int) (j : Nat) (a : Act) : Prop where
  A : FrA w g c5 al j a
  t7 : a.tmps.getD 7 undef = .pointer (some ⟨gw, 0, none⟩)
structure FrX (w : World) (g gw gx c5 : Nat) (al : List Int) (j : Nat) (a : Act) : Prop where
  W : FrW w g gw c5 al j a
  t12 : a.tmps.getD 12 undef = .pointer (some ⟨gx, 0, none⟩)
end Go.Proofs.YtoakjdgknbhgiaaGreatDoor.Dig
/- The walk over the reference's digest in pieces: small facts. -/
namespace Go.Proofs.YtoakjdgknbhgiaaGreatDoor.Dig
open Go Go.RowKit Go.Proofs.YtoakjdgknbhgiaaGreatDoor.QDig Go.Proofs.YtoakjdgknbhgiaaGreatDoorW.PrintWords Go.Proofs.YtoakjdgknbhgiaaGreatDoorW.PrintLast Go.Proofs.YtoakjdgknbhgiaaGreatDoorW.PrintMore Gy

def sliceLen : Value → Nat
  | .slice _ n _ => n
  | _ => 0
set_option maxRecDepth 100000 in
theorem zero_64w : ∃ zs : Array Value, zs = (n64 (List.replicate 64 0)).toArray ∧ ∀ W : World, (zeroValue 67).run Tryz.prog W = .ok (.agg zs) W := by
  refine ⟨_, rfl, fun W => ?_⟩
  kernel_rfl
set_option maxRecDepth 100000 in
theorem zero_8w : ∃ zs : Array Value, zs = (n64 (List.replicate 8 0)).toArray ∧ ∀ W : World, (zeroValue 68).run Tryz.prog W = .ok (.agg zs) W := by
  refine ⟨_, rfl, fun W => ?_⟩
  kernel_rfl
set_option maxRecDepth 100000 in
theorem info_64w : (Tryz.prog.info? 67).map (·.size) = some (n64 kTab).toArray.size := by kernel_rfl
theorem info_8w : (Tryz.prog.info? 68).map (·.size) = some 8 := by kernel_rfl
theorem info_8a (s : St) : (Tryz.prog.info? 68).map (·.size) = some (n64 s.nats).length := info_8w
theorem info_8b (s : St) : (Tryz.prog.info? 68).map (·.size) = some (n64 s.nats).toArray.size := info_8w
theorem own_slice {w : World} {base : Nat} {e : TypeId} {size n : Nat} {v : Value} {xs : List Value} (h : w.ownsRow base e size v n xs) : ∃ A c, v = .slice A n c := by
  rcases h.2 with ⟨rfl, rfl⟩ | ⟨g, c, _, rfl, _⟩
  · exact ⟨none, 0, rfl⟩
  · exact ⟨_, c, rfl⟩
section
variable {P : Program} {ops : Array Oper} {rest : List Oper} {o : Oper} {a : Act} {W : World} {Q : Exit → Act → World → Prop}
theorem run_value {d : Tmp} {v : Value} (hgd : o.guard = none) (hd : o.dst = some d) (hrun : (execOp a.eval o).run P W = .ok (.value v) W) (h : wpList P ops Q rest (a.put (some d) v) W) : wpList P ops Q (o :: rest) a W := by
  refine Kd.event_run hgd hrun ?_
  rw [hd]; exact h
theorem store_row (hgd : o.guard = none) (ty : TypeId) (x y : Operand) (ho : o.op = .store ty x y) (hd : o.dst = none) (b : Nat) (cells : List Value) (hx : a.eval x = .pointer (some ⟨b, 0, none⟩)) (hy : a.eval y = .agg cells.toArray)
    (ht : W.there b 0 cells.toArray.size) (hi : (P.info? ty).map (·.size) = some cells.toArray.size) (h1 : ∀ v ∈ cells, v.oneCell' = true) (h : wpList P ops Q rest a (W.setCells b 0 cells)) : wpList P ops Q (o :: rest) a W := by
  refine wpList_store_mid hgd ty x y ho b 0 cells.toArray hx hy ht hi (all_oneCell_toArray h1) ?_
  rw [hd]; exact h
end
theorem own_below {w w' : World} {base : Nat} {e : TypeId} {size n : Nat} {v : Value} {xs : List Value} (h : w.ownsRow base e size v n xs) (hb : Below w.heap.size w w') : w'.ownsRow base e size v n xs := by
  refine ⟨h.1, ?_⟩
  rcases h.2 with hn | ⟨g, cap, cur, rfl, hg, hc, rest⟩
  · exact .inl hn
  · refine .inr ⟨g, cap, cur, rfl, hg, ?_, rest⟩
    have hlt : g < w.heap.size := by
      rcases Nat.lt_or_ge g w.heap.size with h' | h'
      · exact h'
      · rw [Array.getElem?_eq_none h'] at hc; cases hc
    rw [hb.block g hlt]; exact hc
/-- the bytes that grow -/
structure Gro (b : Nat) (W2 wr : World) (v : Value) (n : Nat) (L : List Int) : Prop where
  own : wr.ownsRow b 5 1 v n (nums .u8 L)
  bel : Below b W2 wr
  len : n = L.length
  le : b ≤ W2.heap.size
theorem Gro.below {b : Nat} {W2 wr w' : World} {v : Value} {n : Nat} {L : List Int} (h : Gro b W2 wr v n L) (hb : Below wr.heap.size wr w') : Gro b W2 w' v n L :=
  ⟨own_below h.own hb, h.bel.trans (hb.mono (Nat.le_trans h.le h.bel.size)), h.len, h.le⟩
theorem Gro.alloc {b : Nat} {W2 wr : World} {v : Value} {n : Nat} {L : List Int} (h : Gro b W2 wr v n L) (o : Obj) : Gro b W2 (wr.alloc o) v n L := h.below (Gy.alloc_below wr o)
theorem Gro.own' {b : Nat} {W2 wr : World} {v : Value} {n : Nat} {L : List Int} (h : Gro b W2 wr v n L) : wr.ownsRow b 5 1 v L.length (nums .u8 L) := by rw [← h.len]; exact h.own
theorem Gro.base {b : Nat} {W2 wr : World} {v : Value} {n : Nat} {L : List Int} (h : Gro b W2 wr v n L) : b ≤ wr.heap.size := Nat.le_trans h.le h.bel.size
theorem gro_next {b : Nat} {W2 w1 : World} {v1 : Value} {L : List Int} (hle : b ≤ W2.heap.size) (ho : w1.ownsRow b 5 1 v1 L.length (nums .u8 L)) (hb : Below b W2 w1) (n : Nat) (hn : n = L.length) : ∃ A c, v1 = .slice A n c ∧ Gro b W2 w1 v1 n L := by
  subst hn
  obtain ⟨A, c, e⟩ := own_slice ho
  exact ⟨A, c, e, ho, hb, rfl, hle⟩
/-- what lies there when the bytes begin to grow -/
structure RefH (w wr : World) (hs : List Nat) : Prop where
  R : Arr wr w.heap.size (nums .u8 (List.replicate 32 0))
  K : Arr wr (w.heap.size + 1) (n64 kTab)
  H : Arr wr (w.heap.size + 1 + 1) (n64 hs)
  B : Below w.heap.size w wr
  sz : wr.heap.size = w.heap.size + 1 + 1 + 1
structure RefK (w wr : World) : Prop where
  R : Arr wr w.heap.size (nums .u8 (List.replicate 32 0))
  K : Arr wr (w.heap.size + 1) (n64 kTab)
  B : Below w.heap.size w wr
  sz : wr.heap.size = w.heap.size + 1 + 1
theorem ref_k (w : World) (z32 zt : Array Value) (h32 : z32 = (nums .u8 (List.replicate 32 0)).toArray) (ht : zt = (n64 (List.replicate 64 0)).toArray) :
    ((w.alloc (.cells z32 23)).alloc (.cells zt 67)).there (w.heap.size + 1) 0 (n64 kTab).toArray.size ∧ RefK w (((w.alloc (.cells z32 23)).alloc (.cells zt 67)).setCells (w.heap.size + 1) 0 (n64 kTab)) := by
  have e1 : ∀ (w : World) (o : Obj), (w.alloc o).heap.size = w.heap.size + 1 := size_alloc'
  have h1 := Arr.fresh w _ z32 h32 23
  have h2 := Arr.fresh (w.alloc (.cells z32 23)) _ zt ht 67
  simp only [e1] at h1 h2
  have hl : (n64 kTab).length = (n64 (List.replicate 64 0)).length := by rw [n64_length, n64_length]; rfl
  refine ⟨h2.there2 _ hl, (h1.alloc _).far_cells (by omega) _ _, h2.put _ hl, setCells_below (by omega) _ _ (((Below.refl w.heap.size w).alloc (Nat.le_refl _) _).alloc (by rw [e1]; omega) _), ?_⟩
  rw [setCells_size, e1, e1]
theorem ref_h {w wr : World} (h : RefK w wr) (zs : Array Value) (hz : zs = (n64 (List.replicate 8 0)).toArray) (s : St) :
    (wr.alloc (.cells zs 68)).there (w.heap.size + 1 + 1) 0 (n64 s.nats).toArray.size ∧ RefH w ((wr.alloc (.cells zs 68)).setCells (w.heap.size + 1 + 1) 0 (n64 s.nats)) s.nats := by
  have h1 := Arr.fresh wr _ zs hz 68
  rw [h.sz] at h1
  have hl : (n64 s.nats).length = (n64 (List.replicate 8 0)).length := by rw [n64_length, n64_length]; rfl
  refine ⟨h1.there2 _ hl, (h.R.alloc _).far_cells (by omega) _ _, (h.K.alloc _).far_cells (by omega) _ _, h1.put _ hl, setCells_below (by omega) _ _ (h.B.alloc (by rw [h.sz]; omega) _), ?_⟩
  rw [setCells_size, size_alloc', h.sz]
theorem one_read (w : World) (x : Int) : ReadsInt (w.alloc (.cells #[.int .u8 x] 5 (0, 0))) .u8 (some ⟨w.heap.size, 0, none⟩) 1 [x] := by
  refine ⟨rfl, by decide, fun _ => ⟨_, rfl, fun j hj => ?_⟩⟩
  obtain rfl : j = 0 := by omega
  rw [Gy.addr_add]
  exact (Arr.fresh w [.int .u8 x] _ rfl 5).cell rfl
theorem gro_start {w W2 : World} {hs : List Nat} (h : RefH w W2 hs) : Gro (w.heap.size + 1 + 1 + 1) W2 (W2.alloc (.cells #[] 5)) (.slice (some ⟨w.heap.size + 1 + 1 + 1, 0, none⟩) 0 0) 0 [] := by
  have h1 := World.ownsRow_lit (base := W2.heap.size) (e := 5) (size := 1) W2 #[] 0 (Nat.le_refl _) (by decide) rfl
  have hz := h.sz
  rw [hz] at h1
  refine ⟨h1, ?_, rfl, by omega⟩
  exact (Gy.alloc_below W2 _).mono (by omega)
def grown (xs : List Int) (m : Nat) : List Int := xs ++ 128 :: List.replicate m 0
theorem grown_length (xs : List Int) (m : Nat) : (grown xs m).length = xs.length + 1 + m := by
  unfold grown; rw [List.length_append, List.length_cons, List.length_replicate]; omega
theorem grown_zero (xs : List Int) : xs ++ [128] = grown xs 0 := rfl
theorem grown_next (xs : List Int) (m : Nat) : grown xs m ++ [0] = grown xs (m + 1) := by
  unfold grown
  rw [List.append_assoc, List.cons_append, List.replicate_succ', ]
theorem grown_end (xs : List Int) (m : Nat) (h : xs.length + 1 + m = padN xs.length - 8) : grown xs m ++ wideN (xs.length * 8) 8 = padded xs := by
  have h1 := padN_le xs.length
  unfold grown padded
  rw [show m = padN xs.length - xs.length - 9 from by omega, wide8_eq]
theorem pad_tests (q : Nat) : ((q % 64 = 56 → (((q : Int) % 64) == 56) = true ∧ (((q : Int) % 64) != 56) = false ∧ ((q % 64) == 56) = true ∧ ((q % 64) != 56) = false)) ∧ (q % 64 ≠ 56 → (((q : Int) % 64) == 56) = false ∧ (((q : Int) % 64) != 56) = true ∧ ((q % 64) == 56) = false ∧ ((q % 64) != 56) = true) := by
  constructor
  · intro h
    have h2 : (q : Int) % 64 = 56 := by omega
    simp [h, h2]
  · intro h
    have h2 : ¬ (q : Int) % 64 = 56 := by omega
    simp [h, h2]
theorem gro_ref {w W2 w5 : World} {hs : List Nat} {A : Option Addr} {n c : Nat} {L : List Int} (G : RefH w W2 hs) (h : Gro (w.heap.size + 1 + 1 + 1) W2 w5 (.slice A n c) n L) (hp : 0 < n) (hl : n ≤ 9223372036854775807) :
    ∃ g, A = some ⟨g, 0, none⟩ ∧ n ≤ c ∧ RefC w w5 g L hs := by
  have hsz := G.sz
  have hlen := h.len
  obtain ⟨g, c', e⟩ := Gy.own_some h.own hp
  injection e with e1 e2 e3
  subst e1 e3
  have hb := h.own.lt g rfl
  have hcap : n ≤ c := by
    rcases h.own.2 with ⟨e, _⟩ | ⟨g', cap, cur, e, _, _, hnc, _⟩
    · cases e
    · injection e with _ _ e3
      subst e3
      exact hnc
  have hbel : Below W2.heap.size W2 w5 := by rw [hsz]; exact h.bel
  have hr := Gy.own_reads h.own' hlen (by omega)
  rw [hlen] at hr
  exact ⟨g, rfl, hcap, G.R.below hbel, G.K.below hbel, G.H.below hbel, hr, G.B.trans (hbel.mono (by omega)), hb.1⟩
theorem Wide_at (y : Int) (v n : Nat) (z : Int) (w : World) (hy : y = (v : Int)) (hz : z = (n : Int)) (hn : n ≤ 1000) (hv : v < 18446744073709551616) :
    Calls Tryz.prog 23 #[.int .u64 y, .int .i64 z] w fun e w' => ∃ A' c', e = .returned (.slice A' n c') ∧ ReadsInt w' .u8 A' n (wideN v n) ∧ Below w.heap.size w w' := by
  subst hy
  exact Wide_calls v n z w hz hn hv
/-- while zeros are added -/
structure Lp (w W2 wr : World) (xs : List Int) (v : Value) (q m : Nat) : Prop where
  G : Gro (w.heap.size + 1 + 1 + 1) W2 wr v q (grown xs m)
  eq : q = xs.length + 1 + m
  le : q ≤ padN xs.length - 8
theorem end_pad {P q c c' : Nat} {A A' : Option Addr} (h : q < P) : P - sliceLen (.slice A' (q + 1) c') < P - sliceLen (.slice A q c) := by
  show P - (q + 1) < P - q
  omega
theorem ref_w {w wr : World} {g : Nat} {al : List Int} {hs : List Nat} (h : RefC w wr g al hs) (hp : 0 < al.length) (zt : Array Value) (hz : zt = (n64 (List.replicate 64 0)).toArray) (b : List Int) : RefW w (wr.alloc (.cells zt 67)) g wr.heap.size al hs (wL b 0) := by
  refine ⟨h.below (Gy.alloc_below wr _), Arr.fresh wr _ zt hz _, ?_⟩
  obtain ⟨ad, e, hc⟩ := h.A.2.2 hp
  injection e with e
  subst e
  have := hc 0 hp
  rw [Gy.addr_add] at this
  exact Gy.cell_lt this
def rorI (n : Int) (x : Nat) : Nat := ror n.toNat x
theorem turned_lit (x : Nat) (n : Int) (w : World) (h : x < 4294967296) (h1 : 1 ≤ n ∧ n ≤ 31) :
    Calls Tryz.prog 25 #[.int .u64 (x : Int), .int .u64 n] w fun e w' => e = .returned (.int .u64 ((rorI n x : Nat) : Int)) ∧ w' = w :=
  turned_same x n w n.toNat h (by omega) (by omega) (by omega)
theorem xor64 {a b : Nat} (ha : a < 4294967296) (hb : b < 4294967296) : Go.bits .xor .u64 (a : Int) (b : Int) = ((a ^^^ b : Nat) : Int) := Go.bits_xor_u64_nat a b (by omega) (by omega)
theorem sig_forms {x15 x2 : Nat} (h15 : x15 < 4294967296) (h2 : x2 < 4294967296) :
    Go.bits .xor .u64 (Go.bits .xor .u64 ((rorI 7 x15 : Nat) : Int) ((rorI 18 x15 : Nat) : Int)) ((x15 : Int) / 8) = ((ss0 x15 : Nat) : Int) ∧ Go.bits .xor .u64 (Go.bits .xor .u64 ((rorI 17 x2 : Nat) : Int) ((rorI 19 x2 : Nat) : Int)) ((x2 : Int) / 1024) = ((ss1 x2 : Nat) : Int) ∧ ss0 x15 < 4294967296 ∧ ss1 x2 < 4294967296 := by
  have e8 : (x15 : Int) / 8 = ((x15 / 8 : Nat) : Int) := by omega
  have e9 : (x2 : Int) / 1024 = ((x2 / 1024 : Nat) : Int) := by omega
  refine ⟨?_, ?_, ss0_lt h15, ss1_lt h2⟩
  · show Go.bits .xor .u64 (Go.bits .xor .u64 ((ror 7 x15 : Nat) : Int) ((ror 18 x15 : Nat) : Int)) ((x15 : Int) / 8) = _
    rw [e8, xor64 (ror_lt h15) (ror_lt h15), xor64 (xor32 (ror_lt h15) (ror_lt h15)) (Nat.lt_of_le_of_lt (Nat.div_le_self _ _) h15)]
    rfl
  · show Go.bits .xor .u64 (Go.bits .xor .u64 ((ror 17 x2 : Nat) : Int) ((ror 19 x2 : Nat) : Int)) ((x2 : Int) / 1024) = _
    rw [e9, xor64 (ror_lt h2) (ror_lt h2), xor64 (xor32 (ror_lt h2) (ror_lt h2)) (Nat.lt_of_le_of_lt (Nat.div_le_self _ _) h2)]
    rfl
theorem sum_forms {a b c d : Nat} (ha : a < 4294967296) (hb : b < 4294967296) (hc : c < 4294967296) (hd : d < 4294967296) :
    IntKind.u64.wrap ((a : Int) + (b : Int)) = (a : Int) + (b : Int) ∧ IntKind.u64.wrap ((a : Int) + (b : Int) + (c : Int)) = (a : Int) + (b : Int) + (c : Int) ∧ IntKind.u64.wrap ((a : Int) + (b : Int) + (c : Int) + (d : Int)) = (a : Int) + (b : Int) + (c : Int) + (d : Int) ∧
      Go.bits .and .u64 ((a : Int) + (b : Int) + (c : Int) + (d : Int)) 4294967295 = (((a + b + c + d) % 4294967296 : Nat) : Int) := by
  refine ⟨u64id (by omega) (by omega), u64id (by omega) (by omega), u64id (by omega) (by omega), ?_⟩
  have h := Go.bits_and_u64_nat (a + b + c + d) 4294967295 (by omega) (by omega)
  rw [mask32] at h
  exact h
structure Sched (wr : World) (gw i x2 x16 x7 : Nat) (u : Value) : Prop where
  c2 : wr.cell? ⟨gw, i - 2, none⟩ = some (.int .u64 (x2 : Int))
  c16 : wr.cell? ⟨gw, i - 16, none⟩ = some (.int .u64 (x16 : Int))
  c7 : wr.cell? ⟨gw, i - 7, none⟩ = some (.int .u64 (x7 : Int))
  cw : wr.cell? ⟨gw, i, none⟩ = some u
  fw : wr.frozen? ⟨gw, i, none⟩ = false
theorem Sched.drewN {wr : World} {gw i x2 x16 x7 : Nat} {u : Value} (n : Nat) (h : Sched wr gw i x2 x16 x7 u) : Sched (wr.drewN n) gw i x2 x16 x7 u := by
  have e : (wr.drewN n).heap = wr.heap := by
    have := fun b => (pw_below_drewN (Below.refl wr.heap.size wr) n).block b
    apply Array.ext_getElem?
    intro b
    by_cases hb : b < wr.heap.size
    · exact this b hb
    · have hs : (wr.drewN n).heap.size = wr.heap.size := by simp
      rw [Array.getElem?_eq_none (by omega), Array.getElem?_eq_none (by omega)]
  obtain ⟨h1, h2, h3, h4, h5⟩ := h
  unfold World.cell? at h1 h2 h3 h4
  unfold World.frozen? at h5
  exact ⟨by unfold World.cell?; rw [e]; exact h1, by unfold World.cell?; rw [e]; exact h2, by unfold World.cell?; rw [e]; exact h3, by unfold World.cell?; rw [e]; exact h4, by unfold World.frozen?; rw [e]; exact h5⟩
theorem Sched.drew {wr : World} {gw i x2 x16 x7 : Nat} {u : Value} (h : Sched wr gw i x2 x16 x7 u) : Sched wr.drew gw i x2 x16 x7 u := ⟨h.c2, h.c16, h.c7, h.cw, h.fw⟩
theorem up_64 {i : Nat} (h : i < 64) : wrap64 ((i : Int) + 1) = (i : Int) + 1 := by unfold wrap64; omega
theorem end_16 {i : Nat} (h : i < 16) : 16 - (intOf (Value.int .i64 ((i : Int) + 1))).toNat < 16 - (intOf (Value.int .i64 (i : Int))).toNat := by
  show 16 - ((i : Int) + 1).toNat < 16 - ((i : Int)).toNat
  omega
theorem wAt_take (b : List Int) {i : Nat} (h : i < 16) : num4 ((b.drop (4 * i)).take 4) = wAt b i := by rw [num4_take, wAt_low b h]
/-- all[64j+4i : 64j+4i+4] -/
theorem mid_ref (A : Option Addr) (c : Nat) (b : List Int) (j i : Nat) (hi : i < 16) (h : 64 * j + 64 ≤ b.length) (hc : b.length ≤ c) :
    ∃ A' c', (∀ W : World, (Instr.slice 22 (.slice A b.length c) (some (.int .i64 (64 * (j : Int) + 4 * (i : Int)))) (some (.int .i64 (64 * (j : Int) + 4 * (i : Int) + 4))) none).run Tryz.prog W = .ok (.slice A' 4 c') W) ∧ (∀ w : World, ReadsInt w .u8 A b.length b → ReadsInt w .u8 A' 4 (((b.drop (64 * j)).drop (4 * i)).take 4)) ∧ 4 ≤ c' := by
  obtain ⟨A', h1, h2⟩ := Gy.mid_at (P := Tryz.prog) 22 5 Tryz.underlying22 info_u8 A c b (64 * j + 4 * i) 4 (by omega) hc
  have e : ((64 * j + 4 * i : Nat) : Int) = 64 * (j : Int) + 4 * (i : Int) := by omega
  rw [e] at h1
  refine ⟨A', c - (64 * j + 4 * i), h1, fun w hr => ?_, by omega⟩
  rw [List.drop_drop]
  exact h2 w hr
end Go.Proofs.YtoakjdgknbhgiaaGreatDoor.Dig
/- The walk over the reference's digest in pieces: the words of a chunk, from the seventeenth on. -/
namespace Go.Proofs.YtoakjdgknbhgiaaGreatDoor.Dig
open Go Go.RowKit Go.Proofs.YtoakjdgknbhgiaaGreatDoor.QDig Go.Proofs.YtoakjdgknbhgiaaGreatDoorW.PrintWords Go.Proofs.YtoakjdgknbhgiaaGreatDoorW.PrintLast Go.Proofs.YtoakjdgknbhgiaaGreatDoorW.PrintMore Gy

set_option maxHeartbeats 2000000 in
set_option maxRecDepth 100000 in
theorem l4_step {u0 u1 u8 u10 u11 u12 u13 u14 u15 u16 u17 u18 u19 u20 u21 u22 u23 u24 u25 u26 u27 u28 u29 u30 u31 u32 u33 u34 u35 u36 u37 u38 u39 u40 u41 u42 u43 u44 u45 u46 u47 u48 u49 u50 u51 u52 u53 u54 u55 u56 u57 u58 u59 u60 u61 u62 u63 u64 u65 u66 u67 u68 u69 u70 u71 u72 u73 u74 u75 u76 u77 u78 u79 u80 u81 u82 u83 u84 u85 u86 u87 u88 u89 u90 u91 u92 u93 u94 u95 u96 u97 u98 u99 u100 u101 u102 u103 u104 u105 u106 u107 u108 u109 u110 u111 u112 u113 u114 u115 u116 u117 u118 u119 u120 u121 u122 u123 u124 u125 u126 u127 u128 u129 u130 u131 u132 u133 u134 u135 u136 u137 u138 u139 u140 u141 u142 u143 u144 u145 u146 u147 u148 u149 u150 u151 u152 u153 u154 u155 u156 u157 u158 u159 u160 u161 u162 u163 u164 u165 u166 u167 u168 u169 u170 u171 u172 u173 u174 u175 u176 u177 u178 u179 u180 u181 u182 u183 u184 u185 u186 u187 u188 u189 u190 u191 u192 u193 u194 u195 u196 u197 u198 u199 u200 u201 u202 u203 u204 u205 u206 u207 u208 u209 u210 u211 u212 u213 u214 u215 u216 u217 u218 u219 u220 u221 u222 u223 u224 u225 u226 u227 u228 u229 u230 u231 u232 u233 u234 u235 u236 u237 u238 u239 u240 u241 : Value} {w wr : World} {g gw c5 j i : Nat} {al : List Int} {s : St} (Q : Exit → Act → World → Prop) (hb : Bytes al) (hi16 : 16 ≤ i) (hi64 : i < 64) (hM : RefW w wr g gw al s.nats (wL (al.drop (64 * j)) i))
    (hQ : ∀ a' w', FrW w g gw c5 al j a' → a'.tmps.getD 9 undef = .int .i64 ((i : Int) + 1) → RefW w w' g gw al s.nats (wL (al.drop (64 * j)) (i + 1)) → Q .normal a' w') :
    Code.wp Tryz.prog (bodyOf 3) Q ⟨#[u0, u1, .pointer (some ⟨w.heap.size, 0, none⟩), .pointer (some ⟨w.heap.size + 1, 0, none⟩), .pointer (some ⟨w.heap.size + 1 + 1, 0, none⟩), .slice (some ⟨g, 0, none⟩) al.length c5, .int .i64 (64 * (j : Int)), .pointer (some ⟨gw, 0, none⟩), u8, .int .i64 (i : Int), u10, u11, u12, u13, u14, u15, u16, u17, u18, u19, u20, u21, u22, u23, u24, u25, u26, u27, u28, u29, u30, u31, u32, u33, u34, u35, u36, u37, u38, u39, u40, u41, u42, u43, u44, u45, u46, u47, u48, u49, u50, u51, u52, u53, u54, u55, u56, u57, u58, u59, u60, u61, u62, u63, u64, u65, u66, u67, u68, u69, u70, u71, u72, u73, u74, u75, u76, u77, u78, u79, u80, u81, u82, u83, u84, u85, u86, u87, u88, u89, u90, u91, u92, u93, u94, u95, u96, u97, u98, u99, u100, u101, u102, u103, u104, u105, u106, u107, u108, u109, u110, u111, u112, u113, u114, u115, u116, u117, u118, u119, u120, u121, u122, u123, u124, u125, u126, u127, u128, u129, u130, u131, u132, u133, u134, u135, u136, u137, u138, u139, u140, u141, u142, u143, u144, u145, u146, u147, u148, u149, u150, u151, u152, u153, u154, u155, u156, u157, u158, u159, u160, u161, u162, u163, u164, u165, u166, u167, u168, u169, u170, u171, u172, u173, u174, u175, u176, u177, u178, u179, u180, u181, u182, u183, u184, u185, u186, u187, u188, u189, u190, u191, u192, u193, u194, u195, u196, u197, u198, u199, u200, u201, u202, u203, u204, u205, u206, u207, u208, u209, u210, u211, u212, u213, u214, u215, u216, u217, u218, u219, u220, u221, u222, u223, u224, u225, u226, u227, u228, u229, u230, u231, u232, u233, u234, u235, u236, u237, u238, u239, u240, u241], []⟩ wr := by
  conv => arg 2; whnf
  have HQ := Lib.hid hQ
  have t5 : decide ((i : Int) < 64) = true := by simp; omega
  clear hQ
  have HI := Lib.hid (And.intro hi16 hi64)
  have HI17 := Lib.hid (show 16 ≤ i + 1 by omega)
  have HWA := Lib.hid (wAt_high (al.drop (64 * j)) (show ¬ i < 16 by omega))
  have c15 := hM.cell (by omega) (i - 15) (by omega)
  have c2 := hM.cell (by omega) (i - 2) (by omega)
  have c16 := hM.cell (by omega) (i - 16) (by omega)
  have c7 := hM.cell (by omega) (i - 7) (by omega)
  have HBT := Lib.hid (hb.drop (64 * j))
  have l16 := wAt_lt HBT.out (i - 16)
  have l15 := wAt_lt HBT.out (i - 15)
  have l7 := wAt_lt HBT.out (i - 7)
  have l2 := wAt_lt HBT.out (i - 2)
  obtain ⟨⟨u0, cw⟩, fw⟩ := hM.there (i := i) (by rw [wL_length _ _ (by omega)]; omega)
  obtain ⟨e15, e2, l15s, l2s⟩ := sig_forms l15 l2
  
  generalize wAt (al.drop (64 * j)) (i - 16) = x16 at c16 l16 HWA
  generalize wAt (al.drop (64 * j)) (i - 15) = x15 at c15 l15 HWA e15 l15s
  generalize wAt (al.drop (64 * j)) (i - 7) = x7 at c7 l7 HWA
  generalize wAt (al.drop (64 * j)) (i - 2) = x2 at c2 l2 HWA e2 l2s
  have L15 := Lib.hid l15
  have L2 := Lib.hid l2
  have z15 : (15 : Int) ≤ (i : Int) := by have := HI.out.1; omega
  have z2 : (2 : Int) ≤ (i : Int) := by have := HI.out.1; omega
  have b15 : (i : Int) - 15 < 64 := by have := HI.out.2; omega
  have b2 : (i : Int) - 2 < 64 := by have := HI.out.2; omega
  have bi : (i : Int) < 64 := by have := HI.out.2; omega
  have ti : decide ((i : Int) < 64) = true := t5
  go_wp2
  go_quiet ((go_at_call 25; exact Calls.quiet_of_same (turned_lit _ _ _ (by assumption) (by decide))))
  have M1 := Lib.hid (And.intro (hM.below (pw_below_drewN (Below.refl _ _) nq)) (Sched.drewN nq ⟨c2, c16, c7, cw, fw⟩))
  generalize wr.drewN nq = wq at M1 ⊢
  clear c15 b15 z15 e15 c2 c16 c7 cw fw
  obtain ⟨c2, c16, c7, cw, fw⟩ := M1.out.2
  go_wp2
  go_quiet ((go_at_call 25; exact Calls.quiet_of_same (turned_lit _ _ _ (by assumption) (by decide))))
  have M2 := Lib.hid (And.intro (M1.out.1.below (pw_below_drewN (Below.refl _ _) nq)) (Sched.drewN nq ⟨c2, c16, c7, cw, fw⟩))
  generalize wq.drewN nq = wv at M2 ⊢
  clear b2 z2 e2 c2 c16 c7 cw fw M1
  obtain ⟨_, c16, c7, cw, fw⟩ := M2.out.2
  obtain ⟨s1, s2, s3, s4⟩ := sum_forms l16 l15s l7 l2s
  obtain ⟨p16, q16, r16⟩ := sub_facts i 16 16 rfl (by have := HI.out.1; omega) (by have := HI.out.2; omega)
  obtain ⟨p7, q7, r7⟩ := sub_facts i 7 7 rfl (by have := HI.out.1; omega) (by have := HI.out.2; omega)
  have b16 : (i : Int) - 16 < 64 := by have := HI.out.2; omega
  have b7 : (i : Int) - 7 < 64 := by have := HI.out.2; omega
  have z16 : (16 : Int) ≤ (i : Int) := by have := HI.out.1; omega
  have z7 : (7 : Int) ≤ (i : Int) := by have := HI.out.1; omega
  go_wp2
  refine Gy.FlowL.flow (by kernel_rfl) (fun i_ => List.getD [(fun v _ => v = .int .i64 (i : Int)), (fun v _ => v = .int .i64 (i : Int)), (fun v _ => v = .int .i64 ((i : Int) - 16)), (fun v _ => v = .pointer (some ⟨gw, i - 16, none⟩)), (fun v _ => v = .int .u64 (x16 : Int)), (fun v _ => v = .int .u64 ((ss0 x15 : Nat) : Int)), (fun v _ => v = .int .u64 ((x16 : Int) + ((ss0 x15 : Nat) : Int))), (fun v _ => v = .int .i64 (i : Int)), (fun v _ => v = .int .i64 ((i : Int) - 7)), (fun v _ => v = .pointer (some ⟨gw, i - 7, none⟩)), (fun v _ => v = .int .u64 (x7 : Int)), (fun v _ => v = .int .u64 ((x16 : Int) + ((ss0 x15 : Nat) : Int) + (x7 : Int))), (fun v _ => v = .int .u64 ((ss1 x2 : Nat) : Int)), (fun v _ => v = .int .u64 ((x16 : Int) + ((ss0 x15 : Nat) : Int) + (x7 : Int) + ((ss1 x2 : Nat) : Int))), (fun v _ => v = .int .u64 (((x16 + ss0 x15 + x7 + ss1 x2) % 4294967296 : Nat) : Int)), (fun v _ => v = .pointer (some ⟨gw, i, none⟩)), (fun _ _ => True)] i_ (fun _ _ => True)) (fun L w => (L 16 = false → w = wv.drew) ∧ (L 16 = true → w = wv.drew.setCell ⟨gw, i, none⟩ (.int .u64 (((x16 + ss0 x15 + x7 + ss1 x2) % 4294967296 : Nat) : Int)))) (fun _ _ => True) (by kernel_rfl) ⟨fun _ => rfl, fun h => by cases h⟩ (Gy.FlowL.mono_list [(fun v _ => v = .int .i64 (i : Int)), (fun v _ => v = .int .i64 (i : Int)), (fun v _ => v = .int .i64 ((i : Int) - 16)), (fun v _ => v = .pointer (some ⟨gw, i - 16, none⟩)), (fun v _ => v = .int .u64 (x16 : Int)), (fun v _ => v = .int .u64 ((ss0 x15 : Nat) : Int)), (fun v _ => v = .int .u64 ((x16 : Int) + ((ss0 x15 : Nat) : Int))), (fun v _ => v = .int .i64 (i : Int)), (fun v _ => v = .int .i64 ((i : Int) - 7)), (fun v _ => v = .pointer (some ⟨gw, i - 7, none⟩)), (fun v _ => v = .int .u64 (x7 : Int)), (fun v _ => v = .int .u64 ((x16 : Int) + ((ss0 x15 : Nat) : Int) + (x7 : Int))), (fun v _ => v = .int .u64 ((ss1 x2 : Nat) : Int)), (fun v _ => v = .int .u64 ((x16 : Int) + ((ss0 x15 : Nat) : Int) + (x7 : Int) + ((ss1 x2 : Nat) : Int))), (fun v _ => v = .int .u64 (((x16 + ss0 x15 + x7 + ss1 x2) % 4294967296 : Nat) : Int)), (fun v _ => v = .pointer (some ⟨gw, i, none⟩)), (fun _ _ => True)] ?_) (Gy.FlowL.of_allFrom ⟨?_, ?_, ?_, ?_, ?_, ?_, ?_, ?_, ?_, ?_, ?_, ?_, ?_, ?_, ?_, ?_, ?_, trivial⟩) ?_
  · exact ⟨fun v w w' h hb => h, fun v w w' h hb => h, fun v w w' h hb => h, fun v w w' h hb => h, fun v w w' h hb => h, fun v w w' h hb => h, fun v w w' h hb => h, fun v w w' h hb => h, fun v w w' h hb => h, fun v w w' h hb => h, fun v w w' h hb => h, fun v w w' h hb => h, fun v w w' h hb => h, fun v w w' h hb => h, fun v w w' h hb => h, fun v w w' h hb => h, fun v w w' h hb => h, trivial⟩
  · intro L a w hD
    have e9 : a.eval (.tmp 9) = .int .i64 (i : Int) := hD.same.at_other 9 (by kernel_rfl)
    exact Gy.FlowL.step_move rfl rfl (Gy.FlowL.wanted_none rfl) e9 hD.J trivial
  · intro L a w hD
    have e9 : a.eval (.tmp 9) = .int .i64 (i : Int) := hD.same.at_other 9 (by kernel_rfl)
    exact Gy.FlowL.step_move rfl rfl (Gy.FlowL.wanted_none rfl) e9 hD.J trivial
  · intro L a w hD
    have e104 : a.eval (.tmp 104) = .int .i64 (i : Int) := hD.at 1 (by kernel_rfl)
    have f104 := e104; simp only [Act.eval, Array.getD_eq_getD_getElem?] at f104
    refine Gy.FlowL.step_value rfl (Gy.FlowL.wanted_none rfl) (v := .int .i64 ((i : Int) - 16)) (w1 := w) ?_ rfl hD.J trivial
    simp only [execOp, e104]; go_simp
  · intro L a w hD
    have e7 : a.eval (.tmp 7) = .pointer (some ⟨gw, 0, none⟩) := hD.same.at_other 7 (by kernel_rfl)
    have e105 : a.eval (.tmp 105) = .int .i64 ((i : Int) - 16) := hD.at 2 (by kernel_rfl)
    have f7 := e7; simp only [Act.eval, Array.getD_eq_getD_getElem?] at f7
    have f105 := e105; simp only [Act.eval, Array.getD_eq_getD_getElem?] at f105
    refine Gy.FlowL.step_value rfl (Gy.FlowL.wanted_none rfl) (v := .pointer (some ⟨gw, i - 16, none⟩)) (w1 := w) ?_ rfl hD.J trivial
    simp only [execOp, e7, e105]; go_simp
  · intro L a w hD
    have e106 : a.eval (.tmp 106) = .pointer (some ⟨gw, i - 16, none⟩) := hD.at 3 (by kernel_rfl)
    have hw := hD.J.1 (hD.later 16 (by kernel_rfl))
    have f106 := e106; simp only [Act.eval, Array.getD_eq_getD_getElem?] at f106
    have hJ := hD.J
    clear hD
    subst hw
    refine Gy.FlowL.step_value rfl (Gy.FlowL.wanted_none rfl) (v := .int .u64 (x16 : Int)) (w1 := wv.drew) ?_ rfl hJ trivial
    simp only [execOp, e106]; go_simp
  · intro L a w hD
    have e10 : a.eval (.tmp 10) = .int .u64 ((ss0 x15 : Nat) : Int) := hD.same.at_other 10 (by kernel_rfl)
    exact Gy.FlowL.step_move rfl rfl (Gy.FlowL.wanted_none rfl) e10 hD.J trivial
  · intro L a w hD
    have e107 : a.eval (.tmp 107) = .int .u64 (x16 : Int) := hD.at 4 (by kernel_rfl)
    have e108 : a.eval (.tmp 108) = .int .u64 ((ss0 x15 : Nat) : Int) := hD.at 5 (by kernel_rfl)
    have f107 := e107; simp only [Act.eval, Array.getD_eq_getD_getElem?] at f107
    have f108 := e108; simp only [Act.eval, Array.getD_eq_getD_getElem?] at f108
    refine Gy.FlowL.step_value rfl (Gy.FlowL.wanted_none rfl) (v := .int .u64 ((x16 : Int) + ((ss0 x15 : Nat) : Int))) (w1 := w) ?_ rfl hD.J trivial
    simp only [execOp, e107, e108]; go_simp
  · intro L a w hD
    have e9 : a.eval (.tmp 9) = .int .i64 (i : Int) := hD.same.at_other 9 (by kernel_rfl)
    exact Gy.FlowL.step_move rfl rfl (Gy.FlowL.wanted_none rfl) e9 hD.J trivial
  · intro L a w hD
    have e110 : a.eval (.tmp 110) = .int .i64 (i : Int) := hD.at 7 (by kernel_rfl)
    have f110 := e110; simp only [Act.eval, Array.getD_eq_getD_getElem?] at f110
    refine Gy.FlowL.step_value rfl (Gy.FlowL.wanted_none rfl) (v := .int .i64 ((i : Int) - 7)) (w1 := w) ?_ rfl hD.J trivial
    simp only [execOp, e110]; go_simp
  · intro L a w hD
    have e7 : a.eval (.tmp 7) = .pointer (some ⟨gw, 0, none⟩) := hD.same.at_other 7 (by kernel_rfl)
    have e111 : a.eval (.tmp 111) = .int .i64 ((i : Int) - 7) := hD.at 8 (by kernel_rfl)
    have f7 := e7; simp only [Act.eval, Array.getD_eq_getD_getElem?] at f7
    have f111 := e111; simp only [Act.eval, Array.getD_eq_getD_getElem?] at f111
    refine Gy.FlowL.step_value rfl (Gy.FlowL.wanted_none rfl) (v := .pointer (some ⟨gw, i - 7, none⟩)) (w1 := w) ?_ rfl hD.J trivial
    simp only [execOp, e7, e111]; go_simp
  · intro L a w hD
    have e112 : a.eval (.tmp 112) = .pointer (some ⟨gw, i - 7, none⟩) := hD.at 9 (by kernel_rfl)
    have hw := hD.J.1 (hD.later 16 (by kernel_rfl))
    have f112 := e112; simp only [Act.eval, Array.getD_eq_getD_getElem?] at f112
    have hJ := hD.J
    clear hD
    subst hw
    refine Gy.FlowL.step_value rfl (Gy.FlowL.wanted_none rfl) (v := .int .u64 (x7 : Int)) (w1 := wv.drew) ?_ rfl hJ trivial
    simp only [execOp, e112]; go_simp
  · intro L a w hD
    have e109 : a.eval (.tmp 109) = .int .u64 ((x16 : Int) + ((ss0 x15 : Nat) : Int)) := hD.at 6 (by kernel_rfl)
    have e113 : a.eval (.tmp 113) = .int .u64 (x7 : Int) := hD.at 10 (by kernel_rfl)
    have f109 := e109; simp only [Act.eval, Array.getD_eq_getD_getElem?] at f109
    have f113 := e113; simp only [Act.eval, Array.getD_eq_getD_getElem?] at f113
    refine Gy.FlowL.step_value rfl (Gy.FlowL.wanted_none rfl) (v := .int .u64 ((x16 : Int) + ((ss0 x15 : Nat) : Int) + (x7 : Int))) (w1 := w) ?_ rfl hD.J trivial
    simp only [execOp, e109, e113]; go_simp
  · intro L a w hD
    have e11 : a.eval (.tmp 11) = .int .u64 ((ss1 x2 : Nat) : Int) := hD.same.at_other 11 (by kernel_rfl)
    exact Gy.FlowL.step_move rfl rfl (Gy.FlowL.wanted_none rfl) e11 hD.J trivial
  · intro L a w hD
    have e114 : a.eval (.tmp 114) = .int .u64 ((x16 : Int) + ((ss0 x15 : Nat) : Int) + (x7 : Int)) := hD.at 11 (by kernel_rfl)
    have e115 : a.eval (.tmp 115) = .int .u64 ((ss1 x2 : Nat) : Int) := hD.at 12 (by kernel_rfl)
    have f114 := e114; simp only [Act.eval, Array.getD_eq_getD_getElem?] at f114
    have f115 := e115; simp only [Act.eval, Array.getD_eq_getD_getElem?] at f115
    refine Gy.FlowL.step_value rfl (Gy.FlowL.wanted_none rfl) (v := .int .u64 ((x16 : Int) + ((ss0 x15 : Nat) : Int) + (x7 : Int) + ((ss1 x2 : Nat) : Int))) (w1 := w) ?_ rfl hD.J trivial
    simp only [execOp, e114, e115]; go_simp
  · intro L a w hD
    have e116 : a.eval (.tmp 116) = .int .u64 ((x16 : Int) + ((ss0 x15 : Nat) : Int) + (x7 : Int) + ((ss1 x2 : Nat) : Int)) := hD.at 13 (by kernel_rfl)
    have f116 := e116; simp only [Act.eval, Array.getD_eq_getD_getElem?] at f116
    refine Gy.FlowL.step_value rfl (Gy.FlowL.wanted_none rfl) (v := .int .u64 (((x16 + ss0 x15 + x7 + ss1 x2) % 4294967296 : Nat) : Int)) (w1 := w) ?_ rfl hD.J trivial
    simp only [execOp, e116]; go_simp
  · intro L a w hD
    have e7 : a.eval (.tmp 7) = .pointer (some ⟨gw, 0, none⟩) := hD.same.at_other 7 (by kernel_rfl)
    have e103 : a.eval (.tmp 103) = .int .i64 (i : Int) := hD.at 0 (by kernel_rfl)
    have f7 := e7; simp only [Act.eval, Array.getD_eq_getD_getElem?] at f7
    have f103 := e103; simp only [Act.eval, Array.getD_eq_getD_getElem?] at f103
    refine Gy.FlowL.step_value rfl (Gy.FlowL.wanted_none rfl) (v := .pointer (some ⟨gw, i, none⟩)) (w1 := w) ?_ rfl hD.J trivial
    simp only [execOp, e7, e103]; go_simp
  · intro L a w hD
    have e118 : a.eval (.tmp 118) = .pointer (some ⟨gw, i, none⟩) := hD.at 15 (by kernel_rfl)
    have e117 : a.eval (.tmp 117) = .int .u64 (((x16 + ss0 x15 + x7 + ss1 x2) % 4294967296 : Nat) : Int) := hD.at 14 (by kernel_rfl)
    have hw := hD.J.1 hD.not
    have f118 := e118; simp only [Act.eval, Array.getD_eq_getD_getElem?] at f118
    have f117 := e117; simp only [Act.eval, Array.getD_eq_getD_getElem?] at f117
    clear hD
    subst hw
    refine Gy.FlowL.step_skip (w1 := wv.drew.setCell ⟨gw, i, none⟩ (.int .u64 (((x16 + ss0 x15 + x7 + ss1 x2) % 4294967296 : Nat) : Int))) rfl (Gy.FlowL.wanted_none rfl) ?_ trivial ⟨fun h => absurd h (by simp [Gy.FlowL.add]), fun _ => rfl⟩ trivial
    simp only [execOp, e118, e117]; go_simp
  · intro L a w hs hJ hL hv
    have hw := hJ.2 (hL 16 (by decide))
    have hp := Gy.FlowL.same_puts (by kernel_rfl) hs
    generalize Gy.FlowL.At _ a = vs at hp
    clear hv hs hJ hL
    subst hp hw
    simp only [Gy.FlowL.puts, Act.put, List.setIfInBounds_toArray, List.set_cons_zero, List.set_cons_succ]
    have M3 := Lib.hid (M2.out.1.below (Gy.drew_below _))
    clear c16 c7 cw fw M2 p16 q16 r16 p7 q7 r7 b16 b7 z16 z7 s1 s2 s3 s4
    have M4 := Lib.hid (M3.out.step HI.out.2)
    rw [HWA.out] at M4
    generalize wv.drew.setCell ⟨gw, i, none⟩ (.int .u64 (((x16 + ss0 x15 + x7 + ss1 x2) % 4294967296 : Nat) : Int)) = wx at M4 ⊢
    clear M3
    have hwi : wrap64 ((i : Int) + 1) = (i : Int) + 1 := up_64 HI.out.2
    clear HWA
    go_wp2
    exact HQ.out _ _ ⟨⟨rfl, rfl, rfl, rfl, rfl, rfl, rfl⟩, rfl⟩ rfl M4.out
set_option maxHeartbeats 2000000 in
set_option maxRecDepth 100000 in
theorem l4_last {u0 u1 u8 u10 u11 u12 u13 u14 u15 u16 u17 u18 u19 u20 u21 u22 u23 u24 u25 u26 u27 u28 u29 u30 u31 u32 u33 u34 u35 u36 u37 u38 u39 u40 u41 u42 u43 u44 u45 u46 u47 u48 u49 u50 u51 u52 u53 u54 u55 u56 u57 u58 u59 u60 u61 u62 u63 u64 u65 u66 u67 u68 u69 u70 u71 u72 u73 u74 u75 u76 u77 u78 u79 u80 u81 u82 u83 u84 u85 u86 u87 u88 u89 u90 u91 u92 u93 u94 u95 u96 u97 u98 u99 u100 u101 u102 u103 u104 u105 u106 u107 u108 u109 u110 u111 u112 u113 u114 u115 u116 u117 u118 u119 u120 u121 u122 u123 u124 u125 u126 u127 u128 u129 u130 u131 u132 u133 u134 u135 u136 u137 u138 u139 u140 u141 u142 u143 u144 u145 u146 u147 u148 u149 u150 u151 u152 u153 u154 u155 u156 u157 u158 u159 u160 u161 u162 u163 u164 u165 u166 u167 u168 u169 u170 u171 u172 u173 u174 u175 u176 u177 u178 u179 u180 u181 u182 u183 u184 u185 u186 u187 u188 u189 u190 u191 u192 u193 u194 u195 u196 u197 u198 u199 u200 u201 u202 u203 u204 u205 u206 u207 u208 u209 u210 u211 u212 u213 u214 u215 u216 u217 u218 u219 u220 u221 u222 u223 u224 u225 u226 u227 u228 u229 u230 u231 u232 u233 u234 u235 u236 u237 u238 u239 u240 u241 : Value} {w wr : World} {g gw c5 j i : Nat} {al : List Int} (Q : Exit → Act → World → Prop) (hi64 : ¬ i < 64)
    (hQ : ∀ a', FrW w g gw c5 al j a' → Q (.exit 6) a' wr) :
    Code.wp Tryz.prog (bodyOf 3) Q ⟨#[u0, u1, .pointer (some ⟨w.heap.size, 0, none⟩), .pointer (some ⟨w.heap.size + 1, 0, none⟩), .pointer (some ⟨w.heap.size + 1 + 1, 0, none⟩), .slice (some ⟨g, 0, none⟩) al.length c5, .int .i64 (64 * (j : Int)), .pointer (some ⟨gw, 0, none⟩), u8, .int .i64 (i : Int), u10, u11, u12, u13, u14, u15, u16, u17, u18, u19, u20, u21, u22, u23, u24, u25, u26, u27, u28, u29, u30, u31, u32, u33, u34, u35, u36, u37, u38, u39, u40, u41, u42, u43, u44, u45, u46, u47, u48, u49, u50, u51, u52, u53, u54, u55, u56, u57, u58, u59, u60, u61, u62, u63, u64, u65, u66, u67, u68, u69, u70, u71, u72, u73, u74, u75, u76, u77, u78, u79, u80, u81, u82, u83, u84, u85, u86, u87, u88, u89, u90, u91, u92, u93, u94, u95, u96, u97, u98, u99, u100, u101, u102, u103, u104, u105, u106, u107, u108, u109, u110, u111, u112, u113, u114, u115, u116, u117, u118, u119, u120, u121, u122, u123, u124, u125, u126, u127, u128, u129, u130, u131, u132, u133, u134, u135, u136, u137, u138, u139, u140, u141, u142, u143, u144, u145, u146, u147, u148, u149, u150, u151, u152, u153, u154, u155, u156, u157, u158, u159, u160, u161, u162, u163, u164, u165, u166, u167, u168, u169, u170, u171, u172, u173, u174, u175, u176, u177, u178, u179, u180, u181, u182, u183, u184, u185, u186, u187, u188, u189, u190, u191, u192, u193, u194, u195, u196, u197, u198, u199, u200, u201, u202, u203, u204, u205, u206, u207, u208, u209, u210, u211, u212, u213, u214, u215, u216, u217, u218, u219, u220, u221, u222, u223, u224, u225, u226, u227, u228, u229, u230, u231, u232, u233, u234, u235, u236, u237, u238, u239, u240, u241], []⟩ wr := by
  conv => arg 2; whnf
  have HQ := Lib.hid hQ
  have t5 : decide ((i : Int) < 64) = false := by simp; omega
  clear hQ
  go_wp2
  exact HQ.out _ ⟨⟨rfl, rfl, rfl, rfl, rfl, rfl, rfl⟩, rfl⟩
theorem mu_9 {a a' : Act} {i : Nat} (n : Nat) (h : a.tmps.getD 9 undef = .int .i64 (i : Int)) (h' : a'.tmps.getD 9 undef = .int .i64 ((i : Int) + 1)) (hi : i < n) : n - (intOf (a'.tmps.getD 9 undef)).toNat < n - (intOf (a.tmps.getD 9 undef)).toNat := by
  rw [h, h']
  show n - ((i : Int) + 1).toNat < n - ((i : Int)).toNat
  omega
set_option maxRecDepth 100000 in
theorem l4_loop {w wr : World} {g gw c5 j : Nat} {al : List Int} {s : St} {a : Act} (Q : Exit → Act → World → Prop) (hb : Bytes al) (hF : FrW w g gw c5 al j a) (h9 : a.tmps.getD 9 undef = .int .i64 16) (hM : RefW w wr g gw al s.nats (wL (al.drop (64 * j)) 16))
    (hX : ∀ a' w', FrW w g gw c5 al j a' → RefW w w' g gw al s.nats (wL (al.drop (64 * j)) 64) → Q (.exit 6) a' w') : Code.wp Tryz.prog (Code.loop (bodyOf 3)) Q a wr := by
  refine wp_loop (fun a w' => ∃ i : Nat, 16 ≤ i ∧ i ≤ 64 ∧ FrW w g gw c5 al j a ∧ a.tmps.getD 9 undef = .int .i64 (i : Int) ∧ RefW w w' g gw al s.nats (wL (al.drop (64 * j)) i)) (fun a _ => 64 - (intOf (a.tmps.getD 9 undef)).toNat) ⟨16, by omega, by omega, hF, h9, hM⟩ ?_
  rintro a w' ⟨i, h1, h2, hF, h9, hM⟩
  have e := frame_out a hF.A.size hF.A.defers
  rw [hF.A.t2, hF.A.t3, hF.A.t4, hF.A.t5, hF.A.t6, hF.t7, h9] at e
  by_cases hi : i < 64
  · have hQ : ∀ a' w'', FrW w g gw c5 al j a' → a'.tmps.getD 9 undef = .int .i64 ((i : Int) + 1) → RefW w w'' g gw al s.nats (wL (al.drop (64 * j)) (i + 1)) → Exit.then (fun a' w' => (∃ i : Nat, 16 ≤ i ∧ i ≤ 64 ∧ FrW w g gw c5 al j a' ∧ a'.tmps.getD 9 undef = .int .i64 (i : Int) ∧ RefW w w' g gw al s.nats (wL (al.drop (64 * j)) i)) ∧ 64 - (intOf (a'.tmps.getD 9 undef)).toNat < 64 - (intOf (a.tmps.getD 9 undef)).toNat) Q .normal a' w'' :=
      fun a' w'' f1 f2 f3 => ⟨⟨i + 1, by omega, hi, f1, f2, f3⟩, mu_9 64 h9 f2 hi⟩
    generalize Exit.then (fun a' w' => (∃ i : Nat, 16 ≤ i ∧ i ≤ 64 ∧ FrW w g gw c5 al j a' ∧ a'.tmps.getD 9 undef = .int .i64 (i : Int) ∧ RefW w w' g gw al s.nats (wL (al.drop (64 * j)) i)) ∧ 64 - (intOf (a'.tmps.getD 9 undef)).toNat < 64 - (intOf (a.tmps.getD 9 undef)).toNat) Q = Q2 at hQ ⊢
    rw [e]
    exact l4_step Q2 hb h1 hi hM hQ
  · obtain rfl : i = 64 := by omega
    rw [e]
    exact l4_last _ hi (fun a' f => hX a' w' f hM)

end Go.Proofs.YtoakjdgknbhgiaaGreatDoor.Dig
/- The walk over the reference's digest in pieces: the first sixteen words of a chunk. -/
namespace Go.Proofs.YtoakjdgknbhgiaaGreatDoor.Dig
open Go Go.RowKit Go.Proofs.YtoakjdgknbhgiaaGreatDoor.QDig Go.Proofs.YtoakjdgknbhgiaaGreatDoorW.PrintWords Go.Proofs.YtoakjdgknbhgiaaGreatDoorW.PrintLast Go.Proofs.YtoakjdgknbhgiaaGreatDoorW.PrintMore Gy

set_option maxHeartbeats 2000000 in
set_option maxRecDepth 100000 in
theorem l3_step {u0 u1 u8 u9 u10 u11 u12 u13 u14 u15 u16 u17 u18 u19 u20 u21 u22 u23 u24 u25 u26 u27 u28 u29 u30 u31 u32 u33 u34 u35 u36 u37 u38 u39 u40 u41 u42 u43 u44 u45 u46 u48 u49 u50 u51 u52 u53 u54 u55 u56 u57 u58 u59 u60 u61 u62 u63 u64 u65 u66 u67 u68 u69 u70 u71 u72 u73 u74 u75 u76 u77 u78 u79 u80 u81 u82 u83 u84 u85 u86 u87 u88 u89 u90 u91 u92 u93 u94 u95 u96 u97 u98 u99 u100 u101 u102 u103 u104 u105 u106 u107 u108 u109 u110 u111 u112 u113 u114 u115 u116 u117 u118 u119 u120 u121 u122 u123 u124 u125 u126 u127 u128 u129 u130 u131 u132 u133 u134 u135 u136 u137 u138 u139 u140 u141 u142 u143 u144 u145 u146 u147 u148 u149 u150 u151 u152 u153 u154 u155 u156 u157 u158 u159 u160 u161 u162 u163 u164 u165 u166 u167 u168 u169 u170 u171 u172 u173 u174 u175 u176 u177 u178 u179 u180 u181 u182 u183 u184 u185 u186 u187 u188 u189 u190 u191 u192 u193 u194 u195 u196 u197 u198 u199 u200 u201 u202 u203 u204 u205 u206 u207 u208 u209 u210 u211 u212 u213 u214 u215 u216 u217 u218 u219 u220 u221 u222 u223 u224 u225 u226 u227 u228 u229 u230 u231 u232 u233 u234 u235 u236 u237 u238 u239 u240 u241 : Value} {w wr : World} {g gw c5 j i : Nat} {al : List Int} {s : St} (Q : Exit → Act → World → Prop) (hb : Bytes al) (hcap : al.length ≤ c5) (h64 : 64 * j + 64 ≤ al.length) (hal : al.length ≤ 1000072) (hi16 : i < 16) (hM : RefW w wr g gw al s.nats (wL (al.drop (64 * j)) i))
    (hQ : ∀ a' w', FrW w g gw c5 al j a' → a'.tmps.getD 47 undef = .int .i64 ((i : Int) + 1) → RefW w w' g gw al s.nats (wL (al.drop (64 * j)) (i + 1)) → Q .normal a' w') :
    Code.wp Tryz.prog (bodyOf 2) Q ⟨#[u0, u1, .pointer (some ⟨w.heap.size, 0, none⟩), .pointer (some ⟨w.heap.size + 1, 0, none⟩), .pointer (some ⟨w.heap.size + 1 + 1, 0, none⟩), .slice (some ⟨g, 0, none⟩) al.length c5, .int .i64 (64 * (j : Int)), .pointer (some ⟨gw, 0, none⟩), u8, u9, u10, u11, u12, u13, u14, u15, u16, u17, u18, u19, u20, u21, u22, u23, u24, u25, u26, u27, u28, u29, u30, u31, u32, u33, u34, u35, u36, u37, u38, u39, u40, u41, u42, u43, u44, u45, u46, .int .i64 (i : Int), u48, u49, u50, u51, u52, u53, u54, u55, u56, u57, u58, u59, u60, u61, u62, u63, u64, u65, u66, u67, u68, u69, u70, u71, u72, u73, u74, u75, u76, u77, u78, u79, u80, u81, u82, u83, u84, u85, u86, u87, u88, u89, u90, u91, u92, u93, u94, u95, u96, u97, u98, u99, u100, u101, u102, u103, u104, u105, u106, u107, u108, u109, u110, u111, u112, u113, u114, u115, u116, u117, u118, u119, u120, u121, u122, u123, u124, u125, u126, u127, u128, u129, u130, u131, u132, u133, u134, u135, u136, u137, u138, u139, u140, u141, u142, u143, u144, u145, u146, u147, u148, u149, u150, u151, u152, u153, u154, u155, u156, u157, u158, u159, u160, u161, u162, u163, u164, u165, u166, u167, u168, u169, u170, u171, u172, u173, u174, u175, u176, u177, u178, u179, u180, u181, u182, u183, u184, u185, u186, u187, u188, u189, u190, u191, u192, u193, u194, u195, u196, u197, u198, u199, u200, u201, u202, u203, u204, u205, u206, u207, u208, u209, u210, u211, u212, u213, u214, u215, u216, u217, u218, u219, u220, u221, u222, u223, u224, u225, u226, u227, u228, u229, u230, u231, u232, u233, u234, u235, u236, u237, u238, u239, u240, u241], []⟩ wr := by
  conv => arg 2; whnf
  have HQ := Lib.hid hQ
  have t4 : decide ((i : Int) < 16) = true := by simp; omega
  have HI := Lib.hid (show i < 64 by omega)
  have hjb : j ≤ 15626 := by omega
  obtain ⟨A6, c6, m1, m2, m3⟩ := mid_ref (some ⟨g, 0, none⟩) c5 al j i hi16 h64 hcap
  have HN := Lib.hid (And.intro (m2 wr hM.C.A) m3)
  have HWL := Lib.hid (wAt_take (al.drop (64 * j)) hi16)
  have HBY := Lib.hid (((hb.drop (64 * j)).drop (4 * i)).take 4)
  have HM := Lib.hid hM
  clear m2 m3 hQ hM hb hcap h64 hal
  go_wp2_with (first
    | (go_at_call 24; (with_reducible refine (Number_calls A6 4 c6 _ _ HN.out.1 HN.out.2 HBY.out rfl).mono ?_); rw [HWL.out]; rintro e w6 ⟨rfl, e1⟩; have E6 := Lib.hid (HM.out.below e1.below); clear e1; obtain ⟨⟨v0, cw⟩, fw⟩ := E6.out.there (i := i) (by rw [wL_length _ _ (Nat.le_of_lt HI.out)]; exact HI.out)))
  exact HQ.out _ _ ⟨⟨rfl, rfl, rfl, rfl, rfl, rfl, rfl⟩, rfl⟩ rfl (E6.out.step HI.out)
set_option maxHeartbeats 2000000 in
set_option maxRecDepth 100000 in
theorem l3_last {u0 u1 u8 u9 u10 u11 u12 u13 u14 u15 u16 u17 u18 u19 u20 u21 u22 u23 u24 u25 u26 u27 u28 u29 u30 u31 u32 u33 u34 u35 u36 u37 u38 u39 u40 u41 u42 u43 u44 u45 u46 u48 u49 u50 u51 u52 u53 u54 u55 u56 u57 u58 u59 u60 u61 u62 u63 u64 u65 u66 u67 u68 u69 u70 u71 u72 u73 u74 u75 u76 u77 u78 u79 u80 u81 u82 u83 u84 u85 u86 u87 u88 u89 u90 u91 u92 u93 u94 u95 u96 u97 u98 u99 u100 u101 u102 u103 u104 u105 u106 u107 u108 u109 u110 u111 u112 u113 u114 u115 u116 u117 u118 u119 u120 u121 u122 u123 u124 u125 u126 u127 u128 u129 u130 u131 u132 u133 u134 u135 u136 u137 u138 u139 u140 u141 u142 u143 u144 u145 u146 u147 u148 u149 u150 u151 u152 u153 u154 u155 u156 u157 u158 u159 u160 u161 u162 u163 u164 u165 u166 u167 u168 u169 u170 u171 u172 u173 u174 u175 u176 u177 u178 u179 u180 u181 u182 u183 u184 u185 u186 u187 u188 u189 u190 u191 u192 u193 u194 u195 u196 u197 u198 u199 u200 u201 u202 u203 u204 u205 u206 u207 u208 u209 u210 u211 u212 u213 u214 u215 u216 u217 u218 u219 u220 u221 u222 u223 u224 u225 u226 u227 u228 u229 u230 u231 u232 u233 u234 u235 u236 u237 u238 u239 u240 u241 : Value} {w wr : World} {g gw c5 j i : Nat} {al : List Int} (Q : Exit → Act → World → Prop) (hi16 : ¬ i < 16)
    (hQ : ∀ a', FrW w g gw c5 al j a' → Q (.exit 4) a' wr) :
    Code.wp Tryz.prog (bodyOf 2) Q ⟨#[u0, u1, .pointer (some ⟨w.heap.size, 0, none⟩), .pointer (some ⟨w.heap.size + 1, 0, none⟩), .pointer (some ⟨w.heap.size + 1 + 1, 0, none⟩), .slice (some ⟨g, 0, none⟩) al.length c5, .int .i64 (64 * (j : Int)), .pointer (some ⟨gw, 0, none⟩), u8, u9, u10, u11, u12, u13, u14, u15, u16, u17, u18, u19, u20, u21, u22, u23, u24, u25, u26, u27, u28, u29, u30, u31, u32, u33, u34, u35, u36, u37, u38, u39, u40, u41, u42, u43, u44, u45, u46, .int .i64 (i : Int), u48, u49, u50, u51, u52, u53, u54, u55, u56, u57, u58, u59, u60, u61, u62, u63, u64, u65, u66, u67, u68, u69, u70, u71, u72, u73, u74, u75, u76, u77, u78, u79, u80, u81, u82, u83, u84, u85, u86, u87, u88, u89, u90, u91, u92, u93, u94, u95, u96, u97, u98, u99, u100, u101, u102, u103, u104, u105, u106, u107, u108, u109, u110, u111, u112, u113, u114, u115, u116, u117, u118, u119, u120, u121, u122, u123, u124, u125, u126, u127, u128, u129, u130, u131, u132, u133, u134, u135, u136, u137, u138, u139, u140, u141, u142, u143, u144, u145, u146, u147, u148, u149, u150, u151, u152, u153, u154, u155, u156, u157, u158, u159, u160, u161, u162, u163, u164, u165, u166, u167, u168, u169, u170, u171, u172, u173, u174, u175, u176, u177, u178, u179, u180, u181, u182, u183, u184, u185, u186, u187, u188, u189, u190, u191, u192, u193, u194, u195, u196, u197, u198, u199, u200, u201, u202, u203, u204, u205, u206, u207, u208, u209, u210, u211, u212, u213, u214, u215, u216, u217, u218, u219, u220, u221, u222, u223, u224, u225, u226, u227, u228, u229, u230, u231, u232, u233, u234, u235, u236, u237, u238, u239, u240, u241], []⟩ wr := by
  conv => arg 2; whnf
  have HQ := Lib.hid hQ
  have t5 : decide ((i : Int) < 16) = false := by simp; omega
  clear hQ
  go_wp2
  exact HQ.out _ ⟨⟨rfl, rfl, rfl, rfl, rfl, rfl, rfl⟩, rfl⟩
theorem mu_at {a a' : Act} {i : Nat} (t n : Nat) (h : a.tmps.getD t undef = .int .i64 (i : Int)) (h' : a'.tmps.getD t undef = .int .i64 ((i : Int) + 1)) (hi : i < n) : n - (intOf (a'.tmps.getD t undef)).toNat < n - (intOf (a.tmps.getD t undef)).toNat := by
  rw [h, h']
  show n - ((i : Int) + 1).toNat < n - ((i : Int)).toNat
  omega
set_option maxRecDepth 100000 in
theorem l3_loop {w wr : World} {g gw c5 j : Nat} {al : List Int} {s : St} {a : Act} (Q : Exit → Act → World → Prop) (hb : Bytes al) (hcap : al.length ≤ c5) (h64 : 64 * j + 64 ≤ al.length) (hal : al.length ≤ 1000072) (hF : FrW w g gw c5 al j a) (h47 : a.tmps.getD 47 undef = .int .i64 0) (hM : RefW w wr g gw al s.nats (wL (al.drop (64 * j)) 0))
    (hX : ∀ a' w', FrW w g gw c5 al j a' → RefW w w' g gw al s.nats (wL (al.drop (64 * j)) 16) → Q (.exit 4) a' w') : Code.wp Tryz.prog (Code.loop (bodyOf 2)) Q a wr := by
  refine wp_loop (fun a w' => ∃ i : Nat, i ≤ 16 ∧ FrW w g gw c5 al j a ∧ a.tmps.getD 47 undef = .int .i64 (i : Int) ∧ RefW w w' g gw al s.nats (wL (al.drop (64 * j)) i)) (fun a _ => 16 - (intOf (a.tmps.getD 47 undef)).toNat) ⟨0, by omega, hF, h47, hM⟩ ?_
  rintro a w' ⟨i, h2, hF, h9, hM⟩
  have e := frame_out a hF.A.size hF.A.defers
  rw [hF.A.t2, hF.A.t3, hF.A.t4, hF.A.t5, hF.A.t6, hF.t7, h9] at e
  by_cases hi : i < 16
  · have hQ : ∀ a' w'', FrW w g gw c5 al j a' → a'.tmps.getD 47 undef = .int .i64 ((i : Int) + 1) → RefW w w'' g gw al s.nats (wL (al.drop (64 * j)) (i + 1)) → Exit.then (fun a' w' => (∃ i : Nat, i ≤ 16 ∧ FrW w g gw c5 al j a' ∧ a'.tmps.getD 47 undef = .int .i64 (i : Int) ∧ RefW w w' g gw al s.nats (wL (al.drop (64 * j)) i)) ∧ 16 - (intOf (a'.tmps.getD 47 undef)).toNat < 16 - (intOf (a.tmps.getD 47 undef)).toNat) Q .normal a' w'' :=
      fun a' w'' f1 f2 f3 => ⟨⟨i + 1, hi, f1, f2, f3⟩, mu_at 47 16 h9 f2 hi⟩
    generalize Exit.then (fun a' w' => (∃ i : Nat, i ≤ 16 ∧ FrW w g gw c5 al j a' ∧ a'.tmps.getD 47 undef = .int .i64 (i : Int) ∧ RefW w w' g gw al s.nats (wL (al.drop (64 * j)) i)) ∧ 16 - (intOf (a'.tmps.getD 47 undef)).toNat < 16 - (intOf (a.tmps.getD 47 undef)).toNat) Q = Q2 at hQ ⊢
    rw [e]
    exact l3_step Q2 hb hcap h64 hal hi hM hQ
  · obtain rfl : i = 16 := by omega
    rw [e]
    exact l3_last _ hi (fun a' f => hX a' w' f hM)
end Go.Proofs.YtoakjdgknbhgiaaGreatDoor.Dig
/- The walk over the reference's digest in pieces: a row moved up by one place. -/
namespace Go.Proofs.YtoakjdgknbhgiaaGreatDoor.Dig
open Go Go.RowKit Go.Proofs.YtoakjdgknbhgiaaGreatDoor.QDig Go.Proofs.YtoakjdgknbhgiaaGreatDoorW.PrintWords Go.Proofs.YtoakjdgknbhgiaaGreatDoorW.PrintLast Go.Proofs.YtoakjdgknbhgiaaGreatDoorW.PrintMore Gy

structure Fr6 (w : World) (g gw gx c5 : Nat) (al : List Int) (j i O T : Nat) (a : Act) : Prop where
  X : FrX w g gw gx c5 al j a
  t14 : a.tmps.getD 14 undef = .int .u64 (O : Int)
  t15 : a.tmps.getD 15 undef = .int .u64 (T : Int)
  t120 : a.tmps.getD 120 undef = .int .i64 (i : Int)
theorem minus_one (q : Nat) : ((q : Int) + 1 - 1) = (q : Int) := by omega
set_option maxHeartbeats 2000000 in
set_option maxRecDepth 100000 in
theorem l6_step {u0 u1 u8 u9 u10 u11 u13 u17 u18 u19 u20 u21 u22 u23 u24 u25 u26 u27 u28 u29 u30 u31 u32 u33 u34 u35 u36 u37 u38 u39 u40 u41 u42 u43 u44 u45 u46 u47 u48 u49 u50 u51 u52 u53 u54 u55 u56 u57 u58 u59 u60 u61 u62 u63 u64 u65 u66 u67 u68 u69 u70 u71 u72 u73 u74 u75 u76 u77 u78 u79 u80 u81 u82 u83 u84 u85 u86 u87 u88 u89 u90 u91 u92 u93 u94 u95 u96 u97 u98 u99 u100 u101 u102 u103 u104 u105 u106 u107 u108 u109 u110 u111 u112 u113 u114 u115 u116 u117 u118 u119 u121 u122 u123 u124 u125 u126 u127 u128 u129 u130 u131 u132 u133 u134 u135 u136 u137 u138 u139 u140 u141 u142 u143 u144 u145 u146 u147 u148 u149 u150 u151 u152 u153 u154 u155 u156 u157 u158 u159 u160 u161 u162 u163 u164 u165 u166 u167 u168 u169 u170 u171 u172 u173 u174 u175 u176 u177 u178 u179 u180 u181 u182 u183 u184 u185 u186 u187 u188 u189 u190 u191 u192 u193 u194 u195 u196 u197 u198 u199 u200 u201 u202 u203 u204 u205 u206 u207 u208 u209 u210 u211 u212 u213 u214 u215 u216 u217 u218 u219 u220 u221 u222 u223 u224 u225 u226 u227 u228 u229 u230 u231 u232 u233 u234 u235 u236 u237 u238 u239 u240 u241 : Value} {w wr : World} {g gw gx c5 j i O T q : Nat} {al : List Int} {s t : St} {ws : List Nat} (Q : Exit → Act → World → Prop) (hq : q < 7) (hM : RefX w wr g gw gx al s.nats ws (shf t.nats (q + 1)))
    (hQ : ∀ a' w', Fr6 w g gw gx c5 al j i O T a' → a'.tmps.getD 16 undef = .int .i64 (q : Int) → RefX w w' g gw gx al s.nats ws (shf t.nats q) → Q .normal a' w') :
    Code.wp Tryz.prog (bodyOf 5) Q ⟨#[u0, u1, .pointer (some ⟨w.heap.size, 0, none⟩), .pointer (some ⟨w.heap.size + 1, 0, none⟩), .pointer (some ⟨w.heap.size + 1 + 1, 0, none⟩), .slice (some ⟨g, 0, none⟩) al.length c5, .int .i64 (64 * (j : Int)), .pointer (some ⟨gw, 0, none⟩), u8, u9, u10, u11, .pointer (some ⟨gx, 0, none⟩), u13, .int .u64 (O : Int), .int .u64 (T : Int), .int .i64 ((q : Int) + 1), u17, u18, u19, u20, u21, u22, u23, u24, u25, u26, u27, u28, u29, u30, u31, u32, u33, u34, u35, u36, u37, u38, u39, u40, u41, u42, u43, u44, u45, u46, u47, u48, u49, u50, u51, u52, u53, u54, u55, u56, u57, u58, u59, u60, u61, u62, u63, u64, u65, u66, u67, u68, u69, u70, u71, u72, u73, u74, u75, u76, u77, u78, u79, u80, u81, u82, u83, u84, u85, u86, u87, u88, u89, u90, u91, u92, u93, u94, u95, u96, u97, u98, u99, u100, u101, u102, u103, u104, u105, u106, u107, u108, u109, u110, u111, u112, u113, u114, u115, u116, u117, u118, u119, .int .i64 (i : Int), u121, u122, u123, u124, u125, u126, u127, u128, u129, u130, u131, u132, u133, u134, u135, u136, u137, u138, u139, u140, u141, u142, u143, u144, u145, u146, u147, u148, u149, u150, u151, u152, u153, u154, u155, u156, u157, u158, u159, u160, u161, u162, u163, u164, u165, u166, u167, u168, u169, u170, u171, u172, u173, u174, u175, u176, u177, u178, u179, u180, u181, u182, u183, u184, u185, u186, u187, u188, u189, u190, u191, u192, u193, u194, u195, u196, u197, u198, u199, u200, u201, u202, u203, u204, u205, u206, u207, u208, u209, u210, u211, u212, u213, u214, u215, u216, u217, u218, u219, u220, u221, u222, u223, u224, u225, u226, u227, u228, u229, u230, u231, u232, u233, u234, u235, u236, u237, u238, u239, u240, u241], []⟩ wr := by
  conv => arg 2; whnf
  have HQ := Lib.hid hQ
  have hz := minus_one q
  have b1 : (q : Int) < 8 := by omega
  have b2 : (q : Int) + 1 < 8 := by omega
  have t5 : decide (0 < (q : Int) + 1) = true := decide_eq_true (by omega)
  have c1 := hM.cell (shf_at t q hq)
  have c2 := hM.X.cell (n64_at (l := shf t.nats (q + 1)) (i := q + 1) (by rw [shf_length t (q + 1) (by omega)]; omega))
  have f2 := hM.X.fr (q + 1)
  have hst := hM.set (i := q + 1) (x := t.nats.getD q 0) (by rw [shf_length t (q + 1) (by omega)]; omega)
  rw [shf_set t q hq] at hst
  have HST := Lib.hid hst
  generalize t.nats.getD q 0 = x at c1 HST
  clear hQ hM hst
  go_wp2
  exact HQ.out _ _ ⟨⟨⟨⟨rfl, rfl, rfl, rfl, rfl, rfl, rfl⟩, rfl⟩, rfl⟩, rfl, rfl, rfl⟩ rfl HST.out
set_option maxHeartbeats 2000000 in
set_option maxRecDepth 100000 in
theorem l6_last {u0 u1 u8 u9 u10 u11 u13 u17 u18 u19 u20 u21 u22 u23 u24 u25 u26 u27 u28 u29 u30 u31 u32 u33 u34 u35 u36 u37 u38 u39 u40 u41 u42 u43 u44 u45 u46 u47 u48 u49 u50 u51 u52 u53 u54 u55 u56 u57 u58 u59 u60 u61 u62 u63 u64 u65 u66 u67 u68 u69 u70 u71 u72 u73 u74 u75 u76 u77 u78 u79 u80 u81 u82 u83 u84 u85 u86 u87 u88 u89 u90 u91 u92 u93 u94 u95 u96 u97 u98 u99 u100 u101 u102 u103 u104 u105 u106 u107 u108 u109 u110 u111 u112 u113 u114 u115 u116 u117 u118 u119 u121 u122 u123 u124 u125 u126 u127 u128 u129 u130 u131 u132 u133 u134 u135 u136 u137 u138 u139 u140 u141 u142 u143 u144 u145 u146 u147 u148 u149 u150 u151 u152 u153 u154 u155 u156 u157 u158 u159 u160 u161 u162 u163 u164 u165 u166 u167 u168 u169 u170 u171 u172 u173 u174 u175 u176 u177 u178 u179 u180 u181 u182 u183 u184 u185 u186 u187 u188 u189 u190 u191 u192 u193 u194 u195 u196 u197 u198 u199 u200 u201 u202 u203 u204 u205 u206 u207 u208 u209 u210 u211 u212 u213 u214 u215 u216 u217 u218 u219 u220 u221 u222 u223 u224 u225 u226 u227 u228 u229 u230 u231 u232 u233 u234 u235 u236 u237 u238 u239 u240 u241 : Value} {w wr : World} {g gw gx c5 j i O T : Nat} {al : List Int} (Q : Exit → Act → World → Prop)
    (hQ : ∀ a', Fr6 w g gw gx c5 al j i O T a' → Q (.exit 10) a' wr) :
    Code.wp Tryz.prog (bodyOf 5) Q ⟨#[u0, u1, .pointer (some ⟨w.heap.size, 0, none⟩), .pointer (some ⟨w.heap.size + 1, 0, none⟩), .pointer (some ⟨w.heap.size + 1 + 1, 0, none⟩), .slice (some ⟨g, 0, none⟩) al.length c5, .int .i64 (64 * (j : Int)), .pointer (some ⟨gw, 0, none⟩), u8, u9, u10, u11, .pointer (some ⟨gx, 0, none⟩), u13, .int .u64 (O : Int), .int .u64 (T : Int), .int .i64 0, u17, u18, u19, u20, u21, u22, u23, u24, u25, u26, u27, u28, u29, u30, u31, u32, u33, u34, u35, u36, u37, u38, u39, u40, u41, u42, u43, u44, u45, u46, u47, u48, u49, u50, u51, u52, u53, u54, u55, u56, u57, u58, u59, u60, u61, u62, u63, u64, u65, u66, u67, u68, u69, u70, u71, u72, u73, u74, u75, u76, u77, u78, u79, u80, u81, u82, u83, u84, u85, u86, u87, u88, u89, u90, u91, u92, u93, u94, u95, u96, u97, u98, u99, u100, u101, u102, u103, u104, u105, u106, u107, u108, u109, u110, u111, u112, u113, u114, u115, u116, u117, u118, u119, .int .i64 (i : Int), u121, u122, u123, u124, u125, u126, u127, u128, u129, u130, u131, u132, u133, u134, u135, u136, u137, u138, u139, u140, u141, u142, u143, u144, u145, u146, u147, u148, u149, u150, u151, u152, u153, u154, u155, u156, u157, u158, u159, u160, u161, u162, u163, u164, u165, u166, u167, u168, u169, u170, u171, u172, u173, u174, u175, u176, u177, u178, u179, u180, u181, u182, u183, u184, u185, u186, u187, u188, u189, u190, u191, u192, u193, u194, u195, u196, u197, u198, u199, u200, u201, u202, u203, u204, u205, u206, u207, u208, u209, u210, u211, u212, u213, u214, u215, u216, u217, u218, u219, u220, u221, u222, u223, u224, u225, u226, u227, u228, u229, u230, u231, u232, u233, u234, u235, u236, u237, u238, u239, u240, u241], []⟩ wr := by
  conv => arg 2; whnf
  have HQ := Lib.hid hQ
  clear hQ
  go_wp2
  exact HQ.out _ ⟨⟨⟨⟨rfl, rfl, rfl, rfl, rfl, rfl, rfl⟩, rfl⟩, rfl⟩, rfl, rfl, rfl⟩
theorem mu_down {a a' : Act} {q : Nat} (t : Nat) (h : a.tmps.getD t undef = .int .i64 ((q + 1 : Nat) : Int)) (h' : a'.tmps.getD t undef = .int .i64 (q : Int)) : (intOf (a'.tmps.getD t undef)).toNat < (intOf (a.tmps.getD t undef)).toNat := by
  rw [h, h']
  show ((q : Int)).toNat < ((q + 1 : Nat) : Int).toNat
  omega
set_option maxRecDepth 100000 in
theorem l6_loop {w wr : World} {g gw gx c5 j i O T : Nat} {al : List Int} {s t : St} {ws : List Nat} {a : Act} (Q : Exit → Act → World → Prop) (hF : Fr6 w g gw gx c5 al j i O T a) (h16 : a.tmps.getD 16 undef = .int .i64 7) (hM : RefX w wr g gw gx al s.nats ws t.nats)
    (hX : ∀ a' w', Fr6 w g gw gx c5 al j i O T a' → RefX w w' g gw gx al s.nats ws [t.a, t.a, t.b, t.c, t.d, t.e, t.f, t.g] → Q (.exit 10) a' w') : Code.wp Tryz.prog (Code.loop (bodyOf 5)) Q a wr := by
  refine wp_loop (fun a w' => ∃ q : Nat, q ≤ 7 ∧ Fr6 w g gw gx c5 al j i O T a ∧ a.tmps.getD 16 undef = .int .i64 (q : Int) ∧ RefX w w' g gw gx al s.nats ws (shf t.nats q)) (fun a _ => (intOf (a.tmps.getD 16 undef)).toNat) ⟨7, by omega, hF, h16, hM⟩ ?_
  rintro a w' ⟨q, h2, hF, h9, hM⟩
  have e := frame_out a hF.X.W.A.size hF.X.W.A.defers
  rw [hF.X.W.A.t2, hF.X.W.A.t3, hF.X.W.A.t4, hF.X.W.A.t5, hF.X.W.A.t6, hF.X.W.t7, hF.X.t12, hF.t14, hF.t15, hF.t120, h9] at e
  cases q with
  | succ q =>
    have hQ : ∀ a' w'', Fr6 w g gw gx c5 al j i O T a' → a'.tmps.getD 16 undef = .int .i64 (q : Int) → RefX w w'' g gw gx al s.nats ws (shf t.nats q) → Exit.then (fun a' w' => (∃ q : Nat, q ≤ 7 ∧ Fr6 w g gw gx c5 al j i O T a' ∧ a'.tmps.getD 16 undef = .int .i64 (q : Int) ∧ RefX w w' g gw gx al s.nats ws (shf t.nats q)) ∧ (intOf (a'.tmps.getD 16 undef)).toNat < (intOf (a.tmps.getD 16 undef)).toNat) Q .normal a' w'' :=
      fun a' w'' f1 f2 f3 => ⟨⟨q, by omega, f1, f2, f3⟩, mu_down 16 h9 f2⟩
    generalize Exit.then (fun a' w' => (∃ q : Nat, q ≤ 7 ∧ Fr6 w g gw gx c5 al j i O T a' ∧ a'.tmps.getD 16 undef = .int .i64 (q : Int) ∧ RefX w w' g gw gx al s.nats ws (shf t.nats q)) ∧ (intOf (a'.tmps.getD 16 undef)).toNat < (intOf (a.tmps.getD 16 undef)).toNat) Q = Q2 at hQ ⊢
    rw [e]
    exact l6_step Q2 (by omega) hM hQ
  | zero =>
    rw [e]
    exact l6_last _ (fun a' f => hX a' w' f hM)
end Go.Proofs.YtoakjdgknbhgiaaGreatDoor.Dig
/- The walk over the reference's digest in pieces: one round of sixty-four. -/
namespace Go.Proofs.YtoakjdgknbhgiaaGreatDoor.Dig
open Go Go.RowKit Go.Proofs.YtoakjdgknbhgiaaGreatDoor.QDig Go.Proofs.YtoakjdgknbhgiaaGreatDoorW.PrintWords Go.Proofs.YtoakjdgknbhgiaaGreatDoorW.PrintLast Go.Proofs.YtoakjdgknbhgiaaGreatDoorW.PrintMore Gy

theorem and64 {a b : Nat} (ha : a < 4294967296) (hb : b < 4294967296) : Go.bits .and .u64 (a : Int) (b : Int) = ((a &&& b : Nat) : Int) := Go.bits_and_u64_nat a b (by omega) (by omega)
theorem or64 {a b : Nat} (ha : a < 4294967296) (hb : b < 4294967296) : Go.bits .or .u64 (a : Int) (b : Int) = ((a ||| b : Nat) : Int) := Go.bits_or_u64_nat a b (by omega) (by omega)
theorem bs1_form {e : Nat} (h : e < 4294967296) : Go.bits .xor .u64 (Go.bits .xor .u64 ((rorI 6 e : Nat) : Int) ((rorI 11 e : Nat) : Int)) ((rorI 25 e : Nat) : Int) = ((bs1 e : Nat) : Int) := by
  show Go.bits .xor .u64 (Go.bits .xor .u64 ((ror 6 e : Nat) : Int) ((ror 11 e : Nat) : Int)) ((ror 25 e : Nat) : Int) = _
  rw [xor64 (ror_lt h) (ror_lt h), xor64 (xor32 (ror_lt h) (ror_lt h)) (ror_lt h)]
  rfl
theorem bs0_form {e : Nat} (h : e < 4294967296) : Go.bits .xor .u64 (Go.bits .xor .u64 ((rorI 2 e : Nat) : Int) ((rorI 13 e : Nat) : Int)) ((rorI 22 e : Nat) : Int) = ((bs0 e : Nat) : Int) := by
  show Go.bits .xor .u64 (Go.bits .xor .u64 ((ror 2 e : Nat) : Int) ((ror 13 e : Nat) : Int)) ((ror 22 e : Nat) : Int) = _
  rw [xor64 (ror_lt h) (ror_lt h), xor64 (xor32 (ror_lt h) (ror_lt h)) (ror_lt h)]
  rfl
theorem chs_form {e f g : Nat} (he : e < 4294967296) (hf : f < 4294967296) (hg : g < 4294967296) :
    Go.bits .or .u64 (Go.bits .and .u64 (e : Int) (f : Int)) (Go.bits .and .u64 (Go.bits .xor .u64 4294967295 (e : Int)) (g : Int)) = ((chs e f g : Nat) : Int) := by
  have h1 : Go.bits .xor .u64 4294967295 (e : Int) = ((4294967295 ^^^ e : Nat) : Int) := xor64 (a := 4294967295) (by omega) he
  have hx : 4294967295 ^^^ e < 4294967296 := xor32 (by omega) he
  rw [h1, and64 he hf, and64 hx hg, or64 (and32 he) (and32 hx), chs_ref he hg]
theorem mjs_form {a b c : Nat} (ha : a < 4294967296) (hb : b < 4294967296) (hc : c < 4294967296) :
    Go.bits .or .u64 (Go.bits .or .u64 (Go.bits .and .u64 (a : Int) (b : Int)) (Go.bits .and .u64 (a : Int) (c : Int))) (Go.bits .and .u64 (b : Int) (c : Int)) = ((mjs a b c : Nat) : Int) := by
  rw [and64 ha hb, and64 ha hc, and64 hb hc, or64 (and32 ha) (and32 ha), or64 (or32 (and32 ha) (and32 ha)) (and32 hb), mjs_ref]
theorem add_form {d O : Nat} (hd : d < 68719476736) (hO : O < 68719476736) : IntKind.u64.wrap ((d : Int) + (O : Int)) = (d : Int) + (O : Int) ∧ Go.bits .and .u64 ((d : Int) + (O : Int)) 4294967295 = (((d + O) % 4294967296 : Nat) : Int) := by
  refine ⟨u64id (by omega) (by omega), ?_⟩
  have h := Go.bits_and_u64_nat (d + O) 4294967295 (by omega) (by omega)
  rw [mask32] at h
  exact h
theorem one0_cast (t : St) (k x : Nat) : (t.h : Int) + ((bs1 t.e : Nat) : Int) + ((chs t.e t.f t.g : Nat) : Int) + (k : Int) + (x : Int) = ((one0 t k x : Nat) : Int) := by unfold one0; omega
theorem two0_cast (t : St) : ((bs0 t.a : Nat) : Int) + ((mjs t.a t.b t.c : Nat) : Int) = ((two0 t : Nat) : Int) := by unfold two0; omega
/-- what a round reads -/
structure RoundAt (w wr : World) (gw gx : Nat) (t : St) (k x i : Nat) : Prop where
  c0 : wr.cell? ⟨gx, 0, none⟩ = some (.int .u64 (t.a : Int))
  c1 : wr.cell? ⟨gx, 1, none⟩ = some (.int .u64 (t.b : Int))
  c2 : wr.cell? ⟨gx, 2, none⟩ = some (.int .u64 (t.c : Int))
  c4 : wr.cell? ⟨gx, 4, none⟩ = some (.int .u64 (t.e : Int))
  c5 : wr.cell? ⟨gx, 5, none⟩ = some (.int .u64 (t.f : Int))
  c6 : wr.cell? ⟨gx, 6, none⟩ = some (.int .u64 (t.g : Int))
  c7 : wr.cell? ⟨gx, 7, none⟩ = some (.int .u64 (t.h : Int))
  ck : wr.cell? ⟨w.heap.size + 1, i, none⟩ = some (.int .u64 (k : Int))
  cx : wr.cell? ⟨gw, i, none⟩ = some (.int .u64 (x : Int))
theorem RefX.round {w wr : World} {g gw gx : Nat} {al : List Int} {hs : List Nat} {b : List Int} {t : St} {i : Nat} (h : RefX w wr g gw gx al hs (wL b 64) t.nats) (hi : i < 64) : RoundAt w wr gw gx t (kTab.getD i 0) (wAt b i) i :=
  ⟨h.cell rfl, h.cell rfl, h.cell rfl, h.cell rfl, h.cell rfl, h.cell rfl, h.cell rfl, h.W.C.K.cell (n64_at (by rw [kTab_length]; exact hi)), h.W.cell (Nat.le_refl _) i hi⟩
set_option maxHeartbeats 4000000 in
set_option maxRecDepth 100000 in
theorem l5_step {u0 u1 u8 u9 u10 u11 u13 u14 u15 u16 u17 u18 u19 u20 u21 u22 u23 u24 u25 u26 u27 u28 u29 u30 u31 u32 u33 u34 u35 u36 u37 u38 u39 u40 u41 u42 u43 u44 u45 u46 u47 u48 u49 u50 u51 u52 u53 u54 u55 u56 u57 u58 u59 u60 u61 u62 u63 u64 u65 u66 u67 u68 u69 u70 u71 u72 u73 u74 u75 u76 u77 u78 u79 u80 u81 u82 u83 u84 u85 u86 u87 u88 u89 u90 u91 u92 u93 u94 u95 u96 u97 u98 u99 u100 u101 u102 u103 u104 u105 u106 u107 u108 u109 u110 u111 u112 u113 u114 u115 u116 u117 u118 u119 u121 u122 u123 u124 u125 u126 u127 u128 u129 u130 u131 u132 u133 u134 u135 u136 u137 u138 u139 u140 u141 u142 u143 u144 u145 u146 u147 u148 u149 u150 u151 u152 u153 u154 u155 u156 u157 u158 u159 u160 u161 u162 u163 u164 u165 u166 u167 u168 u169 u170 u171 u172 u173 u174 u175 u176 u177 u178 u179 u180 u181 u182 u183 u184 u185 u186 u187 u188 u189 u190 u191 u192 u193 u194 u195 u196 u197 u198 u199 u200 u201 u202 u203 u204 u205 u206 u207 u208 u209 u210 u211 u212 u213 u214 u215 u216 u217 u218 u219 u220 u221 u222 u223 u224 u225 u226 u227 u228 u229 u230 u231 u232 u233 u234 u235 u236 u237 u238 u239 u240 u241 : Value} {w wr : World} {g gw gx c5 j i : Nat} {al b : List Int} {s t : St} (Q : Exit → Act → World → Prop) (hok : t.ok) (hb : Bytes b) (hi : i < 64) (hM : RefX w wr g gw gx al s.nats (wL b 64) t.nats)
    (hQ : ∀ a' w', FrX w g gw gx c5 al j a' → a'.tmps.getD 120 undef = .int .i64 ((i : Int) + 1) → RefX w w' g gw gx al s.nats (wL b 64) (rnd t ((kTab.getD i 0 + wAt b i) % 4294967296)).nats → Q .normal a' w') :
    Code.wp Tryz.prog (bodyOf 4) Q ⟨#[u0, u1, .pointer (some ⟨w.heap.size, 0, none⟩), .pointer (some ⟨w.heap.size + 1, 0, none⟩), .pointer (some ⟨w.heap.size + 1 + 1, 0, none⟩), .slice (some ⟨g, 0, none⟩) al.length c5, .int .i64 (64 * (j : Int)), .pointer (some ⟨gw, 0, none⟩), u8, u9, u10, u11, .pointer (some ⟨gx, 0, none⟩), u13, u14, u15, u16, u17, u18, u19, u20, u21, u22, u23, u24, u25, u26, u27, u28, u29, u30, u31, u32, u33, u34, u35, u36, u37, u38, u39, u40, u41, u42, u43, u44, u45, u46, u47, u48, u49, u50, u51, u52, u53, u54, u55, u56, u57, u58, u59, u60, u61, u62, u63, u64, u65, u66, u67, u68, u69, u70, u71, u72, u73, u74, u75, u76, u77, u78, u79, u80, u81, u82, u83, u84, u85, u86, u87, u88, u89, u90, u91, u92, u93, u94, u95, u96, u97, u98, u99, u100, u101, u102, u103, u104, u105, u106, u107, u108, u109, u110, u111, u112, u113, u114, u115, u116, u117, u118, u119, .int .i64 (i : Int), u121, u122, u123, u124, u125, u126, u127, u128, u129, u130, u131, u132, u133, u134, u135, u136, u137, u138, u139, u140, u141, u142, u143, u144, u145, u146, u147, u148, u149, u150, u151, u152, u153, u154, u155, u156, u157, u158, u159, u160, u161, u162, u163, u164, u165, u166, u167, u168, u169, u170, u171, u172, u173, u174, u175, u176, u177, u178, u179, u180, u181, u182, u183, u184, u185, u186, u187, u188, u189, u190, u191, u192, u193, u194, u195, u196, u197, u198, u199, u200, u201, u202, u203, u204, u205, u206, u207, u208, u209, u210, u211, u212, u213, u214, u215, u216, u217, u218, u219, u220, u221, u222, u223, u224, u225, u226, u227, u228, u229, u230, u231, u232, u233, u234, u235, u236, u237, u238, u239, u240, u241], []⟩ wr := by
  conv => arg 2; whnf
  have HQ := Lib.hid hQ
  have t5 : decide ((i : Int) < 64) = true := decide_eq_true (by omega)
  have bi : (i : Int) < 64 := by omega
  obtain ⟨c0, c1, c2, c4, c5', c6, c7, ck, cx⟩ := hM.round hi
  have lk := kTab_lt i
  have lx := wAt_lt hb i
  have HM := Lib.hid hM
  clear hQ hM hb
  generalize kTab.getD i 0 = k at ck lk HQ
  generalize wAt b i = x at cx lx HQ
  have la := hok.a
  have lb := hok.b
  have lc := hok.c
  have ld := hok.d
  have le := hok.e
  have lf := hok.f
  have lg := hok.g
  have lh := hok.h
  have l1 := bs1_lt le
  have l2 := chs_lt (f := t.f) le lg
  have l3 := bs0_lt la
  have l4 := mjs_lt (b := t.b) la lc
  have f1 := bs1_form le
  have f2 := chs_form le lf lg
  have f3 := bs0_form la
  have f4 := mjs_form la lb lc
  have HC1 := Lib.hid (one0_cast t k x)
  have HC2 := Lib.hid (two0_cast t)
  have LO := Lib.hid (show one0 t k x < 68719476736 by unfold one0; omega)
  have LT := Lib.hid (show two0 t < 68719476736 by unfold two0; omega)
  have LD := Lib.hid ld
  have HI := Lib.hid hi
  clear hok ld
  go_wp2
  go_quiet ((go_at_call 25; exact Calls.quiet_of_same (turned_lit _ _ _ (by assumption) (by decide))))
  have M1 := Lib.hid (HM.out.below (pw_below_drewN (Below.refl _ _) nq))
  obtain ⟨wq, hwq⟩ : ∃ wq, wq = wr.drewN nq := ⟨_, rfl⟩
  rw [← hwq] at M1 ⊢
  clear hwq c0 c1 c2 c4 c5' c6 c7 ck cx f1 f2 l1 l2 HM
  obtain ⟨c0, c1, c2, c4, c5', c6, c7, ck, cx⟩ := M1.out.round HI.out
  clear c4 c5' c6 c7 ck cx
  go_wp2
  go_quiet ((go_at_call 25; exact Calls.quiet_of_same (turned_lit _ _ _ (by assumption) (by decide))))
  have M2 := Lib.hid (M1.out.below (pw_below_drewN (Below.refl _ _) nq))
  obtain ⟨wv, hwv⟩ : ∃ wv, wv = wq.drewN nq := ⟨_, rfl⟩
  rw [← hwv] at M2 ⊢
  clear hwv c0 c1 c2 f3 f4 l3 l4 M1
  rw [HC1.out, HC2.out]
  clear HC1 HC2
  have HR := Lib.hid (round_ref t k x)
  generalize one0 t k x = O at LO HR ⊢
  generalize two0 t = T at LT HR ⊢
  go_wp2
  refine l6_loop (i := i) (O := O) (T := T) (t := t) (s := s) _ ⟨⟨⟨⟨rfl, rfl, rfl, rfl, rfl, rfl, rfl⟩, rfl⟩, rfl⟩, rfl, rfl, rfl⟩ rfl M2.out ?_
  intro a w' hF hM
  obtain ⟨v, hv, e⟩ := frame_fn a hF.X.W.A.size hF.X.W.A.defers
  rw [(hv 2).trans hF.X.W.A.t2, (hv 3).trans hF.X.W.A.t3, (hv 4).trans hF.X.W.A.t4, (hv 5).trans hF.X.W.A.t5, (hv 6).trans hF.X.W.A.t6, (hv 7).trans hF.X.W.t7, (hv 12).trans hF.X.t12, (hv 14).trans hF.t14, (hv 15).trans hF.t15, (hv 120).trans hF.t120] at e
  rw [e]
  clear e hF M2 hv
  have c4 := hM.cell (i := 4) rfl
  have c0 := hM.cell (i := 0) rfl
  have g4 := hM.X.fr 4
  have g0 := hM.X.fr 0
  have lO := LO.out
  have lT := LT.out
  have lD := LD.out
  have h2 := (hM.set (i := 4) (x := (t.d + O) % 4294967296) (show (4 : Nat) < 8 by omega)).set (i := 0) (x := (O + T) % 4294967296) (by rw [List.length_set]; show (0 : Nat) < 8; omega)
  rw [HR.out] at h2
  have H2 := Lib.hid h2
  clear h2 hM HR
  clear la lb lc le lf lg lh lk lx
  go_wp2
  rw [(add_form (d := t.d) (O := O) (by omega) lO).2, (add_form (d := O) (O := T) lO lT).2]
  exact HQ.out _ _ ⟨⟨⟨rfl, rfl, rfl, rfl, rfl, rfl, rfl⟩, rfl⟩, rfl⟩ rfl H2.out
set_option maxHeartbeats 2000000 in
set_option maxRecDepth 100000 in
theorem l5_last {u0 u1 u8 u9 u10 u11 u13 u14 u15 u16 u17 u18 u19 u20 u21 u22 u23 u24 u25 u26 u27 u28 u29 u30 u31 u32 u33 u34 u35 u36 u37 u38 u39 u40 u41 u42 u43 u44 u45 u46 u47 u48 u49 u50 u51 u52 u53 u54 u55 u56 u57 u58 u59 u60 u61 u62 u63 u64 u65 u66 u67 u68 u69 u70 u71 u72 u73 u74 u75 u76 u77 u78 u79 u80 u81 u82 u83 u84 u85 u86 u87 u88 u89 u90 u91 u92 u93 u94 u95 u96 u97 u98 u99 u100 u101 u102 u103 u104 u105 u106 u107 u108 u109 u110 u111 u112 u113 u114 u115 u116 u117 u118 u119 u121 u122 u123 u124 u125 u126 u127 u128 u129 u130 u131 u132 u133 u134 u135 u136 u137 u138 u139 u140 u141 u142 u143 u144 u145 u146 u147 u148 u149 u150 u151 u152 u153 u154 u155 u156 u157 u158 u159 u160 u161 u162 u163 u164 u165 u166 u167 u168 u169 u170 u171 u172 u173 u174 u175 u176 u177 u178 u179 u180 u181 u182 u183 u184 u185 u186 u187 u188 u189 u190 u191 u192 u193 u194 u195 u196 u197 u198 u199 u200 u201 u202 u203 u204 u205 u206 u207 u208 u209 u210 u211 u212 u213 u214 u215 u216 u217 u218 u219 u220 u221 u222 u223 u224 u225 u226 u227 u228 u229 u230 u231 u232 u233 u234 u235 u236 u237 u238 u239 u240 u241 : Value} {w wr : World} {g gw gx c5 j i : Nat} {al : List Int} (Q : Exit → Act → World → Prop) (hi : ¬ i < 64)
    (hQ : ∀ a', FrX w g gw gx c5 al j a' → Q (.exit 8) a' wr) :
    Code.wp Tryz.prog (bodyOf 4) Q ⟨#[u0, u1, .pointer (some ⟨w.heap.size, 0, none⟩), .pointer (some ⟨w.heap.size + 1, 0, none⟩), .pointer (some ⟨w.heap.size + 1 + 1, 0, none⟩), .slice (some ⟨g, 0, none⟩) al.length c5, .int .i64 (64 * (j : Int)), .pointer (some ⟨gw, 0, none⟩), u8, u9, u10, u11, .pointer (some ⟨gx, 0, none⟩), u13, u14, u15, u16, u17, u18, u19, u20, u21, u22, u23, u24, u25, u26, u27, u28, u29, u30, u31, u32, u33, u34, u35, u36, u37, u38, u39, u40, u41, u42, u43, u44, u45, u46, u47, u48, u49, u50, u51, u52, u53, u54, u55, u56, u57, u58, u59, u60, u61, u62, u63, u64, u65, u66, u67, u68, u69, u70, u71, u72, u73, u74, u75, u76, u77, u78, u79, u80, u81, u82, u83, u84, u85, u86, u87, u88, u89, u90, u91, u92, u93, u94, u95, u96, u97, u98, u99, u100, u101, u102, u103, u104, u105, u106, u107, u108, u109, u110, u111, u112, u113, u114, u115, u116, u117, u118, u119, .int .i64 (i : Int), u121, u122, u123, u124, u125, u126, u127, u128, u129, u130, u131, u132, u133, u134, u135, u136, u137, u138, u139, u140, u141, u142, u143, u144, u145, u146, u147, u148, u149, u150, u151, u152, u153, u154, u155, u156, u157, u158, u159, u160, u161, u162, u163, u164, u165, u166, u167, u168, u169, u170, u171, u172, u173, u174, u175, u176, u177, u178, u179, u180, u181, u182, u183, u184, u185, u186, u187, u188, u189, u190, u191, u192, u193, u194, u195, u196, u197, u198, u199, u200, u201, u202, u203, u204, u205, u206, u207, u208, u209, u210, u211, u212, u213, u214, u215, u216, u217, u218, u219, u220, u221, u222, u223, u224, u225, u226, u227, u228, u229, u230, u231, u232, u233, u234, u235, u236, u237, u238, u239, u240, u241], []⟩ wr := by
  conv => arg 2; whnf
  have HQ := Lib.hid hQ
  have t5 : decide ((i : Int) < 64) = false := by simp; omega
  clear hQ
  go_wp2
  exact HQ.out _ ⟨⟨⟨rfl, rfl, rfl, rfl, rfl, rfl, rfl⟩, rfl⟩, rfl⟩
theorem mixed_succ (b : List Int) (s : St) (i : Nat) : rnd (mixed kTab b s i) ((kTab.getD i 0 + wAt b i) % 4294967296) = mixed kTab b s (i + 1) := rfl
set_option maxRecDepth 100000 in
theorem l5_loop {w wr : World} {g gw gx c5 j : Nat} {al b : List Int} {s : St} {a : Act} (Q : Exit → Act → World → Prop) (hok : s.ok) (hb : Bytes b) (hF : FrX w g gw gx c5 al j a) (h120 : a.tmps.getD 120 undef = .int .i64 0) (hM : RefX w wr g gw gx al s.nats (wL b 64) s.nats)
    (hX : ∀ a' w', FrX w g gw gx c5 al j a' → RefX w w' g gw gx al s.nats (wL b 64) (mixed kTab b s 64).nats → Q (.exit 8) a' w') : Code.wp Tryz.prog (Code.loop (bodyOf 4)) Q a wr := by
  refine wp_loop (fun a w' => ∃ i : Nat, i ≤ 64 ∧ FrX w g gw gx c5 al j a ∧ a.tmps.getD 120 undef = .int .i64 (i : Int) ∧ ∃ t : St, t = mixed kTab b s i ∧ RefX w w' g gw gx al s.nats (wL b 64) t.nats) (fun a _ => 64 - (intOf (a.tmps.getD 120 undef)).toNat) ⟨0, by omega, hF, h120, s, rfl, hM⟩ ?_
  rintro a w' ⟨i, h2, hF, h9, t, ht, hM⟩
  have e := frame_out a hF.W.A.size hF.W.A.defers
  rw [hF.W.A.t2, hF.W.A.t3, hF.W.A.t4, hF.W.A.t5, hF.W.A.t6, hF.W.t7, hF.t12, h9] at e
  by_cases hi : i < 64
  · have hto : t.ok := by rw [ht]; exact mixed_ok hok i
    have hQ : ∀ a' w'', FrX w g gw gx c5 al j a' → a'.tmps.getD 120 undef = .int .i64 ((i : Int) + 1) → RefX w w'' g gw gx al s.nats (wL b 64) (rnd t ((kTab.getD i 0 + wAt b i) % 4294967296)).nats → Exit.then (fun a' w' => (∃ i : Nat, i ≤ 64 ∧ FrX w g gw gx c5 al j a' ∧ a'.tmps.getD 120 undef = .int .i64 (i : Int) ∧ ∃ t : St, t = mixed kTab b s i ∧ RefX w w' g gw gx al s.nats (wL b 64) t.nats) ∧ 64 - (intOf (a'.tmps.getD 120 undef)).toNat < 64 - (intOf (a.tmps.getD 120 undef)).toNat) Q .normal a' w'' :=
      fun a' w'' f1 f2 f3 => ⟨⟨i + 1, hi, f1, f2, _, by rw [ht]; exact mixed_succ b s i, f3⟩, mu_at 120 64 h9 f2 hi⟩
    generalize Exit.then (fun a' w' => (∃ i : Nat, i ≤ 64 ∧ FrX w g gw gx c5 al j a' ∧ a'.tmps.getD 120 undef = .int .i64 (i : Int) ∧ ∃ t : St, t = mixed kTab b s i ∧ RefX w w' g gw gx al s.nats (wL b 64) t.nats) ∧ 64 - (intOf (a'.tmps.getD 120 undef)).toNat < 64 - (intOf (a.tmps.getD 120 undef)).toNat) Q = Q2 at hQ ⊢
    rw [e]
    exact l5_step Q2 hto hb hi hM hQ
  · obtain rfl : i = 64 := by omega
    rw [ht] at hM
    rw [e]
    exact l5_last _ hi (fun a' f => hX a' w' f hM)
end Go.Proofs.YtoakjdgknbhgiaaGreatDoor.Dig
/- The walk over the reference's digest in pieces: what was mixed is added. -/
namespace Go.Proofs.YtoakjdgknbhgiaaGreatDoor.Dig
open Go Go.RowKit Go.Proofs.YtoakjdgknbhgiaaGreatDoor.QDig Go.Proofs.YtoakjdgknbhgiaaGreatDoorW.PrintWords Go.Proofs.YtoakjdgknbhgiaaGreatDoorW.PrintLast Go.Proofs.YtoakjdgknbhgiaaGreatDoorW.PrintMore Gy

set_option maxHeartbeats 4000000 in
set_option maxRecDepth 100000 in
theorem l7_step {u0 u1 u8 u9 u10 u11 u13 u14 u15 u16 u17 u18 u19 u20 u21 u22 u23 u24 u25 u26 u27 u28 u29 u30 u31 u32 u33 u34 u35 u36 u37 u38 u39 u40 u41 u42 u43 u44 u45 u46 u47 u48 u49 u50 u51 u52 u53 u54 u55 u56 u57 u58 u59 u60 u61 u62 u63 u64 u65 u66 u67 u68 u69 u70 u71 u72 u73 u74 u75 u76 u77 u78 u79 u80 u81 u82 u83 u84 u85 u86 u87 u88 u89 u90 u91 u92 u93 u94 u95 u96 u97 u98 u99 u100 u101 u102 u103 u104 u105 u106 u107 u108 u109 u110 u111 u112 u113 u114 u115 u116 u117 u118 u119 u120 u121 u122 u123 u124 u125 u126 u127 u128 u129 u130 u131 u132 u133 u134 u135 u136 u137 u138 u139 u140 u141 u142 u143 u144 u145 u146 u147 u148 u149 u150 u151 u152 u153 u154 u155 u156 u157 u158 u159 u160 u161 u162 u163 u164 u165 u166 u167 u168 u169 u170 u171 u172 u173 u174 u175 u176 u177 u178 u179 u180 u181 u182 u183 u184 u185 u186 u187 u188 u189 u190 u191 u192 u193 u194 u195 u196 u197 u198 u199 u200 u201 u202 u203 u204 u205 u206 u207 u208 u210 u211 u212 u213 u214 u215 u216 u217 u218 u219 u220 u221 u222 u223 u224 u225 u226 u227 u228 u229 u230 u231 u232 u233 u234 u235 u236 u237 u238 u239 u240 u241 : Value} {w wr : World} {g gw gx c5 j i : Nat} {al : List Int} {s t : St} {ws : List Nat} (Q : Exit → Act → World → Prop) (hs : s.ok) (ht : t.ok) (hi : i < 8) (hM : RefX w wr g gw gx al (addP s t i) ws t.nats)
    (hQ : ∀ a' w', FrX w g gw gx c5 al j a' → a'.tmps.getD 209 undef = .int .i64 ((i : Int) + 1) → RefX w w' g gw gx al (addP s t (i + 1)) ws t.nats → Q .normal a' w') :
    Code.wp Tryz.prog (bodyOf 6) Q ⟨#[u0, u1, .pointer (some ⟨w.heap.size, 0, none⟩), .pointer (some ⟨w.heap.size + 1, 0, none⟩), .pointer (some ⟨w.heap.size + 1 + 1, 0, none⟩), .slice (some ⟨g, 0, none⟩) al.length c5, .int .i64 (64 * (j : Int)), .pointer (some ⟨gw, 0, none⟩), u8, u9, u10, u11, .pointer (some ⟨gx, 0, none⟩), u13, u14, u15, u16, u17, u18, u19, u20, u21, u22, u23, u24, u25, u26, u27, u28, u29, u30, u31, u32, u33, u34, u35, u36, u37, u38, u39, u40, u41, u42, u43, u44, u45, u46, u47, u48, u49, u50, u51, u52, u53, u54, u55, u56, u57, u58, u59, u60, u61, u62, u63, u64, u65, u66, u67, u68, u69, u70, u71, u72, u73, u74, u75, u76, u77, u78, u79, u80, u81, u82, u83, u84, u85, u86, u87, u88, u89, u90, u91, u92, u93, u94, u95, u96, u97, u98, u99, u100, u101, u102, u103, u104, u105, u106, u107, u108, u109, u110, u111, u112, u113, u114, u115, u116, u117, u118, u119, u120, u121, u122, u123, u124, u125, u126, u127, u128, u129, u130, u131, u132, u133, u134, u135, u136, u137, u138, u139, u140, u141, u142, u143, u144, u145, u146, u147, u148, u149, u150, u151, u152, u153, u154, u155, u156, u157, u158, u159, u160, u161, u162, u163, u164, u165, u166, u167, u168, u169, u170, u171, u172, u173, u174, u175, u176, u177, u178, u179, u180, u181, u182, u183, u184, u185, u186, u187, u188, u189, u190, u191, u192, u193, u194, u195, u196, u197, u198, u199, u200, u201, u202, u203, u204, u205, u206, u207, u208, .int .i64 (i : Int), u210, u211, u212, u213, u214, u215, u216, u217, u218, u219, u220, u221, u222, u223, u224, u225, u226, u227, u228, u229, u230, u231, u232, u233, u234, u235, u236, u237, u238, u239, u240, u241], []⟩ wr := by
  conv => arg 2; whnf
  have HQ := Lib.hid hQ
  have t5 : decide ((i : Int) < 8) = true := decide_eq_true (by omega)
  have bi : (i : Int) < 8 := by omega
  have ck : wr.cell? ⟨w.heap.size + 1 + 1, i, none⟩ = some (.int .u64 ((s.nats.getD i 0 : Nat) : Int)) := by
    refine hM.W.C.H.cell ?_
    unfold n64
    rw [List.getElem?_map, addP_at s t i hi]
    rfl
  have cx := hM.cell (nats_at t hi)
  have fk := hM.W.C.H.fr i
  have ly := nats_lt hs i hi
  have lx := nats_lt ht i hi
  have hst := fun (wz : World) (hz : RefX w wz g gw gx al (addP s t i) ws t.nats) => hz.setH (i := i) (x := (s.nats.getD i 0 + t.nats.getD i 0) % 4294967296) (by rw [addP_length s t i (by omega)]; exact hi)
  rw [addP_set s t i hi] at hst
  obtain ⟨gh, hgh⟩ : ∃ gh, gh = w.heap.size + 1 + 1 := ⟨_, rfl⟩
  rw [← hgh] at ck fk hst ⊢
  have HG := Lib.hid hgh
  clear hgh
  have HST := Lib.hid hst
  have HM := Lib.hid hM
  clear hst hQ hM
  generalize s.nats.getD i 0 = y at ck ly HST
  generalize t.nats.getD i 0 = x at cx lx HST
  have HS := Lib.hid (add_form (d := y) (O := x) (by omega) (by omega))
  obtain ⟨wv, hwv⟩ : ∃ wv, wv = wr := ⟨_, rfl⟩
  rw [← hwv] at ck cx fk HM ⊢
  clear hwv
  go_wp2
  obtain ⟨s1, s2⟩ := HS.out
  refine Gy.FlowL.flow (by kernel_rfl) (fun i_ => List.getD [(fun v _ => v = .int .i64 (i : Int)), (fun v _ => v = .int .i64 (i : Int)), (fun v _ => v = .pointer (some ⟨gh, i, none⟩)), (fun v _ => v = .int .u64 (y : Int)), (fun v _ => v = .int .i64 (i : Int)), (fun v _ => v = .pointer (some ⟨gx, i, none⟩)), (fun v _ => v = .int .u64 (x : Int)), (fun v _ => v = .int .u64 ((y : Int) + (x : Int))), (fun v _ => v = .int .u64 (((y + x) % 4294967296 : Nat) : Int)), (fun v _ => v = .pointer (some ⟨gh, i, none⟩)), (fun _ _ => True)] i_ (fun _ _ => True)) (fun L w => (L 10 = false → w = wv.drew) ∧ (L 10 = true → w = wv.drew.setCell ⟨gh, i, none⟩ (.int .u64 (((y + x) % 4294967296 : Nat) : Int)))) (fun _ _ => True) (by kernel_rfl) ⟨fun _ => rfl, fun h => by cases h⟩ (Gy.FlowL.mono_list [(fun v _ => v = .int .i64 (i : Int)), (fun v _ => v = .int .i64 (i : Int)), (fun v _ => v = .pointer (some ⟨gh, i, none⟩)), (fun v _ => v = .int .u64 (y : Int)), (fun v _ => v = .int .i64 (i : Int)), (fun v _ => v = .pointer (some ⟨gx, i, none⟩)), (fun v _ => v = .int .u64 (x : Int)), (fun v _ => v = .int .u64 ((y : Int) + (x : Int))), (fun v _ => v = .int .u64 (((y + x) % 4294967296 : Nat) : Int)), (fun v _ => v = .pointer (some ⟨gh, i, none⟩)), (fun _ _ => True)] ?_) (Gy.FlowL.of_allFrom ⟨?_, ?_, ?_, ?_, ?_, ?_, ?_, ?_, ?_, ?_, ?_, trivial⟩) ?_
  · exact ⟨fun v w w' h hb => h, fun v w w' h hb => h, fun v w w' h hb => h, fun v w w' h hb => h, fun v w w' h hb => h, fun v w w' h hb => h, fun v w w' h hb => h, fun v w w' h hb => h, fun v w w' h hb => h, fun v w w' h hb => h, fun v w w' h hb => h, trivial⟩
  · intro L a w hD
    have e17 : a.eval (.tmp 17) = .int .i64 (i : Int) := hD.same.at_other 17 (by kernel_rfl)
    exact Gy.FlowL.step_move rfl rfl (Gy.FlowL.wanted_none rfl) e17 hD.J trivial
  · intro L a w hD
    have e17 : a.eval (.tmp 17) = .int .i64 (i : Int) := hD.same.at_other 17 (by kernel_rfl)
    exact Gy.FlowL.step_move rfl rfl (Gy.FlowL.wanted_none rfl) e17 hD.J trivial
  · intro L a w hD
    have e4 : a.eval (.tmp 4) = .pointer (some ⟨gh, 0, none⟩) := hD.same.at_other 4 (by kernel_rfl)
    have e213 : a.eval (.tmp 213) = .int .i64 (i : Int) := hD.at 1 (by kernel_rfl)
    have f4 := e4; simp only [Act.eval, Array.getD_eq_getD_getElem?] at f4
    have f213 := e213; simp only [Act.eval, Array.getD_eq_getD_getElem?] at f213
    refine Gy.FlowL.step_value rfl (Gy.FlowL.wanted_none rfl) (v := .pointer (some ⟨gh, i, none⟩)) (w1 := w) ?_ rfl hD.J trivial
    simp only [execOp, e4, e213]; go_simp
  · intro L a w hD
    have e214 : a.eval (.tmp 214) = .pointer (some ⟨gh, i, none⟩) := hD.at 2 (by kernel_rfl)
    have hw := hD.J.1 (hD.later 10 (by kernel_rfl))
    have f214 := e214; simp only [Act.eval, Array.getD_eq_getD_getElem?] at f214
    have hJ := hD.J
    clear hD
    subst hw
    refine Gy.FlowL.step_value rfl (Gy.FlowL.wanted_none rfl) (v := .int .u64 (y : Int)) (w1 := wv.drew) ?_ rfl hJ trivial
    simp only [execOp, e214]; go_simp
  · intro L a w hD
    have e17 : a.eval (.tmp 17) = .int .i64 (i : Int) := hD.same.at_other 17 (by kernel_rfl)
    exact Gy.FlowL.step_move rfl rfl (Gy.FlowL.wanted_none rfl) e17 hD.J trivial
  · intro L a w hD
    have e12 : a.eval (.tmp 12) = .pointer (some ⟨gx, 0, none⟩) := hD.same.at_other 12 (by kernel_rfl)
    have e216 : a.eval (.tmp 216) = .int .i64 (i : Int) := hD.at 4 (by kernel_rfl)
    have f12 := e12; simp only [Act.eval, Array.getD_eq_getD_getElem?] at f12
    have f216 := e216; simp only [Act.eval, Array.getD_eq_getD_getElem?] at f216
    refine Gy.FlowL.step_value rfl (Gy.FlowL.wanted_none rfl) (v := .pointer (some ⟨gx, i, none⟩)) (w1 := w) ?_ rfl hD.J trivial
    simp only [execOp, e12, e216]; go_simp
  · intro L a w hD
    have e217 : a.eval (.tmp 217) = .pointer (some ⟨gx, i, none⟩) := hD.at 5 (by kernel_rfl)
    have hw := hD.J.1 (hD.later 10 (by kernel_rfl))
    have f217 := e217; simp only [Act.eval, Array.getD_eq_getD_getElem?] at f217
    have hJ := hD.J
    clear hD
    subst hw
    refine Gy.FlowL.step_value rfl (Gy.FlowL.wanted_none rfl) (v := .int .u64 (x : Int)) (w1 := wv.drew) ?_ rfl hJ trivial
    simp only [execOp, e217]; go_simp
  · intro L a w hD
    have e215 : a.eval (.tmp 215) = .int .u64 (y : Int) := hD.at 3 (by kernel_rfl)
    have e218 : a.eval (.tmp 218) = .int .u64 (x : Int) := hD.at 6 (by kernel_rfl)
    have f215 := e215; simp only [Act.eval, Array.getD_eq_getD_getElem?] at f215
    have f218 := e218; simp only [Act.eval, Array.getD_eq_getD_getElem?] at f218
    refine Gy.FlowL.step_value rfl (Gy.FlowL.wanted_none rfl) (v := .int .u64 ((y : Int) + (x : Int))) (w1 := w) ?_ rfl hD.J trivial
    simp only [execOp, e215, e218]; go_simp
  · intro L a w hD
    have e219 : a.eval (.tmp 219) = .int .u64 ((y : Int) + (x : Int)) := hD.at 7 (by kernel_rfl)
    have f219 := e219; simp only [Act.eval, Array.getD_eq_getD_getElem?] at f219
    refine Gy.FlowL.step_value rfl (Gy.FlowL.wanted_none rfl) (v := .int .u64 (((y + x) % 4294967296 : Nat) : Int)) (w1 := w) ?_ rfl hD.J trivial
    simp only [execOp, e219]; go_simp
  · intro L a w hD
    have e4 : a.eval (.tmp 4) = .pointer (some ⟨gh, 0, none⟩) := hD.same.at_other 4 (by kernel_rfl)
    have e212 : a.eval (.tmp 212) = .int .i64 (i : Int) := hD.at 0 (by kernel_rfl)
    have f4 := e4; simp only [Act.eval, Array.getD_eq_getD_getElem?] at f4
    have f212 := e212; simp only [Act.eval, Array.getD_eq_getD_getElem?] at f212
    refine Gy.FlowL.step_value rfl (Gy.FlowL.wanted_none rfl) (v := .pointer (some ⟨gh, i, none⟩)) (w1 := w) ?_ rfl hD.J trivial
    simp only [execOp, e4, e212]; go_simp
  · intro L a w hD
    have e221 : a.eval (.tmp 221) = .pointer (some ⟨gh, i, none⟩) := hD.at 9 (by kernel_rfl)
    have e220 : a.eval (.tmp 220) = .int .u64 (((y + x) % 4294967296 : Nat) : Int) := hD.at 8 (by kernel_rfl)
    have hw := hD.J.1 hD.not
    have f221 := e221; simp only [Act.eval, Array.getD_eq_getD_getElem?] at f221
    have f220 := e220; simp only [Act.eval, Array.getD_eq_getD_getElem?] at f220
    clear hD
    subst hw
    refine Gy.FlowL.step_skip (w1 := wv.drew.setCell ⟨gh, i, none⟩ (.int .u64 (((y + x) % 4294967296 : Nat) : Int))) rfl (Gy.FlowL.wanted_none rfl) ?_ trivial ⟨fun h => absurd h (by simp [Gy.FlowL.add]), fun _ => rfl⟩ trivial
    simp only [execOp, e221, e220]; go_simp
  · intro L a w hs hJ hL hv
    have hw := hJ.2 (hL 10 (by decide))
    have hp := Gy.FlowL.same_puts (by kernel_rfl) hs
    generalize Gy.FlowL.At _ a = vs at hp
    clear hv hs hJ hL
    subst hp hw
    simp only [Gy.FlowL.puts, Act.put, List.setIfInBounds_toArray, List.set_cons_zero, List.set_cons_succ]
    have M3 := Lib.hid (HST.out _ (HM.out.below (Gy.drew_below _)))
    clear ck cx fk s1 s2
    generalize wv.drew.setCell ⟨gh, i, none⟩ (.int .u64 (((y + x) % 4294967296 : Nat) : Int)) = wx at M3 ⊢
    go_wp2
    rw [HG.out]
    exact HQ.out _ _ ⟨⟨⟨rfl, rfl, rfl, rfl, rfl, rfl, rfl⟩, rfl⟩, rfl⟩ rfl M3.out
set_option maxHeartbeats 2000000 in
set_option maxRecDepth 100000 in
theorem l7_last {u0 u1 u8 u9 u10 u11 u13 u14 u15 u16 u17 u18 u19 u20 u21 u22 u23 u24 u25 u26 u27 u28 u29 u30 u31 u32 u33 u34 u35 u36 u37 u38 u39 u40 u41 u42 u43 u44 u45 u46 u47 u48 u49 u50 u51 u52 u53 u54 u55 u56 u57 u58 u59 u60 u61 u62 u63 u64 u65 u66 u67 u68 u69 u70 u71 u72 u73 u74 u75 u76 u77 u78 u79 u80 u81 u82 u83 u84 u85 u86 u87 u88 u89 u90 u91 u92 u93 u94 u95 u96 u97 u98 u99 u100 u101 u102 u103 u104 u105 u106 u107 u108 u109 u110 u111 u112 u113 u114 u115 u116 u117 u118 u119 u120 u121 u122 u123 u124 u125 u126 u127 u128 u129 u130 u131 u132 u133 u134 u135 u136 u137 u138 u139 u140 u141 u142 u143 u144 u145 u146 u147 u148 u149 u150 u151 u152 u153 u154 u155 u156 u157 u158 u159 u160 u161 u162 u163 u164 u165 u166 u167 u168 u169 u170 u171 u172 u173 u174 u175 u176 u177 u178 u179 u180 u181 u182 u183 u184 u185 u186 u187 u188 u189 u190 u191 u192 u193 u194 u195 u196 u197 u198 u199 u200 u201 u202 u203 u204 u205 u206 u207 u208 u210 u211 u212 u213 u214 u215 u216 u217 u218 u219 u220 u221 u222 u223 u224 u225 u226 u227 u228 u229 u230 u231 u232 u233 u234 u235 u236 u237 u238 u239 u240 u241 : Value} {w wr : World} {g gw gx c5 j i : Nat} {al : List Int} (Q : Exit → Act → World → Prop) (hi : ¬ i < 8)
    (hQ : ∀ a', FrX w g gw gx c5 al j a' → Q (.exit 12) a' wr) :
    Code.wp Tryz.prog (bodyOf 6) Q ⟨#[u0, u1, .pointer (some ⟨w.heap.size, 0, none⟩), .pointer (some ⟨w.heap.size + 1, 0, none⟩), .pointer (some ⟨w.heap.size + 1 + 1, 0, none⟩), .slice (some ⟨g, 0, none⟩) al.length c5, .int .i64 (64 * (j : Int)), .pointer (some ⟨gw, 0, none⟩), u8, u9, u10, u11, .pointer (some ⟨gx, 0, none⟩), u13, u14, u15, u16, u17, u18, u19, u20, u21, u22, u23, u24, u25, u26, u27, u28, u29, u30, u31, u32, u33, u34, u35, u36, u37, u38, u39, u40, u41, u42, u43, u44, u45, u46, u47, u48, u49, u50, u51, u52, u53, u54, u55, u56, u57, u58, u59, u60, u61, u62, u63, u64, u65, u66, u67, u68, u69, u70, u71, u72, u73, u74, u75, u76, u77, u78, u79, u80, u81, u82, u83, u84, u85, u86, u87, u88, u89, u90, u91, u92, u93, u94, u95, u96, u97, u98, u99, u100, u101, u102, u103, u104, u105, u106, u107, u108, u109, u110, u111, u112, u113, u114, u115, u116, u117, u118, u119, u120, u121, u122, u123, u124, u125, u126, u127, u128, u129, u130, u131, u132, u133, u134, u135, u136, u137, u138, u139, u140, u141, u142, u143, u144, u145, u146, u147, u148, u149, u150, u151, u152, u153, u154, u155, u156, u157, u158, u159, u160, u161, u162, u163, u164, u165, u166, u167, u168, u169, u170, u171, u172, u173, u174, u175, u176, u177, u178, u179, u180, u181, u182, u183, u184, u185, u186, u187, u188, u189, u190, u191, u192, u193, u194, u195, u196, u197, u198, u199, u200, u201, u202, u203, u204, u205, u206, u207, u208, .int .i64 (i : Int), u210, u211, u212, u213, u214, u215, u216, u217, u218, u219, u220, u221, u222, u223, u224, u225, u226, u227, u228, u229, u230, u231, u232, u233, u234, u235, u236, u237, u238, u239, u240, u241], []⟩ wr := by
  conv => arg 2; whnf
  have HQ := Lib.hid hQ
  have t5 : decide ((i : Int) < 8) = false := by simp; omega
  clear hQ
  go_wp2
  exact HQ.out _ ⟨⟨⟨rfl, rfl, rfl, rfl, rfl, rfl, rfl⟩, rfl⟩, rfl⟩
set_option maxRecDepth 100000 in
theorem l7_loop {w wr : World} {g gw gx c5 j : Nat} {al : List Int} {s t : St} {ws : List Nat} {a : Act} (Q : Exit → Act → World → Prop) (hs : s.ok) (ht : t.ok) (hF : FrX w g gw gx c5 al j a) (h209 : a.tmps.getD 209 undef = .int .i64 0) (hM : RefX w wr g gw gx al s.nats ws t.nats)
    (hX : ∀ a' w', FrX w g gw gx c5 al j a' → RefX w w' g gw gx al (s.plus t).nats ws t.nats → Q (.exit 12) a' w') : Code.wp Tryz.prog (Code.loop (bodyOf 6)) Q a wr := by
  refine wp_loop (fun a w' => ∃ i : Nat, i ≤ 8 ∧ FrX w g gw gx c5 al j a ∧ a.tmps.getD 209 undef = .int .i64 (i : Int) ∧ RefX w w' g gw gx al (addP s t i) ws t.nats) (fun a _ => 8 - (intOf (a.tmps.getD 209 undef)).toNat) ⟨0, by omega, hF, h209, hM⟩ ?_
  rintro a w' ⟨i, h2, hF, h9, hM⟩
  have e := frame_out a hF.W.A.size hF.W.A.defers
  rw [hF.W.A.t2, hF.W.A.t3, hF.W.A.t4, hF.W.A.t5, hF.W.A.t6, hF.W.t7, hF.t12, h9] at e
  by_cases hi : i < 8
  · have hQ : ∀ a' w'', FrX w g gw gx c5 al j a' → a'.tmps.getD 209 undef = .int .i64 ((i : Int) + 1) → RefX w w'' g gw gx al (addP s t (i + 1)) ws t.nats → Exit.then (fun a' w' => (∃ i : Nat, i ≤ 8 ∧ FrX w g gw gx c5 al j a' ∧ a'.tmps.getD 209 undef = .int .i64 (i : Int) ∧ RefX w w' g gw gx al (addP s t i) ws t.nats) ∧ 8 - (intOf (a'.tmps.getD 209 undef)).toNat < 8 - (intOf (a.tmps.getD 209 undef)).toNat) Q .normal a' w'' :=
      fun a' w'' f1 f2 f3 => ⟨⟨i + 1, hi, f1, f2, f3⟩, mu_at 209 8 h9 f2 hi⟩
    generalize Exit.then (fun a' w' => (∃ i : Nat, i ≤ 8 ∧ FrX w g gw gx c5 al j a' ∧ a'.tmps.getD 209 undef = .int .i64 (i : Int) ∧ RefX w w' g gw gx al (addP s t i) ws t.nats) ∧ 8 - (intOf (a'.tmps.getD 209 undef)).toNat < 8 - (intOf (a.tmps.getD 209 undef)).toNat) Q = Q2 at hQ ⊢
    rw [e]
    exact l7_step Q2 hs ht hi hM hQ
  · obtain rfl : i = 8 := by omega
    rw [e]
    exact l7_last _ hi (fun a' f => hX a' w' f hM)
end Go.Proofs.YtoakjdgknbhgiaaGreatDoor.Dig
/- The walk over the reference's digest in pieces: a chunk. -/
namespace Go.Proofs.YtoakjdgknbhgiaaGreatDoor.Dig
open Go Go.RowKit Go.Proofs.YtoakjdgknbhgiaaGreatDoor.QDig Go.Proofs.YtoakjdgknbhgiaaGreatDoorW.PrintWords Go.Proofs.YtoakjdgknbhgiaaGreatDoorW.PrintLast Go.Proofs.YtoakjdgknbhgiaaGreatDoorW.PrintMore Gy

theorem ref_x {w wr : World} {g gw : Nat} {al : List Int} {s : St} {ws : List Nat} (h : RefW w wr g gw al s.nats ws) (zs : Array Value) (hz : zs = (n64 (List.replicate 8 0)).toArray) :
    (wr.alloc (.cells zs 68)).there wr.heap.size 0 (n64 s.nats).toArray.size ∧ RefX w ((wr.alloc (.cells zs 68)).setCells wr.heap.size 0 (n64 s.nats)) g gw wr.heap.size al s.nats ws s.nats := by
  have h1 := Arr.fresh wr _ zs hz 68
  have hl : (n64 s.nats).length = (n64 (List.replicate 8 0)).length := by rw [n64_length, n64_length]; rfl
  have hlt := h.W.lt
  have ho := h.o
  have hb := h.below (Gy.alloc_below wr (.cells zs 68))
  exact ⟨h1.there2 _ hl, ⟨hb.C.far_cells (by omega) _ _, hb.W.far_cells (by omega) _ _, ho⟩, h1.put _ hl, hlt⟩
theorem mixSt_eq (b : List Int) (s t : St) (h : t = mixed kTab b s 64) : s.plus t = mixSt kTab b s := by subst h; rfl
set_option maxHeartbeats 4000000 in
set_option maxRecDepth 100000 in
theorem l2_step {u0 u1 u7 u8 u9 u10 u11 u12 u13 u14 u15 u16 u17 u18 u19 u20 u21 u22 u23 u24 u25 u26 u27 u28 u29 u30 u31 u32 u33 u34 u35 u36 u37 u38 u39 u40 u41 u42 u43 u44 u45 u46 u47 u48 u49 u50 u51 u52 u53 u54 u55 u56 u57 u58 u59 u60 u61 u62 u63 u64 u65 u66 u67 u68 u69 u70 u71 u72 u73 u74 u75 u76 u77 u78 u79 u80 u81 u82 u83 u84 u85 u86 u87 u88 u89 u90 u91 u92 u93 u94 u95 u96 u97 u98 u99 u100 u101 u102 u103 u104 u105 u106 u107 u108 u109 u110 u111 u112 u113 u114 u115 u116 u117 u118 u119 u120 u121 u122 u123 u124 u125 u126 u127 u128 u129 u130 u131 u132 u133 u134 u135 u136 u137 u138 u139 u140 u141 u142 u143 u144 u145 u146 u147 u148 u149 u150 u151 u152 u153 u154 u155 u156 u157 u158 u159 u160 u161 u162 u163 u164 u165 u166 u167 u168 u169 u170 u171 u172 u173 u174 u175 u176 u177 u178 u179 u180 u181 u182 u183 u184 u185 u186 u187 u188 u189 u190 u191 u192 u193 u194 u195 u196 u197 u198 u199 u200 u201 u202 u203 u204 u205 u206 u207 u208 u209 u210 u211 u212 u213 u214 u215 u216 u217 u218 u219 u220 u221 u222 u223 u224 u225 u226 u227 u228 u229 u230 u231 u232 u233 u234 u235 u236 u237 u238 u239 u240 u241 : Value} {w wr : World} {g c5 j N : Nat} {al : List Int} {s : St} (Q : Exit → Act → World → Prop) (hb : Bytes al) (hcap : al.length ≤ c5) (hal : al.length ≤ 1000072) (hlen : al.length = 64 * N) (hok : s.ok) (hj : j < N) (hM : RefC w wr g al s.nats)
    (hQ : ∀ a' w', FrA w g c5 al (j + 1) a' → RefC w w' g al (mixSt kTab (al.drop (64 * j)) s).nats → Q .normal a' w') :
    Code.wp Tryz.prog (bodyOf 1) Q ⟨#[u0, u1, .pointer (some ⟨w.heap.size, 0, none⟩), .pointer (some ⟨w.heap.size + 1, 0, none⟩), .pointer (some ⟨w.heap.size + 1 + 1, 0, none⟩), .slice (some ⟨g, 0, none⟩) al.length c5, .int .i64 (64 * (j : Int)), u7, u8, u9, u10, u11, u12, u13, u14, u15, u16, u17, u18, u19, u20, u21, u22, u23, u24, u25, u26, u27, u28, u29, u30, u31, u32, u33, u34, u35, u36, u37, u38, u39, u40, u41, u42, u43, u44, u45, u46, u47, u48, u49, u50, u51, u52, u53, u54, u55, u56, u57, u58, u59, u60, u61, u62, u63, u64, u65, u66, u67, u68, u69, u70, u71, u72, u73, u74, u75, u76, u77, u78, u79, u80, u81, u82, u83, u84, u85, u86, u87, u88, u89, u90, u91, u92, u93, u94, u95, u96, u97, u98, u99, u100, u101, u102, u103, u104, u105, u106, u107, u108, u109, u110, u111, u112, u113, u114, u115, u116, u117, u118, u119, u120, u121, u122, u123, u124, u125, u126, u127, u128, u129, u130, u131, u132, u133, u134, u135, u136, u137, u138, u139, u140, u141, u142, u143, u144, u145, u146, u147, u148, u149, u150, u151, u152, u153, u154, u155, u156, u157, u158, u159, u160, u161, u162, u163, u164, u165, u166, u167, u168, u169, u170, u171, u172, u173, u174, u175, u176, u177, u178, u179, u180, u181, u182, u183, u184, u185, u186, u187, u188, u189, u190, u191, u192, u193, u194, u195, u196, u197, u198, u199, u200, u201, u202, u203, u204, u205, u206, u207, u208, u209, u210, u211, u212, u213, u214, u215, u216, u217, u218, u219, u220, u221, u222, u223, u224, u225, u226, u227, u228, u229, u230, u231, u232, u233, u234, u235, u236, u237, u238, u239, u240, u241], []⟩ wr := by
  conv => arg 2; whnf
  obtain ⟨zt, hzt, hz64⟩ := zero_64w
  obtain ⟨zs, hzs, hz8⟩ := zero_8w
  have HQ := Lib.hid hQ
  obtain ⟨t1, t2, t3⟩ := chunk_facts hj (show 64 * N ≤ 2000000 by omega)
  rw [← hlen] at t1
  have HT := Lib.hid (And.intro t2 t3)
  have HJ := Lib.hid (show 64 * j + 64 ≤ al.length by omega)
  have HW := Lib.hid (ref_w hM (show 0 < al.length by omega) zt hzt (al.drop (64 * j)))
  have HA := Lib.hid (And.intro hb (And.intro hcap (And.intro hal (And.intro hzs hok))))
  have hjb : j ≤ 15626 := by omega
  clear hQ t2 t3 hM hb hcap hal hzt hzs hok hj hlen
  go_wp2
  generalize wr.heap.size = gw at HW ⊢
  refine l3_loop (j := j) (s := s) (gw := gw) _ HA.out.1 HA.out.2.1 HJ.out HA.out.2.2.1 ⟨⟨rfl, rfl, rfl, rfl, rfl, rfl, rfl⟩, rfl⟩ rfl HW.out ?_
  intro a w1 hF hM
  obtain ⟨v, hv, e⟩ := frame_fn a hF.A.size hF.A.defers
  rw [(hv 2).trans hF.A.t2, (hv 3).trans hF.A.t3, (hv 4).trans hF.A.t4, (hv 5).trans hF.A.t5, (hv 6).trans hF.A.t6, (hv 7).trans hF.t7] at e
  rw [e]
  clear e hF hv HW
  have HM := Lib.hid hM
  clear hM
  go_wp2
  refine l4_loop (j := j) (s := s) (gw := gw) _ HA.out.1 ⟨⟨rfl, rfl, rfl, rfl, rfl, rfl, rfl⟩, rfl⟩ rfl HM.out ?_
  intro a w2 hF hM
  obtain ⟨v2, hv, e⟩ := frame_fn a hF.A.size hF.A.defers
  rw [(hv 2).trans hF.A.t2, (hv 3).trans hF.A.t3, (hv 4).trans hF.A.t4, (hv 5).trans hF.A.t5, (hv 6).trans hF.A.t6, (hv 7).trans hF.t7] at e
  rw [e]
  clear e hF hv HM
  have HX := Lib.hid (And.intro (ref_x hM zs HA.out.2.2.2.1) hM)
  clear hM
  go_wp2_with (first
    | (with_reducible refine wpList_load_mid rfl 68 (.tmp 4) rfl (w.heap.size + 1 + 1) 0 rfl (n64 s.nats) _ HX.out.2.C.H.at_ Tryz.underlying68 rfl (info_8a s) ?_)
    | (with_reducible refine store_row rfl 68 (.tmp 12) (.tmp 119) rfl rfl w2.heap.size (n64 s.nats) rfl rfl HX.out.1.1 (info_8b _) (n64_one _) ?_))
  have HX2 := Lib.hid HX.out.1.2
  clear HX
  generalize w2.heap.size = gx at HX2 ⊢
  refine l5_loop (j := j) (s := s) (gw := gw) (gx := gx) _ HA.out.2.2.2.2 (HA.out.1.drop (64 * j)) ⟨⟨⟨rfl, rfl, rfl, rfl, rfl, rfl, rfl⟩, rfl⟩, rfl⟩ rfl HX2.out ?_
  intro a w3 hF hM
  obtain ⟨t, ht⟩ : ∃ t, t = mixed kTab (al.drop (64 * j)) s 64 := ⟨_, rfl⟩
  rw [← ht] at hM
  have HT2 := Lib.hid (And.intro (mixSt_eq _ s t ht) (show t.ok by rw [ht]; exact mixed_ok HA.out.2.2.2.2 64))
  clear ht HX2
  obtain ⟨v3, hv, e⟩ := frame_fn a hF.W.A.size hF.W.A.defers
  rw [(hv 2).trans hF.W.A.t2, (hv 3).trans hF.W.A.t3, (hv 4).trans hF.W.A.t4, (hv 5).trans hF.W.A.t5, (hv 6).trans hF.W.A.t6, (hv 7).trans hF.W.t7, (hv 12).trans hF.t12] at e
  rw [e]
  clear e hF hv
  have HM := Lib.hid hM
  clear hM
  go_wp2
  refine l7_loop (j := j) (s := s) (t := t) (gw := gw) (gx := gx) _ HA.out.2.2.2.2 HT2.out.2 ⟨⟨⟨rfl, rfl, rfl, rfl, rfl, rfl, rfl⟩, rfl⟩, rfl⟩ rfl HM.out ?_
  intro a w4 hF hM
  rw [HT2.out.1] at hM
  obtain ⟨v4, hv, e⟩ := frame_fn a hF.W.A.size hF.W.A.defers
  rw [(hv 2).trans hF.W.A.t2, (hv 3).trans hF.W.A.t3, (hv 4).trans hF.W.A.t4, (hv 5).trans hF.W.A.t5, (hv 6).trans hF.W.A.t6, (hv 7).trans hF.W.t7, (hv 12).trans hF.t12] at e
  rw [e]
  clear e hF hv HM HT2
  have HM := Lib.hid hM.W.C
  clear hM
  go_wp2
  (try rw [HT.out.1])
  rw [HT.out.2]
  exact HQ.out _ _ ⟨rfl, rfl, rfl, rfl, rfl, rfl, rfl⟩ HM.out
set_option maxHeartbeats 2000000 in
set_option maxRecDepth 100000 in
theorem l2_last {u0 u1 u7 u8 u9 u10 u11 u12 u13 u14 u15 u16 u17 u18 u19 u20 u21 u22 u23 u24 u25 u26 u27 u28 u29 u30 u31 u32 u33 u34 u35 u36 u37 u38 u39 u40 u41 u42 u43 u44 u45 u46 u47 u48 u49 u50 u51 u52 u53 u54 u55 u56 u57 u58 u59 u60 u61 u62 u63 u64 u65 u66 u67 u68 u69 u70 u71 u72 u73 u74 u75 u76 u77 u78 u79 u80 u81 u82 u83 u84 u85 u86 u87 u88 u89 u90 u91 u92 u93 u94 u95 u96 u97 u98 u99 u100 u101 u102 u103 u104 u105 u106 u107 u108 u109 u110 u111 u112 u113 u114 u115 u116 u117 u118 u119 u120 u121 u122 u123 u124 u125 u126 u127 u128 u129 u130 u131 u132 u133 u134 u135 u136 u137 u138 u139 u140 u141 u142 u143 u144 u145 u146 u147 u148 u149 u150 u151 u152 u153 u154 u155 u156 u157 u158 u159 u160 u161 u162 u163 u164 u165 u166 u167 u168 u169 u170 u171 u172 u173 u174 u175 u176 u177 u178 u179 u180 u181 u182 u183 u184 u185 u186 u187 u188 u189 u190 u191 u192 u193 u194 u195 u196 u197 u198 u199 u200 u201 u202 u203 u204 u205 u206 u207 u208 u209 u210 u211 u212 u213 u214 u215 u216 u217 u218 u219 u220 u221 u222 u223 u224 u225 u226 u227 u228 u229 u230 u231 u232 u233 u234 u235 u236 u237 u238 u239 u240 u241 : Value} {w wr : World} {g c5 j N : Nat} {al : List Int} (Q : Exit → Act → World → Prop) (hlen : al.length = 64 * N) (hj : ¬ j < N)
    (hQ : ∀ a', FrA w g c5 al j a' → Q (.exit 2) a' wr) :
    Code.wp Tryz.prog (bodyOf 1) Q ⟨#[u0, u1, .pointer (some ⟨w.heap.size, 0, none⟩), .pointer (some ⟨w.heap.size + 1, 0, none⟩), .pointer (some ⟨w.heap.size + 1 + 1, 0, none⟩), .slice (some ⟨g, 0, none⟩) al.length c5, .int .i64 (64 * (j : Int)), u7, u8, u9, u10, u11, u12, u13, u14, u15, u16, u17, u18, u19, u20, u21, u22, u23, u24, u25, u26, u27, u28, u29, u30, u31, u32, u33, u34, u35, u36, u37, u38, u39, u40, u41, u42, u43, u44, u45, u46, u47, u48, u49, u50, u51, u52, u53, u54, u55, u56, u57, u58, u59, u60, u61, u62, u63, u64, u65, u66, u67, u68, u69, u70, u71, u72, u73, u74, u75, u76, u77, u78, u79, u80, u81, u82, u83, u84, u85, u86, u87, u88, u89, u90, u91, u92, u93, u94, u95, u96, u97, u98, u99, u100, u101, u102, u103, u104, u105, u106, u107, u108, u109, u110, u111, u112, u113, u114, u115, u116, u117, u118, u119, u120, u121, u122, u123, u124, u125, u126, u127, u128, u129, u130, u131, u132, u133, u134, u135, u136, u137, u138, u139, u140, u141, u142, u143, u144, u145, u146, u147, u148, u149, u150, u151, u152, u153, u154, u155, u156, u157, u158, u159, u160, u161, u162, u163, u164, u165, u166, u167, u168, u169, u170, u171, u172, u173, u174, u175, u176, u177, u178, u179, u180, u181, u182, u183, u184, u185, u186, u187, u188, u189, u190, u191, u192, u193, u194, u195, u196, u197, u198, u199, u200, u201, u202, u203, u204, u205, u206, u207, u208, u209, u210, u211, u212, u213, u214, u215, u216, u217, u218, u219, u220, u221, u222, u223, u224, u225, u226, u227, u228, u229, u230, u231, u232, u233, u234, u235, u236, u237, u238, u239, u240, u241], []⟩ wr := by
  conv => arg 2; whnf
  have HQ := Lib.hid hQ
  have t1 : decide (64 * (j : Int) < (al.length : Int)) = false := by simp; omega
  clear hQ hlen
  go_wp2
  exact HQ.out _ ⟨rfl, rfl, rfl, rfl, rfl, rfl, rfl⟩
theorem mu_64 {w : World} {g c5 j N : Nat} {al : List Int} {a a' : Act} (h : FrA w g c5 al j a) (h' : FrA w g c5 al (j + 1) a') (hj : j < N) : 64 * N - (intOf (a'.tmps.getD 6 undef)).toNat < 64 * N - (intOf (a.tmps.getD 6 undef)).toNat := by
  rw [h.t6, h'.t6]
  show 64 * N - (64 * ((j + 1 : Nat) : Int)).toNat < 64 * N - (64 * (j : Int)).toNat
  omega
set_option maxRecDepth 100000 in
theorem l2_loop {w wr : World} {g c5 N : Nat} {al : List Int} {a : Act} (Q : Exit → Act → World → Prop) (hb : Bytes al) (hcap : al.length ≤ c5) (hal : al.length ≤ 1000072) (hlen : al.length = 64 * N) (hF : FrA w g c5 al 0 a) (hM : RefC w wr g al Gy.begun.nats)
    (hX : ∀ a' w', FrA w g c5 al N a' → RefC w w' g al (mixAll kTab al Gy.begun N).nats → Q (.exit 2) a' w') : Code.wp Tryz.prog (Code.loop (bodyOf 1)) Q a wr := by
  refine wp_loop (fun a w' => ∃ j : Nat, j ≤ N ∧ FrA w g c5 al j a ∧ ∃ s : St, s = mixAll kTab al Gy.begun j ∧ RefC w w' g al s.nats) (fun a _ => 64 * N - (intOf (a.tmps.getD 6 undef)).toNat) ⟨0, Nat.zero_le _, hF, _, rfl, hM⟩ ?_
  rintro a w' ⟨j, h2, hF, s, hs, hM⟩
  have e := frame_out a hF.size hF.defers
  rw [hF.t2, hF.t3, hF.t4, hF.t5, hF.t6] at e
  by_cases hj : j < N
  · have hok : s.ok := by rw [hs]; exact mixAll_ok begun_ok j
    have hQ : ∀ a' w'', FrA w g c5 al (j + 1) a' → RefC w w'' g al (mixSt kTab (al.drop (64 * j)) s).nats → Exit.then (fun a' w' => (∃ j : Nat, j ≤ N ∧ FrA w g c5 al j a' ∧ ∃ s : St, s = mixAll kTab al Gy.begun j ∧ RefC w w' g al s.nats) ∧ 64 * N - (intOf (a'.tmps.getD 6 undef)).toNat < 64 * N - (intOf (a.tmps.getD 6 undef)).toNat) Q .normal a' w'' :=
      fun a' w'' f1 f2 => ⟨⟨j + 1, hj, f1, _, by rw [hs]; exact mixAll_step al Gy.begun j, f2⟩, mu_64 hF f1 hj⟩
    generalize Exit.then (fun a' w' => (∃ j : Nat, j ≤ N ∧ FrA w g c5 al j a' ∧ ∃ s : St, s = mixAll kTab al Gy.begun j ∧ RefC w w' g al s.nats) ∧ 64 * N - (intOf (a'.tmps.getD 6 undef)).toNat < 64 * N - (intOf (a.tmps.getD 6 undef)).toNat) Q = Q2 at hQ ⊢
    rw [e]
    exact l2_step Q2 hb hcap hal hlen hok hj hM hQ
  · obtain rfl : j = N := by omega
    rw [hs] at hM
    rw [e]
    exact l2_last _ hlen hj (fun a' f => hX a' w' f hM)
end Go.Proofs.YtoakjdgknbhgiaaGreatDoor.Dig

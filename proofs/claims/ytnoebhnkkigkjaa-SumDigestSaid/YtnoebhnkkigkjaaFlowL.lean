/- A region that draws its order, all orders at once, with stores: what holds of the world may hang on what has been done. -/
import Derived.RegionTactic
import Derived.RowKit
import Derived.Below
import Derived.Tactics
namespace Gy.FlowL
open Go Go.RowKit
set_option linter.unusedVariables false

/-- what operation j has yielded -/
def At (ops : Array Oper) (a : Act) (j : Nat) : Value := match (ops[j]?).bind (·.dst) with
  | some d => a.tmps.getD d undef
  | none => undef
/-- an act of this region: only its own slots have turned -/
structure Same (ops : Array Oper) (a a' : Act) : Prop where
  defers : a'.defers = a.defers
  size : a'.tmps.size = a.tmps.size
  other : ∀ t, (∀ (j : Nat) (o : Oper), ops[j]? = some o → o.dst ≠ some t) → a'.tmps.getD t undef = a.tmps.getD t undef
/-- each operation writes a slot of its own, and waits for elder ones alone -/
def flowB (ops : Array Oper) (n : Nat) : Bool :=
  (List.range ops.size).all fun i => match ops[i]? with
    | none => true
    | some o => (match o.dst with | some d => decide (d < n) | none => true) &&
        (o.dst.isNone || (List.range i).all fun j => match ops[j]? with | some p => p.dst != o.dst | none => true) &&
        o.after.all fun e => !Region.binds .any e || decide (e.on < i)
section
variable {P : Program} {ops : Array Oper} {Q : Exit → Act → World → Prop} {a a' : Act} {n : Nat}
theorem flow_at (h : flowB ops n = true) {i : Nat} {o : Oper} (ho : ops[i]? = some o) : (∀ d, o.dst = some d → d < n) ∧ (∀ j p d, j < i → ops[j]? = some p → o.dst = some d → p.dst ≠ some d) ∧ (∀ e ∈ o.after, Region.binds .any e = true → e.on < i) := by
  have hi : i < ops.size := (Array.getElem?_eq_some_iff.1 ho).1
  have h1 := List.all_eq_true.1 h i (List.mem_range.2 hi)
  rw [ho] at h1
  simp only [Bool.and_eq_true] at h1
  obtain ⟨⟨h1, h2⟩, h3⟩ := h1
  refine ⟨fun d hd => ?_, fun j p d hj hp hd => ?_, fun e he => ?_⟩
  · rw [hd] at h1; exact of_decide_eq_true h1
  · rw [hd] at h2
    simp only [Option.isNone_some, Bool.false_or] at h2
    have := List.all_eq_true.1 h2 j (List.mem_range.2 hj)
    rw [hp] at this
    simpa using this
  · have := Array.all_eq_true_iff_forall_mem.1 h3 e he
    intro hbe
    simpa [hbe] using this
theorem flow_ne (h : flowB ops n = true) {i j : Nat} {o p : Oper} {d : Tmp} (ho : ops[i]? = some o) (hp : ops[j]? = some p) (hne : i ≠ j) (hd : o.dst = some d) : p.dst ≠ some d := by
  rcases Nat.lt_or_gt_of_ne hne with h1 | h1
  · intro e
    exact (flow_at h hp).2.1 i o d h1 ho e hd
  · exact (flow_at h ho).2.1 j p d h1 hp hd
theorem put_getD_ne {a : Act} {d : Option Tmp} {t : Tmp} (v : Value) (h : d ≠ some t) : (a.put d v).tmps.getD t undef = a.tmps.getD t undef := by
  cases d with
  | none => rfl
  | some d =>
    have hne : d ≠ t := fun e => h (by rw [e])
    simp [Act.put, Array.getElem?_setIfInBounds_ne hne]
theorem put_getD {a : Act} {d : Tmp} (v : Value) (h : d < a.tmps.size) : (a.put (some d) v).tmps.getD d undef = v := by
  simp [Act.put, h]
theorem put_size {a : Act} {d : Option Tmp} (v : Value) : (a.put d v).tmps.size = a.tmps.size := by cases d <;> simp [Act.put]
theorem put_defers {a : Act} {d : Option Tmp} (v : Value) : (a.put d v).defers = a.defers := by cases d <;> rfl
theorem at_put_ne (h : flowB ops n = true) {i j : Nat} {o : Oper} (ho : ops[i]? = some o) (hne : i ≠ j) (v : Value) : At ops (a.put o.dst v) j = At ops a j := by
  unfold At
  cases hp : ops[j]? with
  | none => rfl
  | some p =>
    cases hpd : p.dst with
    | none => simp [hpd]
    | some d =>
      simp only [Option.bind_some, hpd]
      refine put_getD_ne v (fun e => ?_)
      exact flow_ne h hp ho (fun e => hne e.symm) hpd e
theorem at_put (h : flowB ops n = true) {i : Nat} {o : Oper} (ho : ops[i]? = some o) (hn : a.tmps.size = n) (v : Value) : At ops (a.put o.dst v) i = if o.dst = none then undef else v := by
  unfold At
  cases hd : o.dst with
  | none => simp [ho, hd]
  | some d =>
    have hlt := (flow_at h ho).1 d hd
    simp only [ho, Option.bind_some, hd]
    rw [if_neg (by simp)]
    exact put_getD v (hn ▸ hlt)
theorem same_put {i : Nat} {o : Oper} (ho : ops[i]? = some o) (hs : Same ops a a') (v : Value) : Same ops a (a'.put o.dst v) :=
  ⟨(put_defers v).trans hs.defers, (put_size v).trans hs.size, fun t ht => (put_getD_ne v (ht i o ho)).trans (hs.other t ht)⟩
def add (L : Nat → Bool) (i : Nat) : Nat → Bool := fun j => if j = i then true else L j
/-- one operation, out of what it waits for; a store yields nothing -/
def StepOk (P : Program) (ops : Array Oper) (Q : Exit → Act → World → Prop) (V : Value → World → Prop) (J : World → Prop) (E : World → World → Prop) (o : Oper) (a : Act) (w : World) : Prop :=
  ∀ K : Act → World → Prop, (∀ v w', V (if o.dst = none then undef else v) w' → J w' → E w w' → K (a.put o.dst v) w') → if Region.wanted o (yielded ops a.tmps) = true then Oper.wp P o a w K Q else K (a.put o.dst undef) w
def waits (o : Oper) (j : Nat) : Bool := o.after.any fun e => Region.binds .any e && e.on == j
/-- what is done when operation o comes up -/
structure Done (ops : Array Oper) (V : Nat → Value → World → Prop) (J : (Nat → Bool) → World → Prop) (a : Act) (i : Nat) (o : Oper) (L : Nat → Bool) (a' : Act) (w : World) : Prop where
  not : L i = false
  waits : ∀ j, waits o j = true → L j = true
  down : ∀ j p, ops[j]? = some p → L j = true → ∀ k, FlowL.waits p k = true → L k = true
  same : Same ops a a'
  J : J L w
  V : ∀ j, j < ops.size → L j = true → V j (At ops a' j) w
theorem setB {l : Array Bool} {i j : Nat} (hj : j < l.size) : (l.setIfInBounds i true)[j]'(by simpa using hj) = (if i = j then true else l[j]) := by
  rw [Array.getElem_setIfInBounds]
theorem flow_any (V : Nat → Value → World → Prop) (J : (Nat → Bool) → World → Prop) (E : World → World → Prop) (hd : flowB ops a.tmps.size = true) (hV : ∀ i v w w', V i v w → E w w' → V i v w')
    (hstep : ∀ i o, ops[i]? = some o → ∀ L a' w, Done ops V J a i o L a' w → StepOk P ops Q (V i) (J (add L i)) E o a' w)
    (hend : ∀ L a' w, Same ops a a' → J L w → (∀ i, i < ops.size → L i = true) → (∀ i, i < ops.size → V i (At ops a' i) w) → Q .normal a' w) :
    ∀ (fuel : Nat) (listed : Array Bool) (L : Nat → Bool) (a' : Act) (w : World), listed.size = ops.size → ops.size ≤ fuel + listed.toList.countP id → (∀ i, L i = listed.getD i false) → Same ops a a' → J L w →
      (∀ j p, ops[j]? = some p → L j = true → ∀ k, waits p k = true → L k = true) → (∀ i, i < ops.size → L i = true → V i (At ops a' i) w) → wpAny P .any ops Q fuel listed a' w := by
  intro fuel
  have hready : ∀ (listed : Array Bool) i, i ∈ Region.ready .any ops listed → ∃ o, ops[i]? = some o ∧ listed.getD i true = false ∧ ∀ e ∈ o.after, Region.binds .any e = true → listed.getD e.on false = true := by
    intro listed i hi
    unfold Region.ready at hi
    obtain ⟨h1, h2⟩ := List.mem_filter.1 hi
    simp only [Bool.and_eq_true, Bool.not_eq_true'] at h2
    have hlt := List.mem_range.1 h1
    refine ⟨ops[i], Array.getElem?_eq_getElem hlt, h2.1, fun e he hb => ?_⟩
    have h3 := h2.2
    rw [Array.getElem?_eq_getElem hlt] at h3
    simp only [Option.map_some, Option.getD_some] at h3
    have := Array.all_eq_true_iff_forall_mem.1 h3 e he
    simpa [hb] using this
  have hall : ∀ (listed : Array Bool) (L : Nat → Bool) a' w, listed.size = ops.size → (∀ i, L i = listed.getD i false) → Same ops a a' → J L w → (∀ i, i < ops.size → L i = true → V i (At ops a' i) w) → Region.ready .any ops listed = [] → Q .normal a' w := by
    intro listed L a' w hsz hL hs hJ hl hr
    have key : ∀ i (h : i < listed.size), listed[i] = true := by
      intro i
      induction i using Nat.strongRecOn with
      | _ i ih =>
        intro h
        cases hb : listed[i] with
        | true => rfl
        | false =>
          exfalso
          have hi : i < ops.size := by omega
          have : i ∈ Region.ready .any ops listed := by
            unfold Region.ready
            refine List.mem_filter.2 ⟨List.mem_range.2 hi, ?_⟩
            rw [Array.getElem?_eq_getElem hi]
            simp only [Option.map_some, Option.getD_some, Bool.and_eq_true, Bool.not_eq_true']
            refine ⟨by simp [h, hb], Array.all_eq_true_iff_forall_mem.2 fun e he => ?_⟩
            by_cases hbe : Region.binds .any e = true
            · have hlt := (flow_at hd (Array.getElem?_eq_getElem hi)).2.2 e he hbe
              have h2 : e.on < listed.size := by omega
              simp [ih e.on hlt h2, h2]
            · simp [hbe]
          rw [hr] at this
          cases this
    have hLt : ∀ i, i < ops.size → L i = true := fun i hi => by
      rw [hL]
      have h1 : i < listed.size := by omega
      simp [h1, key i h1]
    exact hend L a' w hs hJ hLt (fun i hi => hl i hi (hLt i hi))
  induction fuel with
  | zero =>
    intro listed L a' w hsz hc hL hs hJ hdn hl
    have hz : listed.toList.countP id = listed.toList.length := by
      have := List.countP_le_length (p := id) (l := listed.toList)
      simp only [Array.length_toList] at this ⊢
      omega
    have ht := List.countP_eq_length.1 hz
    have hr : Region.ready .any ops listed = [] := by
      rw [List.eq_nil_iff_forall_not_mem]
      intro i hi
      obtain ⟨o, ho, hf, _⟩ := hready listed i hi
      have hlt : i < listed.size := by have := (Array.getElem?_eq_some_iff.1 ho).1; omega
      have : listed[i] = true := ht _ (by simp)
      simp [hlt, this] at hf
    exact ⟨hr, hall listed L a' w hsz hL hs hJ hl hr⟩
  | succ fuel ih =>
    intro listed L a' w hsz hc hL hs hJ hdn hl
    refine ⟨hall listed L a' w hsz hL hs hJ hl, fun i hi => ?_⟩
    obtain ⟨o, ho, hf, haft⟩ := hready listed i hi
    have hlt : i < listed.size := by have := (Array.getElem?_eq_some_iff.1 ho).1; omega
    have hfi : listed[i] = false := by simpa [hlt] using hf
    have hLi : L i = false := by rw [hL]; simp [hlt, hfi]
    have hw : ∀ j, waits o j = true → L j = true := by
      intro j hj
      unfold waits at hj
      obtain ⟨e, he, hb⟩ := Array.any_eq_true'.1 hj
      simp only [Bool.and_eq_true, beq_iff_eq] at hb
      obtain ⟨hb1, rfl⟩ := hb
      rw [hL]
      exact haft e he hb1
    have hLs : ∀ j, add L i j = (listed.setIfInBounds i true).getD j false := by
      intro j
      unfold add
      by_cases e : j = i
      · subst e
        simp [hlt]
      · rw [if_neg e, hL]
        simp [Array.getElem?_setIfInBounds_ne (fun h => e h.symm)]
    refine wpOp_step ho ?_
    refine fun K hK => hstep i o ho L a' w ⟨hLi, hw, hdn, hs, hJ, hl⟩ K fun v w' hv hJ' hb => hK _ _ (ih _ (add L i) _ _ (by simpa using hsz) ?_ hLs (same_put ho hs v) hJ' (fun j p hp hj k hk => ?_) fun j h hj => ?_)
    · have hcs : (listed.setIfInBounds i true).toList.countP id = listed.toList.countP id + 1 := by
        rw [Array.toList_setIfInBounds, List.countP_set (by simpa using hlt)]
        have : listed.toList[i]'(by simpa using hlt) = false := by simpa using hfi
        simp [this]
      omega
    · unfold add at hj ⊢
      by_cases e : k = i
      · rw [if_pos e]
      · rw [if_neg e]
        by_cases e2 : j = i
        · subst e2
          rw [ho] at hp
          injection hp with hp
          subst hp
          exact hw k hk
        · rw [if_neg e2] at hj
          exact hdn j p hp hj k hk
    · by_cases e : i = j
      · subst e
        rw [at_put hd ho hs.size v]
        exact hv
      · have hj' : L j = true := by
          unfold add at hj
          rwa [if_neg (fun h => e h.symm)] at hj
        rw [at_put_ne hd ho e v]
        exact hV j _ w w' (hl j h hj') hb
/-- The region, all orders at once. -/
theorem flow {id : Nat} {w : World} (hm : P.follows .mixedOrders = true) (V : Nat → Value → World → Prop) (J : (Nat → Bool) → World → Prop) (E : World → World → Prop) (hd : flowB ops a.tmps.size = true) (hJ : J (fun _ => false) w.drew)
    (hV : ∀ i v w w', V i v w → E w w' → V i v w')
    (hstep : ∀ i o, ops[i]? = some o → ∀ L a' w, Done ops V J a i o L a' w → StepOk P ops Q (V i) (J (add L i)) E o a' w)
    (hend : ∀ L a' w, Same ops a a' → J L w → (∀ i, i < ops.size → L i = true) → (∀ i, i < ops.size → V i (At ops a' i) w) → Q .normal a' w) : (Code.region id ops true).wp P Q a w := by
  refine wp_region_any hm (flow_any V J E hd hV hstep hend ops.size _ (fun _ => false) a _ (by simp) (by omega) (fun i => ?_) ⟨rfl, rfl, fun _ _ => rfl⟩ hJ (fun j p _ h => by cases h) fun i h hi => by cases hi)
  by_cases h : i < ops.size <;> simp [h]
end
/-- the act, written out -/
def puts : Act → List Oper → (Nat → Value) → Nat → Act
  | a, [], _, _ => a
  | a, o :: l, vs, k => puts (a.put o.dst (vs k)) l vs (k + 1)
section
variable {ops : Array Oper} {a a' : Act} {n : Nat}
theorem puts_size : ∀ (l : List Oper) (a : Act) (vs : Nat → Value) (k : Nat), (puts a l vs k).tmps.size = a.tmps.size
  | [], _, _, _ => rfl
  | o :: l, a, vs, k => (puts_size l _ vs (k + 1)).trans (put_size _)
theorem puts_defers : ∀ (l : List Oper) (a : Act) (vs : Nat → Value) (k : Nat), (puts a l vs k).defers = a.defers
  | [], _, _, _ => rfl
  | o :: l, a, vs, k => (puts_defers l _ vs (k + 1)).trans (put_defers _)
theorem puts_none (t : Tmp) : ∀ (l : List Oper) (a : Act) (vs : Nat → Value) (k : Nat), (∀ o ∈ l, o.dst ≠ some t) → (puts a l vs k).tmps.getD t undef = a.tmps.getD t undef
  | [], _, _, _, _ => rfl
  | o :: l, a, vs, k, h => (puts_none t l _ vs (k + 1) (fun p hp => h p (List.mem_cons_of_mem _ hp))).trans (put_getD_ne _ (h o List.mem_cons_self))
theorem puts_at (t : Tmp) : ∀ (l : List Oper) (a : Act) (vs : Nat → Value) (k i : Nat) (o : Oper), l[i]? = some o → o.dst = some t → (∀ j p, i < j → l[j]? = some p → p.dst ≠ some t) → t < a.tmps.size → (puts a l vs k).tmps.getD t undef = vs (k + i)
  | [], _, _, _, _, _, h, _, _, _ => by simp at h
  | p :: l, a, vs, k, 0, o, h, hd, hl, ht => by
    simp only [List.getElem?_cons_zero, Option.some.injEq] at h
    subst h
    refine (puts_none t l _ vs (k + 1) (fun q hq => ?_)).trans (by rw [hd]; exact put_getD _ ht)
    obtain ⟨j, hj⟩ := List.getElem?_of_mem hq
    exact hl (j + 1) q (by omega) (by simpa using hj)
  | p :: l, a, vs, k, i + 1, o, h, hd, hl, ht => by
    have := puts_at t l (a.put p.dst (vs k)) vs (k + 1) i o (by simpa using h) hd (fun j q hj hq => hl (j + 1) q (by omega) (by simpa using hq)) (by rw [put_size]; exact ht)
    rw [show k + (i + 1) = k + 1 + i from by omega]
    exact this
theorem same_puts (hd : flowB ops a.tmps.size = true) (hs : Same ops a a') : a' = puts a ops.toList (At ops a') 0 := by
  have h1 : a'.defers = (puts a ops.toList (At ops a') 0).defers := hs.defers.trans (puts_defers _ _ _ _).symm
  have h2 : a'.tmps = (puts a ops.toList (At ops a') 0).tmps := by
    apply Array.ext
    · rw [hs.size, puts_size]
    · intro t h3 h4
      have g3 : a'.tmps[t] = a'.tmps.getD t undef := by simp [h3]
      have g4 : (puts a ops.toList (At ops a') 0).tmps[t] = (puts a ops.toList (At ops a') 0).tmps.getD t undef := by simp [h4]
      rw [g3, g4]
      by_cases hex : ∃ (i : Nat) (o : Oper), ops[i]? = some o ∧ o.dst = some t
      · obtain ⟨i, o, ho, hdo⟩ := hex
        have ht : t < a.tmps.size := by rw [hs.size] at h3; exact h3
        rw [puts_at t ops.toList a (At ops a') 0 i o (by simpa using ho) hdo (fun j p hj hp => by
          have hp' : ops[j]? = some p := by simpa using hp
          exact flow_ne hd ho hp' (by omega) hdo) ht, Nat.zero_add]
        unfold At
        simp only [ho, Option.bind_some, hdo]
      · rw [puts_none t ops.toList a (At ops a') 0 (fun o ho hdo => by
          obtain ⟨i, hi⟩ := List.getElem?_of_mem ho
          exact hex ⟨i, o, by simpa using hi, hdo⟩)]
        exact hs.other t (fun j o ho hdo => hex ⟨j, o, ho, hdo⟩)
  cases a' with
  | mk t d =>
    cases hp : puts a ops.toList (At ops ⟨t, d⟩) 0 with
    | mk t2 d2 =>
      rw [hp] at h1 h2
      simp only at h1 h2
      subst h1 h2
      rfl
end
/-- what each operation's fact needs: that it stays -/
def MonoAll (E : World → World → Prop) : List (Value → World → Prop) → Prop
  | [] => True
  | V :: l => (∀ v w w', V v w → E w w' → V v w') ∧ MonoAll E l
theorem mono_list {E : World → World → Prop} : ∀ (l : List (Value → World → Prop)), MonoAll E l → ∀ (i : Nat) (v : Value) (w w' : World), l.getD i (fun _ _ => True) v w → E w w' → l.getD i (fun _ _ => True) v w'
  | [], _, i, v, w, w', h, hb => by simp
  | V :: l, hl, 0, v, w, w', h, hb => hl.1 v w w' h hb
  | V :: l, hl, i + 1, v, w, w', h, hb => mono_list l hl.2 i v w w' h hb
/-- every operation of a list, with its number -/
def AllFrom (C : Nat → Oper → Prop) : Nat → List Oper → Prop
  | _, [] => True
  | k, o :: l => C k o ∧ AllFrom C (k + 1) l
theorem allFrom_at {C : Nat → Oper → Prop} : ∀ (l : List Oper) (k : Nat), AllFrom C k l → ∀ (i : Nat) (o : Oper), l[i]? = some o → C (k + i) o
  | [], _, _, i, o, h => by simp at h
  | p :: l, k, h, i, o, ho => by
    cases i with
    | zero =>
      simp only [List.getElem?_cons_zero, Option.some.injEq] at ho
      subst ho
      exact h.1
    | succ i =>
      have := allFrom_at l (k + 1) h.2 i o (by simpa using ho)
      rw [show k + (i + 1) = k + 1 + i from by omega]
      exact this
theorem of_allFrom {C : Nat → Oper → Prop} {l : List Oper} (h : AllFrom C 0 l) : ∀ (i : Nat) (o : Oper), l.toArray[i]? = some o → C i o := fun i o ho => by
  have := allFrom_at l 0 h i o (by simpa using ho)
  rwa [Nat.zero_add] at this
def noDst (ops : Array Oper) (t : Tmp) : Bool := ops.all fun o => o.dst != some t
section
variable {P : Program} {ops : Array Oper} {Q : Exit → Act → World → Prop} {a a' : Act} {n : Nat}
theorem Same.at_other (hs : Same ops a a') (t : Tmp) (h : noDst ops t = true) : a'.eval (.tmp t) = a.tmps.getD t undef :=
  hs.other t fun j o ho => by
    have := Array.all_eq_true_iff_forall_mem.1 h o (Array.mem_of_getElem? ho)
    simpa using this
theorem Done.at {V : Nat → Value → World → Prop} {J : (Nat → Bool) → World → Prop} {i : Nat} {o : Oper} {L : Nat → Bool} {w : World} (h : Done ops V J a i o L a' w) (j : Nat) (hj : (FlowL.waits o j && decide (j < ops.size)) = true) : V j (At ops a' j) w := by
  simp only [Bool.and_eq_true, decide_eq_true_eq] at hj
  exact h.V j hj.2 (h.waits j hj.1)
/-- not done: it waits for this one -/
theorem Done.later {V : Nat → Value → World → Prop} {J : (Nat → Bool) → World → Prop} {i : Nat} {o : Oper} {L : Nat → Bool} {w : World} (h : Done ops V J a i o L a' w) (j : Nat) (hj : ((ops[j]?).map fun p => FlowL.waits p i) = some true) : L j = false := by
  obtain ⟨p, hp, hw⟩ := Option.map_eq_some_iff.1 hj
  cases hl : L j with
  | false => rfl
  | true =>
    have := h.down j p hp hl i hw
    rw [h.not] at this
    cases this
section
variable {V : Value → World → Prop} {J : World → Prop} {E : World → World → Prop} {o : Oper} {w : World} {v : Value}
theorem wanted_none (h : o.guard = none) : Region.wanted o (yielded ops a.tmps) = true := by simp [Region.wanted, h]
theorem yielded_of {g : Nat} {b : Bool} (h : At ops a g = .bool b) : yielded ops a.tmps g = some b := by
  unfold At at h
  unfold yielded
  cases hd : (ops[g]?).bind (·.dst) with
  | none => rw [hd] at h; cases h
  | some d =>
    rw [hd] at h
    simp only [Option.bind_some]
    simp only [Array.getD_eq_getD_getElem?] at h
    cases he : a.tmps[d]? with
    | none => rw [he] at h; cases h
    | some u => rw [he] at h; simp only [Option.getD_some] at h; rw [h]
theorem wanted_some {g : Nat} {b : Bool} (h : o.guard = some (g, b)) (hg : At ops a g = .bool b) : Region.wanted o (yielded ops a.tmps) = true := by
  simp [Region.wanted, h, yielded_of hg]
theorem step_value {d : Tmp} {w1 : World} (hdst : o.dst = some d) (hw : Region.wanted o (yielded ops a.tmps) = true) (hrun : (execOp a.eval o).run P w = .ok (.value v) w1) (hV : V v w1) (hJ : J w1) (hb : E w w1) : StepOk P ops Q V J E o a w := by
  intro K hK
  rw [if_pos hw]
  unfold Oper.wp
  rw [hrun]
  exact hK v w1 (by rw [if_neg (by rw [hdst]; simp)]; exact hV) hJ hb
theorem step_skip {w1 : World} (hdst : o.dst = none) (hw : Region.wanted o (yielded ops a.tmps) = true) (hrun : (execOp a.eval o).run P w = .ok .skip w1) (hV : V undef w1) (hJ : J w1) (hb : E w w1) : StepOk P ops Q V J E o a w := by
  intro K hK
  rw [if_pos hw]
  unfold Oper.wp
  rw [hrun]
  exact hK undef w1 (by rw [if_pos hdst]; exact hV) hJ hb
theorem step_move {x : Operand} {d : Tmp} (hop : o.op = .move x) (hdst : o.dst = some d) (hw : Region.wanted o (yielded ops a.tmps) = true) (hV : V (a.eval x) w) (hJ : J w) (hE : E w w) : StepOk P ops Q V J E o a w :=
  step_value hdst hw (by unfold execOp; simp [hop]) hV hJ hE
theorem step_assign {x : Operand} {d : Tmp} (hop : o.op = .assign x) (hdst : o.dst = some d) (hw : Region.wanted o (yielded ops a.tmps) = true) (hV : V (a.eval x) w) (hJ : J w) (hE : E w w) : StepOk P ops Q V J E o a w :=
  step_value hdst hw (by unfold execOp; simp [hop]) hV hJ hE
theorem step_pick {c x y : Operand} {b : Bool} {d : Tmp} (hop : o.op = .pick c x y) (hdst : o.dst = some d) (hw : Region.wanted o (yielded ops a.tmps) = true) (hc : a.eval c = .bool b) (hV : V (a.eval (if b then x else y)) w) (hJ : J w) (hE : E w w) : StepOk P ops Q V J E o a w :=
  step_value hdst hw (by unfold execOp; cases b <;> simp [hop, hc, asBool]) hV hJ hE
theorem step_call {f : FuncId} {fn : Func} {as_ : Array Operand} {ts : Array TypeId} {args : Array Value} {d : Tmp} (hdst : o.dst = some d) (hw : Region.wanted o (yielded ops a.tmps) = true) (hf : P.funcs[f]? = some fn) (hname : (fn.name == "runtime.NumGoroutine") = false) (hb : fn.body.isSome = true)
    (hop : o.op = .call { callee := .value (.func f), args := as_, argTypes := ts }) (hargs : as_.map a.eval = args)
    (h : Calls P f args w fun e w' => ∃ v, e = .returned v ∧ V v w' ∧ J w' ∧ E w w') : StepOk P ops Q V J E o a w := by
  intro K hK
  rw [if_pos hw]
  unfold Oper.wp
  have hrun : (execOp a.eval o).run P w = .ok (.enter f args) w := by
    have h1 : fn.name ≠ "runtime.NumGoroutine" := by simpa using hname
    obtain ⟨c, hc⟩ := Option.isSome_iff_exists.1 hb
    have he : (callFunc f args).run P w = .ok (.enter f args) w := by simp [callFunc, hf, h1, hc]
    unfold execOp
    simp [hop, resolve, Deferred.ofValue, invoke, Act.eval, hargs, he]
  rw [hrun]
  simp only [Oper.upon]
  refine h.mono ?_
  rintro e w' ⟨v, rfl, h1, h2, h3⟩
  exact hK v w' (by rw [if_neg (by rw [hdst]; simp)]; exact h1) h2 h3
end
end
end Gy.FlowL

/- The plain law of equations: who fits them, and what ranks say of them. No program is in sight. -/
import Derived.Test.YtcmigmldecacpaaDoorMDS5
import Derived.Test.YtcmigmldecacpaaDoorWWords
import Derived.ChangeArms
import Derived.DataReads
import Derived.Test.YtcmigmldecacpaaDoorProg

namespace Go.Proofs.YtcmigmldecacpaaDoor.Lin
open Go Go.RowKit Go.Proofs.YtcmigmldecacpaaDoor.Vec Go.Proofs.YtcmigmldecacpaaDoor.Giv Go.Proofs.YtcmigmldecacpaaDoor.Dense Go.Proofs.YtcmigmldecacpaaDoor.Reduce
set_option linter.unusedSimpArgs false
set_option linter.unusedVariables false

/-! ### sums of vectors, place by place -/
def cmb (xs : List (List Int)) (r : List Int) (p : Nat) : Nat → Nat
  | 0 => 0
  | j + 1 => cmb xs r p j ^^^ Gy.gmul (cl (rw_ xs j) p) (cl r j)
theorem cmb_lt {xs : List (List Int)} {r : List Int} (hx : ∀ j, By (rw_ xs j)) (hr : By r) (p : Nat) : ∀ n, cmb xs r p n < 256
  | 0 => by show 0 < 256; omega
  | n + 1 => Gy.xor_lt8 (cmb_lt hx hr p n) (Gy.gmul_lt (cl_lt (hx n) p) (cl_lt hr n))
theorem cmb_congr {xs : List (List Int)} {r r' : List Int} (p : Nat) : ∀ n, (∀ j, j < n → cl r j = cl r' j) → cmb xs r p n = cmb xs r' p n
  | 0, _ => rfl
  | n + 1, h => by
    show cmb xs r p n ^^^ _ = cmb xs r' p n ^^^ _
    rw [cmb_congr p n (fun j hj => h j (by omega)), h n (by omega)]
theorem cmb_plus {xs : List (List Int)} {a b : List Int} (hx : ∀ j, By (rw_ xs j)) (ha : By a) (hb : By b) (hl : b.length = a.length) {c : Nat} (hc : c < 256) (p : Nat) : ∀ n, cmb xs (plusL a b c) p n = cmb xs a p n ^^^ Gy.gmul (cmb xs b p n) c
  | 0 => by show 0 = 0 ^^^ Gy.gmul 0 c; rw [Gy.gmul_zero_left]; rfl
  | n + 1 => by
    show cmb xs (plusL a b c) p n ^^^ Gy.gmul (cl (rw_ xs n) p) (cl (plusL a b c) n) = (cmb xs a p n ^^^ Gy.gmul (cl (rw_ xs n) p) (cl a n)) ^^^ Gy.gmul (cmb xs b p n ^^^ Gy.gmul (cl (rw_ xs n) p) (cl b n)) c
    have lx := cl_lt (hx n) p
    have la := cl_lt ha n
    have lb := cl_lt hb n
    have lm := cmb_lt hx hb p n
    rw [cmb_plus hx ha hb hl hc p n, cl_plus hl, Gy.gmul_xor_right la (Gy.gmul_lt lb hc) lx, Gy.gmul_xor_left lm (Gy.gmul_lt lx lb), Gy.gmul_assoc lx lb]
    ac_rfl
theorem cmb_scale {xs : List (List Int)} {a : List Int} (hx : ∀ j, By (rw_ xs j)) (ha : By a) {c : Nat} (hc : c < 256) (p : Nat) : ∀ n, cmb xs (scaleL a c) p n = Gy.gmul (cmb xs a p n) c
  | 0 => by show 0 = Gy.gmul 0 c; rw [Gy.gmul_zero_left]
  | n + 1 => by
    show cmb xs (scaleL a c) p n ^^^ Gy.gmul (cl (rw_ xs n) p) (cl (scaleL a c) n) = Gy.gmul (cmb xs a p n ^^^ Gy.gmul (cl (rw_ xs n) p) (cl a n)) c
    have lx := cl_lt (hx n) p
    have la := cl_lt ha n
    rw [cmb_scale hx ha hc p n, cl_scale, Gy.gmul_xor_left (cmb_lt hx ha p n) (Gy.gmul_lt lx la), Gy.gmul_assoc lx la]
theorem cmb_unit {xs : List (List Int)} {r : List Int} {i : Nat} (p : Nat) : ∀ n, (∀ j, j < n → cl r j = if i = j then 1 else 0) → cmb xs r p n = if i < n then cl (rw_ xs i) p else 0
  | 0, _ => by rw [if_neg (by omega)]; rfl
  | n + 1, h => by
    show cmb xs r p n ^^^ Gy.gmul (cl (rw_ xs n) p) (cl r n) = _
    rw [cmb_unit p n (fun j hj => h j (by omega)), h n (by omega)]
    by_cases e : i = n
    · subst e
      rw [if_neg (by omega), if_pos rfl, if_pos (by omega), Gy.gmul_one_right, Nat.zero_xor]
    · rw [if_neg e, Gy.gmul_zero_right, Nat.xor_zero]
      by_cases h2 : i < n
      · rw [if_pos h2, if_pos (by omega)]
      · rw [if_neg h2, if_neg (by omega)]
/-- equations that vectors fit -/
def Fit (xs : List (List Int)) (n m : Nat) (r : List Int) : Prop := ∀ p, p < m → cl r (n + p) = cmb xs r p n
theorem fit_linear {xs : List (List Int)} (hx : ∀ j, By (rw_ xs j)) (n m : Nat) : Linear (n + m) (Fit xs n m) where
  plus a b c la lb ha hb hc h1 h2 p hp := by rw [cl_plus (by omega), h1 p hp, h2 p hp, cmb_plus hx ha hb (by omega) hc]
  scale a c la ha hc h1 p hp := by rw [cl_scale, h1 p hp, cmb_scale hx ha hc]
/-! ### the law's symbol -/
def symL (xs : List (List Int)) (m : Nat) (r : List Int) : Nat → List Int
  | 0 => List.replicate m 0
  | j + 1 => plusL (symL xs m r j) (rw_ xs j) (cl r j)
theorem zeros_by (n : Nat) : By (List.replicate n 0) := by
  intro x hx
  have := List.eq_of_mem_replicate hx
  omega
theorem symL_spec {xs : List (List Int)} {m : Nat} {r : List Int} (hr : By r) : ∀ n, (∀ j, j < n → (rw_ xs j).length = m ∧ By (rw_ xs j)) → (symL xs m r n).length = m ∧ By (symL xs m r n) ∧ ∀ p, cl (symL xs m r n) p = cmb xs r p n
  | 0, _ => ⟨List.length_replicate, zeros_by m, fun p => cl_zeros m p⟩
  | n + 1, h => by
    obtain ⟨h1, h2, h3⟩ := symL_spec hr n (fun j hj => h j (by omega))
    obtain ⟨l1, b1⟩ := h n (by omega)
    refine ⟨by show (plusL _ _ _).length = m; rw [plusL_length (by omega)]; exact h1, plusL_by h2 b1 (cl_lt hr n) (by omega), fun p => ?_⟩
    show cl (plusL _ _ _) p = cmb xs r p n ^^^ _
    rw [cl_plus (by omega), h3 p]
/-! ### places of the first columns alone -/
structure Same (N : Nat) (R R' : List (List Int)) : Prop where
  len : R.length = R'.length
  at_ : ∀ i j, i < R.length → j < N → cl (rw_ R i) j = cl (rw_ R' i) j
theorem first_same {N m m' : Nat} {R R' : List (List Int)} (hS : Slots R m) (hS' : Slots R' m') (h : Same N R R') {a top : Nat} (ha : a < N) (ht : top ≤ R.length) : firstNz R' a top = firstNz R a top := by
  obtain ⟨f1, f2, f3, f4⟩ := first_spec (R := R) (a := a) ht
  have hl := h.len
  have e : ∀ j, j < R.length → (rw_ R' j).getD a 0 = (rw_ R j).getD a 0 := fun j hj => by
    rw [getD_cl (Slots.rw hS hj).2, getD_cl (Slots.rw hS' (hl ▸ hj)).2, h.at_ j a hj ha]
  refine first_eq f1 (by omega) (fun j h1 h2 => ?_) (fun h2 => ?_)
  · exact (e j (by omega)).trans (f3 j h1 h2)
  · intro h3
    exact f4 (by omega) ((e _ (by omega)).symm.trans h3)
theorem step_same {N m m' : Nat} {R R' : List (List Int)} {P : List Nat} (hS : Slots R m) (hS' : Slots R' m') (h : Same N R R') (hP : P.length ≤ R.length) {a : Nat} (ha : a < N) : Same N (redStep (R, P) a).1 (redStep (R', P) a).1 ∧ (redStep (R', P) a).2 = (redStep (R, P) a).2 := by
  have hf := first_same hS hS' h ha hP
  obtain ⟨f1, f2, f3, f4⟩ := first_spec (R := R) (a := a) hP
  have hl := h.len
  by_cases hlt : firstNz R a P.length < R.length
  · rw [step_hit hlt, step_hit (R := R') (by rw [hf, ← hl]; exact hlt), hf]
    refine ⟨?_, rfl⟩
    generalize firstNz R a P.length = j at f1 hlt
    generalize P.length = top at f1 hP
    have ht : top < R.length := by omega
    have s1 : Same N (swapL R top j) (swapL R' top j) := ⟨by rw [swapL_length, swapL_length]; exact hl, fun i c hi hc => by
      rw [swapL_length] at hi
      rw [rw_swap R _ _ _ ht hlt, rw_swap R' _ _ _ (hl ▸ ht) (hl ▸ hlt)]
      split
      · exact h.at_ _ _ ht hc
      · split
        · exact h.at_ _ _ hlt hc
        · exact h.at_ _ _ hi hc⟩
    have S1 := Slots.swap hS ht hlt
    have S1' := Slots.swap hS' (hl ▸ ht) (hl ▸ hlt)
    have t1 : top < (swapL R top j).length := by rw [swapL_length]; exact ht
    have t1' : top < (swapL R' top j).length := by rw [swapL_length]; omega
    generalize swapL R top j = A at s1 S1 t1
    generalize swapL R' top j = A' at s1 S1' t1'
    have s2 : Same N (normL A top a) (normL A' top a) := ⟨by rw [normL_length, normL_length]; exact s1.len, fun i c hi hc => by
      rw [normL_length] at hi
      rw [rw_norm A _ _ _ t1, rw_norm A' _ _ _ t1']
      split
      · rw [cl_scale, cl_scale, s1.at_ _ _ t1 hc, s1.at_ _ _ t1 ha]
      · exact s1.at_ _ _ hi hc⟩
    have S2 := Slots.norm (k := a) S1 t1
    have S2' := Slots.norm (k := a) S1' t1'
    have t2 : top < (normL A top a).length := by rw [normL_length]; exact t1
    have t2' : top < (normL A' top a).length := by rw [normL_length]; exact t1'
    generalize normL A top a = B at s2 S2 t2
    generalize normL A' top a = B' at s2 S2' t2'
    refine ⟨by rw [subL_length, subL_length]; exact s2.len, fun i c hi hc => ?_⟩
    rw [subL_length] at hi
    have hi' : i < B'.length := by rw [← s2.len]; exact hi
    have r1 := Slots.rw S2 hi
    have r1' := Slots.rw S2' hi'
    have r2 := Slots.rw S2 t2
    have r2' := Slots.rw S2' t2'
    rw [rw_sub B _ _ _ hi, rw_sub B' _ _ _ hi', getD_cl r1.2, getD_cl r1'.2, s2.at_ i a hi ha]
    split
    · rw [cl_plus (by rw [r2.1, r1.1]), cl_plus (by rw [r2'.1, r1'.1]), s2.at_ _ _ hi hc, s2.at_ _ _ t2 hc]
    · exact s2.at_ _ _ hi hc
  · rw [step_miss hlt, step_miss (R := R') (by rw [hf, ← hl]; exact hlt)]
    exact ⟨h, rfl⟩
theorem red_same {N m m' : Nat} {R R' : List (List Int)} (hS : Slots R m) (hS' : Slots R' m') (h : Same N R R') : ∀ k, k ≤ N → Same N (redTo R k).1 (redTo R' k).1 ∧ (redTo R' k).2 = (redTo R k).2 := by
  intro k
  induction k with
  | zero => exact fun _ => ⟨h, rfl⟩
  | succ k ih =>
    intro hk
    obtain ⟨i1, i2⟩ := ih (by omega)
    obtain ⟨h1, h2, h3⟩ := redTo_inv hS k
    obtain ⟨g1, g2, g3⟩ := redTo_inv hS' k
    rw [redTo_succ, redTo_succ]
    have := step_same (P := (redTo R k).2) h1 g1 i1 (by rw [h2]; exact h3) (a := k) (by omega)
    have e1 : redTo R' k = ((redTo R' k).1, (redTo R k).2) := by rw [← i2]
    rw [e1]
    exact this
/-- columns of noughts draw no place -/
theorem step_nought {R : List (List Int)} {P : List Nat} {m a : Nat} (hS : Slots R m) (hP : P.length ≤ R.length) (h : ∀ i, P.length ≤ i → i < R.length → cl (rw_ R i) a = 0) : redStep (R, P) a = (R, P) := by
  have hf : firstNz R a P.length = R.length := first_eq hP (Nat.le_refl _) (fun j h1 h2 => by
    have := h j h1 h2
    rw [show R.getD j [] = rw_ R j from rfl, getD_cl (Slots.rw hS h2).2, this]; rfl) (fun h => absurd h (Nat.lt_irrefl _))
  exact step_miss (by rw [hf]; exact Nat.lt_irrefl _)
theorem zero_linear (M k m : Nat) : Linear m (fun r => ∀ j, M ≤ j → j < k → cl r j = 0) where
  plus a b c la lb ha hb hc h1 h2 j h3 h4 := by rw [cl_plus (by omega), h1 j h3 h4, h2 j h3 h4, Gy.gmul_zero_left]; rfl
  scale a c la ha hc h1 j h3 h4 := by rw [cl_scale, h1 j h3 h4, Gy.gmul_zero_left]
theorem red_nought {R : List (List Int)} {m M : Nat} (hS : Slots R m) : ∀ d, (∀ i, i < R.length → ∀ j, M ≤ j → j < M + d → cl (rw_ R i) j = 0) → redTo R (M + d) = redTo R M := by
  intro d
  induction d with
  | zero => exact fun _ => rfl
  | succ d ih =>
    intro h
    have h1 := ih (fun i hi j h1 h2 => h i hi j h1 (by omega))
    obtain ⟨g1, g2, g3⟩ := redTo_inv hS M
    have hz := (red_all (zero_linear M (M + (d + 1)) m) hS M).1 (fun i hi => h i hi)
    rw [show M + (d + 1) = (M + d) + 1 by omega, redTo_succ, h1]
    exact step_nought (R := (redTo R M).1) (P := (redTo R M).2) g1 (by rw [g2]; exact g3) (fun i h2 h3 => hz i h3 (M + d) (by omega) (by omega))
/-- the rank of rows that are filled, and behind which other columns stand -/
theorem rank_first {l y : List (List Int)} {n m : Nat} (hl : l.length = y.length) (h0 : ∀ r ∈ l, r.length ≤ n ∧ By r) (hL : Slots (List.zipWith (fun r y => padTo n r ++ y) l y) (n + m)) (hF : Slots (fillRows l) (maxFrom 0 l)) :
    (redTo (List.zipWith (fun r y => padTo n r ++ y) l y) n).2 = (redTo (fillRows l) (maxFrom 0 l)).2 := by
  have hM : maxFrom 0 l ≤ n := maxFrom_le l 0 (Nat.zero_le _) (fun r hr => (h0 r hr).1)
  have hle := (le_maxFrom l 0).2
  have hrow : ∀ i (h : i < l.length) (h' : i < y.length), rw_ (List.zipWith (fun r y => padTo n r ++ y) l y) i = padTo n l[i] ++ y[i] := fun i h h' => by
    rw [rw_at (by rw [List.length_zipWith]; omega)]
    exact List.getElem_zipWith
  have hrow' : ∀ i (h : i < l.length), rw_ (fillRows l) i = padTo (maxFrom 0 l) l[i] := fun i h => by
    rw [rw_at (by unfold fillRows; rw [List.length_map]; exact h)]
    exact List.getElem_map _
  have hcl : ∀ i (h : i < l.length) j, j < n → cl (rw_ (List.zipWith (fun r y => padTo n r ++ y) l y) i) j = cl l[i] j := fun i h j hj => by
    rw [hrow i h (by omega), cl_app_left (by rw [padTo_length (h0 _ (List.getElem_mem h)).1]; exact hj), cl_padTo]
  have hlen : (List.zipWith (fun r y => padTo n r ++ y) l y).length = l.length := by rw [List.length_zipWith]; omega
  have hsame : Same (maxFrom 0 l) (List.zipWith (fun r y => padTo n r ++ y) l y) (fillRows l) := ⟨by unfold fillRows; rw [hlen, List.length_map], fun i j hi hj => by
    rw [hlen] at hi
    rw [hcl i hi j (by omega), hrow' i hi, cl_padTo]⟩
  have h1 := (red_same hL hF hsame (maxFrom 0 l) (Nat.le_refl _)).2
  have h2 := red_nought hL (M := maxFrom 0 l) (n - maxFrom 0 l) (fun i hi j hj1 hj2 => by
    rw [hlen] at hi
    rw [hcl i hi j (by omega)]
    exact cl_out (Nat.le_trans (hle _ (List.getElem_mem hi)) hj1))
  rw [show maxFrom 0 l + (n - maxFrom 0 l) = n by omega] at h2
  rw [h2, h1]
/-! ### what stands behind full rank -/
theorem step_grows (R : List (List Int)) (P : List Nat) (a : Nat) : P.length ≤ (redStep (R, P) a).2.length := by
  by_cases h : firstNz R a P.length < R.length
  · rw [step_hit h, List.length_append]; omega
  · rw [step_miss h]; exact Nat.le_refl _
theorem behind {L : List (List Int)} {n m : Nat} (hS : Slots L m) (hf : (redTo L n).2.length = n) : ∀ d, n < (redTo L (n + d)).2.length ∨ (redTo L (n + d) = redTo L n ∧ ∀ i, n ≤ i → i < L.length → ∀ p, p < d → cl (rw_ (redTo L n).1 i) (n + p) = 0) := by
  intro d
  induction d with
  | zero => exact .inr ⟨rfl, fun i _ _ p hp => absurd hp (Nat.not_lt_zero _)⟩
  | succ d ih =>
    rw [show n + (d + 1) = (n + d) + 1 by omega, redTo_succ]
    rcases ih with h | ⟨h1, h2⟩
    · exact .inl (Nat.lt_of_lt_of_le h (step_grows (redTo L (n + d)).1 (redTo L (n + d)).2 _))
    · rw [h1]
      obtain ⟨g1, g2, g3⟩ := redTo_inv hS n
      obtain ⟨f1, f2, f3, f4⟩ := first_spec (R := (redTo L n).1) (a := n + d) (top := (redTo L n).2.length) (by omega)
      by_cases hlt : firstNz (redTo L n).1 (n + d) (redTo L n).2.length < (redTo L n).1.length
      · refine .inl ?_
        rw [show redStep (redTo L n) (n + d) = _ from step_hit (R := (redTo L n).1) (P := (redTo L n).2) hlt, List.length_append, hf]
        exact Nat.lt_succ_self n
      · refine .inr ⟨?_, fun i hi hi2 p hp => ?_⟩
        · exact step_miss (R := (redTo L n).1) (P := (redTo L n).2) hlt
        · by_cases e : p = d
          · subst e
            have h3 := f3 i (by omega) (by omega)
            unfold cl
            rw [h3]
            rfl
          · exact h2 i hi hi2 p (by omega)
theorem nought_cl {r : List Int} {n m : Nat} (hl : r.length = n + m) (hb : By r) (h1 : ∀ j, j < n → cl r j = 0) (h2 : ∀ p, p < m → cl r (n + p) = 0) : Nought r := by
  intro x hx
  obtain ⟨j, hj, rfl⟩ := List.mem_iff_getElem.1 hx
  rw [← Dense.getD_at r j hj, getD_cl hb]
  by_cases e : j < n
  · rw [h1 j e]; rfl
  · have := h2 (j - n) (by omega)
    rw [show n + (j - n) = j by omega] at this
    rw [this]; rfl
theorem cl_nought {r : List Int} (h : Nought r) (j : Nat) : cl r j = 0 := by
  by_cases hj : j < r.length
  · unfold cl
    rw [Dense.getD_at r j hj, h _ (List.getElem_mem hj)]
    rfl
  · exact cl_out (by omega)
/-- of a full rank: the rank of all is more just if a row behind isn't 0 -/
theorem rank_more {L : List (List Int)} {n m : Nat} (hS : Slots L (n + m)) (hf : (redTo L n).2.length = n) : n < (redTo L (n + m)).2.length ↔ ¬ ((redTo L n).1.drop n).all (fun r => decide (Nought r)) = true := by
  obtain ⟨g1, g2, g3⟩ := redTo_inv hS n
  have hu := full_units hS hf
  rw [List.all_eq_true]
  constructor
  · intro h hall
    have hz : ∀ d, d ≤ m → redTo L (n + d) = redTo L n := by
      intro d
      induction d with
      | zero => exact fun _ => rfl
      | succ d ih =>
        intro hd
        rw [show n + (d + 1) = (n + d) + 1 by omega, redTo_succ, ih (by omega)]
        refine step_nought (R := (redTo L n).1) (P := (redTo L n).2) g1 (by rw [g2]; exact g3) (fun i h2 h3 => ?_)
        have hi : i < (redTo L n).1.length := h3
        have hm := hall (redTo L n).1[i] (List.mem_iff_getElem.2 ⟨i - n, by rw [List.length_drop]; omega, by rw [List.getElem_drop]; congr 1; omega⟩)
        rw [rw_at hi]
        exact cl_nought (of_decide_eq_true hm) _
    rw [hz m (Nat.le_refl _), hf] at h
    exact Nat.lt_irrefl _ h
  · intro h
    rcases behind hS hf m with h1 | ⟨h1, h2⟩
    · exact h1
    · exfalso
      refine h fun r hr => decide_eq_true ?_
      obtain ⟨i, hi, rfl⟩ := List.mem_iff_getElem.1 hr
      rw [List.length_drop] at hi
      rw [List.getElem_drop, ← rw_at]
      have hr := Slots.rw g1 (show n + i < (redTo L n).1.length by omega)
      refine nought_cl hr.1 hr.2 (fun j hj => ?_) (fun p hp => h2 _ (by omega) (by omega) p hp)
      rw [hu (n + i) j (by omega) hj, if_neg (by omega)]
/-! ### what is solved -/
theorem solved_rows {L : List (List Int)} {n m : Nat} (hS : Slots L (n + m)) (hf : (redTo L n).2.length = n) : n ≤ L.length ∧ ∀ i, i < n → rw_ (((redTo L n).1.take n).map fun r => r.drop n) i = (rw_ (redTo L n).1 i).drop n := by
  obtain ⟨g1, g2, g3⟩ := redTo_inv hS n
  have hn : n ≤ L.length := by omega
  refine ⟨hn, fun i hi => ?_⟩
  rw [rw_at (by rw [List.length_map, List.length_take]; omega), rw_at (by omega), List.getElem_map, List.getElem_take]
/-- what fits all equations is what is solved -/
theorem solved_is {L v : List (List Int)} {n m : Nat} (hS : Slots L (n + m)) (hv : Slots v m) (hvl : v.length = n) (hx : All L (Fit v n m)) (hf : (redTo L n).2.length = n) :
    ((redTo L n).1.drop n).all (fun r => decide (Nought r)) = true ∧ ((redTo L n).1.take n).map (fun r => r.drop n) = v := by
  obtain ⟨g1, g2, g3⟩ := redTo_inv hS n
  have hu := full_units hS hf
  have hby : ∀ j, By (rw_ v j) := fun j => by
    by_cases hj : j < v.length
    · exact (Slots.rw hv hj).2
    · unfold rw_
      rw [List.getD_eq_getElem?_getD, List.getElem?_eq_none (by omega)]
      intro x hx; cases hx
  have hfit := (red_all (fit_linear hby n m) hS n).1 hx
  have hn : n ≤ L.length := by omega
  constructor
  · rw [List.all_eq_true]
    intro r hr
    obtain ⟨i, hi, rfl⟩ := List.mem_iff_getElem.1 hr
    rw [List.length_drop] at hi
    refine decide_eq_true ?_
    rw [List.getElem_drop, ← rw_at]
    have hr := Slots.rw g1 (show n + i < (redTo L n).1.length by omega)
    have hz : ∀ j, j < n → cl (rw_ (redTo L n).1 (n + i)) j = 0 := fun j hj => by rw [hu (n + i) j (by omega) hj, if_neg (by omega)]
    refine nought_cl hr.1 hr.2 hz (fun p hp => ?_)
    rw [hfit (n + i) (by omega) p hp, cmb_unit (i := n + i) p n (fun j hj => by rw [hz j hj, if_neg (by omega)]), if_neg (by omega)]
  · refine List.ext_getElem (by rw [List.length_map, List.length_take]; omega) fun i h1 h2 => ?_
    have hi : i < n := by omega
    have hr := Slots.rw g1 (show i < (redTo L n).1.length by omega)
    rw [List.getElem_map, List.getElem_take, ← rw_at, ← rw_at h2]
    have hvi := Slots.rw hv h2
    refine cl_ext (fun x hx => hr.2 x (List.mem_of_mem_drop hx)) hvi.2 (by rw [List.length_drop, hr.1, hvi.1]; omega) fun p hp => ?_
    rw [List.length_drop, hr.1] at hp
    rw [cl_drop, hfit i (by omega) p (by omega), cmb_unit (i := i) p n (fun j hj => hu i j (by omega) hj), if_pos hi]
/-- what is solved fits all equations -/
theorem solved_fits {L : List (List Int)} {n m : Nat} (hS : Slots L (n + m)) (hf : (redTo L n).2.length = n) (h0 : ((redTo L n).1.drop n).all (fun r => decide (Nought r)) = true) :
    All L (Fit (((redTo L n).1.take n).map fun r => r.drop n) n m) ∧ Slots (((redTo L n).1.take n).map fun r => r.drop n) m := by
  obtain ⟨g1, g2, g3⟩ := redTo_inv hS n
  have hu := full_units hS hf
  obtain ⟨hn, hrw⟩ := solved_rows hS hf
  have hsl : Slots (((redTo L n).1.take n).map fun r => r.drop n) m := by
    constructor
    · intro r hr
      obtain ⟨x, hx, rfl⟩ := List.mem_map.1 hr
      rw [List.length_drop, g1.len x (List.mem_of_mem_take hx)]
      omega
    · intro r hr
      obtain ⟨x, hx, rfl⟩ := List.mem_map.1 hr
      exact fun z hz => g1.b x (List.mem_of_mem_take hx) z (List.mem_of_mem_drop hz)
  refine ⟨?_, hsl⟩
  generalize hv : (((redTo L n).1.take n).map fun r => r.drop n) = v at hsl hrw
  have hby : ∀ j, By (rw_ v j) := fun j => by
    by_cases hj : j < v.length
    · exact (Slots.rw hsl hj).2
    · unfold rw_
      rw [List.getD_eq_getElem?_getD, List.getElem?_eq_none (by omega)]
      intro x hx; cases hx
  refine (red_all (fit_linear hby n m) hS n).2 fun i hi p hp => ?_
  rw [cmb_unit (i := i) p n (fun j hj => hu i j (by omega) hj)]
  split
  · rename_i h; rw [hrw i h, cl_drop]
  · rw [List.all_eq_true] at h0
    have hm := h0 (redTo L n).1[i] (List.mem_iff_getElem.2 ⟨i - n, by rw [List.length_drop]; omega, by rw [List.getElem_drop]; congr 1; omega⟩)
    rw [rw_at hi]
    exact cl_nought (of_decide_eq_true hm) _
end Go.Proofs.YtcmigmldecacpaaDoor.Lin
/- Any equations of any vectors tell them, just if the rank is full. No condition beyond the kinds of the arguments. -/
namespace Go.Proofs.YtcmigmldecacpaaDoor.Pure
open Go Go.RowKit Go.Proofs.YtcmigmldecacpaaDoor.QDenseSolves Go.Proofs.YtcmigmldecacpaaDoorW.PrintWords Go.Proofs.YtcmigmldecacpaaDoorW.PrintLast Go.Proofs.YtcmigmldecacpaaDoor.Vec Go.Proofs.YtcmigmldecacpaaDoor.Giv Go.Proofs.YtcmigmldecacpaaDoor.Dense Go.Proofs.YtcmigmldecacpaaDoor.Reduce Go.Proofs.YtcmigmldecacpaaDoor.Ech

namespace D
theorem shr_u8 (b : Nat) (i : Nat) (hi : i < 8) : shr .u8 (b : Int) (IntKind.u64.wrap (i : Int)) = ((b / 2 ^ i : Nat) : Int) := by
  unfold shr
  rw [Gy.u64_wrap_id (by omega) (by omega)]
  have e : min ((i : Int)).toNat (IntKind.bits .u8) = i := by show min i 8 = i; omega
  rw [e]
  norm_cast
theorem pow_lt8 {i : Nat} (h : i < 8) : 2 ^ i ≤ 128 := by
  have : 2 ^ i ≤ 2 ^ 7 := Nat.pow_le_pow_right (by omega) (by omega)
  exact this
theorem shl_i64 {a : Nat} (ha : a < 512) (i : Nat) (hi : i < 8) : shl .i64 (a : Int) (IntKind.u64.wrap (i : Int)) = ((a * 2 ^ i : Nat) : Int) := by
  unfold shl
  rw [Gy.u64_wrap_id (by omega) (by omega)]
  have e : min ((i : Int)).toNat (IntKind.bits .i64) = i := by show min i 64 = i; omega
  rw [e]
  have h1 := pow_lt8 hi
  have h2 : a * 2 ^ i ≤ 511 * 128 := Nat.mul_le_mul (by omega) h1
  have e2 : (a : Int) * 2 ^ i = ((a * 2 ^ i : Nat) : Int) := by norm_cast
  rw [e2, Gy.wrapI64]
  omega
theorem shr_i64 (v : Nat) (i : Nat) (hi : i < 64) : shr .i64 (v : Int) (IntKind.u64.wrap (i : Int)) = ((v / 2 ^ i : Nat) : Int) := by
  unfold shr
  rw [Gy.u64_wrap_id (by omega) (by omega)]
  have e : min ((i : Int)).toNat (IntKind.bits .i64) = i := by show min i 64 = i; omega
  rw [e]
  norm_cast
theorem rm_l1 : ∀ (f v k : Nat), f ≤ 7 → v < 2 ^ 20 → f < k → geyserref03_Mul.l1 k v ((f : Int) + 7) = some ((Gy.rmulR f v % 256 : Nat) : Int) := by
  intro f
  induction f with
  | zero =>
    intro v k _ hv hk
    obtain ⟨k, rfl⟩ : ∃ m, k = m + 1 := ⟨k - 1, by omega⟩
    simp only [geyserref03_Mul.l1]
    rw [if_neg (by omega)]
    rfl
  | succ f ih =>
    intro v k hf hv hk
    obtain ⟨k, rfl⟩ : ∃ m, k = m + 1 := ⟨k - 1, by omega⟩
    have e8 : ((f + 1 : Nat) : Int) + 7 = ((f + 8 : Nat) : Int) := by omega
    rw [e8]
    simp only [geyserref03_Mul.l1]
    rw [if_pos (by omega), if_pos (by rw [Gy.u64_wrap_id (by omega) (by omega)]; omega)]
    rw [shr_i64 v (f + 8) (by omega), Gy.i64_and1 _ (Nat.lt_of_le_of_lt (Nat.div_le_self _ _) (by omega))]
    have em1 : wrap64 (((f + 8 : Nat) : Int) - 1) = (f : Int) + 7 := by rw [Gy.wrap64_id (by omega) (by omega)]; omega
    have em8 : wrap64 (((f + 8 : Nat) : Int) - 8) = (f : Int) := by rw [Gy.wrap64_id (by omega) (by omega)]; omega
    rw [em1, em8]
    have hm : Gy.rmulR (f + 1) v = Gy.rmulR f (if (v / 2 ^ (f + 8)) % 2 = 1 then v ^^^ (285 * 2 ^ f) else v) := rfl
    have e285 : shl .i64 (285 : Int) (IntKind.u64.wrap (f : Int)) = ((285 * 2 ^ f : Nat) : Int) := shl_i64 (a := 285) (by omega) f (by omega)
    have hp := pow_lt8 (i := f) (by omega)
    rw [e285, Gy.i64_xor v (285 * 2 ^ f) (by omega) (by omega)]
    by_cases h1 : (v / 2 ^ (f + 8)) % 2 = 1
    · rw [if_pos (by omega), if_pos (by rw [Gy.u64_wrap_id (by omega) (by omega)]; omega), hm, if_pos h1]
      exact ih _ _ (by omega) (Gy.xor_lt 20 hv (by omega)) (by omega)
    · rw [if_neg (by omega), hm, if_neg h1]
      exact ih _ _ (by omega) hv (by omega)
theorem rm_l0 : ∀ (f i : Nat) (a b v k : Nat), f + i = 8 → a < 256 → b < 256 → v < 2 ^ 20 → f + 9 < k →
    geyserref03_Mul.l0 k a b v i = some ((Gy.rmulR 7 (Gy.rmulV f a b v i) % 256 : Nat) : Int) := by
  intro f
  induction f with
  | zero =>
    intro i a b v k hi ha hb hv hk
    obtain ⟨k, rfl⟩ : ∃ m, k = m + 1 := ⟨k - 1, by omega⟩
    simp only [geyserref03_Mul.l0]
    rw [if_neg (by omega)]
    exact rm_l1 7 v k (by omega) hv (by omega)
  | succ f ih =>
    intro i a b v k hi ha hb hv hk
    obtain ⟨k, rfl⟩ : ∃ m, k = m + 1 := ⟨k - 1, by omega⟩
    simp only [geyserref03_Mul.l0]
    rw [if_pos (by omega), if_pos (by rw [Gy.u64_wrap_id (by omega) (by omega)]; omega)]
    rw [shr_u8 b i (by omega), Gy.u8_and1 _ (Nat.lt_of_le_of_lt (Nat.div_le_self _ _) hb)]
    have e1 : wrap64 ((i : Int) + 1) = ((i + 1 : Nat) : Int) := by rw [Gy.wrap64_id (by omega) (by omega)]; omega
    rw [e1, Gy.wrap64_id (by omega) (by omega), shl_i64 (by omega) i (by omega)]
    have hp := pow_lt8 (i := i) (by omega)
    have hav : a * 2 ^ i ≤ 255 * 128 := Nat.mul_le_mul (by omega) hp
    rw [Gy.i64_xor v (a * 2 ^ i) (by omega) (by omega)]
    have hm : Gy.rmulV (f + 1) a b v i = Gy.rmulV f a b (if (b / 2 ^ i) % 2 = 1 then v ^^^ (a * 2 ^ i) else v) (i + 1) := rfl
    by_cases h1 : (b / 2 ^ i) % 2 = 1
    · rw [if_pos (by omega), hm, if_pos h1]
      exact ih _ _ _ _ _ (by omega) ha hb (Gy.xor_lt 20 hv (by omega)) (by omega)
    · rw [if_neg (by omega), hm, if_neg h1]
      exact ih _ _ _ _ _ (by omega) ha hb hv (by omega)
theorem rmul_def (a b : Nat) : Gy.rmul a b = Gy.rmulR 7 (Gy.rmulV 8 a b 0 0) % 256 := by unfold Gy.rmul; rfl
theorem rmul {k : Nat} (hk : 18 ≤ k) {a b : Nat} (ha : a < 256) (hb : b < 256) : geyserref03_Mul.f k a b = some ((Gy.gmul a b : Nat) : Int) := by
  have h := rm_l0 8 0 a b 0 k (by omega) ha hb (by omega) (by omega)
  rw [← rmul_def, Gy.rmul_eq ha hb] at h
  exact h
theorem plus_l0 (a b : List Int) (c : Nat) (ha : By a) (hb : By b) (hc : c < 256) (hl : b.length = a.length) (hn : a.length ≤ 9223372036854775807) : ∀ (d i k : Nat) (out : List Int), i + d = a.length → out.length = a.length → d + 20 < k →
    geyserref03_Plus.l0 k a b c out (a.length : Int) (i : Int) = some (out.take i ++ (plusL a b c).drop i) := by
  intro d
  have hpl := plusL_length hl c
  induction d with
  | zero =>
    intro i k out hi ho hk
    obtain ⟨k, rfl⟩ : ∃ m, k = m + 1 := ⟨k - 1, by omega⟩
    simp only [geyserref03_Plus.l0]
    rw [if_neg (by omega), List.drop_eq_nil_of_le (by omega), List.append_nil, List.take_of_length_le (by omega)]
  | succ d ih =>
    intro i k out hi ho hk
    obtain ⟨k, rfl⟩ : ∃ m, k = m + 1 := ⟨k - 1, by omega⟩
    simp only [geyserref03_Plus.l0]
    obtain ⟨m, hm, lm⟩ := ha.at i (by omega)
    obtain ⟨n, hn2, ln⟩ := hb.at i (by omega)
    rw [if_pos (by omega), if_pos (by omega), if_pos (by omega), if_pos (by omega), rd_at a i (by omega), rd_at b i (by omega), hm, hn2, rmul (by omega) ln hc, Option.bind_some, if_pos (by omega)]
    rw [Go.u8_xor_nat m (Gy.gmul n c) lm (Gy.gmul_lt ln hc), Gy.wrap64_id (by omega) (by omega), Int.toNat_natCast]
    rw [show ((i : Int) + 1) = ((i + 1 : Nat) : Int) from by omega]
    rw [ih (i + 1) k _ (by omega) (by rw [List.length_set]; omega) (by omega)]
    congr 1
    rw [List.take_succ_eq_append_getElem (by rw [List.length_set]; omega), List.drop_eq_getElem_cons (show i < (plusL a b c).length by omega), plusL_at c i (by omega) (by omega), hm, hn2, (addI_by c m n lm ln hc).1]
    rw [List.getElem_set_self, List.take_set, List.append_assoc]
    congr 1
    rw [List.set_eq_of_length_le (by rw [List.length_take]; omega)]
theorem plus_f {a b : List Int} {c k : Nat} (ha : By a) (hb : By b) (hc : c < 256) (hl : b.length = a.length) (hn : a.length ≤ 281474976710656) (hk : a.length + 20 < k) : geyserref03_Plus.f k a b c = some (plusL a b c) := by
  unfold geyserref03_Plus.f
  rw [if_pos (by omega), if_pos (by omega), Int.toNat_natCast]
  have h := plus_l0 a b c ha hb hc hl (by omega) a.length 0 k (List.replicate a.length 0) (by omega) (by rw [List.length_replicate]) hk
  rw [List.take_zero, List.nil_append, List.drop_zero] at h
  exact h
theorem up63 {i n : Nat} (h : i < n) (hn : n ≤ 9223372036854775807) : wrap64 ((i : Int) + 1) = ((i + 1 : Nat) : Int) := by rw [Gy.wrap64_id (by omega) (by omega)]; omega
theorem rdL (l : List (List Int)) (i : Nat) (hi : i < l.length) : rd_L1 l (i : Int) = l[i] := by
  unfold rd_L1; rw [Int.toNat_natCast, List.getD_eq_getElem?_getD, List.getElem?_eq_getElem hi]; rfl
theorem rdI (l : List Int) (i : Nat) : rd l (i : Int) = l.getD i 0 := by unfold rd; rw [Int.toNat_natCast]
theorem widthN_eq {l : List (List Int)} (h : ∀ r ∈ l, r.length ≤ 1000 ∧ By r) : widthN (fillRows l) = maxFrom 0 l := by
  cases l with
  | nil => rfl
  | cons r t => exact (fill_slots h).1.len _ (by simp [fillRows])
/-- rows as long as the longest -/
theorem rows_l1 (l : List (List Int)) (M : Nat) (hM : M ≤ 1000) (hl : l.length ≤ 1000) (h : ∀ r ∈ l, r.length ≤ M) : ∀ (d i : Nat) (out : List (List Int)), i + d = l.length → out = (l.take i).map (padTo M) →
    Ev (fun k => geyserref03_Rows.l1 k l M out (l.length : Int) i) (l.map (padTo M), (M : Int)) := by
  intro d
  induction d with
  | zero =>
    intro i out hi ho
    refine Ev.step (fun k => ?_) (Ev.now _)
    simp only [geyserref03_Rows.l1]
    rw [if_neg (by omega), ho, List.take_of_length_le (by omega)]
  | succ d ih =>
    intro i out hi ho
    have hi' : i < l.length := by omega
    have hr := h _ (List.getElem_mem hi')
    have hfl : geyserref03_Fill.f l[i] (M : Int) = some (padTo M l[i]) := by
      unfold geyserref03_Fill.f
      rw [if_pos ⟨by omega, by omega, by omega⟩, Int.toNat_natCast]
      unfold fillL padTo
      rw [List.take_of_length_le hr]
    have hol : out.length ≤ 1000 := by rw [ho, List.length_map, List.length_take]; omega
    refine Ev.step (fun k => ?_) (ih (i + 1) (out ++ [padTo M l[i]]) (by omega) (by rw [ho, List.take_succ_eq_append_getElem hi', List.map_append]; rfl))
    simp only [geyserref03_Rows.l1]
    rw [if_pos (by omega), if_pos (by omega), if_pos (by omega), rdL l i hi', hfl, Option.bind_some, if_pos (by omega), up63 hi' (by omega)]
theorem rows_l0 (l : List (List Int)) (hl : l.length ≤ 1000) (h : ∀ r ∈ l, r.length ≤ 1000) : ∀ (d i m : Nat), i + d = l.length → m ≤ 1000 → (∀ r ∈ l, r.length ≤ maxFrom m (l.drop i)) →
    Ev (fun k => geyserref03_Rows.l0 k l m (l.length : Int) i) (l.map (padTo (maxFrom m (l.drop i))), ((maxFrom m (l.drop i) : Nat) : Int)) := by
  intro d
  induction d with
  | zero =>
    intro i m hi hm hh
    rw [List.drop_eq_nil_of_le (by omega)] at hh ⊢
    refine Ev.step (fun k => ?_) (rows_l1 l m hm hl hh l.length 0 [] (by omega) rfl)
    simp only [geyserref03_Rows.l0]
    rw [if_neg (by omega)]
    rfl
  | succ d ih =>
    intro i m hi hm hh
    have hi' : i < l.length := by omega
    have hmx : mx (m : Int) (l[i].length : Int) = ((max m l[i].length : Nat) : Int) := by unfold mx; omega
    rw [List.drop_eq_getElem_cons hi'] at hh ⊢
    refine Ev.step (fun k => ?_) (ih (i + 1) (max m l[i].length) (by omega) (by have := h _ (List.getElem_mem hi'); omega) hh)
    simp only [geyserref03_Rows.l0]
    rw [if_pos (by omega), if_pos (by omega), if_pos (by omega), rdL l i hi', hmx, up63 hi' (by omega)]
theorem rows_run (l : List (List Int)) (hl : l.length ≤ 1000) (h : ∀ r ∈ l, r.length ≤ 1000 ∧ By r) : Ev (fun k => geyserref03_Rows.f k l) (fillRows l, ((maxFrom 0 l : Nat) : Int)) := by
  have h1 := rows_l0 l hl (fun r hr => (h r hr).1) l.length 0 0 (by omega) (by omega) (fun r hr => by rw [List.drop_zero]; exact (le_maxFrom l 0).2 r hr)
  rw [List.drop_zero] at h1
  exact h1
theorem few_l0 (X : List (List Int)) (hX : X.length ≤ 9223372036854775807) : ∀ (d i : Nat), i + d = X.length → i ≤ 40 → (∀ j (h : j < X.length), j < i → X[j].length ≤ 40) →
    ∃ b, Ev (fun n => geyserlaw05_few.l0 n X (X.length : Int) i) b ∧ (b = true → X.length ≤ 40 ∧ ∀ j (h : j < X.length), X[j].length ≤ 40) := by
  intro d
  induction d with
  | zero =>
    intro i hi h70 hb
    refine ⟨true, Ev.step (fun n => ?_) (Ev.now _), fun _ => ⟨by omega, fun j h => hb j h (by omega)⟩⟩
    simp only [geyserlaw05_few.l0]
    rw [if_neg (by omega)]
  | succ d ih =>
    intro i hi h70 hb
    have hi' : i < X.length := by omega
    by_cases h1 : i ≥ 40
    · refine ⟨false, Ev.step (fun n => ?_) (Ev.now _), fun h => by cases h⟩
      simp only [geyserlaw05_few.l0]
      rw [if_pos (by omega), if_pos (by omega)]
    · by_cases h2 : ((X[i]).length : Int) > 40
      · refine ⟨false, Ev.step (fun n => ?_) (Ev.now _), fun h => by cases h⟩
        simp only [geyserlaw05_few.l0]
        rw [if_pos (by omega), if_neg (by omega), if_pos (by omega), if_pos (by omega), rdL X i hi', if_pos h2]
      · obtain ⟨b, hE, hh⟩ := ih (i + 1) (by omega) (by omega) (fun j h hj => by
          by_cases e : j = i
          · subst e; omega
          · exact hb j h (by omega))
        refine ⟨b, Ev.step (fun n => ?_) hE, hh⟩
        simp only [geyserlaw05_few.l0]
        rw [if_pos (by omega), if_neg (by omega), if_pos (by omega), if_pos (by omega), rdL X i hi', if_neg h2, up63 hi' hX]
theorem echelon_f {l : List (List Int)} (h : ∀ r ∈ l, r.length ≤ 1000 ∧ By r) (hl : l.length ≤ 40) : geyserref03_Echelon.f (fillRows l) ((maxFrom 0 l : Nat) : Int) = some ((redTo (fillRows l) (maxFrom 0 l)).1, (redTo (fillRows l) (maxFrom 0 l)).2.map Int.ofNat) := by
  obtain ⟨f1, f2, f3⟩ := fill_slots h
  have hwd := widthN_eq h
  unfold widthN at hwd
  have hok : okEch (fillRows l) ((maxFrom 0 l : Nat) : Int) = true := by
    unfold okEch
    simp only [Bool.and_eq_true, decide_eq_true_eq, List.all_eq_true, Int.toNat_natCast]
    refine ⟨⟨⟨⟨by omega, by omega⟩, by omega⟩, by omega⟩, fun r hr => ⟨by rw [hwd]; exact f1.len r hr, by_okB (f1.b r hr)⟩⟩
  unfold geyserref03_Echelon.f
  rw [if_pos hok, Int.toNat_natCast]
theorem rank_one : dense_Rank.f [[1]] = some 1 := by decide +kernel
theorem fill_pad {x : List Int} {m : Nat} (h : x.length ≤ m) (hm : m ≤ 1000) : geyserref03_Fill.f x (m : Int) = some (padTo m x) := by
  unfold geyserref03_Fill.f
  rw [if_pos ⟨by omega, by omega, by omega⟩, Int.toNat_natCast]
  unfold fillL padTo
  rw [List.take_of_length_le h]
theorem pad_same {m : Nat} {x : List Int} (h : x.length = m) : padTo m x = x := by
  unfold padTo
  rw [h, Nat.sub_self, List.replicate_zero, List.append_nil]
/-- the law's symbol -/
theorem symbol_run (xs : List (List Int)) (m : Nat) (r : List Int) (hx : ∀ x ∈ xs, x.length = m ∧ By x) (hr : By r) (hlen : xs.length ≤ r.length) (hm : m ≤ 1000) (hl : xs.length ≤ 1000) : Ev (fun k => geyserref03_Symbol.f k xs (m : Int) r) (Lin.symL xs m r xs.length) := by
  have hxr : ∀ j, j < xs.length → (Lin.rw_ xs j).length = m ∧ By (Lin.rw_ xs j) := fun j hj => by
    rw [Lin.rw_at hj]; exact hx _ (List.getElem_mem hj)
  have key : ∀ d i : Nat, i + d = xs.length → Ev (fun k => geyserref03_Symbol.l0 k xs (m : Int) r (Lin.symL xs m r i) (xs.length : Int) i) (Lin.symL xs m r xs.length) := by
    intro d
    induction d with
    | zero =>
      intro i hi
      obtain rfl : i = xs.length := by omega
      refine Ev.step (fun k => ?_) (Ev.now _)
      simp only [geyserref03_Symbol.l0]
      rw [if_neg (by omega)]
    | succ d ih =>
      intro i hi
      have hi' : i < xs.length := by omega
      obtain ⟨s1, s2, s3⟩ := Lin.symL_spec (xs := xs) (m := m) hr i (fun j hj => hxr j (by omega))
      obtain ⟨l1, b1⟩ := hxr i hi'
      have hp : Ev (fun k => geyserref03_Plus.f k (Lin.symL xs m r i) (Lin.rw_ xs i) ((Lin.cl r i : Nat) : Int)) (Lin.symL xs m r (i + 1)) := by
        refine ⟨m + 21, fun k hk => ?_⟩
        exact plus_f s2 b1 (Lin.cl_lt hr i) (by omega) (by omega) (by omega)
      refine Ev.step (f := fun k => (geyserref03_Plus.f k (Lin.symL xs m r i) (Lin.rw_ xs i) ((Lin.cl r i : Nat) : Int)).bind fun t => geyserref03_Symbol.l0 k xs (m : Int) r t (xs.length : Int) ((i + 1 : Nat) : Int)) (fun k => ?_) (Ev.bind hp (ih (i + 1) (by omega)))
      simp only [geyserref03_Symbol.l0]
      rw [if_pos (by omega), if_pos (by omega), if_pos (by omega), rdL xs i hi', ← Lin.rw_at hi', fill_pad (by omega) hm, Option.bind_some, if_pos (by omega), pad_same l1, rdI, Lin.getD_cl hr, up63 hi' (by omega)]
  have h0 := key xs.length 0 (by omega)
  refine Ev.congr (fun k => ?_) h0
  unfold geyserref03_Symbol.f
  rw [if_pos (by omega), if_pos (by omega), Int.toNat_natCast]
  rfl
/-- the law's rank -/
theorem rank_run {l : List (List Int)} (h : ∀ r ∈ l, r.length ≤ 1000 ∧ By r) (hl : l.length ≤ 40) : Ev (fun k => geyserref03_Rank.f k l) (((redTo (fillRows l) (maxFrom 0 l)).2.length : Nat) : Int) := by
  refine Ev.congr (fun k => by unfold geyserref03_Rank.f; rfl) (Ev.bind (rows_run l (by omega) h) (Ev.congr (fun k => ?_) (Ev.now _)))
  show (geyserref03_Echelon.f (fillRows l) ((maxFrom 0 l : Nat) : Int)).bind _ = _
  rw [echelon_f h hl, Option.bind_some]
  show some (((redTo (fillRows l) (maxFrom 0 l)).2.map Int.ofNat).length : Int) = _
  rw [List.length_map]
theorem okS_of {l : List (List Int)} (h : ∀ r ∈ l, r.length ≤ 1000 ∧ By r) (hl : l.length ≤ 1000) : okS l = true := by
  unfold okS
  rw [Bool.and_eq_true, decide_eq_true_eq, List.all_eq_true]
  refine ⟨hl, fun r hr => ?_⟩
  rw [Bool.and_eq_true, decide_eq_true_eq]
  exact ⟨(h r hr).1, by_okB (h r hr).2⟩
theorem rank_same {L : List (List Int)} {n : Nat} (hS : Slots L n) : (redTo (fillRows L) (maxFrom 0 L)).2.length = (redTo L n).2.length := by
  cases L with
  | nil => rw [show fillRows ([] : List (List Int)) = [] from rfl, redTo_nil, redTo_nil]
  | cons r t =>
    have hm : maxFrom 0 (r :: t) = n := by
      have h1 := maxFrom_le (B := n) (r :: t) 0 (Nat.zero_le _) (fun x hx => Nat.le_of_eq (hS.len x hx))
      have h2 := (le_maxFrom (r :: t) 0).2 r List.mem_cons_self
      have h3 := hS.len r List.mem_cons_self
      omega
    have hf : fillRows (r :: t) = r :: t := by
      unfold fillRows
      rw [hm]
      refine (List.map_congr_left fun x hx => ?_).trans (List.map_id _)
      exact pad_same (hS.len x hx)
    rw [hm, hf]
theorem eqs_rank {l y : List (List Int)} {n m : Nat} (hl : l.length = y.length) (h0 : ∀ r ∈ l, r.length ≤ n ∧ By r) (hn : n ≤ 1000) (hL : Slots (eqsL l y n) (n + m)) : (redTo (eqsL l y n) n).2 = (redTo (fillRows l) (maxFrom 0 l)).2 :=
  Lin.rank_first hl h0 hL (fill_slots (fun r hr => ⟨Nat.le_trans (h0 r hr).1 hn, (h0 r hr).2⟩)).1
theorem eqs_at {l y : List (List Int)} {n i : Nat} (h0 : i < l.length) (h1 : i < y.length) : Lin.rw_ (eqsL l y n) i = padTo n l[i] ++ y[i] := by
  rw [Lin.rw_at (by unfold eqsL; rw [List.length_zipWith]; omega)]
  exact List.getElem_zipWith
/-- who fits the equations, said of these -/
theorem fit_iff {l y xs : List (List Int)} {n m i : Nat} (h0 : i < l.length) (h1 : i < y.length) (hl : l[i].length ≤ n) (hb : By l[i]) (hy : y[i].length = m) (hyb : By y[i]) (hx : ∀ j, j < n → (Lin.rw_ xs j).length = m ∧ By (Lin.rw_ xs j)) : Lin.Fit xs n m (Lin.rw_ (eqsL l y n) i) ↔ y[i] = Lin.symL xs m (padTo n l[i]) n := by
  obtain ⟨s1, s2, s3⟩ := Lin.symL_spec (padTo_by (m := n) hb) n hx
  have hpl : (padTo n l[i]).length = n := padTo_length hl
  have hc : ∀ p, Lin.cmb xs (Lin.rw_ (eqsL l y n) i) p n = Lin.cmb xs (padTo n l[i]) p n := fun p => Lin.cmb_congr p n (fun j hj => by
    rw [eqs_at h0 h1, Lin.cl_app_left (by rw [hpl]; exact hj)])
  have hd : ∀ p, Lin.cl (Lin.rw_ (eqsL l y n) i) (n + p) = Lin.cl y[i] p := fun p => by
    have := Lin.cl_app_right (padTo n l[i]) y[i] p
    rw [hpl] at this
    rw [eqs_at h0 h1, this]
  constructor
  · intro h
    refine Lin.cl_ext hyb s2 (by omega) fun p hp => ?_
    rw [s3, ← hc, ← hd]
    exact h p (by omega)
  · intro h p hp
    rw [hd, hc, ← s3, ← h]
theorem few_ok {l : List (List Int)} (hb : ∀ r ∈ l, By r) (h40 : ∀ j (h : j < l.length), l[j].length ≤ 40) : ∀ r ∈ l, r.length ≤ 40 ∧ By r := fun r hr => by
  obtain ⟨j, hj, rfl⟩ := List.mem_iff_getElem.1 hr
  exact ⟨h40 j hj, hb _ hr⟩
theorem wake : geyserlaw05_awake.f = some true := by unfold geyserlaw05_awake.f; rw [rank_one]; rfl
/-! ### DenseSolves -/
def vv (l : List (List Int)) (m i : Nat) : List Int := padTo m ((Lin.rw_ l i).take (min (Lin.rw_ l i).length m))
def vvs (l : List (List Int)) (m k : Nat) : List (List Int) := (List.range k).map (vv l m)
theorem rw_by {l : List (List Int)} (h : ∀ r ∈ l, By r) (i : Nat) : By (Lin.rw_ l i) := by
  by_cases hi : i < l.length
  · rw [Lin.rw_at hi]; exact h _ (List.getElem_mem hi)
  · unfold Lin.rw_
    rw [List.getD_eq_getElem?_getD, List.getElem?_eq_none (by omega)]
    intro x hx; cases hx
theorem vv_ok {l : List (List Int)} (h : ∀ r ∈ l, By r) (m i : Nat) : (vv l m i).length = m ∧ By (vv l m i) :=
  ⟨padTo_length (by rw [List.length_take]; omega), padTo_by (fun x hx => rw_by h i x (List.mem_of_mem_take hx))⟩
theorem vvs_slots {l : List (List Int)} (h : ∀ r ∈ l, By r) (m k : Nat) : Slots (vvs l m k) m ∧ (vvs l m k).length = k := by
  refine ⟨⟨fun r hr => ?_, fun r hr => ?_⟩, by unfold vvs; rw [List.length_map, List.length_range]⟩
  · obtain ⟨i, _, rfl⟩ := List.mem_map.1 hr
    exact (vv_ok h m i).1
  · obtain ⟨i, _, rfl⟩ := List.mem_map.1 hr
    exact (vv_ok h m i).2
theorem vvs_next (l : List (List Int)) (m i : Nat) : vvs l m i ++ [vv l m i] = vvs l m (i + 1) := by
  unfold vvs
  rw [List.range_succ, List.map_append]
  rfl
def cutR (k : Nat) (r : List Int) : List Int := r.take (min r.length k)
theorem cutR_ok {k : Nat} {r : List Int} (h : By r) : (cutR k r).length ≤ k ∧ By (cutR k r) :=
  ⟨by unfold cutR; rw [List.length_take]; omega, fun x hx => h x (List.mem_of_mem_take hx)⟩
def rightOf (V : List (List Int)) (m k : Nat) (r : List Int) : List Int := Lin.symL V m (padTo k r) k
theorem mn_nat (a b : Nat) : mn (a : Int) (b : Int) = ((min a b : Nat) : Int) := by unfold mn; omega
theorem ds_l2 (V : List (List Int)) (hV : V.length ≤ 1000) : ∀ d i : Nat, i + d = V.length → Ev (fun k => geyserlaw05_DenseSolves.l2 k V V (V.length : Int) i) true := by
  intro d
  induction d with
  | zero =>
    intro i hi
    refine Ev.step (fun k => ?_) (Ev.now _)
    simp only [geyserlaw05_DenseSolves.l2]
    rw [if_neg (by omega)]
  | succ d ih =>
    intro i hi
    have hi' : i < V.length := by omega
    refine Ev.step (fun k => ?_) (ih (i + 1) (by omega))
    simp only [geyserlaw05_DenseSolves.l2]
    rw [if_pos (by omega), if_pos (by omega), if_pos (by omega), if_pos (by omega), if_pos trivial, up63 hi' (by omega)]
theorem solves_end {l V : List (List Int)} {k m : Nat} (hl : l.length ≤ 40) (hb : ∀ r ∈ l, By r) (hk : k < 12) (hm : m < 10) (hV : Slots V m) (hVl : V.length = k) :
    Ev (fun n => (dense_Solve.f (l.map (cutR k)) ((l.map (cutR k)).map (rightOf V m k)) (k : Int)).bind fun bt186 => ((geyserref03_Rank.f n (l.map (cutR k))).bind fun t190 => (if t190 < (k : Int) then (if bt186.2 = 9 then (some ((bt186.1.length : Int) == 0)) else (some false)) else (if bt186.2 = 0 then (geyserlaw05_DenseSolves.j3 n V bt186.1 ((bt186.1.length : Int) != (k : Int))) else (geyserlaw05_DenseSolves.j3 n V bt186.1 true))))) true := by
  obtain ⟨X, hX⟩ : ∃ X, X = l.map (cutR k) := ⟨_, rfl⟩
  have hX0 : ∀ r ∈ X, r.length ≤ k ∧ By r := fun r hr => by
    rw [hX] at hr
    obtain ⟨x, hx, rfl⟩ := List.mem_map.1 hr
    exact cutR_ok (hb x hx)
  have hXl : X.length = l.length := by rw [hX, List.length_map]
  rw [← hX]
  obtain ⟨Y, hY⟩ : ∃ Y, Y = X.map (rightOf V m k) := ⟨_, rfl⟩
  have hVr : ∀ j, j < k → (Lin.rw_ V j).length = m ∧ By (Lin.rw_ V j) := fun j hj => Lin.Slots.rw hV (by omega)
  have hY0 : ∀ y ∈ Y, y.length = m ∧ By y := fun y hy => by
    rw [hY] at hy
    obtain ⟨x, hx, rfl⟩ := List.mem_map.1 hy
    have := Lin.symL_spec (xs := V) (m := m) (padTo_by (m := k) (hX0 x hx).2) k hVr
    exact ⟨this.1, this.2.1⟩
  have hYl : Y.length = X.length := by rw [hY, List.length_map]
  have hYat : ∀ i (h : i < X.length) (h' : i < Y.length), Y[i] = Lin.symL V m (padTo k X[i]) k := fun i h h' => by
    subst hY
    rw [List.getElem_map]
    rfl
  rw [← hY]
  have hX1 : ∀ r ∈ X, r.length ≤ 1000 ∧ By r := fun r hr => ⟨by have := (hX0 r hr).1; omega, (hX0 r hr).2⟩
  have hS : Slots (eqsL X Y k) (k + m) := eqsL_slots hX0 hY0
  have hwr : wrongB X Y (k : Int) = false := by
    unfold wrongB
    simp only [Bool.or_eq_false_iff, decide_eq_false_iff_not, List.any_eq_false, decide_eq_true_eq]
    refine ⟨by omega, by omega, fun r hr => by have := (hX0 r hr).1; omega, fun y hy => ?_⟩
    have h1 := (hY0 y hy).1
    cases hc : Y with
    | nil => rw [hc] at hy; cases hy
    | cons z t =>
      have h2 := (hY0 z (by rw [hc]; exact List.mem_cons_self)).1
      show ¬ y.length ≠ z.length
      omega
  have hsolve : dense_Solve.f X Y (k : Int) = some (solveL X Y (k : Int)) := by
    unfold dense_Solve.f
    rw [if_pos ⟨okS_of hX1 (by omega), okS_of (fun y hy => ⟨by have := (hY0 y hy).1; omega, (hY0 y hy).2⟩) (by omega), by omega⟩]
  have hrank := rank_run hX1 (by omega)
  have hPe := eqs_rank (y := Y) (by omega) hX0 (by omega) hS
  rw [hsolve]
  show Ev (fun n => (geyserref03_Rank.f n X).bind fun t190 => (if t190 < (k : Int) then (if (solveL X Y (k : Int)).2 = 9 then (some (((solveL X Y (k : Int)).1.length : Int) == 0)) else (some false)) else (if (solveL X Y (k : Int)).2 = 0 then (geyserlaw05_DenseSolves.j3 n V (solveL X Y (k : Int)).1 (((solveL X Y (k : Int)).1.length : Int) != (k : Int))) else (geyserlaw05_DenseSolves.j3 n V (solveL X Y (k : Int)).1 true)))) true
  rw [← hPe] at hrank
  refine Ev.bind hrank ?_
  have hsl : solveL X Y (k : Int) = if (redTo (eqsL X Y k) k).2.length < k then ([], 9) else if ((redTo (eqsL X Y k) k).1.drop k).all (fun r => decide (Nought r)) = true then (((redTo (eqsL X Y k) k).1.take k).map (fun r => r.drop k), 0) else ([], 11) := by
    unfold solveL
    rw [if_neg (by rw [hwr]; decide), Int.toNat_natCast]
  by_cases hP : (redTo (eqsL X Y k) k).2.length < k
  · rw [if_pos hP] at hsl
    rw [hsl]
    refine Ev.congr (fun n => ?_) (Ev.now _)
    rw [if_pos (by omega), if_pos rfl]
    rfl
  · have hu := (Lin.red_units hS k).len
    have hf : (redTo (eqsL X Y k) k).2.length = k := by omega
    have hfit : Lin.All (eqsL X Y k) (Lin.Fit V k m) := by
      intro i hi
      have hi' : i < X.length := by rw [eqsL_length (by omega)] at hi; exact hi
      have hi2 : i < Y.length := by omega
      have hxi := hX0 _ (List.getElem_mem hi')
      have hyi := hY0 _ (List.getElem_mem hi2)
      exact (fit_iff hi' hi2 hxi.1 hxi.2 hyi.1 hyi.2 hVr).2 (hYat i hi' hi2)
    obtain ⟨h1, h2⟩ := Lin.solved_is hS hV hVl hfit hf
    rw [if_neg hP, if_pos h1, h2] at hsl
    rw [hsl]
    refine Ev.congr (f := fun n => geyserlaw05_DenseSolves.j3 n V V false) (fun n => ?_) ?_
    · rw [if_neg (by omega), if_pos rfl, hVl]
      have : ((k : Int) != (k : Int)) = false := by simp
      rw [this]
    · refine Ev.step (fun n => ?_) (ds_l2 V (by omega) V.length 0 (by omega))
      simp only [geyserlaw05_DenseSolves.j3]
      rw [if_neg (by decide)]
      rfl
theorem ds_l1 {l V : List (List Int)} {k m : Nat} (hl : l.length ≤ 40) (hb : ∀ r ∈ l, By r) (hk : k < 12) (hm : m < 10) (hV : Slots V m) (hVl : V.length = k) : ∀ d i : Nat, i + d = l.length →
    Ev (fun n => geyserlaw05_DenseSolves.l1 n l (k : Int) (m : Int) ((l.take i).map (cutR k)) (((l.take i).map (cutR k)).map (rightOf V m k)) V (l.length : Int) i) true := by
  intro d
  induction d with
  | zero =>
    intro i hi
    refine Ev.step (fun n => ?_) (solves_end hl hb hk hm hV hVl)
    simp only [geyserlaw05_DenseSolves.l1]
    rw [if_neg (by omega), List.take_of_length_le (by omega)]
  | succ d ih =>
    intro i hi
    have hi' : i < l.length := by omega
    have hbi := hb _ (List.getElem_mem hi')
    have hcut : (cutR k l[i]).length ≤ k ∧ By (cutR k l[i]) := cutR_ok hbi
    have hpl : (padTo k (cutR k l[i])).length = k := padTo_length hcut.1
    have hsym := symbol_run V m (padTo k (cutR k l[i])) (fun x hx => ⟨hV.len x hx, hV.b x hx⟩) (padTo_by hcut.2) (by omega) (by omega) (by omega)
    rw [hVl] at hsym
    have hnx := ih (i + 1) (by omega)
    rw [List.take_succ_eq_append_getElem hi', List.map_append, List.map_append] at hnx
    refine Ev.step (f := fun n => (geyserref03_Symbol.f n V (m : Int) (padTo k (cutR k l[i]))).bind fun t180 => (if (((l.take i).map (cutR k)).map (rightOf V m k)).length < 5864062014805 then (geyserlaw05_DenseSolves.l1 n l (k : Int) (m : Int) ((l.take i).map (cutR k) ++ [cutR k l[i]]) (((l.take i).map (cutR k)).map (rightOf V m k) ++ [t180]) V (l.length : Int) ((i + 1 : Nat) : Int)) else none)) (fun n => ?_) (Ev.bind hsym (Ev.congr (fun n => ?_) hnx))
    · simp only [geyserlaw05_DenseSolves.l1]
      rw [if_pos (by omega), if_pos (by omega), if_pos (by omega), rdL l i hi', mn_nat, if_pos (by omega), if_pos (by omega), Option.bind_some, Int.toNat_natCast, if_pos (by rw [List.length_map, List.length_take]; omega), show (l[i]).take (min l[i].length k) = cutR k l[i] from rfl, fill_pad hcut.1 (by omega), Option.bind_some, up63 hi' (by omega)]
    · rw [if_pos (by rw [List.length_map, List.length_map, List.length_take]; omega)]
      rfl
theorem ds_l0 {l v : List (List Int)} {k m : Nat} (hl : l.length ≤ 40) (hb : ∀ r ∈ l, By r) (hv : v.length ≤ 40) (hvb : ∀ r ∈ v, By r) (hk : k < 12) (hm : m < 10) : ∀ d i : Nat, i + d = k →
    Ev (fun n => geyserlaw05_DenseSolves.l0 n l v (k : Int) (m : Int) (vvs v m i) (k : Int) i) true := by
  intro d
  induction d with
  | zero =>
    intro i hi
    obtain rfl : i = k := by omega
    obtain ⟨h1, h2⟩ := vvs_slots hvb m i
    refine Ev.step (fun n => ?_) (ds_l1 hl hb hk hm h1 h2 l.length 0 (by omega))
    simp only [geyserlaw05_DenseSolves.l0]
    rw [if_neg (by omega)]
    rfl
  | succ d ih =>
    intro i hi
    have hi' : i < k := by omega
    have h2 := (vvs_slots hvb m i).2
    refine Ev.step (fun n => ?_) (ih (i + 1) (by omega))
    rw [← vvs_next]
    simp only [geyserlaw05_DenseSolves.l0]
    by_cases hiv : i < v.length
    · have hl2 : ((v[i]).take (min (v[i]).length m)).length ≤ m := by rw [List.length_take]; omega
      rw [if_pos (by omega), if_pos (by omega), if_pos (by omega), rdL v i hiv, mn_nat, if_pos (by omega), if_pos (by omega), Int.toNat_natCast, fill_pad hl2 (by omega), Option.bind_some, if_pos (by omega), up63 hi' (by omega)]
      unfold vv
      rw [Lin.rw_at hiv]
    · rw [if_pos (by omega), if_neg (by omega), fill_pad (by simp) (by omega), Option.bind_some, if_pos (by omega), up63 hi' (by omega)]
      unfold vv Lin.rw_
      rw [List.getD_eq_getElem?_getD, List.getElem?_eq_none (by omega)]
      rfl
theorem DenseSolves (l v : List (List Int)) (hl : l.length ≤ 9223372036854775807) (hb : ∀ r ∈ l, By r) (hv : v.length ≤ 9223372036854775807) (hvb : ∀ r ∈ v, By r) (a b : Nat) (_ha : a < 256) (_hb2 : b < 256) : ∃ k, geyserlaw05_DenseSolves.f k l v (a : Int) (b : Int) = some true := by
  refine Ev.rounds ?_
  obtain ⟨t1, hF1, hB1⟩ := few_l0 l hl l.length 0 (by omega) (by omega) (fun j h hj => by omega)
  obtain ⟨t2, hF2, hB2⟩ := few_l0 v hv v.length 0 (by omega) (by omega) (fun j h hj => by omega)
  have hF1' : Ev (fun n => geyserlaw05_few.f n l) t1 := hF1
  have hF2' : Ev (fun n => geyserlaw05_few.f n v) t2 := hF2
  have dull : Ev (fun n => geyserlaw05_DenseSolves.j0 n l v (a : Int) (b : Int) true) true := by
    refine Ev.step (f := fun _ => some true) (fun n => ?_) (Ev.now _)
    simp only [geyserlaw05_DenseSolves.j0]
    rw [if_pos trivial, wake]
    rfl
  refine Ev.congr (f := fun n => (geyserlaw05_few.f n l).bind fun t => (if t = true then ((geyserlaw05_few.f n v).bind fun t147 => (geyserlaw05_DenseSolves.j0 n l v (a : Int) (b : Int) (!t147))) else (geyserlaw05_DenseSolves.j0 n l v (a : Int) (b : Int) true))) (fun n => ?_) (Ev.bind hF1' ?_)
  · unfold geyserlaw05_DenseSolves.f
    rw [wake, Option.bind_some, if_pos rfl]
  cases t1 with
  | false => exact Ev.congr (fun n => by rw [if_neg (by decide)]) dull
  | true =>
    refine Ev.congr (fun n => by rw [if_pos rfl]) (Ev.bind hF2' ?_)
    cases t2 with
    | false => exact dull
    | true =>
      obtain ⟨h40, _⟩ := hB1 rfl
      obtain ⟨g40, _⟩ := hB2 rfl
      have e1 : wrap64 (Int.tmod (a : Int) 12) = ((a % 12 : Nat) : Int) := by
        rw [show Int.tmod (a : Int) 12 = ((a % 12 : Nat) : Int) from rfl]
        unfold wrap64; omega
      have e2 : wrap64 (Int.tmod (b : Int) 10) = ((b % 10 : Nat) : Int) := by
        rw [show Int.tmod (b : Int) 10 = ((b % 10 : Nat) : Int) from rfl]
        unfold wrap64; omega
      refine Ev.step (fun n => ?_) (ds_l0 (k := a % 12) (m := b % 10) h40 hb g40 hvb (by omega) (by omega) (a % 12) 0 (by omega))
      simp only [geyserlaw05_DenseSolves.j0]
      rw [if_neg (by decide), e1, e2]
      rfl
end D

end Go.Proofs.YtcmigmldecacpaaDoor.Pure
/- What an argument's data are, kind by kind: slices of slices, of structs, of texts. -/
namespace Gy
open Go Go.RowKit Go.Proofs.YtcmigmldecacpaaDoorW.PrintWords
section
variable {P : Program}

theorem list_of {α : Type} (n : Nat) (Q : Nat → α → Prop) (h : ∀ i, i < n → ∃ a, Q i a) : ∃ xs : List α, xs.length = n ∧ ∀ j p, xs[j]? = some p → Q j p := by
  induction n with
  | zero => exact ⟨[], rfl, fun j p h => by simp at h⟩
  | succ n ih =>
    obtain ⟨xs, hl, hx⟩ := ih (fun i hi => h i (by omega))
    obtain ⟨a, ha⟩ := h n (by omega)
    refine ⟨xs ++ [a], by simp [hl], fun j p hj => ?_⟩
    rcases Nat.lt_or_ge j xs.length with hj' | hj'
    · rw [List.getElem?_append_left hj'] at hj
      exact hx j p hj
    · rw [List.getElem?_append_right hj'] at hj
      have h0 : j - xs.length = 0 := by
        rcases Nat.eq_zero_or_pos (j - xs.length) with h | h
        · exact h
        · rw [List.getElem?_eq_none (by simp; omega)] at hj; exact absurd hj (by simp)
      rw [h0] at hj
      simp at hj
      subst hj
      have : j = n := by omega
      subst this
      exact ha

/-- Whatever can be read as a value of type t is of the kind d, and good. -/
def Opens (P : Program) (t : TypeId) {α : Type} (d : Kd α) (good : α → Prop) : Prop :=
  P.cellsOf t = d.sz ∧ ∀ (H : Type) (enc : TypeId × Value → H) (W : World) (base : Nat) (held : Bool) (fuel : Nat) (cs : List Value) (x : DataW H × List MemPlace),
    DataW.trod enc P W base (fun _ => true) held fuel t cs = some x → ∃ a, d.K W a cs ∧ good a

theorem Opens.int {t : TypeId} {k : IntKind} (ht : P.underlying t = some (.int k)) (hc : P.cellsOf t = 1) : Opens P t (Kd.int k) (fun n => (Lit.int k n).wf = true) := by
  refine ⟨hc, fun H enc W base held fuel cs x h => ?_⟩
  cases fuel with
  | zero => simp [DataW.trod] at h
  | succ n =>
    unfold DataW.trod at h
    rw [ht] at h
    split at h <;> simp_all
    exact ⟨_, rfl, h.1.2⟩
theorem Opens.bool {t : TypeId} (ht : P.underlying t = some .bool) (hc : P.cellsOf t = 1) : Opens P t Kd.bool (fun _ => True) := by
  refine ⟨hc, fun H enc W base held fuel cs x h => ?_⟩
  cases fuel with
  | zero => simp [DataW.trod] at h
  | succ n =>
    unfold DataW.trod at h
    rw [ht] at h
    split at h <;> first | exact ⟨_, rfl, trivial⟩ | simp_all
theorem Opens.string {t : TypeId} (ht : P.underlying t = some .string) (hc : P.cellsOf t = 1) : Opens P t Kd.string (fun s => s.size ≤ maxLen) := by
  refine ⟨hc, fun H enc W base held fuel cs x h => ?_⟩
  cases fuel with
  | zero => simp [DataW.trod] at h
  | succ n =>
    unfold DataW.trod at h
    rw [ht] at h
    split at h <;> simp_all
    exact ⟨_, rfl, h.1⟩
theorem Opens.slice {t e : TypeId} {α : Type} {d : Kd α} {good : α → Prop} (ht : P.underlying t = some (.slice e)) (hc : P.cellsOf t = 1) (he : Opens P e d good) :
    Opens P t (Kd.slice e d) (fun xs => xs.length ≤ 9223372036854775807 ∧ ∀ x ∈ xs, good x) := by
  refine ⟨hc, fun H enc W base held fuel cs x h => ?_⟩
  rcases DataW.trod_slice ht h with ⟨rfl, _⟩ | ⟨a, len, cap, elems, rest, n, _, rfl, _, hb, hl, hm, hlen, hel, _, _⟩
  · exact ⟨[], ⟨none, 0, rfl, Nat.le_refl _, rfl, by simp, fun h => absurd h (by simp)⟩, by simp, fun x hx => by simp at hx⟩
  · unfold maxLen at hm
    obtain ⟨xs, hxl, hx⟩ := list_of len (fun j p => (∃ c, c.length = d.sz ∧ d.K W p c ∧ ∀ i u, c[i]? = some u → W.cell? (a.add (j * d.sz + i)) = some u) ∧ good p) (fun i hi => by
      have h1 := hel i hi
      rw [he.1, List.getElem?_eq_getElem (by omega)] at h1
      obtain ⟨cs', h2, h3⟩ := Option.bind_eq_some_iff.1 h1
      obtain ⟨_, hl2, hc2⟩ := World.cells?_some h2
      obtain ⟨p, hp, hg⟩ := he.2 H enc W base held n cs' _ h3
      refine ⟨p, ⟨cs', hl2, hp, fun j u hj => ?_⟩, hg⟩
      have hjl : j < cs'.length := by
        rcases Nat.lt_or_ge j cs'.length with h | h
        · exact h
        · rw [List.getElem?_eq_none h] at hj; exact absurd hj (by simp)
      have h4 := hc2 j (by omega)
      rw [hj] at h4
      rw [← h4]
      congr 1
      unfold Addr.add
      split <;> split <;> simp_all <;> (try omega) <;> (try (split <;> simp_all <;> omega)))
    refine ⟨xs, ⟨some a, cap, by rw [hxl], by omega, rfl, by omega, fun _ => ⟨a, rfl, fun j p hj => (hx j p hj).1⟩⟩, by omega, fun x hx' => ?_⟩
    obtain ⟨j, hj⟩ := List.mem_iff_getElem?.1 hx'
    exact (hx j x hj).2

/-- Fields from the place off on. -/
def OpensAt (P : Program) (fs : List Field) (off : Nat) {α : Type} (d : Kd α) (good : α → Prop) : Prop :=
  ∀ (H : Type) (enc : TypeId × Value → H) (W : World) (base : Nat) (held : Bool) (n : Nat) (cs : List Value),
    (∀ f ∈ fs, ∃ y, DataW.trod enc P W base (fun _ => true) held n f.type ((cs.drop f.offset).take (P.cellsOf f.type)) = some y) → cs.length = off + d.sz → ∃ a, d.K W a (cs.drop off) ∧ good a
theorem OpensAt.one {f : Field} {off : Nat} {α : Type} {d : Kd α} {good : α → Prop} (ho : f.offset = off) (hf : Opens P f.type d good) : OpensAt P [f] off d good := by
  intro H enc W base held n cs h hl
  obtain ⟨y, hy⟩ := h f (by simp)
  rw [ho, hf.1, List.take_of_length_le (by rw [List.length_drop]; omega)] at hy
  exact hf.2 H enc W base held n _ _ hy
theorem OpensAt.cons {f : Field} {fs : List Field} {off : Nat} {α β : Type} {d : Kd α} {d' : Kd β} {good : α → Prop} {good' : β → Prop} (ho : f.offset = off) (hf : Opens P f.type d good) (hfs : OpensAt P fs (off + d.sz) d' good') :
    OpensAt P (f :: fs) off (Kd.pair d d') (fun x => good x.1 ∧ good' x.2) := by
  intro H enc W base held n cs h hl
  obtain ⟨y, hy⟩ := h f (by simp)
  rw [ho, hf.1] at hy
  obtain ⟨a, ha, hga⟩ := hf.2 H enc W base held n _ _ hy
  have hl' : cs.length = off + (d.sz + d'.sz) := hl
  obtain ⟨b, hb, hgb⟩ := hfs H enc W base held n cs (fun g hg => h g (by simp [hg])) (by omega)
  refine ⟨(a, b), ⟨_, _, ?_, ha, hb⟩, hga, hgb⟩
  rw [← List.drop_drop, List.take_append_drop]
theorem Opens.struct {t : TypeId} {fs : Array Field} {α : Type} {d : Kd α} {good : α → Prop} (ht : P.underlying t = some (.struct fs)) (hc : P.cellsOf t = d.sz) (hfs : OpensAt P fs.toList 0 d good) : Opens P t d good := by
  refine ⟨hc, fun H enc W base held fuel cs x h => ?_⟩
  obtain ⟨xs, n, _, _, hl, hxl, hx⟩ := DataW.trod_struct ht h
  have h2 := hfs H enc W base held n cs (fun f hf => by
    obtain ⟨i, hi, e⟩ := List.mem_iff_getElem.1 hf
    have h3 := hx i f (by rw [← Array.getElem?_toList, List.getElem?_eq_getElem hi, e])
    exact ⟨_, h3.trans (List.getElem?_eq_getElem (by rw [hxl]; simpa using hi))⟩) (by omega)
  rw [List.drop_zero] at h2
  exact h2
theorem Opens.iso {t : TypeId} {α β : Type} {d : Kd α} {good : α → Prop} (h : Opens P t d good) (f : β → α) (g : α → β) (hg : ∀ a, f (g a) = a) : Opens P t (Kd.iso d f) (fun b => good (f b)) := by
  refine ⟨h.1, fun H enc W base held fuel cs x hx => ?_⟩
  obtain ⟨a, ha, hga⟩ := h.2 H enc W base held fuel cs x hx
  exact ⟨g a, by show d.K W (f (g a)) cs; rw [hg]; exact ha, by show good (f (g a)); rw [hg]; exact hga⟩
/-- An argument that is a slice. -/
theorem Opens.arg {t e : TypeId} {α : Type} {d : Kd α} {good : List α → Prop} (h : Opens P t (Kd.slice e d) good) {H : Type} {enc : TypeId × Value → H} {W : World} {base : Nat} {held : Bool} {A : Option Addr} {n c : Nat} {x : DataW H} {ps : List MemPlace}
    (hx : DataW.Trod enc P W base (fun _ => true) held t (.slice A n c) x ps) : ∃ xs : List α, n = xs.length ∧ xs.length ≤ c ∧ d.C W A xs.length xs ∧ good xs := by
  obtain ⟨fuel, hf⟩ := hx
  obtain ⟨xs, ⟨A', c', e1, hl, hC⟩, hg⟩ := h.2 H enc W base held fuel _ _ hf
  have e2 : (.slice A n c : Value) = .slice A' xs.length c' := by simpa [Value.cells] using e1
  injection e2 with e3 e4 e5
  subst e3 e5
  exact ⟨xs, e4, hl, hC, hg⟩
end
end Gy
/- Arguments of bytes. -/
namespace Go.Proofs.YtcmigmldecacpaaDoor.OpenB
open Go Go.RowKit Go.Proofs.YtcmigmldecacpaaDoorW.PrintWords

theorem u8_wf {x : Int} (h : (Lit.int .u8 x).wf = true) : 0 ≤ x ∧ x < 256 := by
  have h1 : IntKind.u8.min ≤ x ∧ x ≤ IntKind.u8.max := by simpa [Lit.wf] using h
  have e1 : IntKind.u8.min = 0 := by decide
  have e2 : IntKind.u8.max = 255 := by decide
  omega
set_option maxRecDepth 100000 in
theorem opens_bytes : Gy.Opens Tryd.prog 22 (Kd.slice 5 (Kd.int .u8)) (fun xs => xs.length ≤ 9223372036854775807 ∧ ∀ x ∈ xs, (Lit.int .u8 x).wf = true) :=
  Gy.Opens.slice Tryd.underlying22 (by kernel_rfl) (Gy.Opens.int Tryd.underlying5 (by kernel_rfl))
end Go.Proofs.YtcmigmldecacpaaDoor.OpenB
/- Arguments of rows of bytes. -/
namespace Go.Proofs.YtcmigmldecacpaaDoor.OpenB
open Go Go.RowKit Go.Proofs.YtcmigmldecacpaaDoorW.PrintWords

set_option maxRecDepth 100000 in
theorem opens_vals : Gy.Opens Tryd.prog 35 (Kd.slice 22 (Kd.slice 5 (Kd.int .u8))) (fun l => l.length ≤ 9223372036854775807 ∧ ∀ p ∈ l, (p.length ≤ 9223372036854775807 ∧ ∀ x ∈ p, (Lit.int .u8 x).wf = true)) :=
  Gy.Opens.slice Tryd.underlying35 (by kernel_rfl) (Gy.Opens.slice Tryd.underlying22 (by kernel_rfl) (Gy.Opens.int Tryd.underlying5 (by kernel_rfl)))
end Go.Proofs.YtcmigmldecacpaaDoor.OpenB
/- DenseSolves: the printed walk, and the plain law. -/
namespace Go.Proofs.YtcmigmldecacpaaDoor.OwnDense
open Go Go.RowKit Go.Proofs.YtcmigmldecacpaaDoorW.PrintWords Go.Proofs.YtcmigmldecacpaaDoorW.PrintMore

abbrev kV := Kd.slice 5 (Kd.int .u8)
abbrev OkV (l : List (List Int)) : Prop := l.length ≤ 9223372036854775807 ∧ ∀ p ∈ l, (p.length ≤ 9223372036854775807 ∧ ∀ x ∈ p, (Lit.int .u8 x).wf = true)
theorem solves (A0 : Option Addr) (c0 : Nat) (l : List (List Int)) (A1 : Option Addr) (c1 : Nat) (v : List (List Int)) (a2 a3 : Int) (W : World) (hC : kV.C W A0 l.length l) (hl : l.length ≤ c0) (hg : l.length ≤ 9223372036854775807 ∧ ∀ p ∈ l, (p.length ≤ 9223372036854775807 ∧ ∀ x ∈ p, (Lit.int .u8 x).wf = true))
    (hC1 : kV.C W A1 v.length v) (hl1 : v.length ≤ c1) (hg1 : v.length ≤ 9223372036854775807 ∧ ∀ p ∈ v, (p.length ≤ 9223372036854775807 ∧ ∀ x ∈ p, (Lit.int .u8 x).wf = true)) (w2 : (Lit.int .u8 a2).wf = true) (w3 : (Lit.int .u8 a3).wf = true) :
    Calls Tryd.prog 5 #[.slice A0 l.length c0, .slice A1 v.length c1, .int .u8 a2, .int .u8 a3] W fun e w' => e = .returned (.bool true) ∧ Below W.heap.size W w' := by
  have h2 := OpenB.u8_wf w2
  have h3 := OpenB.u8_wf w3
  obtain ⟨a, rfl⟩ : ∃ a : Nat, a2 = (a : Int) := ⟨a2.toNat, by omega⟩
  obtain ⟨b, rfl⟩ : ∃ b : Nat, a3 = (b : Int) := ⟨a3.toNat, by omega⟩
  obtain ⟨k, hk⟩ := Pure.D.DenseSolves l v hg.1 (fun r hr x hx => OpenB.u8_wf ((hg.2 r hr).2 x hx)) hg1.1 (fun r hr x hx => OpenB.u8_wf ((hg1.2 r hr).2 x hx)) a b (by omega) (by omega)
  exact QDenseSolves.geyserlaw05_DenseSolves.calls k (fun _ => True) A0 c0 l A1 c1 v a b true W (Kd.V_mk hl (Kd.F_mono (Kd.C_F (Kd.heap_slice _ (Kd.heap_int .u8)) hC) (fun _ _ => trivial))) hC1 hl1 hk
end Go.Proofs.YtcmigmldecacpaaDoor.OwnDense

/- Any equations are ones, or not, as the document says. No condition beyond the kinds of the arguments. -/
import Derived.Test.YtkheloahiepoiaaPPeelRightsx2
import Derived.Test.YtkheloahiepoiaaBt
import Derived.Test.YtkheloahiepoiaaOpen
namespace Go.Proofs.Ytkheloahiepoiaa.Pure
open Go Go.RowKit Go.Proofs.Ytkheloahiepoiaa.PPeelRights Go.Proofs.YtkheloahiepoiaaW.PrintWords Go.Proofs.YtkheloahiepoiaaW.PrintLast

/-- one equation's cells, those before being seen -/
def okE (n : Int) : List Int → List S69 → Bool
  | _, [] => true
  | seen, c :: l => if c.f0 < 0 ∨ c.f0 ≥ n ∨ c.f1 = 0 ∨ c.f0 ∈ seen then false else okE n (seen ++ [c.f0]) l
theorem okE_bad {n : Int} {seen : List Int} {c : S69} {l : List S69} (h : c.f0 < 0 ∨ c.f0 ≥ n ∨ c.f1 = 0 ∨ c.f0 ∈ seen) : okE n seen (c :: l) = false := by
  unfold okE; rw [if_pos h]
theorem okE_go {n : Int} {seen : List Int} {c : S69} {l : List S69} (h : ¬ (c.f0 < 0 ∨ c.f0 ≥ n ∨ c.f1 = 0 ∨ c.f0 ∈ seen)) : okE n seen (c :: l) = okE n (seen ++ [c.f0]) l := by
  conv => lhs; unfold okE
  rw [if_neg h]
theorem if_f (b : Bool) : (if false = true then b else false) = false := rfl
def okAll (n : Int) (eqs : List (List S69)) : Bool := eqs.all (okE n [])
def right (n : Int) (eqs : List (List S69)) : Bool := if n < 0 then false else if n > 256 then false else if (eqs.length : Int) > 1000 then false else okAll n eqs
def Fits (eqs : List (List S69)) : Prop := eqs.length ≤ 9223372036854775807 ∧ ∀ x ∈ eqs, x.length ≤ 9223372036854775807
theorem up1 {i n : Nat} (h : i < n) (hn : n ≤ 9223372036854775807) : wrap64 ((i : Int) + 1) = ((i + 1 : Nat) : Int) := by
  rw [Gy.wrap64_id (by omega) (by omega)]; omega
theorem rdL3 {l : List (List S69)} {i : Nat} (h : i < l.length) : rd_L3 l (i : Int) = l[i] := by
  unfold rd_L3; rw [Int.toNat_natCast, List.getD_eq_getElem?_getD, List.getElem?_eq_getElem h]; rfl
theorem rdT {l : List S69} {i : Nat} (h : i < l.length) : rd_T69 l (i : Int) = l[i] := by
  unfold rd_T69; rw [Int.toNat_natCast, List.getD_eq_getElem?_getD, List.getElem?_eq_getElem h]; rfl
theorem drop_cons' {α : Type} {l : List α} {i : Nat} (h : i < l.length) : l.drop i = l[i] :: l.drop (i + 1) := List.drop_eq_getElem_cons h
/-- the table tells what was seen -/
def Tells (tbl : List Bool) (n : Int) (seen : List Int) : Prop := (tbl.length : Int) = n ∧ ∀ a : Int, 0 ≤ a → a < n → (tbl.getD a.toNat false = true ↔ a ∈ seen)
theorem Tells.step {tbl : List Bool} {n : Int} {seen : List Int} (h : Tells tbl n seen) {b : Int} (h0 : 0 ≤ b) (h1 : b < n) : Tells (tbl.set b.toNat true) n (seen ++ [b]) := by
  refine ⟨by rw [List.length_set]; exact h.1, fun a ha hn => ?_⟩
  have := h.1
  rw [List.getD_eq_getElem?_getD, List.getElem?_set]
  have hm : a ∈ seen ++ [b] ↔ a ∈ seen ∨ a = b := by simp
  rw [hm]
  by_cases e : b.toNat = a.toNat
  · have : a = b := by omega
    subst this
    rw [if_pos rfl, if_pos (by omega)]
    simp
  · rw [if_neg e, ← List.getD_eq_getElem?_getD, h.2 a ha hn]
    constructor
    · exact .inl
    · rintro (h | h)
      · exact h
      · exact absurd (by rw [h]) e
theorem p_l1 {n : Int} {eqs : List (List S69)} {N ei : Int} {eq : List S69} (hl : eq.length ≤ 9223372036854775807) {rest : Bool}
    (hrest : Ev (fun k => peel_Right.l0 k n eqs N (wrap64 (ei + 1))) rest) :
    ∀ (d i : Nat) (tbl : List Bool) (seen : List Int), i + d = eq.length → Tells tbl n seen →
      Ev (fun k => peel_Right.l1 k n tbl eqs N ei eq (eq.length : Int) i) (if okE n seen (eq.drop i) then rest else false) := by
  intro d
  induction d with
  | zero =>
    intro i tbl seen hi ht
    rw [List.drop_eq_nil_of_le (by omega)]
    refine Ev.step (fun k => ?_) hrest
    simp only [peel_Right.l1]
    rw [if_neg (by omega)]
  | succ d ih =>
    intro i tbl seen hi ht
    have hi' : i < eq.length := by omega
    rw [drop_cons' hi']
    generalize hc : eq[i] = c
    by_cases h1 : c.f0 < 0
    · rw [okE_bad (.inl h1), if_f]
      refine Ev.step (fun k => ?_) (Ev.now false)
      simp only [peel_Right.l1]
      rw [if_pos (by omega), if_pos (by omega), if_pos (by omega), rdT hi', hc, if_pos h1]
    by_cases h2 : c.f0 ≥ n
    · rw [okE_bad (.inr (.inl h2)), if_f]
      refine Ev.step (fun k => ?_) (Ev.now false)
      simp only [peel_Right.l1]
      rw [if_pos (by omega), if_pos (by omega), if_pos (by omega), rdT hi', hc, if_neg h1, if_pos h2]
    by_cases h3 : c.f1 = 0
    · rw [okE_bad (.inr (.inr (.inl h3))), if_f]
      refine Ev.step (fun k => ?_) (Ev.now false)
      simp only [peel_Right.l1]
      rw [if_pos (by omega), if_pos (by omega), if_pos (by omega), rdT hi', hc, if_neg h1, if_neg h2, if_pos h3]
    have htl := ht.1
    have hr : rdOf false tbl c.f0 = tbl.getD c.f0.toNat false := rfl
    by_cases h4 : c.f0 ∈ seen
    · rw [okE_bad (.inr (.inr (.inr h4))), if_f]
      refine Ev.step (fun k => ?_) (Ev.now false)
      simp only [peel_Right.l1]
      rw [if_pos (by omega), if_pos (by omega), if_pos (by omega), rdT hi', hc, if_neg h1, if_neg h2, if_neg h3, if_pos (by omega), if_pos (by omega), hr, if_pos ((ht.2 c.f0 (by omega) (by omega)).2 h4)]
    · rw [okE_go (by rintro (h | h | h | h) <;> contradiction)]
      refine Ev.step (fun k => ?_) (ih (i + 1) _ _ (by omega) (ht.step (by omega) (by omega)))
      simp only [peel_Right.l1]
      rw [if_pos (by omega), if_pos (by omega), if_pos (by omega), rdT hi', hc, if_neg h1, if_neg h2, if_neg h3, if_pos (by omega), if_pos (by omega), hr,
        if_neg (fun h => h4 ((ht.2 c.f0 (by omega) (by omega)).1 h)), up1 hi' hl]
theorem p_l0 {n : Int} (hn0 : 0 ≤ n) (hn1 : n ≤ 256) {eqs : List (List S69)} (hf : Fits eqs) :
    ∀ (d i : Nat), i + d = eqs.length → Ev (fun k => peel_Right.l0 k n eqs (eqs.length : Int) i) (okAll n (eqs.drop i)) := by
  intro d
  induction d with
  | zero =>
    intro i hi
    rw [List.drop_eq_nil_of_le (by omega)]
    refine Ev.step (fun k => ?_) (Ev.now true)
    simp only [peel_Right.l0]
    rw [if_neg (by omega)]
  | succ d ih =>
    intro i hi
    have hi' : i < eqs.length := by omega
    have hl := hf.2 eqs[i] (List.getElem_mem hi')
    have h0 := ih (i + 1) (by omega)
    rw [← up1 hi' hf.1] at h0
    have ht : Tells (List.replicate n.toNat false) n [] := ⟨by rw [List.length_replicate]; omega, fun a ha hb => by
      rw [List.getD_eq_getElem?_getD, List.getElem?_replicate]; simp; split <;> rfl⟩
    have h1 := p_l1 (N := (eqs.length : Int)) hl h0 eqs[i].length 0 _ [] (by omega) ht
    rw [List.drop_zero] at h1
    have e : okAll n (eqs.drop i) = if okE n [] eqs[i] then okAll n (eqs.drop (i + 1)) else false := by
      rw [drop_cons' hi']; unfold okAll; rw [List.all_cons]; cases okE n [] eqs[i] <;> rfl
    rw [e]
    refine Ev.step (fun k => ?_) h1
    simp only [peel_Right.l0]
    rw [if_pos (by omega), if_pos (by omega), if_pos (by omega), if_pos hn0, if_pos (by omega), rdL3 hi']
    rfl
theorem p_right {eqs : List (List S69)} (hf : Fits eqs) (n : Int) : Ev (fun k => peel_Right.f k eqs n) (right n eqs) := by
  unfold right
  by_cases h0 : n < 0
  · rw [if_pos h0]
    refine Ev.step (f := fun _ => some false) (fun k => ?_) (Ev.now false)
    simp only [peel_Right.f, peel_Right.j0]
    rw [if_pos h0]; rfl
  by_cases h1 : n > 256
  · rw [if_neg h0, if_pos h1]
    refine Ev.step (f := fun _ => some false) (fun k => ?_) (Ev.now false)
    simp only [peel_Right.f, peel_Right.j0]
    rw [if_neg h0, if_pos h1]; rfl
  rw [if_neg h0, if_neg h1]
  by_cases h2 : (eqs.length : Int) > 1000
  · rw [if_pos h2]
    refine Ev.step (f := fun _ => some false) (fun k => ?_) (Ev.now false)
    simp only [peel_Right.f, peel_Right.j0]
    rw [if_neg h0, if_neg h1, if_pos (by simpa using h2)]
  · rw [if_neg h2]
    refine Ev.step (fun k => ?_) (p_l0 (by omega) (by omega) hf eqs.length 0 (by omega))
    simp only [peel_Right.f, peel_Right.j0]
    rw [if_neg h0, if_neg h1, if_neg (by simpa using h2)]
    rfl
/-- what stands ahead of a place -/
def pre (eq : List S69) (i : Nat) : List Int := (eq.take i).map (·.f0)
theorem pre_succ {eq : List S69} {i : Nat} (h : i < eq.length) : pre eq (i + 1) = pre eq i ++ [eq[i].f0] := by
  unfold pre; rw [List.take_succ_eq_append_getElem h, List.map_append]; rfl
theorem r_l2 {n : Int} {eqs : List (List S69)} {N ej : Int} {j i : Nat} (hj : j < eqs.length) {eq : List S69} (he : eqs[j] = eq) (hi : i < eq.length) (hl : eq.length ≤ 9223372036854775807) {c0 c1 : Int} (hc0 : c0 = eq[i].f0) {rest : Bool}
    (hrest : Ev (fun k => geyserref03_Right.l1 k eqs n j N ej (eq.length : Int) ((i + 1 : Nat) : Int)) rest) :
    ∀ (d m : Nat), m + d = i → (c0 ∉ pre eq m) →
      Ev (fun k => geyserref03_Right.l2 k eqs n j N ej (eq.length : Int) i i m c0 c1) (if c0 ∈ pre eq i then false else rest) := by
  intro d
  induction d with
  | zero =>
    intro m hm hs
    obtain rfl : m = i := by omega
    rw [if_neg hs]
    refine Ev.step (fun k => ?_) hrest
    simp only [geyserref03_Right.l2]
    rw [if_neg (by omega), up1 hi hl]
  | succ d ih =>
    intro m hm hs
    have hm' : m < eq.length := by omega
    by_cases h : eq[m].f0 = c0
    · have hin : c0 ∈ pre eq i := by
        have h1 : c0 ∈ pre eq (m + 1) := by rw [pre_succ hm', h]; simp
        unfold pre at h1 ⊢
        obtain ⟨x, hx, e⟩ := List.mem_map.1 h1
        exact List.mem_map.2 ⟨x, (List.take_subset_take_left eq (by omega)) hx, e⟩
      rw [if_pos hin]
      refine Ev.step (fun k => ?_) (Ev.now false)
      simp only [geyserref03_Right.l2]
      rw [rdL3 hj, he, if_pos (by omega), if_pos (by omega), if_pos (by omega), if_pos (by omega), if_pos (by omega), rdT hm', if_pos h]
    · refine Ev.step (fun k => ?_) (ih (m + 1) (by omega) (by rw [pre_succ hm']; simp; exact ⟨hs, fun e => h e.symm⟩))
      simp only [geyserref03_Right.l2]
      rw [rdL3 hj, he, if_pos (by omega), if_pos (by omega), if_pos (by omega), if_pos (by omega), if_pos (by omega), rdT hm', if_neg h, up1 hm' hl]
theorem r_l1 {n : Int} {eqs : List (List S69)} {N ej : Int} {j : Nat} (hj : j < eqs.length) {eq : List S69} (he : eqs[j] = eq) (hl : eq.length ≤ 9223372036854775807) (hej : ej = j) {rest : Bool}
    (hrest : Ev (fun k => geyserref03_Right.l0 k eqs n N (wrap64 (ej + 1))) rest) :
    ∀ (d i : Nat), i + d = eq.length → Ev (fun k => geyserref03_Right.l1 k eqs n j N ej (eq.length : Int) i) (if okE n (pre eq i) (eq.drop i) then rest else false) := by
  intro d
  induction d with
  | zero =>
    intro i hi
    rw [List.drop_eq_nil_of_le (by omega)]
    refine Ev.step (fun k => ?_) hrest
    simp only [geyserref03_Right.l1]
    rw [if_neg (by omega)]
  | succ d ih =>
    intro i hi
    have hi' : i < eq.length := by omega
    rw [drop_cons' hi']
    generalize hc : eq[i] = c
    by_cases h1 : c.f0 < 0
    · rw [okE_bad (.inl h1), if_f]
      refine Ev.step (f := fun k => geyserref03_Right.j3 k eqs n j i N ej (eq.length : Int) i true c.f0 c.f1) (fun k => ?_) (Ev.step (fun k => ?_) (Ev.now false))
      · simp only [geyserref03_Right.l1]
        rw [rdL3 hj, he, if_pos (by omega), if_pos (by omega), if_pos (by omega), if_pos (by omega), if_pos (by omega), rdT hi', hc, if_pos h1]
      · simp only [geyserref03_Right.j3]; rfl
    by_cases h2 : c.f0 ≥ n
    · rw [okE_bad (.inr (.inl h2)), if_f]
      refine Ev.step (f := fun k => geyserref03_Right.j3 k eqs n j i N ej (eq.length : Int) i true c.f0 c.f1) (fun k => ?_) (Ev.step (fun k => ?_) (Ev.now false))
      · simp only [geyserref03_Right.l1]
        rw [rdL3 hj, he, if_pos (by omega), if_pos (by omega), if_pos (by omega), if_pos (by omega), if_pos (by omega), rdT hi', hc, if_neg h1, if_pos h2]
      · simp only [geyserref03_Right.j3]; rfl
    have hstep : ∀ r, Ev (fun k => geyserref03_Right.j3 k eqs n j i N ej (eq.length : Int) i (c.f1 == 0) c.f0 c.f1) r → Ev (fun k => geyserref03_Right.l1 k eqs n j N ej (eq.length : Int) i) r := by
      intro r hr
      refine Ev.step (fun k => ?_) hr
      simp only [geyserref03_Right.l1]
      rw [rdL3 hj, he, if_pos (by omega), if_pos (by omega), if_pos (by omega), if_pos (by omega), if_pos (by omega), rdT hi', hc, if_neg h1, if_neg h2]
    by_cases h3 : c.f1 = 0
    · rw [okE_bad (.inr (.inr (.inl h3))), if_f]
      refine hstep _ (Ev.step (fun k => ?_) (Ev.now false))
      simp only [geyserref03_Right.j3]; rw [if_pos (by simpa using h3)]
    · have h2' := r_l2 (c1 := c.f1) hj he hi' hl (c0 := c.f0) (by rw [hc]) (ih (i + 1) (by omega)) i 0 (by omega) (by simp [pre])
      have hp := pre_succ hi'
      rw [hc] at hp
      have e : (if okE n (pre eq i) (c :: eq.drop (i + 1)) = true then rest else false) = (if c.f0 ∈ pre eq i then false else (if okE n (pre eq (i + 1)) (eq.drop (i + 1)) = true then rest else false)) := by
        by_cases h4 : c.f0 ∈ pre eq i
        · rw [okE_bad (.inr (.inr (.inr h4))), if_f, if_pos h4]
        · rw [okE_go (by rintro (h | h | h | h) <;> contradiction), if_neg h4, hp]
      rw [e]
      refine hstep _ (Ev.step (f := fun k => geyserref03_Right.l2 k eqs n j N ej (eq.length : Int) i i 0 c.f0 c.f1) (fun k => ?_) ?_)
      · simp only [geyserref03_Right.j3]; rw [if_neg (by simpa using h3)]
      · exact h2'
theorem r_l0 {n : Int} {eqs : List (List S69)} (hf : Fits eqs) :
    ∀ (d i : Nat), i + d = eqs.length → Ev (fun k => geyserref03_Right.l0 k eqs n (eqs.length : Int) i) (okAll n (eqs.drop i)) := by
  intro d
  induction d with
  | zero =>
    intro i hi
    rw [List.drop_eq_nil_of_le (by omega)]
    refine Ev.step (fun k => ?_) (Ev.now true)
    simp only [geyserref03_Right.l0]
    rw [if_neg (by omega)]
  | succ d ih =>
    intro i hi
    have hi' : i < eqs.length := by omega
    have hl := hf.2 eqs[i] (List.getElem_mem hi')
    have h0 := ih (i + 1) (by omega)
    rw [← up1 hi' hf.1] at h0
    have h1 := r_l1 (N := (eqs.length : Int)) (ej := (i : Int)) hi' rfl hl rfl h0 eqs[i].length 0 (by omega)
    rw [List.drop_zero] at h1
    have e : okAll n (eqs.drop i) = if okE n [] eqs[i] then okAll n (eqs.drop (i + 1)) else false := by
      rw [drop_cons' hi']; unfold okAll; rw [List.all_cons]; cases okE n [] eqs[i] <;> rfl
    rw [e]
    refine Ev.step (fun k => ?_) h1
    simp only [geyserref03_Right.l0]
    rw [if_pos (by omega), if_pos (by omega), if_pos (by omega), rdL3 hi']
    rfl
theorem r_right {eqs : List (List S69)} (hf : Fits eqs) (n : Int) : Ev (fun k => geyserref03_Right.f k eqs n) (right n eqs) := by
  unfold right
  by_cases h0 : n < 0
  · rw [if_pos h0]
    refine Ev.step (f := fun _ => some false) (fun k => ?_) (Ev.now false)
    simp only [geyserref03_Right.f, geyserref03_Right.j0]
    rw [if_pos h0]; rfl
  by_cases h1 : n > 256
  · rw [if_neg h0, if_pos h1]
    refine Ev.step (f := fun _ => some false) (fun k => ?_) (Ev.now false)
    simp only [geyserref03_Right.f, geyserref03_Right.j0]
    rw [if_neg h0, if_pos h1]; rfl
  rw [if_neg h0, if_neg h1]
  by_cases h2 : (eqs.length : Int) > 1000
  · rw [if_pos h2]
    refine Ev.step (f := fun _ => some false) (fun k => ?_) (Ev.now false)
    simp only [geyserref03_Right.f, geyserref03_Right.j0]
    rw [if_neg h0, if_neg h1, if_pos (by simpa using h2)]
  · rw [if_neg h2]
    refine Ev.step (fun k => ?_) (r_l0 hf eqs.length 0 (by omega))
    simp only [geyserref03_Right.f, geyserref03_Right.j0]
    rw [if_neg h0, if_neg h1, if_neg (by simpa using h2)]
    rfl
theorem few_l0 {eqs : List (List S69)} (hl : eqs.length ≤ 9223372036854775807) :
    ∀ (d i : Nat), i + d = eqs.length → ∃ b, Ev (fun k => geyserlaw10_Few.l0 k eqs (eqs.length : Int) i) b := by
  intro d
  induction d with
  | zero =>
    intro i hi
    refine ⟨true, Ev.step (fun k => ?_) (Ev.now true)⟩
    simp only [geyserlaw10_Few.l0]
    rw [if_neg (by omega)]
  | succ d ih =>
    intro i hi
    have hi' : i < eqs.length := by omega
    by_cases h1 : (i : Int) ≥ 80
    · refine ⟨false, Ev.step (fun k => ?_) (Ev.now false)⟩
      simp only [geyserlaw10_Few.l0]
      rw [if_pos (by omega), if_pos h1]
    by_cases h2 : (eqs[i].length : Int) > 80
    · refine ⟨false, Ev.step (fun k => ?_) (Ev.now false)⟩
      simp only [geyserlaw10_Few.l0]
      rw [if_pos (by omega), if_neg h1, if_pos (by omega), if_pos (by omega), rdL3 hi', if_pos h2]
    · obtain ⟨b, hb⟩ := ih (i + 1) (by omega)
      refine ⟨b, Ev.step (fun k => ?_) hb⟩
      simp only [geyserlaw10_Few.l0]
      rw [if_pos (by omega), if_neg h1, if_pos (by omega), if_pos (by omega), rdL3 hi', if_neg h2, up1 hi' hl]
theorem fits_nil : Fits [] := ⟨by simp, fun x h => by simp at h⟩
theorem awake_ev : Ev (fun k => geyserlaw10_awake.f k) true := by
  unfold geyserlaw10_awake.f
  refine Ev.bind (p_right fits_nil 0) ?_
  have e1 : right 0 [] = true := by decide
  rw [e1]
  refine Ev.bind (p_right fits_nil (-1)) ?_
  have e2 : right (-1) [] = false := by decide
  rw [e2]
  exact Ev.now true
theorem PeelRights (l : List (List S69)) (n : Int) (hf : Fits l) : ∃ k, geyserlaw10_PeelRights.f k l n = some true := by
  refine Ev.rounds ?_
  unfold geyserlaw10_PeelRights.f
  refine Ev.bind awake_ev ?_
  show Ev (fun k => (geyserlaw10_Few.f k l).bind fun t => geyserlaw10_PeelRights.j0 k l n (!t)) true
  obtain ⟨b, hb⟩ := few_l0 hf.1 l.length 0 (by omega)
  refine Ev.bind (a := b) hb ?_
  cases b with
  | false =>
    refine Ev.step (f := fun k => (geyserlaw10_awake.f k).bind fun t => some t) (fun k => ?_) (Ev.bind awake_ev (Ev.now true))
    simp only [geyserlaw10_PeelRights.j0]
    rfl
  | true =>
    refine Ev.step (f := fun k => (peel_Right.f k l n).bind fun t121 => (geyserref03_Right.f k l n).bind fun t122 => some (t121 == t122)) (fun k => ?_) ?_
    · simp only [geyserlaw10_PeelRights.j0]
      rfl
    · refine Ev.bind (p_right hf n) (Ev.bind (r_right hf n) ?_)
      have e : (right n l == right n l) = true := by simp
      rw [e]
      exact Ev.now true
/-- What a list of equations is that came in. -/
theorem opens_eqs : Gy.Opens Try.prog 38 (Kd.slice 66 (Kd.slice 69 k69)) (fun xs => xs.length ≤ 9223372036854775807 ∧ ∀ x ∈ xs, x.length ≤ 9223372036854775807 ∧ ∀ c ∈ x, (Lit.int .i64 c.f0).wf = true ∧ (Lit.int .u8 c.f1).wf = true) :=
  Gy.Opens.slice Try.underlying38 (by kernel_rfl) (Gy.Opens.slice Try.underlying66 (by kernel_rfl)
    (Gy.Opens.iso (Gy.Opens.struct Try.underlying69 (by kernel_rfl) (Gy.OpensAt.cons rfl (Gy.Opens.int Try.underlying3 (by kernel_rfl)) (Gy.OpensAt.one rfl (Gy.Opens.int Try.underlying5 (by kernel_rfl))))) (fun x : S69 => (x.f0, x.f1)) (fun a => ⟨a.1, a.2⟩) (fun _ => rfl)))
theorem walk (A0 : Option Addr) (c0 : Nat) (l0 : List (List S69)) (a1 : Int) (w : World) (hr : Kd.C (Kd.slice 69 k69) w A0 l0.length l0) (hc : l0.length ≤ c0)
    (hg : l0.length ≤ 9223372036854775807 ∧ ∀ x ∈ l0, x.length ≤ 9223372036854775807 ∧ ∀ c ∈ x, (Lit.int .i64 c.f0).wf = true ∧ (Lit.int .u8 c.f1).wf = true) (_ : (Lit.int .i64 a1).wf = true) :
    Calls Try.prog 8 #[.slice A0 l0.length c0, .int .i64 a1] w fun e w' => e = .returned (.bool true) ∧ Below w.heap.size w w' := by
  obtain ⟨k, hk⟩ := PeelRights l0 a1 ⟨hg.1, fun x hx => (hg.2 x hx).1⟩
  exact geyserlaw10_PeelRights.calls k A0 c0 l0 a1 true w hr hc hk

end Go.Proofs.Ytkheloahiepoiaa.Pure

/- Package args: what a line says. -/
import Derived.Test.YtfdfijohcapgaaaDoorArgsC
import Derived.Shelf.Slices.Turned
namespace Go.Proofs.YtfdfijohcapgaaaDoor.Path
open Go Go.RowKit Go.Shelf Go.Proofs.YtfdfijohcapgaaaDoor.QPart Go.Proofs.YtfdfijohcapgaaaDoorW.PrintWords Go.Proofs.YtfdfijohcapgaaaDoorW.PrintLast Go.Proofs.YtfdfijohcapgaaaDoorW.PrintMore

theorem row_first (w : World) (l : List ByteArray) (T : TypeId) : Row w.heap.size 0 l (w.alloc (.cells (l.map Value.string).toArray T)) := by
  refine ⟨fun j hj => ?_, by simp⟩
  simp [List.getD, hj]
theorem splitbl_calls (s : ByteArray) (hs : s.size ≤ 1000000000) (n : Nat) (hn : (Args.wd s).length = n) (w : World) (G : Good w) :
    Calls Tryd.prog 13 #[.string s, .string ⟨#[32]⟩] w fun e w' => ∃ B, e = .returned (.slice (some ⟨B, 0, none⟩) n n) ∧ w.heap.size ≤ B ∧ Row B 0 (Args.wd s) w' ∧ Below w.heap.size w w' := by
  obtain ⟨m, hm⟩ := G.ml
  refine (Any.strings_Split { Tryd.splitLay with } Tryd.splitLay.i9 s Args.bl m w (by omega) hm (by decide)).mono ?_
  rintro e w' ⟨rfl, rfl⟩
  refine ⟨w.heap.size, ?_, Nat.le_refl _, row_first w _ _, (Below.refl _ _).alloc (Nat.le_refl _) _⟩
  rw [← hn, Args.wd_len]
theorem contains_calls (l : List ByteArray) (x : ByteArray) (n : Nat) (hn : l.length = n) (hn2 : n ≤ 1000000000) (B o c : Nat) (w : World) (R : Row B o l w) :
    Calls Tryd.prog 14 #[.slice (some ⟨B, o, none⟩) n c, .string x] w fun e w' => e = .returned (.bool (Lib.containsS l x)) ∧ w' = w := by
  have h := Any.slices_Contains_string Tryd.containsLay B o n c l x w (by omega) (by omega) R.cells
  have e : l.take n = l := by rw [← hn, List.take_length]
  rw [e] at h
  exact h
theorem create_n {a : Args.Ar} {k : Int} (l : List ByteArray) (N : Nat) (hN : l.length = N) (hX : Args.pcr right l = (a, k)) (hl : N ≤ 1000000) (hsz : ∀ x ∈ l, x.size ≤ 1000000) (B o c : Nat) (hc : N ≤ c) (w : World) (G : Good w) (R : Row B o l w) :
    Calls Tryd.prog 15 #[.slice (some ⟨B, o, none⟩) N c] w fun e w' => ∃ sl, e = .returned (.tuple #[.agg #[.string a.verb, .int .i64 a.slice, .int .i64 a.count, .int .u32 a.frm, sl], .int .i64 k]) ∧ Strs B w' sl a.names ∧ Below w.heap.size w w' := by
  subst hN
  have h := create_calls l hl hsz B o c hc w G R
  rw [hX] at h
  exact h
theorem pex_names {l : List ByteArray} {a : Args.Ar} {k : Int} (h : Args.pex l = (a, k)) : a.names = [] := by
  have e : (Args.pex l).1.names = [] := by
    match l with
    | [x, y] =>
      simp only [Args.pex]
      split
      · rfl
      · split
        · rfl
        · rfl
    | [] => rfl
    | [_] => rfl
    | _ :: _ :: _ :: _ => rfl
  rw [h] at e
  exact e
theorem extend_n {a : Args.Ar} {k : Int} (l : List ByteArray) (N : Nat) (hN : l.length = N) (hX : Args.pex l = (a, k)) (hl : N ≤ 1000000) (hsz : ∀ x ∈ l, x.size ≤ 1000000) (B o c : Nat) (hc : N ≤ c) (w : World) (G : Good w) (R : Row B o l w) :
    Calls Tryd.prog 16 #[.slice (some ⟨B, o, none⟩) N c] w fun e w' => e = .returned (.tuple #[.agg #[.string a.verb, .int .i64 a.slice, .int .i64 a.count, .int .u32 a.frm, .slice none 0 0], .int .i64 k]) ∧ Below w.heap.size w w' := by
  subst hN
  have h := extend_calls l hl hsz B o c hc w G R
  rw [hX] at h
  exact h
theorem Row.none {B o o' : Nat} {l r : List ByteArray} {w : World} (h : Row B o l w) (hr : r.length = 0) : Row B o' r w := ⟨fun j hj => by omega, h.lt⟩
theorem ne_first {w : World} {ob : Obj} {B : Nat} (h : (w.alloc ob).heap.size ≤ B) : B ≠ w.heap.size := by
  rw [Gy.size_alloc'] at h
  omega
theorem parse_post {B : Nat} {X : Args.Ar × Int} {a : Args.Ar} {k : Int} {w w' : World} {sl : Value} (E : X = (a, k)) (hs : Strs B w' sl a.names) (hb : Below w.heap.size w w') :
    ∃ B' sl', Ending.returned (.tuple #[argV a sl, .int .i64 k]) = Ending.returned (.tuple #[argV X.1 sl', .int .i64 X.2]) ∧ Strs B' w' sl' X.1.names ∧ Below w.heap.size w w' := by
  subst E; exact ⟨B, sl, rfl, hs, hb⟩
theorem wd_small (s : ByteArray) : ∀ x ∈ Args.wd s, x.size ≤ s.size := fun x hx => splitB_small _ _ s x hx
set_option maxHeartbeats 8000000 in
set_option maxRecDepth 100000 in
theorem parse_calls (s : ByteArray) (hs : s.size ≤ 100000) (w : World) (G : Good w) :
    Calls Tryd.prog 9 #[.string s] w fun e w' => ∃ B sl, e = .returned (.tuple #[argV (Args.prs right s).1 sl, .int .i64 (Args.prs right s).2]) ∧ Strs B w' sl (Args.prs right s).1.names ∧ Below w.heap.size w w' := by
  have G' := Lib.hid G
  clear G
  have B0 : ∀ ob, Below w.heap.size w (w.alloc ob) := fun ob => (Below.refl _ _).alloc (Nat.le_refl _) _
  obtain ⟨v, r, hvr⟩ : ∃ v r, Args.wd s = v :: r := by
    have h := Args.wd_len s
    cases hw : Args.wd s with
    | nil => rw [hw] at h; simp at h
    | cons v r => exact ⟨v, r, rfl⟩
  have HV := Lib.hid hvr
  have hM : Hid ((Args.wd s).length = r.length + 1) := Lib.hid (by rw [hvr]; simp)
  have hcount : r.length ≤ s.size := by
    have h1 := Args.wd_len s
    have h2 := Lib.countB_le Args.bl (by decide) s.size s (Nat.le_refl _)
    rw [hM.out] at h1; omega
  have HS : Hid (∀ x ∈ r, x.size ≤ 1000000) := Lib.hid fun x hx => by
    have := wd_small s x (by rw [hvr]; simp [hx])
    omega
  obtain ⟨M, hMr⟩ : ∃ M, r.length = M := ⟨_, rfl⟩
  have HM := Lib.hid hMr
  rw [hMr] at hM hcount
  clear hvr hMr
  by_cases h1 : s.size > 1000
  · have g1 : (s.size : Int) > 1000 := by omega
    have E : Hid (Args.prs right s = (Args.none, 3)) := Lib.hid (by unfold Args.prs; rw [if_pos h1])
    go_enter Tryd.func9, Tryd.ntmps9
    go_wp2_with (go_at_call 13; refine (splitbl_calls s (by omega) (M + 1) hM.out _ (G'.out.below (B0 _))).mono ?_; rintro e w1 ⟨B, rfl, hBB, hr, hd⟩; have hBN := Lib.hid (ne_first hBB); clear hBB; have hA := Lib.hid ((arr_fresh w _).below hd); have hb := Lib.hid ((B0 _).trans (hd.mono (B0 _).size)); obtain ⟨k0, k1, k2, k3, k4, kf⟩ := arr5 hA.out; have HR := Lib.hid hr; clear hd hr)
    exact bodyPost_ret (fin_ar rfl rfl rfl (arr5_set hA.out _ _ _ _ _)) rfl (parse_post E.out (strs_nil 0 _) (below5 (Nat.le_refl _) hb.out _ _ _ _ _))
  · have g1 : ¬ (s.size : Int) > 1000 := by omega
    cases hcb : Lib.containsS (Args.wd s) ⟨#[]⟩ with
    | true =>
      have HC := Lib.hid hcb
      have E : Hid (Args.prs right s = (Args.none, 2)) := Lib.hid (by unfold Args.prs; rw [if_neg h1, if_pos hcb])
      clear hcb
      go_enter Tryd.func9, Tryd.ntmps9
      go_wp2_with (first
        | (go_at_call 13; refine (splitbl_calls s (by omega) (M + 1) hM.out _ (G'.out.below (B0 _))).mono ?_; rintro e w1 ⟨B, rfl, hBB, hr, hd⟩; have hBN := Lib.hid (ne_first hBB); clear hBB; have hA := Lib.hid ((arr_fresh w _).below hd); have hb := Lib.hid ((B0 _).trans (hd.mono (B0 _).size)); obtain ⟨k0, k1, k2, k3, k4, kf⟩ := arr5 hA.out; have HR := Lib.hid hr; clear hd hr)
        | (go_at_call 14; refine (contains_calls _ _ _ hM.out (by omega) _ _ _ _ HR.out).mono ?_; rw [HC.out]; rintro e w2 ⟨rfl, rfl⟩))
      exact bodyPost_ret (fin_ar rfl rfl rfl (arr5_set hA.out _ _ _ _ _)) rfl (parse_post E.out (strs_nil 0 _) (below5 (Nat.le_refl _) hb.out _ _ _ _ _))
    | false =>
      have HC := Lib.hid hcb
      have EP : Hid (Args.prs right s = Args.prw right (v :: r)) := Lib.hid (by unfold Args.prs; rw [if_neg h1, if_neg (by rw [hcb]; simp), HV.out])
      clear hcb
      have eqb : ∀ (c : ByteArray), (v.toList == c.toList) = decide (v = c) := fun c => beq_bytes v c
      by_cases hcv : v = Args.crB
      · have t1 : (v.toList == ([99, 114, 101, 97, 116, 101] : List UInt8)) = true := by rw [hcv, Lib.toList_data]; rfl
        obtain ⟨⟨a, k⟩, hX⟩ : ∃ X : Args.Ar × Int, Args.pcr right r = X := ⟨_, rfl⟩
        have HX := Lib.hid hX
        have E : Hid (Args.prs right s = (a, k)) := Lib.hid (by rw [EP.out]; simp only [Args.prw]; rw [if_pos hcv, hX])
        clear hX hcv eqb
        rcases Nat.eq_zero_or_pos M with hM0 | hM0
        · subst hM0
          go_enter Tryd.func9, Tryd.ntmps9
          go_wp2_with (first
            | (go_at_call 13; refine (splitbl_calls s (by omega) (0 + 1) hM.out _ (G'.out.below (B0 _))).mono ?_; rintro e w1 ⟨B, rfl, hBB, hr, hd⟩; have hBN := Lib.hid (ne_first hBB); clear hBB; have hA := Lib.hid ((arr_fresh w _).below hd); have hb := Lib.hid ((B0 _).trans (hd.mono (B0 _).size)); obtain ⟨k0, k1, k2, k3, k4, kf⟩ := arr5 hA.out; rw [HV.out] at hr; have HR := Lib.hid hr; have hv0 := hr.head; clear hd hr)
            | (go_at_call 14; refine (contains_calls _ _ _ hM.out (by omega) _ _ _ _ (by rw [HV.out]; exact HR.out)).mono ?_; rw [HC.out]; rintro e w2 ⟨rfl, rfl⟩)
            | (go_at_call 15; refine (create_n r 0 HM.out HX.out (by omega) HS.out _ _ _ (by omega) _ (G'.out.below hb.out) (HR.out.none HM.out)).mono ?_; rintro e w3 ⟨sl, rfl, hs3, hd⟩; have hA := Lib.hid (hA.out.below hd); have hb := Lib.hid (hb.out.trans (hd.mono hb.out.size)); obtain ⟨k0, k1, k2, k3, k4, kf⟩ := arr5 hA.out; have HS3 := Lib.hid hs3; obtain ⟨sa, sc, rfl, -⟩ := hs3; clear hd))
          exact bodyPost_ret (fin_ar (a := a) rfl rfl rfl (arr5_set hA.out _ _ _ _ _)) rfl (parse_post E.out (HS3.out.far5 hBN.out _ _ _ _ _) (below5 (Nat.le_refl _) hb.out _ _ _ _ _))
        · have hM1 : ¬ M = 0 := by omega
          go_enter Tryd.func9, Tryd.ntmps9
          go_wp2_with (first
            | (go_at_call 13; refine (splitbl_calls s (by omega) (M + 1) hM.out _ (G'.out.below (B0 _))).mono ?_; rintro e w1 ⟨B, rfl, hBB, hr, hd⟩; have hBN := Lib.hid (ne_first hBB); clear hBB; have hA := Lib.hid ((arr_fresh w _).below hd); have hb := Lib.hid ((B0 _).trans (hd.mono (B0 _).size)); obtain ⟨k0, k1, k2, k3, k4, kf⟩ := arr5 hA.out; rw [HV.out] at hr; have HR := Lib.hid hr; have hv0 := hr.head; clear hd hr)
            | (go_at_call 14; refine (contains_calls _ _ _ hM.out (by omega) _ _ _ _ (by rw [HV.out]; exact HR.out)).mono ?_; rw [HC.out]; rintro e w2 ⟨rfl, rfl⟩)
            | (go_at_call 15; refine (create_n r M HM.out HX.out (by omega) HS.out _ _ _ (by omega) _ (G'.out.below hb.out) (HR.out.tail)).mono ?_; rintro e w3 ⟨sl, rfl, hs3, hd⟩; have hA := Lib.hid (hA.out.below hd); have hb := Lib.hid (hb.out.trans (hd.mono hb.out.size)); obtain ⟨k0, k1, k2, k3, k4, kf⟩ := arr5 hA.out; have HS3 := Lib.hid hs3; obtain ⟨sa, sc, rfl, -⟩ := hs3; clear hd))
          exact bodyPost_ret (fin_ar (a := a) rfl rfl rfl (arr5_set hA.out _ _ _ _ _)) rfl (parse_post E.out (HS3.out.far5 hBN.out _ _ _ _ _) (below5 (Nat.le_refl _) hb.out _ _ _ _ _))
      · have n1 := hcv
        clear hcv
        by_cases hcv : v = Args.exB
        · have t1 : (v.toList == ([99, 114, 101, 97, 116, 101] : List UInt8)) = false := by rw [hcv, Lib.toList_data]; rfl
          have t2 : (v.toList == ([101, 120, 116, 101, 110, 100] : List UInt8)) = true := by rw [hcv, Lib.toList_data]; rfl
          obtain ⟨⟨a, k⟩, hX⟩ : ∃ X : Args.Ar × Int, Args.pex r = X := ⟨_, rfl⟩
          have HX := Lib.hid hX
          have HNm : Hid (a.names = []) := Lib.hid (pex_names hX)
          have E : Hid (Args.prs right s = (a, k)) := Lib.hid (by rw [EP.out]; simp only [Args.prw]; rw [if_neg n1, if_pos hcv, hX])
          clear hX hcv n1 eqb
          rcases Nat.eq_zero_or_pos M with hM0 | hM0
          · subst hM0
            go_enter Tryd.func9, Tryd.ntmps9
            go_wp2_with (first
              | (go_at_call 13; refine (splitbl_calls s (by omega) (0 + 1) hM.out _ (G'.out.below (B0 _))).mono ?_; rintro e w1 ⟨B, rfl, hBB, hr, hd⟩; have hBN := Lib.hid (ne_first hBB); clear hBB; have hA := Lib.hid ((arr_fresh w _).below hd); have hb := Lib.hid ((B0 _).trans (hd.mono (B0 _).size)); obtain ⟨k0, k1, k2, k3, k4, kf⟩ := arr5 hA.out; rw [HV.out] at hr; have HR := Lib.hid hr; have hv0 := hr.head; clear hd hr)
              | (go_at_call 14; refine (contains_calls _ _ _ hM.out (by omega) _ _ _ _ (by rw [HV.out]; exact HR.out)).mono ?_; rw [HC.out]; rintro e w2 ⟨rfl, rfl⟩)
              | (go_at_call 16; refine (extend_n r 0 HM.out HX.out (by omega) HS.out _ _ _ (by omega) _ (G'.out.below hb.out) (HR.out.none HM.out)).mono ?_; rintro e w3 ⟨rfl, hd⟩; have hA := Lib.hid (hA.out.below hd); have hb := Lib.hid (hb.out.trans (hd.mono hb.out.size)); obtain ⟨k0, k1, k2, k3, k4, kf⟩ := arr5 hA.out; clear hd))
            exact bodyPost_ret (fin_ar (a := a) rfl rfl rfl (arr5_set hA.out _ _ _ _ _)) rfl (parse_post E.out ((by rw [HNm.out]; exact strs_nil 0 _)) (below5 (Nat.le_refl _) hb.out _ _ _ _ _))
          · have hM1 : ¬ M = 0 := by omega
            go_enter Tryd.func9, Tryd.ntmps9
            go_wp2_with (first
              | (go_at_call 13; refine (splitbl_calls s (by omega) (M + 1) hM.out _ (G'.out.below (B0 _))).mono ?_; rintro e w1 ⟨B, rfl, hBB, hr, hd⟩; have hBN := Lib.hid (ne_first hBB); clear hBB; have hA := Lib.hid ((arr_fresh w _).below hd); have hb := Lib.hid ((B0 _).trans (hd.mono (B0 _).size)); obtain ⟨k0, k1, k2, k3, k4, kf⟩ := arr5 hA.out; rw [HV.out] at hr; have HR := Lib.hid hr; have hv0 := hr.head; clear hd hr)
              | (go_at_call 14; refine (contains_calls _ _ _ hM.out (by omega) _ _ _ _ (by rw [HV.out]; exact HR.out)).mono ?_; rw [HC.out]; rintro e w2 ⟨rfl, rfl⟩)
              | (go_at_call 16; refine (extend_n r M HM.out HX.out (by omega) HS.out _ _ _ (by omega) _ (G'.out.below hb.out) (HR.out.tail)).mono ?_; rintro e w3 ⟨rfl, hd⟩; have hA := Lib.hid (hA.out.below hd); have hb := Lib.hid (hb.out.trans (hd.mono hb.out.size)); obtain ⟨k0, k1, k2, k3, k4, kf⟩ := arr5 hA.out; clear hd))
            exact bodyPost_ret (fin_ar (a := a) rfl rfl rfl (arr5_set hA.out _ _ _ _ _)) rfl (parse_post E.out ((by rw [HNm.out]; exact strs_nil 0 _)) (below5 (Nat.le_refl _) hb.out _ _ _ _ _))
        · have n2 := hcv
          clear hcv
          have EQ : Hid (Args.prw right (v :: r) = if (v = Args.veB ∨ v = Args.reB ∨ v = Args.liB) ∧ r = [] then (⟨v, 0, 0, 0, []⟩, 0) else (Args.none, 2)) := Lib.hid (by simp only [Args.prw]; rw [if_neg n1, if_neg n2])
          have hr0 : r = [] ↔ M = 0 := by rw [← HM.out]; exact List.length_eq_zero_iff.symm
          by_cases hcv : v = Args.veB
          · have t1 : (v.toList == ([99, 114, 101, 97, 116, 101] : List UInt8)) = false := by rw [hcv, Lib.toList_data]; rfl
            have t2 : (v.toList == ([101, 120, 116, 101, 110, 100] : List UInt8)) = false := by rw [hcv, Lib.toList_data]; rfl
            have t3 : (v.toList == ([118, 101, 114, 105, 102, 121] : List UInt8)) = true := by rw [hcv, Lib.toList_data]; rfl
            have hor : v = Args.veB ∨ v = Args.reB ∨ v = Args.liB := by simp [hcv]
            clear hcv n1 n2 eqb
            rcases Nat.eq_zero_or_pos M with hM0 | hM0
            · have E : Hid (Args.prs right s = (⟨v, 0, 0, 0, []⟩, 0)) := Lib.hid (by rw [EP.out, EQ.out, if_pos ⟨hor, hr0.2 hM0⟩])
              clear hor hr0
              subst hM0
              go_enter Tryd.func9, Tryd.ntmps9
              go_wp2_with (first
                | (go_at_call 13; refine (splitbl_calls s (by omega) (0 + 1) hM.out _ (G'.out.below (B0 _))).mono ?_; rintro e w1 ⟨B, rfl, hBB, hr, hd⟩; have hBN := Lib.hid (ne_first hBB); clear hBB; have hA := Lib.hid ((arr_fresh w _).below hd); have hb := Lib.hid ((B0 _).trans (hd.mono (B0 _).size)); obtain ⟨k0, k1, k2, k3, k4, kf⟩ := arr5 hA.out; rw [HV.out] at hr; have HR := Lib.hid hr; have hv0 := hr.head; clear hd hr)
                | (go_at_call 14; refine (contains_calls _ _ _ hM.out (by omega) _ _ _ _ (by rw [HV.out]; exact HR.out)).mono ?_; rw [HC.out]; rintro e w2 ⟨rfl, rfl⟩))
              exact bodyPost_ret (fin_ar (a := ⟨v, 0, 0, 0, []⟩) rfl rfl rfl (arr5_set hA.out _ _ _ _ _)) rfl (parse_post E.out (strs_nil 0 _) (below5 (Nat.le_refl _) hb.out _ _ _ _ _))
            · have hM1 : ¬ M = 0 := by omega
              have E : Hid (Args.prs right s = (Args.none, 2)) := Lib.hid (by rw [EP.out, EQ.out, if_neg (fun h => hM1 (hr0.1 h.2))])
              clear hor hr0
              go_enter Tryd.func9, Tryd.ntmps9
              go_wp2_with (first
                | (go_at_call 13; refine (splitbl_calls s (by omega) (M + 1) hM.out _ (G'.out.below (B0 _))).mono ?_; rintro e w1 ⟨B, rfl, hBB, hr, hd⟩; have hBN := Lib.hid (ne_first hBB); clear hBB; have hA := Lib.hid ((arr_fresh w _).below hd); have hb := Lib.hid ((B0 _).trans (hd.mono (B0 _).size)); obtain ⟨k0, k1, k2, k3, k4, kf⟩ := arr5 hA.out; rw [HV.out] at hr; have HR := Lib.hid hr; have hv0 := hr.head; clear hd hr)
                | (go_at_call 14; refine (contains_calls _ _ _ hM.out (by omega) _ _ _ _ (by rw [HV.out]; exact HR.out)).mono ?_; rw [HC.out]; rintro e w2 ⟨rfl, rfl⟩))
              exact bodyPost_ret (fin_ar (a := Args.none) rfl rfl rfl (arr5_set hA.out _ _ _ _ _)) rfl (parse_post E.out (strs_nil 0 _) (below5 (Nat.le_refl _) hb.out _ _ _ _ _))
          · have n3 := hcv
            clear hcv
            by_cases hcv : v = Args.reB
            · have t1 : (v.toList == ([99, 114, 101, 97, 116, 101] : List UInt8)) = false := by rw [hcv, Lib.toList_data]; rfl
              have t2 : (v.toList == ([101, 120, 116, 101, 110, 100] : List UInt8)) = false := by rw [hcv, Lib.toList_data]; rfl
              have t3 : (v.toList == ([118, 101, 114, 105, 102, 121] : List UInt8)) = false := by rw [hcv, Lib.toList_data]; rfl
              have t4 : (v.toList == ([114, 101, 112, 97, 105, 114] : List UInt8)) = true := by rw [hcv, Lib.toList_data]; rfl
              have hor : v = Args.veB ∨ v = Args.reB ∨ v = Args.liB := by simp [hcv]
              clear hcv n1 n2 eqb
              rcases Nat.eq_zero_or_pos M with hM0 | hM0
              · have E : Hid (Args.prs right s = (⟨v, 0, 0, 0, []⟩, 0)) := Lib.hid (by rw [EP.out, EQ.out, if_pos ⟨hor, hr0.2 hM0⟩])
                clear hor hr0
                subst hM0
                go_enter Tryd.func9, Tryd.ntmps9
                go_wp2_with (first
                  | (go_at_call 13; refine (splitbl_calls s (by omega) (0 + 1) hM.out _ (G'.out.below (B0 _))).mono ?_; rintro e w1 ⟨B, rfl, hBB, hr, hd⟩; have hBN := Lib.hid (ne_first hBB); clear hBB; have hA := Lib.hid ((arr_fresh w _).below hd); have hb := Lib.hid ((B0 _).trans (hd.mono (B0 _).size)); obtain ⟨k0, k1, k2, k3, k4, kf⟩ := arr5 hA.out; rw [HV.out] at hr; have HR := Lib.hid hr; have hv0 := hr.head; clear hd hr)
                  | (go_at_call 14; refine (contains_calls _ _ _ hM.out (by omega) _ _ _ _ (by rw [HV.out]; exact HR.out)).mono ?_; rw [HC.out]; rintro e w2 ⟨rfl, rfl⟩))
                exact bodyPost_ret (fin_ar (a := ⟨v, 0, 0, 0, []⟩) rfl rfl rfl (arr5_set hA.out _ _ _ _ _)) rfl (parse_post E.out (strs_nil 0 _) (below5 (Nat.le_refl _) hb.out _ _ _ _ _))
              · have hM1 : ¬ M = 0 := by omega
                have E : Hid (Args.prs right s = (Args.none, 2)) := Lib.hid (by rw [EP.out, EQ.out, if_neg (fun h => hM1 (hr0.1 h.2))])
                clear hor hr0
                go_enter Tryd.func9, Tryd.ntmps9
                go_wp2_with (first
                  | (go_at_call 13; refine (splitbl_calls s (by omega) (M + 1) hM.out _ (G'.out.below (B0 _))).mono ?_; rintro e w1 ⟨B, rfl, hBB, hr, hd⟩; have hBN := Lib.hid (ne_first hBB); clear hBB; have hA := Lib.hid ((arr_fresh w _).below hd); have hb := Lib.hid ((B0 _).trans (hd.mono (B0 _).size)); obtain ⟨k0, k1, k2, k3, k4, kf⟩ := arr5 hA.out; rw [HV.out] at hr; have HR := Lib.hid hr; have hv0 := hr.head; clear hd hr)
                  | (go_at_call 14; refine (contains_calls _ _ _ hM.out (by omega) _ _ _ _ (by rw [HV.out]; exact HR.out)).mono ?_; rw [HC.out]; rintro e w2 ⟨rfl, rfl⟩))
                exact bodyPost_ret (fin_ar (a := Args.none) rfl rfl rfl (arr5_set hA.out _ _ _ _ _)) rfl (parse_post E.out (strs_nil 0 _) (below5 (Nat.le_refl _) hb.out _ _ _ _ _))
            · have n4 := hcv
              clear hcv
              by_cases hcv : v = Args.liB
              · have t1 : (v.toList == ([99, 114, 101, 97, 116, 101] : List UInt8)) = false := by rw [hcv, Lib.toList_data]; rfl
                have t2 : (v.toList == ([101, 120, 116, 101, 110, 100] : List UInt8)) = false := by rw [hcv, Lib.toList_data]; rfl
                have t3 : (v.toList == ([118, 101, 114, 105, 102, 121] : List UInt8)) = false := by rw [hcv, Lib.toList_data]; rfl
                have t4 : (v.toList == ([114, 101, 112, 97, 105, 114] : List UInt8)) = false := by rw [hcv, Lib.toList_data]; rfl
                have t5 : (v.toList == ([108, 105, 115, 116] : List UInt8)) = true := by rw [hcv, Lib.toList_data]; rfl
                have hor : v = Args.veB ∨ v = Args.reB ∨ v = Args.liB := by simp [hcv]
                clear hcv n1 n2 eqb
                rcases Nat.eq_zero_or_pos M with hM0 | hM0
                · have E : Hid (Args.prs right s = (⟨v, 0, 0, 0, []⟩, 0)) := Lib.hid (by rw [EP.out, EQ.out, if_pos ⟨hor, hr0.2 hM0⟩])
                  clear hor hr0
                  subst hM0
                  go_enter Tryd.func9, Tryd.ntmps9
                  go_wp2_with (first
                    | (go_at_call 13; refine (splitbl_calls s (by omega) (0 + 1) hM.out _ (G'.out.below (B0 _))).mono ?_; rintro e w1 ⟨B, rfl, hBB, hr, hd⟩; have hBN := Lib.hid (ne_first hBB); clear hBB; have hA := Lib.hid ((arr_fresh w _).below hd); have hb := Lib.hid ((B0 _).trans (hd.mono (B0 _).size)); obtain ⟨k0, k1, k2, k3, k4, kf⟩ := arr5 hA.out; rw [HV.out] at hr; have HR := Lib.hid hr; have hv0 := hr.head; clear hd hr)
                    | (go_at_call 14; refine (contains_calls _ _ _ hM.out (by omega) _ _ _ _ (by rw [HV.out]; exact HR.out)).mono ?_; rw [HC.out]; rintro e w2 ⟨rfl, rfl⟩))
                  exact bodyPost_ret (fin_ar (a := ⟨v, 0, 0, 0, []⟩) rfl rfl rfl (arr5_set hA.out _ _ _ _ _)) rfl (parse_post E.out (strs_nil 0 _) (below5 (Nat.le_refl _) hb.out _ _ _ _ _))
                · have hM1 : ¬ M = 0 := by omega
                  have E : Hid (Args.prs right s = (Args.none, 2)) := Lib.hid (by rw [EP.out, EQ.out, if_neg (fun h => hM1 (hr0.1 h.2))])
                  clear hor hr0
                  go_enter Tryd.func9, Tryd.ntmps9
                  go_wp2_with (first
                    | (go_at_call 13; refine (splitbl_calls s (by omega) (M + 1) hM.out _ (G'.out.below (B0 _))).mono ?_; rintro e w1 ⟨B, rfl, hBB, hr, hd⟩; have hBN := Lib.hid (ne_first hBB); clear hBB; have hA := Lib.hid ((arr_fresh w _).below hd); have hb := Lib.hid ((B0 _).trans (hd.mono (B0 _).size)); obtain ⟨k0, k1, k2, k3, k4, kf⟩ := arr5 hA.out; rw [HV.out] at hr; have HR := Lib.hid hr; have hv0 := hr.head; clear hd hr)
                    | (go_at_call 14; refine (contains_calls _ _ _ hM.out (by omega) _ _ _ _ (by rw [HV.out]; exact HR.out)).mono ?_; rw [HC.out]; rintro e w2 ⟨rfl, rfl⟩))
                  exact bodyPost_ret (fin_ar (a := Args.none) rfl rfl rfl (arr5_set hA.out _ _ _ _ _)) rfl (parse_post E.out (strs_nil 0 _) (below5 (Nat.le_refl _) hb.out _ _ _ _ _))
              · have n5 := hcv
                clear hcv
                have E : Hid (Args.prs right s = (Args.none, 2)) := Lib.hid (by rw [EP.out, EQ.out, if_neg (fun h => by rcases h.1 with h | h | h <;> contradiction)])
                have t1 : (v.toList == ([99, 114, 101, 97, 116, 101] : List UInt8)) = false := by
                  have h := eqb Args.crB
                  rw [decide_eq_false n1, Lib.toList_data Args.crB] at h
                  exact h
                have t2 : (v.toList == ([101, 120, 116, 101, 110, 100] : List UInt8)) = false := by
                  have h := eqb Args.exB
                  rw [decide_eq_false n2, Lib.toList_data Args.exB] at h
                  exact h
                have t3 : (v.toList == ([118, 101, 114, 105, 102, 121] : List UInt8)) = false := by
                  have h := eqb Args.veB
                  rw [decide_eq_false n3, Lib.toList_data Args.veB] at h
                  exact h
                have t4 : (v.toList == ([114, 101, 112, 97, 105, 114] : List UInt8)) = false := by
                  have h := eqb Args.reB
                  rw [decide_eq_false n4, Lib.toList_data Args.reB] at h
                  exact h
                have t5 : (v.toList == ([108, 105, 115, 116] : List UInt8)) = false := by
                  have h := eqb Args.liB
                  rw [decide_eq_false n5, Lib.toList_data Args.liB] at h
                  exact h
                clear n1 n2 n3 n4 n5 eqb hr0
                go_enter Tryd.func9, Tryd.ntmps9
                go_wp2_with (first
                  | (go_at_call 13; refine (splitbl_calls s (by omega) (M + 1) hM.out _ (G'.out.below (B0 _))).mono ?_; rintro e w1 ⟨B, rfl, hBB, hr, hd⟩; have hBN := Lib.hid (ne_first hBB); clear hBB; have hA := Lib.hid ((arr_fresh w _).below hd); have hb := Lib.hid ((B0 _).trans (hd.mono (B0 _).size)); obtain ⟨k0, k1, k2, k3, k4, kf⟩ := arr5 hA.out; rw [HV.out] at hr; have HR := Lib.hid hr; have hv0 := hr.head; clear hd hr)
                  | (go_at_call 14; refine (contains_calls _ _ _ hM.out (by omega) _ _ _ _ (by rw [HV.out]; exact HR.out)).mono ?_; rw [HC.out]; rintro e w2 ⟨rfl, rfl⟩))
                exact bodyPost_ret (fin_ar (a := Args.none) rfl rfl rfl (arr5_set hA.out _ _ _ _ _)) rfl (parse_post E.out (strs_nil 0 _) (below5 (Nat.le_refl _) hb.out _ _ _ _ _))
end Go.Proofs.YtfdfijohcapgaaaDoor.Path

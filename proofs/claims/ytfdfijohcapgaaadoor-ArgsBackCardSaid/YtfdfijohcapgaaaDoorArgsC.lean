/- Package args: what stands behind create. -/
import Derived.Test.YtfdfijohcapgaaaDoorArgsE
namespace Go.Proofs.YtfdfijohcapgaaaDoor.Path
open Go Go.RowKit Go.Shelf Go.Proofs.YtfdfijohcapgaaaDoor.QPart Go.Proofs.YtfdfijohcapgaaaDoorW.PrintWords Go.Proofs.YtfdfijohcapgaaaDoorW.PrintLast Go.Proofs.YtfdfijohcapgaaaDoorW.PrintMore

theorem region_then {P : Program} {c : Code} {K : Act → World → Prop} {Q : Exit → Act → World → Prop} {a : Act} {w : World} (A : Act) (Inv : World → Prop)
    (h : Code.wp P c (Exit.then (fun a' w' => a' = A ∧ Inv w') Q) a w) (k : ∀ w', Inv w' → K A w') : Code.wp P c (Exit.then K Q) a w :=
  Code.wp_mono (fun e a' w' q => by
    cases e with
    | normal =>
      obtain ⟨rfl, hi⟩ := q
      exact k _ hi
    | _ => exact q) h
/-- the result's cells and the local one's -/
structure Cr (w w' : World) (D : Nat) (us : List Value) : Prop where
  a : Gy.Arr w' w.heap.size zs
  d : Gy.Arr w' D us
  b : Below w.heap.size w w'
  lt : w.heap.size < D
theorem Cr.below {w w1 w2 : World} {D : Nat} {us : List Value} (h : Cr w w1 D us) (hb : Below w1.heap.size w1 w2) : Cr w w2 D us :=
  ⟨h.a.below hb, h.d.below hb, h.b.trans (hb.mono h.b.size), h.lt⟩
theorem cr_start {w w1 : World} (hA : Gy.Arr w1 w.heap.size zs) (hb : Below w.heap.size w w1) (v0 v1 v2 v3 v4 : Value) (t : TypeId) : Cr w (w1.alloc (.cells #[v0, v1, v2, v3, v4] t)).drew w1.heap.size [v0, v1, v2, v3, v4] :=
  ⟨(hA.alloc _).drew, (Gy.Arr.fresh w1 [v0, v1, v2, v3, v4] _ rfl t).drew, below_drew (hb.alloc hb.size _), hA.lt⟩
theorem create_post {B : Nat} {X : Args.Ar × Int} {a : Args.Ar} {k : Int} {w w' : World} {sl : Value} (E : X = (a, k)) (hs : Strs B w' sl a.names) (hb : Below w.heap.size w w') :
    ∃ sl', Ending.returned (.tuple #[argV a sl, .int .i64 k]) = Ending.returned (.tuple #[argV X.1 sl', .int .i64 X.2]) ∧ Strs B w' sl' X.1.names ∧ Below w.heap.size w w' := by
  subst E; exact ⟨sl, rfl, hs, hb⟩
theorem strs_of {B o c n : Nat} {l : List ByteArray} {w : World} (hn : l.length = n) (hc : n ≤ c) (h : Row B o l w) : Strs B w (.slice (some ⟨B, o, none⟩) n c) l := by
  subst hn; exact ⟨_, _, rfl, .inr ⟨o, rfl, hc, h⟩⟩
theorem below_set {B b : Nat} {w w' : World} (hB : B ≤ b) (i : Nat) (v : Value) (h : Below B w w') : Below B w (w'.setCell ⟨b, i, none⟩ v) := h.setCell (show B ≤ (⟨b, i, none⟩ : Addr).block from hB) v
theorem and_dec (a b : Prop) [Decidable a] [Decidable b] : (decide a && decide b) = decide (a ∧ b) := by
  by_cases ha : a <;> by_cases hb : b <;> simp [ha, hb]
set_option maxHeartbeats 8000000 in
set_option maxRecDepth 100000 in
theorem create_calls (l : List ByteArray) (hl : l.length ≤ 1000000) (hsz : ∀ x ∈ l, x.size ≤ 1000000) (B o c : Nat) (hc : l.length ≤ c) (w : World) (G : Good w) (R : Row B o l w) :
    Calls Tryd.prog 15 #[.slice (some ⟨B, o, none⟩) l.length c] w fun e w' => ∃ sl, e = .returned (.tuple #[argV (Args.pcr right l).1 sl, .int .i64 (Args.pcr right l).2]) ∧ Strs B w' sl (Args.pcr right l).1.names ∧ Below w.heap.size w w' := by
  have G' := Lib.hid G
  have R' := Lib.hid R
  clear G R
  have B0 : ∀ ob, Below w.heap.size w (w.alloc ob) := fun ob => (Below.refl _ _).alloc (Nat.le_refl _) _
  by_cases h2 : l.length < 3
  · have E : Hid (Args.pcr right l = (Args.none, 2)) := Lib.hid (by
      match l, h2 with
      | [], _ => rfl
      | [_], _ => rfl
      | [_, _], h => rfl)
    have g : (l.length : Int) < 3 := by omega
    generalize l.length = n at *
    rw [E.out]
    go_enter Tryd.func15, Tryd.ntmps15
    go_wp2
    exact bodyPost_ret (fin_ar rfl rfl rfl (arr_fresh w _)) rfl ⟨_, rfl, strs_nil _ _, B0 _⟩
  · obtain ⟨x, y, z, r, rfl⟩ : ∃ x y z r, l = x :: y :: z :: r := by
      match l, h2 with
      | x :: y :: z :: r, _ => exact ⟨x, y, z, r, rfl⟩
      | [], h => simp at h
      | [_], h => simp at h
      | [_, _], h => simp at h
    have hx : x.size ≤ 1000000 := hsz x (by simp)
    have hy : y.size ≤ 1000000 := hsz y (by simp)
    have HZ : Hid (∀ n ∈ z :: r, n.size ≤ 1000000) := Lib.hid fun n hn => hsz n (by simp only [List.mem_cons] at hn ⊢; exact .inr (.inr hn))
    have hx9 : x.size ≤ 1000000000 := by omega
    have hy9 : y.size ≤ 1000000000 := by omega
    have bx := numOf_le x
    have bY := numOf_le y
    obtain ⟨p, hp⟩ : ∃ p, Args.num x = p := ⟨_, rfl⟩
    obtain ⟨q, hq⟩ : ∃ q, Args.num y = q := ⟨_, rfl⟩
    have hP := Lib.hid hp
    have hQ := Lib.hid hq
    have hc0 : ∀ ob, (w.alloc ob).cell? ⟨B, o, none⟩ = some (.string x) := fun ob => (R'.out.alloc ob).head
    rw [hp] at bx
    rw [hq] at bY
    obtain ⟨N, hN⟩ : ∃ N, (z :: r).length = N := ⟨_, rfl⟩
    have HN := Lib.hid hN
    have hN1 : 1 ≤ N := by rw [← hN]; simp
    have hN2 : N ≤ 1000000 := by rw [← hN]; simp only [List.length_cons] at hl ⊢; omega
    have hlen : (x :: y :: z :: r).length = N + 2 := by rw [← hN]; simp
    rw [hlen] at hc ⊢
    clear hp hq hsz hl hN hlen h2
    have g3 : ¬ ((N : Int) + 2 < 3) := by omega
    by_cases hn : p < 0
    · have E : Hid (Args.pcr right (x :: y :: z :: r) = (Args.none, 2)) := Lib.hid (by simp only [Args.pcr]; rw [hP.out, hQ.out, if_pos (Or.inl hn)])
      rw [E.out]
      go_enter Tryd.func15, Tryd.ntmps15
      go_wp2_with (go_at_call 23; refine (number_calls _ (by first | exact hx9 | exact hy9) _ (by first | exact G'.out.below hb.out | exact G'.out.below (B0 _))).mono ?_; (first | rw [hP.out] | rw [hQ.out]); rintro e w1 ⟨rfl, hd⟩; (first | (have hA := Lib.hid (hA.out.below hd); have hb := Lib.hid (hb.out.trans (hd.mono hb.out.size))) | (have hA := Lib.hid ((arr_fresh w _).below hd); have hb := Lib.hid ((B0 _).trans (hd.mono (B0 _).size)))); obtain ⟨k0, k1, k2, k3, k4, kf⟩ := arr5 hA.out; have rx := (R'.out.below hb.out).head; have ry := (R'.out.below hb.out).tail.head; clear hd)
      exact bodyPost_ret (fin_ar rfl rfl rfl (arr5_set hA.out _ _ _ _ _)) rfl ⟨_, rfl, strs_nil _ _, below5 (Nat.le_refl _) hb.out _ _ _ _ _⟩
    · by_cases hm : q < 0
      · have E : Hid (Args.pcr right (x :: y :: z :: r) = (Args.none, 2)) := Lib.hid (by simp only [Args.pcr]; rw [hP.out, hQ.out, if_pos (Or.inr hm)])
        rw [E.out]
        go_enter Tryd.func15, Tryd.ntmps15
        go_wp2_with (go_at_call 23; refine (number_calls _ (by first | exact hx9 | exact hy9) _ (by first | exact G'.out.below hb.out | exact G'.out.below (B0 _))).mono ?_; (first | rw [hP.out] | rw [hQ.out]); rintro e w1 ⟨rfl, hd⟩; (first | (have hA := Lib.hid (hA.out.below hd); have hb := Lib.hid (hb.out.trans (hd.mono hb.out.size))) | (have hA := Lib.hid ((arr_fresh w _).below hd); have hb := Lib.hid ((B0 _).trans (hd.mono (B0 _).size)))); obtain ⟨k0, k1, k2, k3, k4, kf⟩ := arr5 hA.out; have rx := (R'.out.below hb.out).head; have ry := (R'.out.below hb.out).tail.head; clear hd)
        exact bodyPost_ret (fin_ar rfl rfl rfl (arr5_set hA.out _ _ _ _ _)) rfl ⟨_, rfl, strs_nil _ _, below5 (Nat.le_refl _) hb.out _ _ _ _ _⟩
      · go_enter Tryd.func15, Tryd.ntmps15
        go_wp2_with (go_at_call 23; refine (number_calls _ (by first | exact hx9 | exact hy9) _ (by first | exact G'.out.below hb.out | exact G'.out.below (B0 _))).mono ?_; (first | rw [hP.out] | rw [hQ.out]); rintro e w1 ⟨rfl, hd⟩; (first | (have hA := Lib.hid (hA.out.below hd); have hb := Lib.hid (hb.out.trans (hd.mono hb.out.size))) | (have hA := Lib.hid ((arr_fresh w _).below hd); have hb := Lib.hid ((B0 _).trans (hd.mono (B0 _).size)))); obtain ⟨k0, k1, k2, k3, k4, kf⟩ := arr5 hA.out; have rx := (R'.out.below hb.out).head; have ry := (R'.out.below hb.out).tail.head; clear hd)
        have hC := Lib.hid (cr_start hA.out hb.out (.string ⟨#[99, 114, 101, 97, 116, 101]⟩) (.int .i64 0) (.int .i64 0) (.int .u32 0) (.slice (some ⟨B, o + 2, none⟩) N (c - 2)) 25)
        have rx := (R'.out.below hC.out.b).head
        have ry := (R'.out.below hC.out.b).tail.head
        clear hA hb k0 k1 k2 k3 k4 kf hc0
        apply region_then (Inv := fun w5 => Cr w w5 w1.heap.size [.string ⟨#[99, 114, 101, 97, 116, 101]⟩, .int .i64 0, .int .i64 0, .int .u32 0, .slice (some ⟨B, o + 2, none⟩) N (c - 2)])
        case h =>
          go_region_with (go_at_call 23; refine (number_calls _ (by first | exact hx9 | exact hy9) _ (G'.out.below hC.out.b)).mono ?_; (first | rw [hP.out] | rw [hQ.out]); rintro e w1 ⟨rfl, hd⟩; have hC := Lib.hid (hC.out.below hd); have rx := (R'.out.below hC.out.b).head; have ry := (R'.out.below hC.out.b).tail.head; clear hd)
          · exact ⟨rfl, hC.out⟩
          all_goals exact ⟨by kernel_rfl, hC.out⟩
        case k =>
          intro w5 hC5
          have hC := Lib.hid hC5
          clear hC5
          obtain ⟨k0, k1, k2, k3, k4, kf⟩ := arr5 hC.out.a
          obtain ⟨d0, d1, d2, d3, d4, df⟩ := arr5 hC.out.d
          by_cases hw1 : 1 ≤ p ∧ p ≤ 256
          · have HW1 : Hid ((decide (1 ≤ p) && decide (p ≤ 256)) = true) := Lib.hid (by rw [and_dec]; exact decide_eq_true hw1)
            by_cases hw2 : 0 ≤ q ∧ q ≤ 64
            · have HW2 : Hid ((decide (0 ≤ q) && decide (q ≤ 64)) = true) := Lib.hid (by rw [and_dec]; exact decide_eq_true hw2)
              have HW : Hid (Args.pcr right (x :: y :: z :: r) = if ¬ ((z :: r).all right = true) then (Args.none, 12) else if N > 8 then (Args.none, 5) else (⟨Args.crB, p, q, 0, z :: r⟩, 0)) := Lib.hid (by
                simp only [Args.pcr]; rw [hP.out, hQ.out, if_neg (by omega), if_neg (by omega), HN.out])
              clear hw1 hw2
              go_wp2_with (go_at_call 24; refine (within_calls _ _ _ _).mono ?_; (first | rw [HW1.out] | rw [HW2.out]); rintro e w6 ⟨rfl, rfl⟩)
              clear k0 k1 k2 k3 k4 kf d0 d1 d2 d3 d4 df
              go_loopg [50] (N + 1) (fun kq v50 w' => ∃ i : Nat, v50 = .int .i64 (i : Int) ∧ Hid (i + kq = N + 1 ∧ i ≤ N ∧ ((z :: r).take i).all right = true) ∧ Hid (Cr w w' w1.heap.size [.string ⟨#[99, 114, 101, 97, 116, 101]⟩, .int .i64 0, .int .i64 0, .int .u32 0, .slice (some ⟨B, o + 2, none⟩) N (c - 2)]))
              case atStart => exact ⟨0, rfl, Lib.hid ⟨by omega, by omega, by simp⟩, hC⟩
              case round =>
                clear hC
                obtain ⟨i, rfl, hi, hw⟩ := hrel
                obtain ⟨k0, k1, k2, k3, k4, kf⟩ := arr5 hw.out.a
                obtain ⟨d0, d1, d2, d3, d4, df⟩ := arr5 hw.out.d
                cases gk with
                | zero => exact absurd hi.out.1 (by have := hi.out.2.1; omega)
                | succ k9 =>
                  by_cases hlt : i < N
                  · have hil : i < (z :: r).length := by rw [HN.out]; exact hlt
                    obtain ⟨nm, hnm⟩ : ∃ nm, (z :: r).getD i ⟨#[]⟩ = nm := ⟨_, rfl⟩
                    have hcc := (R'.out.below hw.out.b).tail.tail.cells i hil
                    rw [hnm] at hcc
                    have hni : (z :: r)[i]? = some nm := by rw [← hnm, List.getD, List.getElem?_eq_getElem hil]; rfl
                    have hmem : nm ∈ z :: r := List.mem_of_getElem? hni
                    have hns : nm.size ≤ 1000000000 := by have := HZ.out nm hmem; omega
                    have hni' := Lib.hid hni
                    have hmem' := Lib.hid hmem
                    clear hnm hni hmem hil
                    have g1 : (i : Int) < (N : Int) := by omega
                    cases hpb : right nm with
                    | false =>
                      have hq := Lib.hid hpb
                      clear hpb
                      have E : Hid (Args.pcr right (x :: y :: z :: r) = (Args.none, 12)) := Lib.hid (by
                        rw [HW.out, if_pos]
                        rw [Bool.not_eq_true, List.all_eq_false]
                        exact ⟨nm, hmem'.out, by rw [hq.out]; decide⟩)
                      go_wp2_with (go_at_call 25; refine (right_calls nm hns _ (G'.out.below hw.out.b)).mono ?_; rw [hq.out]; rintro e w2 ⟨rfl, hd⟩; have hC := Lib.hid (hw.out.below hd); obtain ⟨k0, k1, k2, k3, k4, kf⟩ := arr5 hC.out.a; clear hd)
                      exact bodyPost_ret (fin_ar rfl rfl rfl (arr5_set hC.out.a _ _ _ _ _)) rfl (create_post E.out (strs_nil _ _) (below5 (Nat.le_refl _) hC.out.b _ _ _ _ _))
                    | true =>
                      have hq := Lib.hid hpb
                      clear hpb
                      go_wp2_with (go_at_call 25; refine (right_calls nm hns _ (G'.out.below hw.out.b)).mono ?_; rw [hq.out]; rintro e w2 ⟨rfl, hd⟩; have hC := Lib.hid (hw.out.below hd); clear hd)
                      go_roundg k9
                      case measure => omega
                      case rel => exact ⟨i + 1, congrArg _ (by omega), Lib.hid ⟨by have := hi.out.1; omega, by omega, by
                        rw [List.take_add_one, List.all_append, hi.out.2.2, hni'.out]; simp [hq.out]⟩, hC⟩
                  · have hiN : i = N := by have := hi.out.2.1; omega
                    have hall : Hid ((z :: r).all right = true) := Lib.hid (by
                      have := hi.out.2.2
                      rw [hiN, ← HN.out, List.take_length] at this
                      exact this)
                    subst hiN
                    have g1 : ¬ ((i : Int) < (i : Int)) := by omega
                    by_cases h8 : i > 8
                    · have g8 : (i : Int) > 8 := by omega
                      have E : Hid (Args.pcr right (x :: y :: z :: r) = (Args.none, 5)) := Lib.hid (by rw [HW.out, if_neg (fun h => h hall.out), if_pos h8])
                      go_wp2
                      exact bodyPost_ret (fin_ar rfl rfl rfl (arr5_set hw.out.a _ _ _ _ _)) rfl (create_post E.out (strs_nil _ _) (below5 (Nat.le_refl _) hw.out.b _ _ _ _ _))
                    · have g8 : ¬ (i : Int) > 8 := by omega
                      have E : Hid (Args.pcr right (x :: y :: z :: r) = (⟨Args.crB, p, q, 0, z :: r⟩, 0)) := Lib.hid (by rw [HW.out, if_neg (fun h => h hall.out), if_neg h8])
                      have hne : ¬ w.heap.size = w1.heap.size := Nat.ne_of_lt hw.out.lt
                      have hne2 : ¬ w1.heap.size = w.heap.size := Nat.ne_of_gt hw.out.lt
                      go_wp2
                      have hB := below5 (Nat.le_refl _) (below_set (Nat.le_of_lt hw.out.lt) 2 (.int .i64 q) (below_set (Nat.le_of_lt hw.out.lt) 1 (.int .i64 p) hw.out.b)) (.string ⟨#[99, 114, 101, 97, 116, 101]⟩) (.int .i64 p) (.int .i64 q) (.int .u32 0) (.slice (some ⟨B, o + 2, none⟩) i (c - 2))
                      exact bodyPost_ret (fin_ar (a := ⟨Args.crB, p, q, 0, z :: r⟩) rfl rfl rfl (arr5_set ((hw.out.a.far hne2 1 _).far hne2 2 _) _ _ _ _ _)) rfl (create_post E.out (strs_of HN.out (by omega) (R'.out.below hB).tail.tail) hB)
            · have HW2 : Hid ((decide (0 ≤ q) && decide (q ≤ 64)) = false) := Lib.hid (by rw [and_dec]; exact decide_eq_false hw2)
              have E : Hid (Args.pcr right (x :: y :: z :: r) = (Args.none, 1)) := Lib.hid (by
                simp only [Args.pcr]; rw [hP.out, hQ.out, if_neg (by omega), if_pos (by omega)])
              clear hw1 hw2
              go_wp2_with (go_at_call 24; refine (within_calls _ _ _ _).mono ?_; (first | rw [HW1.out] | rw [HW2.out]); rintro e w6 ⟨rfl, rfl⟩)
              exact bodyPost_ret (fin_ar rfl rfl rfl (arr5_set hC.out.a _ _ _ _ _)) rfl (create_post E.out (strs_nil _ _) (below5 (Nat.le_refl _) hC.out.b _ _ _ _ _))
          · have HW1 : Hid ((decide (1 ≤ p) && decide (p ≤ 256)) = false) := Lib.hid (by rw [and_dec]; exact decide_eq_false hw1)
            have HW2 := HW1
            have E : Hid (Args.pcr right (x :: y :: z :: r) = (Args.none, 1)) := Lib.hid (by
              simp only [Args.pcr]; rw [hP.out, hQ.out, if_neg (by omega), if_pos (by omega)])
            clear hw1
            go_wp2_with (go_at_call 24; refine (within_calls _ _ _ _).mono ?_; (first | rw [HW1.out] | rw [HW2.out]); rintro e w6 ⟨rfl, rfl⟩)
            exact bodyPost_ret (fin_ar rfl rfl rfl (arr5_set hC.out.a _ _ _ _ _)) rfl (create_post E.out (strs_nil _ _) (below5 (Nat.le_refl _) hC.out.b _ _ _ _ _))
end Go.Proofs.YtfdfijohcapgaaaDoor.Path

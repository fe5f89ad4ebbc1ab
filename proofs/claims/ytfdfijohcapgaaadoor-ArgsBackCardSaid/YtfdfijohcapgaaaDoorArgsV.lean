/- Package args: what is said, printed. -/
import Derived.Test.YtfdfijohcapgaaaDoorArgsU
import Derived.Shelf.Slices.Equal
import Derived.Shelf.Slices.Empties2
namespace Go.Proofs.YtfdfijohcapgaaaDoor.Path
open Go Go.RowKit Go.Shelf Go.Proofs.YtfdfijohcapgaaaDoor.QPart Go.Proofs.YtfdfijohcapgaaaDoorW.PrintWords Go.Proofs.YtfdfijohcapgaaaDoorW.PrintLast Go.Proofs.YtfdfijohcapgaaaDoorW.PrintMore

theorem equal_calls (l1 l2 : List ByteArray) (h1 : l1.length ≤ 1000000) (h2 : l2.length ≤ 1000000) (B1 B2 : Nat) (v1 v2 : Value) (w : World) (S1 : Strs B1 w v1 l1) (S2 : Strs B2 w v2 l2) :
    Calls Tryd.prog 20 #[v1, v2] w fun e w' => ∃ b, e = .returned (.bool b) ∧ (b = true ↔ l1 = l2) ∧ Below w.heap.size w w' := by
  obtain ⟨a1, c1, rfl, e1⟩ := S1
  obtain ⟨a2, c2, rfl, e2⟩ := S2
  by_cases hl : l1.length = l2.length
  · by_cases h0 : l1.length = 0
    · rw [h0]
      refine (Any.slices_Equal_string_empty Tryd.equalLay a1 a2 c1 _ c2 w (by omega)).mono ?_
      rintro e w' ⟨rfl, rfl⟩
      refine ⟨_, rfl, ?_, Below.refl _ _⟩
      rw [hl] at h0
      rw [List.eq_nil_of_length_eq_zero h0, List.eq_nil_of_length_eq_zero (hl.trans h0)]
      simp
    · rcases e1 with ⟨rfl, -⟩ | ⟨o1, rfl, -, R1⟩
      · exact absurd rfl h0
      · rcases e2 with ⟨rfl, -⟩ | ⟨o2, rfl, -, R2⟩
        · exact absurd hl (by simpa using h0)
        · refine (Any.slices_Equal_string Tryd.equalLay B1 o1 l1.length c1 B2 o2 l2.length c2 l1 l2 w (Nat.le_refl _) (Nat.le_refl _) (by omega) (by omega) R1.cells R2.cells).mono ?_
          rintro e w' ⟨rfl, q, rfl⟩
          refine ⟨_, rfl, ?_, pw_below_drewN (Below.refl _ _) q⟩
          rw [List.take_length, List.take_length]
          exact decide_eq_true_iff
  · refine (Any.slices_Equal_string_lens Tryd.equalLay a1 a2 _ c1 _ c2 w hl).mono ?_
    rintro e w' ⟨rfl, rfl⟩
    refine ⟨_, rfl, ?_, Below.refl _ _⟩
    simp only [Bool.false_eq_true, false_iff]
    exact fun e => hl (by rw [e])
set_option maxHeartbeats 8000000 in
set_option maxRecDepth 100000 in
theorem same_calls (xv yv : ByteArray) (xs ys xc yc xf yf : Int) (xn yn : List ByteArray) (h1 : xn.length ≤ 1000000) (h2 : yn.length ≤ 1000000) (B1 B2 : Nat) (v1 v2 : Value) (w : World) (S1 : Strs B1 w v1 xn) (S2 : Strs B2 w v2 yn) :
    Calls Tryd.prog 12 #[.agg #[.string xv, .int .i64 xs, .int .i64 xc, .int .u32 xf, v1], .agg #[.string yv, .int .i64 ys, .int .i64 yc, .int .u32 yf, v2]] w fun e w' => ∃ b, e = .returned (.bool b) ∧ (b = true ↔ (⟨xv, xs, xc, xf, xn⟩ : Args.Ar) = ⟨yv, ys, yc, yf, yn⟩) ∧ Below w.heap.size w w' := by
  have T1 := Lib.hid S1
  have T2 := Lib.hid S2
  have B0 : ∀ o1 o2, Below w.heap.size w ((w.alloc o1).alloc o2) := fun o1 o2 => ((Below.refl _ _).alloc (Nat.le_refl _) _).alloc (by rw [Gy.size_alloc']; omega) _
  obtain ⟨a1, c1, rfl, -⟩ := S1
  obtain ⟨a2, c2, rfl, -⟩ := S2
  have no : ∀ {b : Bool}, b = false → ¬ ((⟨xv, xs, xc, xf, xn⟩ : Args.Ar) = ⟨yv, ys, yc, yf, yn⟩) → (b = true ↔ (⟨xv, xs, xc, xf, xn⟩ : Args.Ar) = ⟨yv, ys, yc, yf, yn⟩) := fun hb h => ⟨fun e => absurd (hb.symm.trans e) (by decide), fun e => absurd e h⟩
  by_cases q1 : xv = yv
  · subst q1
    have t1 : (xv.toList == xv.toList) = true := by simp
    by_cases q2 : xs = ys
    · subst q2
      by_cases q3 : xc = yc
      · subst q3
        by_cases q4 : xf = yf
        · subst q4
          go_enter Tryd.func12, Tryd.ntmps12
          go_wp2_with (go_at_call 20; refine (equal_calls xn yn h1 h2 B1 B2 _ _ _ (T1.out.below (B0 _ _)) (T2.out.below (B0 _ _))).mono ?_; rintro e w2 ⟨b, rfl, hb, hd⟩; have HB := Lib.hid hb; have hbb := Lib.hid ((B0 _ _).trans (hd.mono (B0 _ _).size)); clear hd hb)
          go_ret
          exact ⟨b, rfl, by rw [HB.out]; simp, hbb.out⟩
        · have f : (xf == yf) = false := beq_eq_false_iff_ne.2 q4
          have HN := Lib.hid (no rfl (fun e => q4 (by injection e)))
          go_enter Tryd.func12, Tryd.ntmps12
          go_wp2
          go_ret
          exact ⟨false, rfl, HN.out, B0 _ _⟩
      · have f : (xc == yc) = false := beq_eq_false_iff_ne.2 q3
        have HN := Lib.hid (no rfl (fun e => q3 (by injection e)))
        go_enter Tryd.func12, Tryd.ntmps12
        go_wp2
        go_ret
        exact ⟨false, rfl, HN.out, B0 _ _⟩
    · have f : (xs == ys) = false := beq_eq_false_iff_ne.2 q2
      have HN := Lib.hid (no rfl (fun e => q2 (by injection e)))
      go_enter Tryd.func12, Tryd.ntmps12
      go_wp2
      go_ret
      exact ⟨false, rfl, HN.out, B0 _ _⟩
  · have f : (xv.toList == yv.toList) = false := by rw [beq_bytes]; exact decide_eq_false q1
    have HN := Lib.hid (no rfl (fun e => q1 (by injection e)))
    go_enter Tryd.func12, Tryd.ntmps12
    go_wp2
    go_ret
    exact ⟨false, rfl, HN.out, B0 _ _⟩
set_option maxHeartbeats 8000000 in
set_option maxRecDepth 100000 in
theorem print_calls (verb : ByteArray) (slice count : Int) (u : Nat) (names : List ByteArray) (L : ByteArray) (hL : Args.joinB (Args.txt ⟨verb, slice, count, u, names⟩) = L) (hline : L.size ≤ 100000) (hu : u ≤ 4294967295) (s0 : -9223372036854775808 ≤ slice) (s1 : slice ≤ 9223372036854775807) (c0 : -9223372036854775808 ≤ count) (c1 : count ≤ 9223372036854775807)
    (hv : verb.size ≤ 1000) (hn : names.length ≤ 1000) (hns : ∀ x ∈ names, x.size ≤ 1000) (B : Nat) (sl : Value) (w : World) (G : Good w) (S : Strs B w sl names) :
    Calls Tryd.prog 8 #[.agg #[.string verb, .int .i64 slice, .int .i64 count, .int .u32 u, sl]] w fun e w' => ∃ r k, e = .returned (.tuple #[.string r, .int .i64 k]) ∧ ((Args.prs right L = (⟨verb, slice, count, u, names⟩, 0) ∧ r = L ∧ k = 0) ∨ (¬ Args.prs right L = (⟨verb, slice, count, u, names⟩, 0) ∧ r = ⟨#[]⟩ ∧ k = 1)) ∧ Below w.heap.size w w' := by
  have G' := Lib.hid G
  have S' := Lib.hid S
  have HL := Lib.hid hL
  clear G hL
  have B0 : ∀ ob, Below w.heap.size w (w.alloc ob) := fun ob => (Below.refl _ _).alloc (Nat.le_refl _) _
  obtain ⟨sa0, sc0, rfl, -⟩ := S
  obtain ⟨⟨xv, xs, xc, xf, xn⟩, k, hP⟩ : ∃ X k, Args.prs right L = (X, k) := ⟨_, _, rfl⟩
  have HP := Lib.hid hP
  by_cases hk : k = 0
  · subst hk
    have hxn : xn.length ≤ 1000000 := by
      rcases Args.prs_ok right L _ hP with ⟨-, h⟩ | ⟨-, h⟩ | ⟨-, h⟩
      · have := h.2.2.2.2.2.2.1
        simp only at this
        omega
      · have := h.2.2.2
        simp only at this
        rw [this]; simp
      · have := h.2.2.2
        simp only at this
        rw [this]; simp
    clear hP
    by_cases hE : (⟨xv, xs, xc, xf, xn⟩ : Args.Ar) = ⟨verb, slice, count, u, names⟩
    · have HE := Lib.hid hE
      clear hE
      go_enter Tryd.func8, Tryd.ntmps8
      go_wp2_with (first
        | (go_at_call 11; refine (text_calls verb slice count u names hu s0 s1 c0 c1 hv hn hns B _ _ (G'.out.below (B0 _)) (S'.out.below (B0 _))).mono ?_; rintro e w2 ⟨rfl, hd⟩; have hb := Lib.hid ((B0 _).trans (hd.mono (B0 _).size)); have hA := Lib.hid ((Gy.Arr.fresh w [.string verb, .int .i64 slice, .int .i64 count, .int .u32 u, .slice sa0 names.length sc0] _ rfl 25).below hd); obtain ⟨k0, k1, k2, k3, k4, kf⟩ := arr5 hA.out; rw [HL.out]; clear hd)
        | (go_at_call 9; refine (parse_calls L hline _ (G'.out.below hb.out)).mono ?_; rintro e w3 ⟨B3, sl3, rfl, hs3, hd⟩; rw [HP.out] at hs3 ⊢; simp only [argV]; have HS3 := Lib.hid hs3; obtain ⟨sa3, sc3, rfl, -⟩ := hs3; have hb := Lib.hid (hb.out.trans (hd.mono hb.out.size)); have hA := Lib.hid (hA.out.below hd); obtain ⟨k0, k1, k2, k3, k4, kf⟩ := arr5 hA.out; have k0a := fun ob => (arr5 (hA.out.alloc ob)).1; have k1a := fun ob => (arr5 (hA.out.alloc ob)).2.1; have k2a := fun ob => (arr5 (hA.out.alloc ob)).2.2.1; have k3a := fun ob => (arr5 (hA.out.alloc ob)).2.2.2.1; have k4a := fun ob => (arr5 (hA.out.alloc ob)).2.2.2.2.1; clear hd)
        | (go_at_call 12; refine (same_calls xv verb xs slice xc count xf u xn names hxn (by omega) B3 B _ _ _ (HS3.out.below (Gy.alloc_below _ _)) (S'.out.below (hb.out.alloc hb.out.size _))).mono ?_; rintro e w4 ⟨b, rfl, hb4, hd⟩; obtain rfl : b = true := hb4.2 HE.out; have hb := Lib.hid ((hb.out.alloc hb.out.size _).trans (hd.mono (Nat.le_trans hb.out.size (Gy.alloc_below _ _).size))); clear hd hb4))
      go_ret2
      exact ⟨_, _, rfl, .inl ⟨by rw [HP.out, HE.out], rfl, rfl⟩, hb.out⟩
    · have HE := Lib.hid hE
      clear hE
      go_enter Tryd.func8, Tryd.ntmps8
      go_wp2_with (first
        | (go_at_call 11; refine (text_calls verb slice count u names hu s0 s1 c0 c1 hv hn hns B _ _ (G'.out.below (B0 _)) (S'.out.below (B0 _))).mono ?_; rintro e w2 ⟨rfl, hd⟩; have hb := Lib.hid ((B0 _).trans (hd.mono (B0 _).size)); have hA := Lib.hid ((Gy.Arr.fresh w [.string verb, .int .i64 slice, .int .i64 count, .int .u32 u, .slice sa0 names.length sc0] _ rfl 25).below hd); obtain ⟨k0, k1, k2, k3, k4, kf⟩ := arr5 hA.out; rw [HL.out]; clear hd)
        | (go_at_call 9; refine (parse_calls L hline _ (G'.out.below hb.out)).mono ?_; rintro e w3 ⟨B3, sl3, rfl, hs3, hd⟩; rw [HP.out] at hs3 ⊢; simp only [argV]; have HS3 := Lib.hid hs3; obtain ⟨sa3, sc3, rfl, -⟩ := hs3; have hb := Lib.hid (hb.out.trans (hd.mono hb.out.size)); have hA := Lib.hid (hA.out.below hd); obtain ⟨k0, k1, k2, k3, k4, kf⟩ := arr5 hA.out; have k0a := fun ob => (arr5 (hA.out.alloc ob)).1; have k1a := fun ob => (arr5 (hA.out.alloc ob)).2.1; have k2a := fun ob => (arr5 (hA.out.alloc ob)).2.2.1; have k3a := fun ob => (arr5 (hA.out.alloc ob)).2.2.2.1; have k4a := fun ob => (arr5 (hA.out.alloc ob)).2.2.2.2.1; clear hd)
        | (go_at_call 12; refine (same_calls xv verb xs slice xc count xf u xn names hxn (by omega) B3 B _ _ _ (HS3.out.below (Gy.alloc_below _ _)) (S'.out.below (hb.out.alloc hb.out.size _))).mono ?_; rintro e w4 ⟨b, rfl, hb4, hd⟩; obtain rfl : b = false := Bool.eq_false_iff.2 (fun h => HE.out (hb4.1 h)); have hb := Lib.hid ((hb.out.alloc hb.out.size _).trans (hd.mono (Nat.le_trans hb.out.size (Gy.alloc_below _ _).size))); clear hd hb4))
      go_ret2
      exact ⟨_, _, rfl, .inr ⟨fun e => HE.out (by rw [HP.out] at e; exact congrArg Prod.fst e), rfl, rfl⟩, hb.out⟩
  · have hkb : (k != 0) = true := bne_iff_ne.2 hk
    have HK := Lib.hid hk
    clear hP
    go_enter Tryd.func8, Tryd.ntmps8
    go_wp2_with (first
      | (go_at_call 11; refine (text_calls verb slice count u names hu s0 s1 c0 c1 hv hn hns B _ _ (G'.out.below (B0 _)) (S'.out.below (B0 _))).mono ?_; rintro e w2 ⟨rfl, hd⟩; have hb := Lib.hid ((B0 _).trans (hd.mono (B0 _).size)); have hA := Lib.hid ((Gy.Arr.fresh w [.string verb, .int .i64 slice, .int .i64 count, .int .u32 u, .slice sa0 names.length sc0] _ rfl 25).below hd); obtain ⟨k0, k1, k2, k3, k4, kf⟩ := arr5 hA.out; rw [HL.out]; clear hd)
      | (go_at_call 9; refine (parse_calls L hline _ (G'.out.below hb.out)).mono ?_; rintro e w3 ⟨B3, sl3, rfl, hs3, hd⟩; rw [HP.out] at hs3 ⊢; simp only [argV]; have HS3 := Lib.hid hs3; obtain ⟨sa3, sc3, rfl, -⟩ := hs3; have hb := Lib.hid (hb.out.trans (hd.mono hb.out.size)); have hA := Lib.hid (hA.out.below hd); obtain ⟨k0, k1, k2, k3, k4, kf⟩ := arr5 hA.out; have k0a := fun ob => (arr5 (hA.out.alloc ob)).1; have k1a := fun ob => (arr5 (hA.out.alloc ob)).2.1; have k2a := fun ob => (arr5 (hA.out.alloc ob)).2.2.1; have k3a := fun ob => (arr5 (hA.out.alloc ob)).2.2.2.1; have k4a := fun ob => (arr5 (hA.out.alloc ob)).2.2.2.2.1; clear hd))
    go_ret2
    exact ⟨_, _, rfl, .inr ⟨fun e => HK.out (by rw [HP.out] at e; exact congrArg Prod.snd e), rfl, rfl⟩, hb.out.alloc hb.out.size _⟩
end Go.Proofs.YtfdfijohcapgaaaDoor.Path

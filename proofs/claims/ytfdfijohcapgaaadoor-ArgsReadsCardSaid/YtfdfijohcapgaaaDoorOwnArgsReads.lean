/- The law ArgsReads: it answers true. -/
import Derived.Test.YtfdfijohcapgaaaDoorArgsW
namespace Go.Proofs.YtfdfijohcapgaaaDoor.Path
open Go Go.RowKit Go.Shelf Go.Proofs.YtfdfijohcapgaaaDoor.QPart Go.Proofs.YtfdfijohcapgaaaDoorW.PrintWords Go.Proofs.YtfdfijohcapgaaaDoorW.PrintLast Go.Proofs.YtfdfijohcapgaaaDoorW.PrintMore
set_option maxHeartbeats 8000000 in
set_option maxRecDepth 100000 in
theorem reads (s : ByteArray) (hs0 : s.size ≤ 9223372036854775807) (w : World) (G : Good w) :
    Calls Tryd.prog 4 #[.string s] w fun e w' => e = .returned (.bool true) ∧ Below w.heap.size w w' := by
  have G' := Lib.hid G
  clear G
  by_cases hs : s.size ≤ 2000
  · have g1 : ¬ ((s.size : Int) > 2000) := by omega
    have hsp : s.size ≤ 100000 := by omega
    obtain ⟨⟨xv, xs, xc, xf, xn⟩, k, hP⟩ : ∃ X k, Args.prs right s = (X, k) := ⟨_, _, rfl⟩
    have HP := Lib.hid hP
    by_cases hk : k = 0
    · subst hk
      have htx := Args.prs_txt right s _ hP
      have HL := Lib.hid htx.1
      have hle := htx.2
      have hfr := prs_frm s _ hP
      simp only at hfr
      have HB := Lib.hid (bnd_ok (Args.prs_ok right s _ hP))
      obtain ⟨u, rfl⟩ : ∃ u : Nat, xf = u := ⟨xf.toNat, by omega⟩
      have hu : u ≤ 4294967295 := by omega
      have g2 : ¬ ((s.size : Int) > 1000) := by omega
      have t1 : (s.toList == s.toList) = true := by simp
      clear hP htx hle hfr
      go_enter Tryd.func4, Tryd.ntmps4
      go_wp2_with (first
        | (go_at_call 5; refine (awake_calls _ G'.out).mono ?_; rintro e w1 ⟨rfl, hd⟩; have hb := Lib.hid hd; clear hd)
        | (go_at_call 9; refine (parse_calls s hsp _ (G'.out.below hb.out)).mono ?_; rintro e w3 ⟨B3, sl3, rfl, hs3, hd⟩; rw [HP.out] at hs3 ⊢; simp only [argV]; have HS3 := Lib.hid hs3; obtain ⟨sa3, sc3, rfl, -⟩ := hs3; have hb := Lib.hid (hb.out.trans (hd.mono hb.out.size)); clear hd)
        | (go_at_call 8; refine (print_calls xv xs xc u xn s HL.out hsp hu HB.out.s0 HB.out.s1 HB.out.c0 HB.out.c1 HB.out.v HB.out.n HB.out.ns B3 _ _ (G'.out.below (hb.out.alloc hb.out.size _)) (HS3.out.below (Gy.alloc_below _ _))).mono ?_; rintro e w4 ⟨r4, k4, rfl, hr4, hd⟩; have hb := Lib.hid ((hb.out.alloc hb.out.size _).trans (hd.mono (Nat.le_trans hb.out.size (Gy.alloc_below _ _).size))); obtain ⟨rfl, rfl⟩ := (hr4.resolve_right (fun h => h.1 HP.out)).2; clear hd hr4))
      go_ret
      exact ⟨rfl, hb.out⟩
    · have hno := Args.prs_no right s (by rw [hP]; exact hk)
      rw [hP] at hno
      simp only at hno
      obtain ⟨hX, hno⟩ := hno
      obtain ⟨rfl, rfl, rfl, rfl, rfl⟩ : xv = ⟨#[]⟩ ∧ xs = 0 ∧ xc = 0 ∧ xf = 0 ∧ xn = [] := by injection hX with a b c d e; exact ⟨a, b, c, d, e⟩
      clear hX hk hP
      rcases hno with ⟨h1, rfl⟩ | ⟨h1, hk⟩
      · have g2 : ((s.size : Int) > 1000) := by omega
        go_enter Tryd.func4, Tryd.ntmps4
        go_wp2_with (first
          | (go_at_call 5; refine (awake_calls _ G'.out).mono ?_; rintro e w1 ⟨rfl, hd⟩; have hb := Lib.hid hd; clear hd)
          | (go_at_call 9; refine (parse_calls s hsp _ (G'.out.below hb.out)).mono ?_; rintro e w3 ⟨B3, sl3, rfl, hs3, hd⟩; rw [HP.out] at hs3 ⊢; simp only [argV]; have HS3 := Lib.hid hs3; obtain ⟨sa3, sc3, rfl, -⟩ := hs3; have hb := Lib.hid (hb.out.trans (hd.mono hb.out.size)); clear hd))
        go_ret
        exact ⟨rfl, hb.out.alloc hb.out.size _⟩
      · have g2 : ¬ ((s.size : Int) > 1000) := by omega
        rcases hk with rfl | rfl | rfl | rfl
        · go_enter Tryd.func4, Tryd.ntmps4
          go_wp2_with (first
            | (go_at_call 5; refine (awake_calls _ G'.out).mono ?_; rintro e w1 ⟨rfl, hd⟩; have hb := Lib.hid hd; clear hd)
            | (go_at_call 9; refine (parse_calls s hsp _ (G'.out.below hb.out)).mono ?_; rintro e w3 ⟨B3, sl3, rfl, hs3, hd⟩; rw [HP.out] at hs3 ⊢; simp only [argV]; have HS3 := Lib.hid hs3; obtain ⟨sa3, sc3, rfl, -⟩ := hs3; have hb := Lib.hid (hb.out.trans (hd.mono hb.out.size)); clear hd))
          go_ret
          exact ⟨rfl, hb.out.alloc hb.out.size _⟩
        · go_enter Tryd.func4, Tryd.ntmps4
          go_wp2_with (first
            | (go_at_call 5; refine (awake_calls _ G'.out).mono ?_; rintro e w1 ⟨rfl, hd⟩; have hb := Lib.hid hd; clear hd)
            | (go_at_call 9; refine (parse_calls s hsp _ (G'.out.below hb.out)).mono ?_; rintro e w3 ⟨B3, sl3, rfl, hs3, hd⟩; rw [HP.out] at hs3 ⊢; simp only [argV]; have HS3 := Lib.hid hs3; obtain ⟨sa3, sc3, rfl, -⟩ := hs3; have hb := Lib.hid (hb.out.trans (hd.mono hb.out.size)); clear hd))
          go_ret
          exact ⟨rfl, hb.out.alloc hb.out.size _⟩
        · go_enter Tryd.func4, Tryd.ntmps4
          go_wp2_with (first
            | (go_at_call 5; refine (awake_calls _ G'.out).mono ?_; rintro e w1 ⟨rfl, hd⟩; have hb := Lib.hid hd; clear hd)
            | (go_at_call 9; refine (parse_calls s hsp _ (G'.out.below hb.out)).mono ?_; rintro e w3 ⟨B3, sl3, rfl, hs3, hd⟩; rw [HP.out] at hs3 ⊢; simp only [argV]; have HS3 := Lib.hid hs3; obtain ⟨sa3, sc3, rfl, -⟩ := hs3; have hb := Lib.hid (hb.out.trans (hd.mono hb.out.size)); clear hd))
          go_ret
          exact ⟨rfl, hb.out.alloc hb.out.size _⟩
        · go_enter Tryd.func4, Tryd.ntmps4
          go_wp2_with (first
            | (go_at_call 5; refine (awake_calls _ G'.out).mono ?_; rintro e w1 ⟨rfl, hd⟩; have hb := Lib.hid hd; clear hd)
            | (go_at_call 9; refine (parse_calls s hsp _ (G'.out.below hb.out)).mono ?_; rintro e w3 ⟨B3, sl3, rfl, hs3, hd⟩; rw [HP.out] at hs3 ⊢; simp only [argV]; have HS3 := Lib.hid hs3; obtain ⟨sa3, sc3, rfl, -⟩ := hs3; have hb := Lib.hid (hb.out.trans (hd.mono hb.out.size)); clear hd))
          go_ret
          exact ⟨rfl, hb.out.alloc hb.out.size _⟩
  · have g1 : ((s.size : Int) > 2000) := by omega
    go_enter Tryd.func4, Tryd.ntmps4
    go_wp2_with ((go_at_call 5; first | (refine (awake_calls _ (G'.out.below hb1.out)).mono ?_; rintro e w2 ⟨rfl, hd⟩; have hb2 := Lib.hid hd; clear hd) | (refine (awake_calls _ G'.out).mono ?_; rintro e w1 ⟨rfl, hd⟩; have hb1 := Lib.hid hd; clear hd)))
    go_ret
    exact ⟨rfl, hb1.out.trans (hb2.out.mono hb1.out.size)⟩
end Go.Proofs.YtfdfijohcapgaaaDoor.Path

/- The law ArgsBack: create, all numbers in their bounds. -/
import Derived.Test.YtfdfijohcapgaaaDoorArgsY
namespace Go.Proofs.YtfdfijohcapgaaaDoor.Path
open Go Go.RowKit Go.Shelf Go.Proofs.YtfdfijohcapgaaaDoor.QPart Go.Proofs.YtfdfijohcapgaaaDoorW.PrintWords Go.Proofs.YtfdfijohcapgaaaDoorW.PrintLast Go.Proofs.YtfdfijohcapgaaaDoorW.PrintMore
set_option maxHeartbeats 16000000 in
set_option maxRecDepth 100000 in
/-- the names may be, or not -/
theorem back_cr
    (verb : ByteArray) (slice count : Int) (u : Nat) (names : List ByteArray) (s0 : -9223372036854775808 ≤ slice) (s1 : slice ≤ 9223372036854775807) (c0 : -9223372036854775808 ≤ count) (c1 : count ≤ 9223372036854775807) (hu : u ≤ 4294967295)
    (hv : verb.size ≤ 100) (hn : names.length ≤ 20) (B : Nat) (sl : Value) (w : World) (G : Good w) (S : Strs B w sl names)
    (t1 : (verb.toList == ([99, 114, 101, 97, 116, 101] : List UInt8)) = true) (p1 : 1 ≤ slice) (p2 : slice ≤ 256) (p3 : 0 ≤ count) (p4 : count ≤ 64) (b5 : ((u : Int) == 0) = true) (h6 : 1 ≤ names.length) (h7 : names.length ≤ 8) (hex : Hid (verb = Args.crB)) :
    Calls Tryd.prog 3 #[.agg #[.string verb, .int .i64 slice, .int .i64 count, .int .u32 u, sl]] w fun e w' => e = .returned (.bool true) ∧ Below w.heap.size w w' := by
  have G' := Lib.hid G
  have S' := Lib.hid S
  clear G
  obtain ⟨sa, sc, rfl, -⟩ := S
  obtain ⟨N, hN⟩ : ∃ N, names.length = N := ⟨_, rfl⟩
  have HN := Lib.hid hN
  rw [hN] at hn S' ⊢
  clear hN
  have HK := Lib.hid (bk_start w (.string verb) (.int .i64 slice) (.int .i64 count) (.int .u32 u) (.slice sa N sc) 25)
  have gv : ¬ ((verb.size : Int) > 100) := by omega
  have gn : ¬ ((N : Int) > 20) := by omega
  go_enter Tryd.func3, Tryd.ntmps3
  go_wp2_with (go_at_call 5; refine (awake_calls _ (G'.out.below HK.out.b)).mono ?_; rintro e w1 ⟨rfl, hd⟩; have HK := Lib.hid (HK.out.below hd); obtain ⟨k0, k1, k2, k3, k4, kf⟩ := arr5 HK.out.a; clear hd)
  clear k0 k1 k2 k3 k4 kf
  go_loopg [30] (N + 1) (fun kq v30 w' => ∃ i : Nat, v30 = .int .i64 (i : Int) ∧ Hid (i + kq = N + 1 ∧ i ≤ N ∧ ∀ x ∈ names.take i, x.size ≤ 100) ∧ Hid (Bk w w' [.string verb, .int .i64 slice, .int .i64 count, .int .u32 u, .slice sa N sc]))
  case atStart => exact ⟨0, rfl, Lib.hid ⟨by omega, by omega, by simp⟩, HK⟩
  case round =>
    clear HK
    obtain ⟨i, rfl, hi, HK⟩ := hrel
    obtain ⟨k0, k1, k2, k3, k4, kf⟩ := arr5 HK.out.a
    cases gk with
    | zero => exact absurd hi.out.1 (by have := hi.out.2.1; omega)
    | succ k9 =>
      by_cases hlt : i < N
      · obtain ⟨o, rfl, HR⟩ : ∃ o, sa = some ⟨B, o, none⟩ ∧ Row B o names w := strs_row S'.out HN.out hlt
        obtain ⟨nm, hnm⟩ : ∃ nm, names.getD i ⟨#[]⟩ = nm := ⟨_, rfl⟩
        have x1 := (HR.below HK.out.b).cells i (by rw [HN.out]; exact hlt)
        rw [hnm] at x1
        have hni := Lib.hid (getD_some hnm (by rw [HN.out]; exact hlt))
        clear hnm HR
        have g1 : (i : Int) < (N : Int) := by omega
        by_cases h100 : nm.size ≤ 100
        · have g2 : ¬ ((nm.size : Int) > 100) := by omega
          go_wp2
          go_roundg k9
          case measure => omega
          case rel => exact ⟨i + 1, congrArg _ (by omega), Lib.hid ⟨by have := hi.out.1; omega, by omega, take_le hi.out.2.2 hni.out h100⟩, HK⟩
        · have g2 : ((nm.size : Int) > 100) := by omega
          go_wp2
          go_ret
          exact ⟨rfl, HK.out.b⟩
      · have hiN : N = i := by have := hi.out.2.1; omega
        subst hiN
        have g1 : ¬ ((N : Int) < (N : Int)) := by omega
        have hsz : Hid (∀ x ∈ names, x.size ≤ 100) := Lib.hid (by
          have h := hi.out.2.2
          rw [← HN.out, List.take_length] at h
          exact h)
        clear hlt hi
        have HLn : Hid ((Args.joinB (Args.txt ⟨verb, slice, count, u, names⟩)).size ≤ 100000) := Lib.hid (line_le s0 s1 c0 c1 hu hv (by rw [HN.out]; exact hn) hsz.out)
        have n6 : (N : Int) ≥ 1 := by rw [HN.out] at h6; omega
        have n7 : (N : Int) ≤ 8 := by rw [HN.out] at h7; omega
        clear h6 h7
        have HU0 : Hid ((u : Int) = 0) := Lib.hid (beq_iff_eq.1 b5)
        obtain ⟨sn, rfl⟩ : ∃ sn : Nat, slice = sn := ⟨slice.toNat, by omega⟩
        obtain ⟨cn, rfl⟩ : ∃ cn : Nat, count = cn := ⟨count.toNat, by omega⟩
        have hu1 : cn ≤ 4294967295 := by omega
        have hu2 : sn ≤ 4294967295 := by omega
        have hws : IntKind.u64.wrap (sn : Int) = (sn : Int) := by rw [IntKind.wrap_u64]; omega
        have hwc : IntKind.u64.wrap (cn : Int) = (cn : Int) := by rw [IntKind.wrap_u64]; omega
        go_wp2
        clear k0 k1 k2 k3 k4 kf
        go_loopg [85, 5] (N + 1) (fun kq v85 v5 w' => ∃ (i : Nat) (bi : Bool), v85 = .int .i64 (i : Int) ∧ v5 = .bool bi ∧ Hid (i + kq = N + 1 ∧ i ≤ N ∧ bi = (names.take i).all right) ∧ Hid (Bk w w' [.string verb, .int .i64 (sn : Int), .int .i64 (cn : Int), .int .u32 u, .slice sa N sc]))
        case atStart => exact ⟨0, true, rfl, rfl, Lib.hid ⟨by omega, by omega, by simp⟩, HK⟩
        case round =>
          clear HK
          obtain ⟨i, bi, rfl, rfl, hi, HK⟩ := hrel
          obtain ⟨k0, k1, k2, k3, k4, kf⟩ := arr5 HK.out.a
          cases gk with
          | zero => exact absurd hi.out.1 (by have := hi.out.2.1; omega)
          | succ k9 =>
            by_cases hlt : i < N
            · obtain ⟨o, rfl, HR⟩ : ∃ o, sa = some ⟨B, o, none⟩ ∧ Row B o names w := strs_row S'.out HN.out hlt
              obtain ⟨nm, hnm⟩ : ∃ nm, names.getD i ⟨#[]⟩ = nm := ⟨_, rfl⟩
              have x1 := (HR.below HK.out.b).cells i (by rw [HN.out]; exact hlt)
              rw [hnm] at x1
              have hni := Lib.hid (getD_some hnm (by rw [HN.out]; exact hlt))
              clear hnm HR
              have g1 : (i : Int) < (N : Int) := by omega
              cases bi with
              | false =>
                go_wp2
                go_roundg k9
                case measure => omega
                case rel => exact ⟨i + 1, false, congrArg _ (by omega), rfl, Lib.hid ⟨by have := hi.out.1; omega, by omega, by
                  rw [List.take_add_one, List.all_append, hni.out, ← hi.out.2.2]; simp⟩, HK⟩
              | true =>
                have HPn0 := path_says nm (by have := hsz.out nm (List.mem_of_getElem? hni.out); omega)
                cases hpb : right nm with
                | false =>
                  have hq := Lib.hid hpb
                  rw [hpb] at HPn0
                  have HPn := Lib.hid HPn0
                  clear hpb HPn0
                  go_wp2_with (go_at_call 6; refine (geyserref14_Path.calls _ _ _ _ HPn.out).mono ?_; rintro e w2 ⟨rfl, hd⟩; have HK := Lib.hid (HK.out.below hd.below); obtain ⟨k0, k1, k2, k3, k4, kf⟩ := arr5 HK.out.a; clear hd)
                  go_roundg k9
                  case measure => omega
                  case rel => exact ⟨i + 1, false, congrArg _ (by omega), rfl, Lib.hid ⟨by have := hi.out.1; omega, by omega, by
                    rw [List.take_add_one, List.all_append, hni.out, ← hi.out.2.2]; simp [hq.out]⟩, HK⟩
                | true =>
                  have hq := Lib.hid hpb
                  rw [hpb] at HPn0
                  have HPn := Lib.hid HPn0
                  clear hpb HPn0
                  go_wp2_with (go_at_call 6; refine (geyserref14_Path.calls _ _ _ _ HPn.out).mono ?_; rintro e w2 ⟨rfl, hd⟩; have HK := Lib.hid (HK.out.below hd.below); obtain ⟨k0, k1, k2, k3, k4, kf⟩ := arr5 HK.out.a; clear hd)
                  go_roundg k9
                  case measure => omega
                  case rel => exact ⟨i + 1, true, congrArg _ (by omega), rfl, Lib.hid ⟨by have := hi.out.1; omega, by omega, by
                    rw [List.take_add_one, List.all_append, hni.out, ← hi.out.2.2]; simp [hq.out]⟩, HK⟩
            · have hiN : N = i := by have := hi.out.2.1; omega
              subst hiN
              have g1 : ¬ ((N : Int) < (N : Int)) := by omega
              cases bi with
              | false =>
                have HQ : Hid (¬ Args.okA right ⟨verb, sn, cn, u, names⟩) := Lib.hid (by
                  have h := hi.out.2.2
                  rw [← HN.out, List.take_length] at h
                  rintro (h2 | h2 | h2)
                  · have h3 := h2.2.2.2.2.2.2.2.2
                    simp only at h3
                    rw [← h] at h3; cases h3
                  · exact absurd (hex.out.symm.trans h2.1) (by decide)
                  · rcases h2.1 with h3 | h3 | h3 <;> exact absurd (hex.out.symm.trans h3) (by decide))
                go_wp2_with (go_at_call 8; refine (print_calls verb sn cn u names _ rfl HLn.out hu s0 s1 c0 c1 (by omega) (by rw [HN.out]; omega) (fun x hx => Nat.le_trans (hsz.out x hx) (by decide)) B _ _ (G'.out.below HK.out.b) (S'.out.below HK.out.b)).mono ?_; rintro e w4 ⟨r4, k4', rfl, hr4, hd⟩; have HK := Lib.hid (HK.out.below hd); obtain ⟨rfl, rfl⟩ := (hr4.resolve_left (fun h => HQ.out (Args.prs_ok right _ _ h.1))).2; clear hd hr4)
                go_ret
                exact ⟨rfl, HK.out.b⟩
              | true =>
                have hall : Hid (names.all right = true) := Lib.hid (by
                  have h := hi.out.2.2
                  rw [← HN.out, List.take_length] at h
                  exact h.symm)
                clear hi hlt
                have i1 := Args.itB_size sn (by omega) (by omega)
                have i2 := Args.itB_size cn (by omega) (by omega)
                have z1 : ¬ 9223372036854775807 < verb.size + 1 := by omega
                have z2 : ¬ 9223372036854775807 < verb.size + 1 + (Args.itB sn).size := by omega
                have z3 : ¬ 9223372036854775807 < verb.size + 1 + (Args.itB sn).size + 1 := by omega
                have z4 : ¬ 9223372036854775807 < verb.size + 1 + (Args.itB sn).size + 1 + (Args.itB cn).size := by omega
                go_wp2
                clear k0 k1 k2 k3 k4 kf
                have HK := Lib.hid (HK.out.below (Gy.drew_below _))
                obtain ⟨k0, k1, k2, k3, k4, kf⟩ := arr5 HK.out.a
                apply region_last (Inv := fun w5 => Bk w w5 [.string verb, .int .i64 (sn : Int), .int .i64 (cn : Int), .int .u32 u, .slice sa N sc])
                case h =>
                  go_region_with (go_at_call 7; refine (ldigits_calls _ (by first | exact hu | exact hu1 | exact hu2) _).mono ?_; rintro e w4 ⟨rfl, hd⟩; have HK := Lib.hid (HK.out.below hd); obtain ⟨k0, k1, k2, k3, k4, kf⟩ := arr5 HK.out.a; clear hd)
                  · exact ⟨rfl, HK.out⟩
                  all_goals exact ⟨by kernel_rfl, HK.out⟩
                case k =>
                  intro w5 hK5
                  clear HK k0 k1 k2 k3 k4 kf
                  have HK := Lib.hid hK5
                  clear hK5
                  obtain ⟨k0, k1, k2, k3, k4, kf⟩ := arr5 HK.out.a
                  have hWs : ((verb ++ ⟨#[32]⟩ ++ Args.itB sn ++ ⟨#[32]⟩ ++ Args.itB cn)).size ≤ 144 := by
                    simp only [ByteArray.size_append]
                    have h1 : (⟨#[32]⟩ : ByteArray).size = 1 := rfl
                    omega
                  obtain ⟨W, hW⟩ : ∃ W, (verb ++ ⟨#[32]⟩ ++ Args.itB sn ++ ⟨#[32]⟩ ++ Args.itB cn) = W := ⟨_, rfl⟩
                  have HW := Lib.hid hW
                  rw [hW]
                  rw [hW] at hWs
                  have HWs := Lib.hid hWs
                  clear hW hWs z1 z2 z3 z4 i1 i2
                  go_wp2
                  clear k0 k1 k2 k3 k4 kf
                  go_loopg [115, 4] (N + 1) (fun kq v115 v4 w' => ∃ (i : Nat) (S : ByteArray), v115 = .int .i64 (i : Int) ∧ v4 = .string S ∧ Hid (i + kq = N + 1 ∧ i ≤ N) ∧ Hid (S = Args.addB W (names.take i) ∧ S.size ≤ 5000) ∧ Hid (Bk w w' [.string verb, .int .i64 (sn : Int), .int .i64 (cn : Int), .int .u32 u, .slice sa N sc]))
                  case atStart => exact ⟨0, W, rfl, rfl, Lib.hid ⟨by omega, by omega⟩, Lib.hid ⟨rfl, by have := HWs.out; omega⟩, HK⟩
                  case round =>
                    clear HK
                    obtain ⟨i, S, rfl, rfl, hi, HSS, HK⟩ := hrel
                    obtain ⟨k0, k1, k2, k3, k4, kf⟩ := arr5 HK.out.a
                    cases gk with
                    | zero => exact absurd hi.out.1 (by have := hi.out.2; omega)
                    | succ k9 =>
                      by_cases hlt : i < N
                      · obtain ⟨o, rfl, HR⟩ : ∃ o, sa = some ⟨B, o, none⟩ ∧ Row B o names w := strs_row S'.out HN.out hlt
                        obtain ⟨nm, hnm⟩ : ∃ nm, names.getD i ⟨#[]⟩ = nm := ⟨_, rfl⟩
                        have x1 := (HR.below HK.out.b).cells i (by rw [HN.out]; exact hlt)
                        rw [hnm] at x1
                        have hni := Lib.hid (getD_some hnm (by rw [HN.out]; exact hlt))
                        clear hnm HR
                        have g1 : (i : Int) < (N : Int) := by omega
                        have hsn : nm.size ≤ 100 := hsz.out nm (List.mem_of_getElem? hni.out)
                        have hS5 := HSS.out.2
                        have z5 : ¬ 9223372036854775807 < S.size + 1 := by omega
                        have z6 : ¬ 9223372036854775807 < S.size + 1 + nm.size := by omega
                        clear hS5 hsn
                        go_wp2
                        go_roundg k9
                        case measure => omega
                        case rel => exact ⟨i + 1, S ++ ⟨#[32]⟩ ++ nm, congrArg _ (by omega), rfl, Lib.hid ⟨by have := hi.out.1; omega, by omega⟩, Lib.hid (add_next HSS.out.1 hni.out HWs.out hsz.out (by rw [HN.out]; exact hn)), HK⟩
                      · have hiN : N = i := by have := hi.out.2; omega
                        subst hiN
                        have g1 : ¬ ((N : Int) < (N : Int)) := by omega
                        have HL : Hid (Args.joinB (Args.txt ⟨verb, sn, cn, u, names⟩) = S) := Lib.hid (by
                            have e : Args.txt ⟨verb, sn, cn, u, names⟩ = verb :: Args.itB sn :: Args.itB cn :: names := by
                              simp only [Args.txt, hex.out, if_true]
                            rw [e, HSS.out.1, List.take_of_length_le (Nat.le_of_eq HN.out), ← HW.out, ← Args.addB_join]; rfl)
                        rw [HL.out] at HLn
                        have HP : Hid (Args.prs right S = (⟨verb, sn, cn, u, names⟩, 0)) := Lib.hid (by
                          have h := Args.prs_line right right_word ⟨verb, sn, cn, u, names⟩ (by simp only; omega) (by simp only; omega) (.inl ⟨hex.out, by simp only; omega, by simp only; omega, by simp only; omega, by simp only; omega, HU0.out, by simp only; rw [HN.out]; omega, by simp only; rw [HN.out]; omega, hall.out⟩)
                          rw [HL.out] at h
                          exact h)
                        have tW : (S.toList == S.toList) = true := by simp
                        go_wp2_with (first
                          | (go_at_call 8; refine (print_calls verb sn cn u names S HL.out HLn.out hu s0 s1 c0 c1 (by omega) (by rw [HN.out]; omega) (fun x hx => Nat.le_trans (hsz.out x hx) (by decide)) B _ _ (G'.out.below HK.out.b) (S'.out.below HK.out.b)).mono ?_; rintro e w4 ⟨r4, k4', rfl, hr4, hd⟩; have HK := Lib.hid (HK.out.below hd); obtain ⟨er, ek⟩ := (hr4.resolve_right (fun h => h.1 HP.out)).2; rw [er, ek]; clear hd hr4 er ek)
                          | (go_at_call 9; refine (parse_calls S HLn.out _ (G'.out.below HK.out.b)).mono ?_; rintro e w5 ⟨B3, sl3, rfl, hs3, hd⟩; rw [HP.out] at hs3 ⊢; simp only [argV]; have HS3 := Lib.hid hs3; obtain ⟨sa3, sc3, rfl, -⟩ := hs3; have HK := Lib.hid (HK.out.below hd); have k0a := fun ob => (arr5 (HK.out.a.alloc ob)).1; have k1a := fun ob => (arr5 (HK.out.a.alloc ob)).2.1; have k2a := fun ob => (arr5 (HK.out.a.alloc ob)).2.2.1; have k3a := fun ob => (arr5 (HK.out.a.alloc ob)).2.2.2.1; have k4a := fun ob => (arr5 (HK.out.a.alloc ob)).2.2.2.2.1; clear hd)
                          | (go_at_call 10; refine (lsame_calls verb sn cn u names (by rw [HN.out]; omega) B3 B _ _ _ (HS3.out.below (Gy.alloc_below _ _)) (S'.out.below (HK.out.b.alloc HK.out.b.size _))).mono ?_; rintro e w6 ⟨rfl, hd⟩; have hb := Lib.hid ((HK.out.b.alloc HK.out.b.size _).trans (hd.mono (Nat.le_trans HK.out.b.size (Gy.alloc_below _ _).size))); clear hd))
                        go_ret
                        exact ⟨rfl, hb.out⟩
end Go.Proofs.YtfdfijohcapgaaaDoor.Path

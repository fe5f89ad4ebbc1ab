/- The law ArgsBack: extend. -/
import Derived.Test.YtfdfijohcapgaaaDoorArgsY
namespace Go.Proofs.YtfdfijohcapgaaaDoor.Path
open Go Go.RowKit Go.Shelf Go.Proofs.YtfdfijohcapgaaaDoor.QPart Go.Proofs.YtfdfijohcapgaaaDoorW.PrintWords Go.Proofs.YtfdfijohcapgaaaDoorW.PrintLast Go.Proofs.YtfdfijohcapgaaaDoorW.PrintMore
set_option maxHeartbeats 16000000 in
set_option maxRecDepth 100000 in
/-- no length of slices may be told -/
theorem back_ex1
    (verb : ByteArray) (slice count : Int) (u : Nat) (names : List ByteArray) (s0 : -9223372036854775808 ≤ slice) (s1 : slice ≤ 9223372036854775807) (c0 : -9223372036854775808 ≤ count) (c1 : count ≤ 9223372036854775807) (hu : u ≤ 4294967295)
    (hv : verb.size ≤ 100) (hn : names.length ≤ 20) (B : Nat) (sl : Value) (w : World) (G : Good w) (S : Strs B w sl names)
    (t1 : (verb.toList == ([99, 114, 101, 97, 116, 101] : List UInt8)) = false) (t2 : (verb.toList == ([101, 120, 116, 101, 110, 100] : List UInt8)) = true) (b1 : (slice == 0) = false) (HQ : Hid (¬ Args.okA right ⟨verb, slice, count, u, names⟩)) :
    Calls Tryd.prog 3 #[.agg #[.string verb, .int .i64 slice, .int .i64 count, .int .u32 u, sl]] w fun e w' => e = .returned (.bool true) ∧ Below w.heap.size w w' := by
  have G' := Lib.hid G
  have S' := Lib.hid S
  clear G
  obtain ⟨sa, sc, rfl, -⟩ := S
  obtain ⟨N, hN⟩ : ∃ N, names.length = N := ⟨_, rfl⟩
  have HN := Lib.hid hN
  rw [hN] at hn S' ⊢
  clear hN
  have HK := Lib.hid (bk_start w (.string verb) (.int .i64 slice) (.int .i64 count) (.int .u32 u) (.slice sa N sc) 25)
  have gv : ¬ ((verb.size : Int) > 100) := by omega
  have gn : ¬ ((N : Int) > 20) := by omega
  go_enter Tryd.func3, Tryd.ntmps3
  go_wp2_with (go_at_call 5; refine (awake_calls _ (G'.out.below HK.out.b)).mono ?_; rintro e w1 ⟨rfl, hd⟩; have HK := Lib.hid (HK.out.below hd); obtain ⟨k0, k1, k2, k3, k4, kf⟩ := arr5 HK.out.a; clear hd)
  clear k0 k1 k2 k3 k4 kf
  go_loopg [30] (N + 1) (fun kq v30 w' => ∃ i : Nat, v30 = .int .i64 (i : Int) ∧ Hid (i + kq = N + 1 ∧ i ≤ N ∧ ∀ x ∈ names.take i, x.size ≤ 100) ∧ Hid (Bk w w' [.string verb, .int .i64 slice, .int .i64 count, .int .u32 u, .slice sa N sc]))
  case atStart => exact ⟨0, rfl, Lib.hid ⟨by omega, by omega, by simp⟩, HK⟩
  case round =>
    clear HK
    obtain ⟨i, rfl, hi, HK⟩ := hrel
    obtain ⟨k0, k1, k2, k3, k4, kf⟩ := arr5 HK.out.a
    cases gk with
    | zero => exact absurd hi.out.1 (by have := hi.out.2.1; omega)
    | succ k9 =>
      by_cases hlt : i < N
      · obtain ⟨o, rfl, HR⟩ : ∃ o, sa = some ⟨B, o, none⟩ ∧ Row B o names w := strs_row S'.out HN.out hlt
        obtain ⟨nm, hnm⟩ : ∃ nm, names.getD i ⟨#[]⟩ = nm := ⟨_, rfl⟩
        have x1 := (HR.below HK.out.b).cells i (by rw [HN.out]; exact hlt)
        rw [hnm] at x1
        have hni := Lib.hid (getD_some hnm (by rw [HN.out]; exact hlt))
        clear hnm HR
        have g1 : (i : Int) < (N : Int) := by omega
        by_cases h100 : nm.size ≤ 100
        · have g2 : ¬ ((nm.size : Int) > 100) := by omega
          go_wp2
          go_roundg k9
          case measure => omega
          case rel => exact ⟨i + 1, congrArg _ (by omega), Lib.hid ⟨by have := hi.out.1; omega, by omega, take_le hi.out.2.2 hni.out h100⟩, HK⟩
        · have g2 : ((nm.size : Int) > 100) := by omega
          go_wp2
          go_ret
          exact ⟨rfl, HK.out.b⟩
      · have hiN : N = i := by have := hi.out.2.1; omega
        subst hiN
        have g1 : ¬ ((N : Int) < (N : Int)) := by omega
        have hsz : Hid (∀ x ∈ names, x.size ≤ 100) := Lib.hid (by
          have h := hi.out.2.2
          rw [← HN.out, List.take_length] at h
          exact h)
        clear hlt hi
        have HLn : Hid ((Args.joinB (Args.txt ⟨verb, slice, count, u, names⟩)).size ≤ 100000) := Lib.hid (line_le s0 s1 c0 c1 hu hv (by rw [HN.out]; exact hn) hsz.out)
        go_wp2_with (go_at_call 8; refine (print_calls verb slice count u names _ rfl HLn.out hu s0 s1 c0 c1 (by omega) (by rw [HN.out]; omega) (fun x hx => Nat.le_trans (hsz.out x hx) (by decide)) B _ _ (G'.out.below HK.out.b) (S'.out.below HK.out.b)).mono ?_; rintro e w4 ⟨r4, k4', rfl, hr4, hd⟩; have HK := Lib.hid (HK.out.below hd); obtain ⟨rfl, rfl⟩ := (hr4.resolve_left (fun h => HQ.out (Args.prs_ok right _ _ h.1))).2; clear hd hr4)
        go_ret
        exact ⟨rfl, HK.out.b⟩
set_option maxHeartbeats 16000000 in
set_option maxRecDepth 100000 in
/-- too few -/
theorem back_ex2
    (verb : ByteArray) (slice count : Int) (u : Nat) (names : List ByteArray) (s0 : -9223372036854775808 ≤ slice) (s1 : slice ≤ 9223372036854775807) (c0 : -9223372036854775808 ≤ count) (c1 : count ≤ 9223372036854775807) (hu : u ≤ 4294967295)
    (hv : verb.size ≤ 100) (hn : names.length ≤ 20) (B : Nat) (sl : Value) (w : World) (G : Good w) (S : Strs B w sl names)
    (t1 : (verb.toList == ([99, 114, 101, 97, 116, 101] : List UInt8)) = false) (t2 : (verb.toList == ([101, 120, 116, 101, 110, 100] : List UInt8)) = true) (b1 : (slice == 0) = true) (p2 : ¬ 1 ≤ count) (HQ : Hid (¬ Args.okA right ⟨verb, slice, count, u, names⟩)) :
    Calls Tryd.prog 3 #[.agg #[.string verb, .int .i64 slice, .int .i64 count, .int .u32 u, sl]] w fun e w' => e = .returned (.bool true) ∧ Below w.heap.size w w' := by
  have G' := Lib.hid G
  have S' := Lib.hid S
  clear G
  obtain ⟨sa, sc, rfl, -⟩ := S
  obtain ⟨N, hN⟩ : ∃ N, names.length = N := ⟨_, rfl⟩
  have HN := Lib.hid hN
  rw [hN] at hn S' ⊢
  clear hN
  have HK := Lib.hid (bk_start w (.string verb) (.int .i64 slice) (.int .i64 count) (.int .u32 u) (.slice sa N sc) 25)
  have gv : ¬ ((verb.size : Int) > 100) := by omega
  have gn : ¬ ((N : Int) > 20) := by omega
  go_enter Tryd.func3, Tryd.ntmps3
  go_wp2_with (go_at_call 5; refine (awake_calls _ (G'.out.below HK.out.b)).mono ?_; rintro e w1 ⟨rfl, hd⟩; have HK := Lib.hid (HK.out.below hd); obtain ⟨k0, k1, k2, k3, k4, kf⟩ := arr5 HK.out.a; clear hd)
  clear k0 k1 k2 k3 k4 kf
  go_loopg [30] (N + 1) (fun kq v30 w' => ∃ i : Nat, v30 = .int .i64 (i : Int) ∧ Hid (i + kq = N + 1 ∧ i ≤ N ∧ ∀ x ∈ names.take i, x.size ≤ 100) ∧ Hid (Bk w w' [.string verb, .int .i64 slice, .int .i64 count, .int .u32 u, .slice sa N sc]))
  case atStart => exact ⟨0, rfl, Lib.hid ⟨by omega, by omega, by simp⟩, HK⟩
  case round =>
    clear HK
    obtain ⟨i, rfl, hi, HK⟩ := hrel
    obtain ⟨k0, k1, k2, k3, k4, kf⟩ := arr5 HK.out.a
    cases gk with
    | zero => exact absurd hi.out.1 (by have := hi.out.2.1; omega)
    | succ k9 =>
      by_cases hlt : i < N
      · obtain ⟨o, rfl, HR⟩ : ∃ o, sa = some ⟨B, o, none⟩ ∧ Row B o names w := strs_row S'.out HN.out hlt
        obtain ⟨nm, hnm⟩ : ∃ nm, names.getD i ⟨#[]⟩ = nm := ⟨_, rfl⟩
        have x1 := (HR.below HK.out.b).cells i (by rw [HN.out]; exact hlt)
        rw [hnm] at x1
        have hni := Lib.hid (getD_some hnm (by rw [HN.out]; exact hlt))
        clear hnm HR
        have g1 : (i : Int) < (N : Int) := by omega
        by_cases h100 : nm.size ≤ 100
        · have g2 : ¬ ((nm.size : Int) > 100) := by omega
          go_wp2
          go_roundg k9
          case measure => omega
          case rel => exact ⟨i + 1, congrArg _ (by omega), Lib.hid ⟨by have := hi.out.1; omega, by omega, take_le hi.out.2.2 hni.out h100⟩, HK⟩
        · have g2 : ((nm.size : Int) > 100) := by omega
          go_wp2
          go_ret
          exact ⟨rfl, HK.out.b⟩
      · have hiN : N = i := by have := hi.out.2.1; omega
        subst hiN
        have g1 : ¬ ((N : Int) < (N : Int)) := by omega
        have hsz : Hid (∀ x ∈ names, x.size ≤ 100) := Lib.hid (by
          have h := hi.out.2.2
          rw [← HN.out, List.take_length] at h
          exact h)
        clear hlt hi
        have HLn : Hid ((Args.joinB (Args.txt ⟨verb, slice, count, u, names⟩)).size ≤ 100000) := Lib.hid (line_le s0 s1 c0 c1 hu hv (by rw [HN.out]; exact hn) hsz.out)
        go_wp2_with (go_at_call 8; refine (print_calls verb slice count u names _ rfl HLn.out hu s0 s1 c0 c1 (by omega) (by rw [HN.out]; omega) (fun x hx => Nat.le_trans (hsz.out x hx) (by decide)) B _ _ (G'.out.below HK.out.b) (S'.out.below HK.out.b)).mono ?_; rintro e w4 ⟨r4, k4', rfl, hr4, hd⟩; have HK := Lib.hid (HK.out.below hd); obtain ⟨rfl, rfl⟩ := (hr4.resolve_left (fun h => HQ.out (Args.prs_ok right _ _ h.1))).2; clear hd hr4)
        go_ret
        exact ⟨rfl, HK.out.b⟩
set_option maxHeartbeats 16000000 in
set_option maxRecDepth 100000 in
/-- too many -/
theorem back_ex3
    (verb : ByteArray) (slice count : Int) (u : Nat) (names : List ByteArray) (s0 : -9223372036854775808 ≤ slice) (s1 : slice ≤ 9223372036854775807) (c0 : -9223372036854775808 ≤ count) (c1 : count ≤ 9223372036854775807) (hu : u ≤ 4294967295)
    (hv : verb.size ≤ 100) (hn : names.length ≤ 20) (B : Nat) (sl : Value) (w : World) (G : Good w) (S : Strs B w sl names)
    (t1 : (verb.toList == ([99, 114, 101, 97, 116, 101] : List UInt8)) = false) (t2 : (verb.toList == ([101, 120, 116, 101, 110, 100] : List UInt8)) = true) (b1 : (slice == 0) = true) (p2 : 1 ≤ count) (p3 : ¬ count ≤ 64) (HQ : Hid (¬ Args.okA right ⟨verb, slice, count, u, names⟩)) :
    Calls Tryd.prog 3 #[.agg #[.string verb, .int .i64 slice, .int .i64 count, .int .u32 u, sl]] w fun e w' => e = .returned (.bool true) ∧ Below w.heap.size w w' := by
  have G' := Lib.hid G
  have S' := Lib.hid S
  clear G
  obtain ⟨sa, sc, rfl, -⟩ := S
  obtain ⟨N, hN⟩ : ∃ N, names.length = N := ⟨_, rfl⟩
  have HN := Lib.hid hN
  rw [hN] at hn S' ⊢
  clear hN
  have HK := Lib.hid (bk_start w (.string verb) (.int .i64 slice) (.int .i64 count) (.int .u32 u) (.slice sa N sc) 25)
  have gv : ¬ ((verb.size : Int) > 100) := by omega
  have gn : ¬ ((N : Int) > 20) := by omega
  go_enter Tryd.func3, Tryd.ntmps3
  go_wp2_with (go_at_call 5; refine (awake_calls _ (G'.out.below HK.out.b)).mono ?_; rintro e w1 ⟨rfl, hd⟩; have HK := Lib.hid (HK.out.below hd); obtain ⟨k0, k1, k2, k3, k4, kf⟩ := arr5 HK.out.a; clear hd)
  clear k0 k1 k2 k3 k4 kf
  go_loopg [30] (N + 1) (fun kq v30 w' => ∃ i : Nat, v30 = .int .i64 (i : Int) ∧ Hid (i + kq = N + 1 ∧ i ≤ N ∧ ∀ x ∈ names.take i, x.size ≤ 100) ∧ Hid (Bk w w' [.string verb, .int .i64 slice, .int .i64 count, .int .u32 u, .slice sa N sc]))
  case atStart => exact ⟨0, rfl, Lib.hid ⟨by omega, by omega, by simp⟩, HK⟩
  case round =>
    clear HK
    obtain ⟨i, rfl, hi, HK⟩ := hrel
    obtain ⟨k0, k1, k2, k3, k4, kf⟩ := arr5 HK.out.a
    cases gk with
    | zero => exact absurd hi.out.1 (by have := hi.out.2.1; omega)
    | succ k9 =>
      by_cases hlt : i < N
      · obtain ⟨o, rfl, HR⟩ : ∃ o, sa = some ⟨B, o, none⟩ ∧ Row B o names w := strs_row S'.out HN.out hlt
        obtain ⟨nm, hnm⟩ : ∃ nm, names.getD i ⟨#[]⟩ = nm := ⟨_, rfl⟩
        have x1 := (HR.below HK.out.b).cells i (by rw [HN.out]; exact hlt)
        rw [hnm] at x1
        have hni := Lib.hid (getD_some hnm (by rw [HN.out]; exact hlt))
        clear hnm HR
        have g1 : (i : Int) < (N : Int) := by omega
        by_cases h100 : nm.size ≤ 100
        · have g2 : ¬ ((nm.size : Int) > 100) := by omega
          go_wp2
          go_roundg k9
          case measure => omega
          case rel => exact ⟨i + 1, congrArg _ (by omega), Lib.hid ⟨by have := hi.out.1; omega, by omega, take_le hi.out.2.2 hni.out h100⟩, HK⟩
        · have g2 : ((nm.size : Int) > 100) := by omega
          go_wp2
          go_ret
          exact ⟨rfl, HK.out.b⟩
      · have hiN : N = i := by have := hi.out.2.1; omega
        subst hiN
        have g1 : ¬ ((N : Int) < (N : Int)) := by omega
        have hsz : Hid (∀ x ∈ names, x.size ≤ 100) := Lib.hid (by
          have h := hi.out.2.2
          rw [← HN.out, List.take_length] at h
          exact h)
        clear hlt hi
        have HLn : Hid ((Args.joinB (Args.txt ⟨verb, slice, count, u, names⟩)).size ≤ 100000) := Lib.hid (line_le s0 s1 c0 c1 hu hv (by rw [HN.out]; exact hn) hsz.out)
        go_wp2_with (go_at_call 8; refine (print_calls verb slice count u names _ rfl HLn.out hu s0 s1 c0 c1 (by omega) (by rw [HN.out]; omega) (fun x hx => Nat.le_trans (hsz.out x hx) (by decide)) B _ _ (G'.out.below HK.out.b) (S'.out.below HK.out.b)).mono ?_; rintro e w4 ⟨r4, k4', rfl, hr4, hd⟩; have HK := Lib.hid (HK.out.below hd); obtain ⟨rfl, rfl⟩ := (hr4.resolve_left (fun h => HQ.out (Args.prs_ok right _ _ h.1))).2; clear hd hr4)
        go_ret
        exact ⟨rfl, HK.out.b⟩
set_option maxHeartbeats 16000000 in
set_option maxRecDepth 100000 in
/-- no name may be told -/
theorem back_ex4
    (verb : ByteArray) (slice count : Int) (u : Nat) (names : List ByteArray) (s0 : -9223372036854775808 ≤ slice) (s1 : slice ≤ 9223372036854775807) (c0 : -9223372036854775808 ≤ count) (c1 : count ≤ 9223372036854775807) (hu : u ≤ 4294967295)
    (hv : verb.size ≤ 100) (hn : names.length ≤ 20) (B : Nat) (sl : Value) (w : World) (G : Good w) (S : Strs B w sl names)
    (t1 : (verb.toList == ([99, 114, 101, 97, 116, 101] : List UInt8)) = false) (t2 : (verb.toList == ([101, 120, 116, 101, 110, 100] : List UInt8)) = true) (b1 : (slice == 0) = true) (p2 : 1 ≤ count) (p3 : count ≤ 64) (h4 : ¬ names.length = 0) (HQ : Hid (¬ Args.okA right ⟨verb, slice, count, u, names⟩)) :
    Calls Tryd.prog 3 #[.agg #[.string verb, .int .i64 slice, .int .i64 count, .int .u32 u, sl]] w fun e w' => e = .returned (.bool true) ∧ Below w.heap.size w w' := by
  have G' := Lib.hid G
  have S' := Lib.hid S
  clear G
  obtain ⟨sa, sc, rfl, -⟩ := S
  obtain ⟨N, hN⟩ : ∃ N, names.length = N := ⟨_, rfl⟩
  have HN := Lib.hid hN
  rw [hN] at hn S' ⊢
  clear hN
  have HK := Lib.hid (bk_start w (.string verb) (.int .i64 slice) (.int .i64 count) (.int .u32 u) (.slice sa N sc) 25)
  have gv : ¬ ((verb.size : Int) > 100) := by omega
  have gn : ¬ ((N : Int) > 20) := by omega
  go_enter Tryd.func3, Tryd.ntmps3
  go_wp2_with (go_at_call 5; refine (awake_calls _ (G'.out.below HK.out.b)).mono ?_; rintro e w1 ⟨rfl, hd⟩; have HK := Lib.hid (HK.out.below hd); obtain ⟨k0, k1, k2, k3, k4, kf⟩ := arr5 HK.out.a; clear hd)
  clear k0 k1 k2 k3 k4 kf
  go_loopg [30] (N + 1) (fun kq v30 w' => ∃ i : Nat, v30 = .int .i64 (i : Int) ∧ Hid (i + kq = N + 1 ∧ i ≤ N ∧ ∀ x ∈ names.take i, x.size ≤ 100) ∧ Hid (Bk w w' [.string verb, .int .i64 slice, .int .i64 count, .int .u32 u, .slice sa N sc]))
  case atStart => exact ⟨0, rfl, Lib.hid ⟨by omega, by omega, by simp⟩, HK⟩
  case round =>
    clear HK
    obtain ⟨i, rfl, hi, HK⟩ := hrel
    obtain ⟨k0, k1, k2, k3, k4, kf⟩ := arr5 HK.out.a
    cases gk with
    | zero => exact absurd hi.out.1 (by have := hi.out.2.1; omega)
    | succ k9 =>
      by_cases hlt : i < N
      · obtain ⟨o, rfl, HR⟩ : ∃ o, sa = some ⟨B, o, none⟩ ∧ Row B o names w := strs_row S'.out HN.out hlt
        obtain ⟨nm, hnm⟩ : ∃ nm, names.getD i ⟨#[]⟩ = nm := ⟨_, rfl⟩
        have x1 := (HR.below HK.out.b).cells i (by rw [HN.out]; exact hlt)
        rw [hnm] at x1
        have hni := Lib.hid (getD_some hnm (by rw [HN.out]; exact hlt))
        clear hnm HR
        have g1 : (i : Int) < (N : Int) := by omega
        by_cases h100 : nm.size ≤ 100
        · have g2 : ¬ ((nm.size : Int) > 100) := by omega
          go_wp2
          go_roundg k9
          case measure => omega
          case rel => exact ⟨i + 1, congrArg _ (by omega), Lib.hid ⟨by have := hi.out.1; omega, by omega, take_le hi.out.2.2 hni.out h100⟩, HK⟩
        · have g2 : ((nm.size : Int) > 100) := by omega
          go_wp2
          go_ret
          exact ⟨rfl, HK.out.b⟩
      · have hiN : N = i := by have := hi.out.2.1; omega
        subst hiN
        have g1 : ¬ ((N : Int) < (N : Int)) := by omega
        have hsz : Hid (∀ x ∈ names, x.size ≤ 100) := Lib.hid (by
          have h := hi.out.2.2
          rw [← HN.out, List.take_length] at h
          exact h)
        clear hlt hi
        have HLn : Hid ((Args.joinB (Args.txt ⟨verb, slice, count, u, names⟩)).size ≤ 100000) := Lib.hid (line_le s0 s1 c0 c1 hu hv (by rw [HN.out]; exact hn) hsz.out)
        have n4 : ¬ (N : Int) = 0 := by rw [HN.out] at h4; omega
        have b4 : ((N : Int) == 0) = false := beq_eq_false_iff_ne.2 n4
        clear h4
        go_wp2_with (go_at_call 8; refine (print_calls verb slice count u names _ rfl HLn.out hu s0 s1 c0 c1 (by omega) (by rw [HN.out]; omega) (fun x hx => Nat.le_trans (hsz.out x hx) (by decide)) B _ _ (G'.out.below HK.out.b) (S'.out.below HK.out.b)).mono ?_; rintro e w4 ⟨r4, k4', rfl, hr4, hd⟩; have HK := Lib.hid (HK.out.below hd); obtain ⟨rfl, rfl⟩ := (hr4.resolve_left (fun h => HQ.out (Args.prs_ok right _ _ h.1))).2; clear hd hr4)
        go_ret
        exact ⟨rfl, HK.out.b⟩
set_option maxHeartbeats 16000000 in
set_option maxRecDepth 100000 in
/-- it is read as it is meant -/
theorem back_ex
    (verb : ByteArray) (slice count : Int) (u : Nat) (names : List ByteArray) (s0 : -9223372036854775808 ≤ slice) (s1 : slice ≤ 9223372036854775807) (c0 : -9223372036854775808 ≤ count) (c1 : count ≤ 9223372036854775807) (hu : u ≤ 4294967295)
    (hv : verb.size ≤ 100) (hn : names.length ≤ 20) (B : Nat) (sl : Value) (w : World) (G : Good w) (S : Strs B w sl names)
    (t1 : (verb.toList == ([99, 114, 101, 97, 116, 101] : List UInt8)) = false) (t2 : (verb.toList == ([101, 120, 116, 101, 110, 100] : List UInt8)) = true) (b1 : (slice == 0) = true) (p2 : 1 ≤ count) (p3 : count ≤ 64) (h4 : names.length = 0) (hex : Hid (verb = Args.exB)) (hok : Hid (Args.okA right ⟨verb, slice, count, u, names⟩)) :
    Calls Tryd.prog 3 #[.agg #[.string verb, .int .i64 slice, .int .i64 count, .int .u32 u, sl]] w fun e w' => e = .returned (.bool true) ∧ Below w.heap.size w w' := by
  have G' := Lib.hid G
  have S' := Lib.hid S
  clear G
  obtain ⟨sa, sc, rfl, -⟩ := S
  obtain ⟨N, hN⟩ : ∃ N, names.length = N := ⟨_, rfl⟩
  have HN := Lib.hid hN
  rw [hN] at hn S' ⊢
  clear hN
  have HK := Lib.hid (bk_start w (.string verb) (.int .i64 slice) (.int .i64 count) (.int .u32 u) (.slice sa N sc) 25)
  have gv : ¬ ((verb.size : Int) > 100) := by omega
  have gn : ¬ ((N : Int) > 20) := by omega
  go_enter Tryd.func3, Tryd.ntmps3
  go_wp2_with (go_at_call 5; refine (awake_calls _ (G'.out.below HK.out.b)).mono ?_; rintro e w1 ⟨rfl, hd⟩; have HK := Lib.hid (HK.out.below hd); obtain ⟨k0, k1, k2, k3, k4, kf⟩ := arr5 HK.out.a; clear hd)
  clear k0 k1 k2 k3 k4 kf
  go_loopg [30] (N + 1) (fun kq v30 w' => ∃ i : Nat, v30 = .int .i64 (i : Int) ∧ Hid (i + kq = N + 1 ∧ i ≤ N ∧ ∀ x ∈ names.take i, x.size ≤ 100) ∧ Hid (Bk w w' [.string verb, .int .i64 slice, .int .i64 count, .int .u32 u, .slice sa N sc]))
  case atStart => exact ⟨0, rfl, Lib.hid ⟨by omega, by omega, by simp⟩, HK⟩
  case round =>
    clear HK
    obtain ⟨i, rfl, hi, HK⟩ := hrel
    obtain ⟨k0, k1, k2, k3, k4, kf⟩ := arr5 HK.out.a
    cases gk with
    | zero => exact absurd hi.out.1 (by have := hi.out.2.1; omega)
    | succ k9 =>
      by_cases hlt : i < N
      · obtain ⟨o, rfl, HR⟩ : ∃ o, sa = some ⟨B, o, none⟩ ∧ Row B o names w := strs_row S'.out HN.out hlt
        obtain ⟨nm, hnm⟩ : ∃ nm, names.getD i ⟨#[]⟩ = nm := ⟨_, rfl⟩
        have x1 := (HR.below HK.out.b).cells i (by rw [HN.out]; exact hlt)
        rw [hnm] at x1
        have hni := Lib.hid (getD_some hnm (by rw [HN.out]; exact hlt))
        clear hnm HR
        have g1 : (i : Int) < (N : Int) := by omega
        by_cases h100 : nm.size ≤ 100
        · have g2 : ¬ ((nm.size : Int) > 100) := by omega
          go_wp2
          go_roundg k9
          case measure => omega
          case rel => exact ⟨i + 1, congrArg _ (by omega), Lib.hid ⟨by have := hi.out.1; omega, by omega, take_le hi.out.2.2 hni.out h100⟩, HK⟩
        · have g2 : ((nm.size : Int) > 100) := by omega
          go_wp2
          go_ret
          exact ⟨rfl, HK.out.b⟩
      · have hiN : N = i := by have := hi.out.2.1; omega
        subst hiN
        have g1 : ¬ ((N : Int) < (N : Int)) := by omega
        have hsz : Hid (∀ x ∈ names, x.size ≤ 100) := Lib.hid (by
          have h := hi.out.2.2
          rw [← HN.out, List.take_length] at h
          exact h)
        clear hlt hi
        have HLn : Hid ((Args.joinB (Args.txt ⟨verb, slice, count, u, names⟩)).size ≤ 100000) := Lib.hid (line_le s0 s1 c0 c1 hu hv (by rw [HN.out]; exact hn) hsz.out)
        have b4 : ((N : Int) == 0) = true := by rw [HN.out] at h4; simp [h4]
        clear h4
        obtain ⟨cn, rfl⟩ : ∃ cn : Nat, count = cn := ⟨count.toNat, by omega⟩
        have hu1 : cn ≤ 4294967295 := by omega
        have hwr : IntKind.u64.wrap (u : Int) = (u : Int) := by rw [IntKind.wrap_u64]; omega
        have hwc : IntKind.u64.wrap (cn : Int) = (cn : Int) := by rw [IntKind.wrap_u64]; omega
        have i1 := Args.itB_size u (by omega) (by omega)
        have i2 := Args.itB_size cn (by omega) (by omega)
        have z1 : ¬ 9223372036854775807 < verb.size + 1 := by omega
        have z2 : ¬ 9223372036854775807 < verb.size + 1 + (Args.itB u).size := by omega
        have z3 : ¬ 9223372036854775807 < verb.size + 1 + (Args.itB u).size + 1 := by omega
        have z4 : ¬ 9223372036854775807 < verb.size + 1 + (Args.itB u).size + 1 + (Args.itB cn).size := by omega
        go_wp2
        clear k0 k1 k2 k3 k4 kf
        have HK := Lib.hid (HK.out.below (Gy.drew_below _))
        obtain ⟨k0, k1, k2, k3, k4, kf⟩ := arr5 HK.out.a
        apply region_last (Inv := fun w5 => Bk w w5 [.string verb, .int .i64 slice, .int .i64 (cn : Int), .int .u32 u, .slice sa N sc])
        case h =>
          go_region_with (go_at_call 7; refine (ldigits_calls _ (by first | exact hu | exact hu1 | exact hu2) _).mono ?_; rintro e w4 ⟨rfl, hd⟩; have HK := Lib.hid (HK.out.below hd); obtain ⟨k0, k1, k2, k3, k4, kf⟩ := arr5 HK.out.a; clear hd)
          · exact ⟨rfl, HK.out⟩
          all_goals exact ⟨by kernel_rfl, HK.out⟩
        case k =>
          intro w5 hK5
          clear HK k0 k1 k2 k3 k4 kf
          have HK := Lib.hid hK5
          clear hK5
          obtain ⟨k0, k1, k2, k3, k4, kf⟩ := arr5 HK.out.a
          obtain ⟨W, hW⟩ : ∃ W, (verb ++ ⟨#[32]⟩ ++ Args.itB u ++ ⟨#[32]⟩ ++ Args.itB cn) = W := ⟨_, rfl⟩
          have HW := Lib.hid hW
          rw [hW]
          clear hW z1 z2 z3 z4 i1 i2
          have HL : Hid (Args.joinB (Args.txt ⟨verb, slice, cn, u, names⟩) = W) := Lib.hid (by
              have e : Args.txt ⟨verb, slice, cn, u, names⟩ = [verb, Args.itB u, Args.itB cn] := by
                have hne : ¬ (Args.exB = Args.crB) := by decide
                simp only [Args.txt, hex.out, if_neg hne, if_true]
              rw [e, ← HW.out, ← Args.addB_join]; rfl)
          rw [HL.out] at HLn
          have HP : Hid (Args.prs right W = (⟨verb, slice, cn, u, names⟩, 0)) := Lib.hid (by
            have h := Args.prs_line right right_word ⟨verb, slice, cn, u, names⟩ (by simp only; omega) (by simp only; omega) hok.out
            rw [HL.out] at h
            exact h)
          have tW : (W.toList == W.toList) = true := by simp
          go_wp2_with (first
            | (go_at_call 8; refine (print_calls verb slice cn u names W HL.out HLn.out hu s0 s1 c0 c1 (by omega) (by rw [HN.out]; omega) (fun x hx => Nat.le_trans (hsz.out x hx) (by decide)) B _ _ (G'.out.below HK.out.b) (S'.out.below HK.out.b)).mono ?_; rintro e w4 ⟨r4, k4', rfl, hr4, hd⟩; have HK := Lib.hid (HK.out.below hd); obtain ⟨er, ek⟩ := (hr4.resolve_right (fun h => h.1 HP.out)).2; rw [er, ek]; clear hd hr4 er ek)
            | (go_at_call 9; refine (parse_calls W HLn.out _ (G'.out.below HK.out.b)).mono ?_; rintro e w5 ⟨B3, sl3, rfl, hs3, hd⟩; rw [HP.out] at hs3 ⊢; simp only [argV]; have HS3 := Lib.hid hs3; obtain ⟨sa3, sc3, rfl, -⟩ := hs3; have HK := Lib.hid (HK.out.below hd); have k0a := fun ob => (arr5 (HK.out.a.alloc ob)).1; have k1a := fun ob => (arr5 (HK.out.a.alloc ob)).2.1; have k2a := fun ob => (arr5 (HK.out.a.alloc ob)).2.2.1; have k3a := fun ob => (arr5 (HK.out.a.alloc ob)).2.2.2.1; have k4a := fun ob => (arr5 (HK.out.a.alloc ob)).2.2.2.2.1; clear hd)
            | (go_at_call 10; refine (lsame_calls verb slice cn u names (by rw [HN.out]; omega) B3 B _ _ _ (HS3.out.below (Gy.alloc_below _ _)) (S'.out.below (HK.out.b.alloc HK.out.b.size _))).mono ?_; rintro e w6 ⟨rfl, hd⟩; have hb := Lib.hid ((HK.out.b.alloc HK.out.b.size _).trans (hd.mono (Nat.le_trans HK.out.b.size (Gy.alloc_below _ _).size))); clear hd))
          go_ret
          exact ⟨rfl, hb.out⟩
end Go.Proofs.YtfdfijohcapgaaaDoor.Path

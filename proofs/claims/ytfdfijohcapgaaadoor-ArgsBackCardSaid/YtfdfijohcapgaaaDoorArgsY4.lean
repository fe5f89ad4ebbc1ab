/- The law ArgsBack: create, where a number is out of its bounds. -/
import Derived.Test.YtfdfijohcapgaaaDoorArgsY
namespace Go.Proofs.YtfdfijohcapgaaaDoor.Path
open Go Go.RowKit Go.Shelf Go.Proofs.YtfdfijohcapgaaaDoor.QPart Go.Proofs.YtfdfijohcapgaaaDoorW.PrintWords Go.Proofs.YtfdfijohcapgaaaDoorW.PrintLast Go.Proofs.YtfdfijohcapgaaaDoorW.PrintMore
set_option maxHeartbeats 16000000 in
set_option maxRecDepth 100000 in
/-- a number is out of its bounds -/
theorem back_cr1
    (verb : ByteArray) (slice count : Int) (u : Nat) (names : List ByteArray) (s0 : -9223372036854775808 ≤ slice) (s1 : slice ≤ 9223372036854775807) (c0 : -9223372036854775808 ≤ count) (c1 : count ≤ 9223372036854775807) (hu : u ≤ 4294967295)
    (hv : verb.size ≤ 100) (hn : names.length ≤ 20) (B : Nat) (sl : Value) (w : World) (G : Good w) (S : Strs B w sl names)
    (t1 : (verb.toList == ([99, 114, 101, 97, 116, 101] : List UInt8)) = true) (p1 : ¬ 1 ≤ slice) (HQ : Hid (¬ Args.okA right ⟨verb, slice, count, u, names⟩)) :
    Calls Tryd.prog 3 #[.agg #[.string verb, .int .i64 slice, .int .i64 count, .int .u32 u, sl]] w fun e w' => e = .returned (.bool true) ∧ Below w.heap.size w w' := by
  have G' := Lib.hid G
  have S' := Lib.hid S
  clear G
  obtain ⟨sa, sc, rfl, -⟩ := S
  obtain ⟨N, hN⟩ : ∃ N, names.length = N := ⟨_, rfl⟩
  have HN := Lib.hid hN
  rw [hN] at hn S' ⊢
  clear hN
  have HK := Lib.hid (bk_start w (.string verb) (.int .i64 slice) (.int .i64 count) (.int .u32 u) (.slice sa N sc) 25)
  have gv : ¬ ((verb.size : Int) > 100) := by omega
  have gn : ¬ ((N : Int) > 20) := by omega
  go_enter Tryd.func3, Tryd.ntmps3
  go_wp2_with (go_at_call 5; refine (awake_calls _ (G'.out.below HK.out.b)).mono ?_; rintro e w1 ⟨rfl, hd⟩; have HK := Lib.hid (HK.out.below hd); obtain ⟨k0, k1, k2, k3, k4, kf⟩ := arr5 HK.out.a; clear hd)
  clear k0 k1 k2 k3 k4 kf
  go_loopg [30] (N + 1) (fun kq v30 w' => ∃ i : Nat, v30 = .int .i64 (i : Int) ∧ Hid (i + kq = N + 1 ∧ i ≤ N ∧ ∀ x ∈ names.take i, x.size ≤ 100) ∧ Hid (Bk w w' [.string verb, .int .i64 slice, .int .i64 count, .int .u32 u, .slice sa N sc]))
  case atStart => exact ⟨0, rfl, Lib.hid ⟨by omega, by omega, by simp⟩, HK⟩
  case round =>
    clear HK
    obtain ⟨i, rfl, hi, HK⟩ := hrel
    obtain ⟨k0, k1, k2, k3, k4, kf⟩ := arr5 HK.out.a
    cases gk with
    | zero => exact absurd hi.out.1 (by have := hi.out.2.1; omega)
    | succ k9 =>
      by_cases hlt : i < N
      · obtain ⟨o, rfl, HR⟩ : ∃ o, sa = some ⟨B, o, none⟩ ∧ Row B o names w := strs_row S'.out HN.out hlt
        obtain ⟨nm, hnm⟩ : ∃ nm, names.getD i ⟨#[]⟩ = nm := ⟨_, rfl⟩
        have x1 := (HR.below HK.out.b).cells i (by rw [HN.out]; exact hlt)
        rw [hnm] at x1
        have hni := Lib.hid (getD_some hnm (by rw [HN.out]; exact hlt))
        clear hnm HR
        have g1 : (i : Int) < (N : Int) := by omega
        by_cases h100 : nm.size ≤ 100
        · have g2 : ¬ ((nm.size : Int) > 100) := by omega
          go_wp2
          go_roundg k9
          case measure => omega
          case rel => exact ⟨i + 1, congrArg _ (by omega), Lib.hid ⟨by have := hi.out.1; omega, by omega, take_le hi.out.2.2 hni.out h100⟩, HK⟩
        · have g2 : ((nm.size : Int) > 100) := by omega
          go_wp2
          go_ret
          exact ⟨rfl, HK.out.b⟩
      · have hiN : N = i := by have := hi.out.2.1; omega
        subst hiN
        have g1 : ¬ ((N : Int) < (N : Int)) := by omega
        have hsz : Hid (∀ x ∈ names, x.size ≤ 100) := Lib.hid (by
          have h := hi.out.2.2
          rw [← HN.out, List.take_length] at h
          exact h)
        clear hlt hi
        have HLn : Hid ((Args.joinB (Args.txt ⟨verb, slice, count, u, names⟩)).size ≤ 100000) := Lib.hid (line_le s0 s1 c0 c1 hu hv (by rw [HN.out]; exact hn) hsz.out)
        go_wp2
        clear k0 k1 k2 k3 k4 kf
        go_loopg [85, 5] (N + 1) (fun kq v85 v5 w' => ∃ i : Nat, v85 = .int .i64 (i : Int) ∧ v5 = .bool false ∧ Hid (i + kq = N + 1 ∧ i ≤ N) ∧ Hid (Bk w w' [.string verb, .int .i64 slice, .int .i64 count, .int .u32 u, .slice sa N sc]))
        case atStart => exact ⟨0, rfl, rfl, Lib.hid ⟨by omega, by omega⟩, HK⟩
        case round =>
          clear HK
          obtain ⟨i, rfl, rfl, hi, HK⟩ := hrel
          obtain ⟨k0, k1, k2, k3, k4, kf⟩ := arr5 HK.out.a
          cases gk with
          | zero => exact absurd hi.out.1 (by have := hi.out.2; omega)
          | succ k9 =>
            by_cases hlt : i < N
            · have g1 : (i : Int) < (N : Int) := by omega
              go_wp2
              go_roundg k9
              case measure => omega
              case rel => exact ⟨i + 1, congrArg _ (by omega), rfl, Lib.hid ⟨by have := hi.out.1; omega, by omega⟩, HK⟩
            · have hiN : N = i := by have := hi.out.2; omega
              subst hiN
              have g1 : ¬ ((N : Int) < (N : Int)) := by omega
              go_wp2_with (go_at_call 8; refine (print_calls verb slice count u names _ rfl HLn.out hu s0 s1 c0 c1 (by omega) (by rw [HN.out]; omega) (fun x hx => Nat.le_trans (hsz.out x hx) (by decide)) B _ _ (G'.out.below HK.out.b) (S'.out.below HK.out.b)).mono ?_; rintro e w4 ⟨r4, k4', rfl, hr4, hd⟩; have HK := Lib.hid (HK.out.below hd); obtain ⟨rfl, rfl⟩ := (hr4.resolve_left (fun h => HQ.out (Args.prs_ok right _ _ h.1))).2; clear hd hr4)
              go_ret
              exact ⟨rfl, HK.out.b⟩
set_option maxHeartbeats 16000000 in
set_option maxRecDepth 100000 in
/-- a number is out of its bounds -/
theorem back_cr2
    (verb : ByteArray) (slice count : Int) (u : Nat) (names : List ByteArray) (s0 : -9223372036854775808 ≤ slice) (s1 : slice ≤ 9223372036854775807) (c0 : -9223372036854775808 ≤ count) (c1 : count ≤ 9223372036854775807) (hu : u ≤ 4294967295)
    (hv : verb.size ≤ 100) (hn : names.length ≤ 20) (B : Nat) (sl : Value) (w : World) (G : Good w) (S : Strs B w sl names)
    (t1 : (verb.toList == ([99, 114, 101, 97, 116, 101] : List UInt8)) = true) (p1 : 1 ≤ slice) (p2 : ¬ slice ≤ 256) (HQ : Hid (¬ Args.okA right ⟨verb, slice, count, u, names⟩)) :
    Calls Tryd.prog 3 #[.agg #[.string verb, .int .i64 slice, .int .i64 count, .int .u32 u, sl]] w fun e w' => e = .returned (.bool true) ∧ Below w.heap.size w w' := by
  have G' := Lib.hid G
  have S' := Lib.hid S
  clear G
  obtain ⟨sa, sc, rfl, -⟩ := S
  obtain ⟨N, hN⟩ : ∃ N, names.length = N := ⟨_, rfl⟩
  have HN := Lib.hid hN
  rw [hN] at hn S' ⊢
  clear hN
  have HK := Lib.hid (bk_start w (.string verb) (.int .i64 slice) (.int .i64 count) (.int .u32 u) (.slice sa N sc) 25)
  have gv : ¬ ((verb.size : Int) > 100) := by omega
  have gn : ¬ ((N : Int) > 20) := by omega
  go_enter Tryd.func3, Tryd.ntmps3
  go_wp2_with (go_at_call 5; refine (awake_calls _ (G'.out.below HK.out.b)).mono ?_; rintro e w1 ⟨rfl, hd⟩; have HK := Lib.hid (HK.out.below hd); obtain ⟨k0, k1, k2, k3, k4, kf⟩ := arr5 HK.out.a; clear hd)
  clear k0 k1 k2 k3 k4 kf
  go_loopg [30] (N + 1) (fun kq v30 w' => ∃ i : Nat, v30 = .int .i64 (i : Int) ∧ Hid (i + kq = N + 1 ∧ i ≤ N ∧ ∀ x ∈ names.take i, x.size ≤ 100) ∧ Hid (Bk w w' [.string verb, .int .i64 slice, .int .i64 count, .int .u32 u, .slice sa N sc]))
  case atStart => exact ⟨0, rfl, Lib.hid ⟨by omega, by omega, by simp⟩, HK⟩
  case round =>
    clear HK
    obtain ⟨i, rfl, hi, HK⟩ := hrel
    obtain ⟨k0, k1, k2, k3, k4, kf⟩ := arr5 HK.out.a
    cases gk with
    | zero => exact absurd hi.out.1 (by have := hi.out.2.1; omega)
    | succ k9 =>
      by_cases hlt : i < N
      · obtain ⟨o, rfl, HR⟩ : ∃ o, sa = some ⟨B, o, none⟩ ∧ Row B o names w := strs_row S'.out HN.out hlt
        obtain ⟨nm, hnm⟩ : ∃ nm, names.getD i ⟨#[]⟩ = nm := ⟨_, rfl⟩
        have x1 := (HR.below HK.out.b).cells i (by rw [HN.out]; exact hlt)
        rw [hnm] at x1
        have hni := Lib.hid (getD_some hnm (by rw [HN.out]; exact hlt))
        clear hnm HR
        have g1 : (i : Int) < (N : Int) := by omega
        by_cases h100 : nm.size ≤ 100
        · have g2 : ¬ ((nm.size : Int) > 100) := by omega
          go_wp2
          go_roundg k9
          case measure => omega
          case rel => exact ⟨i + 1, congrArg _ (by omega), Lib.hid ⟨by have := hi.out.1; omega, by omega, take_le hi.out.2.2 hni.out h100⟩, HK⟩
        · have g2 : ((nm.size : Int) > 100) := by omega
          go_wp2
          go_ret
          exact ⟨rfl, HK.out.b⟩
      · have hiN : N = i := by have := hi.out.2.1; omega
        subst hiN
        have g1 : ¬ ((N : Int) < (N : Int)) := by omega
        have hsz : Hid (∀ x ∈ names, x.size ≤ 100) := Lib.hid (by
          have h := hi.out.2.2
          rw [← HN.out, List.take_length] at h
          exact h)
        clear hlt hi
        have HLn : Hid ((Args.joinB (Args.txt ⟨verb, slice, count, u, names⟩)).size ≤ 100000) := Lib.hid (line_le s0 s1 c0 c1 hu hv (by rw [HN.out]; exact hn) hsz.out)
        go_wp2
        clear k0 k1 k2 k3 k4 kf
        go_loopg [85, 5] (N + 1) (fun kq v85 v5 w' => ∃ i : Nat, v85 = .int .i64 (i : Int) ∧ v5 = .bool false ∧ Hid (i + kq = N + 1 ∧ i ≤ N) ∧ Hid (Bk w w' [.string verb, .int .i64 slice, .int .i64 count, .int .u32 u, .slice sa N sc]))
        case atStart => exact ⟨0, rfl, rfl, Lib.hid ⟨by omega, by omega⟩, HK⟩
        case round =>
          clear HK
          obtain ⟨i, rfl, rfl, hi, HK⟩ := hrel
          obtain ⟨k0, k1, k2, k3, k4, kf⟩ := arr5 HK.out.a
          cases gk with
          | zero => exact absurd hi.out.1 (by have := hi.out.2; omega)
          | succ k9 =>
            by_cases hlt : i < N
            · have g1 : (i : Int) < (N : Int) := by omega
              go_wp2
              go_roundg k9
              case measure => omega
              case rel => exact ⟨i + 1, congrArg _ (by omega), rfl, Lib.hid ⟨by have := hi.out.1; omega, by omega⟩, HK⟩
            · have hiN : N = i := by have := hi.out.2; omega
              subst hiN
              have g1 : ¬ ((N : Int) < (N : Int)) := by omega
              go_wp2_with (go_at_call 8; refine (print_calls verb slice count u names _ rfl HLn.out hu s0 s1 c0 c1 (by omega) (by rw [HN.out]; omega) (fun x hx => Nat.le_trans (hsz.out x hx) (by decide)) B _ _ (G'.out.below HK.out.b) (S'.out.below HK.out.b)).mono ?_; rintro e w4 ⟨r4, k4', rfl, hr4, hd⟩; have HK := Lib.hid (HK.out.below hd); obtain ⟨rfl, rfl⟩ := (hr4.resolve_left (fun h => HQ.out (Args.prs_ok right _ _ h.1))).2; clear hd hr4)
              go_ret
              exact ⟨rfl, HK.out.b⟩
set_option maxHeartbeats 16000000 in
set_option maxRecDepth 100000 in
/-- a number is out of its bounds -/
theorem back_cr3
    (verb : ByteArray) (slice count : Int) (u : Nat) (names : List ByteArray) (s0 : -9223372036854775808 ≤ slice) (s1 : slice ≤ 9223372036854775807) (c0 : -9223372036854775808 ≤ count) (c1 : count ≤ 9223372036854775807) (hu : u ≤ 4294967295)
    (hv : verb.size ≤ 100) (hn : names.length ≤ 20) (B : Nat) (sl : Value) (w : World) (G : Good w) (S : Strs B w sl names)
    (t1 : (verb.toList == ([99, 114, 101, 97, 116, 101] : List UInt8)) = true) (p1 : 1 ≤ slice) (p2 : slice ≤ 256) (p3 : ¬ 0 ≤ count) (HQ : Hid (¬ Args.okA right ⟨verb, slice, count, u, names⟩)) :
    Calls Tryd.prog 3 #[.agg #[.string verb, .int .i64 slice, .int .i64 count, .int .u32 u, sl]] w fun e w' => e = .returned (.bool true) ∧ Below w.heap.size w w' := by
  have G' := Lib.hid G
  have S' := Lib.hid S
  clear G
  obtain ⟨sa, sc, rfl, -⟩ := S
  obtain ⟨N, hN⟩ : ∃ N, names.length = N := ⟨_, rfl⟩
  have HN := Lib.hid hN
  rw [hN] at hn S' ⊢
  clear hN
  have HK := Lib.hid (bk_start w (.string verb) (.int .i64 slice) (.int .i64 count) (.int .u32 u) (.slice sa N sc) 25)
  have gv : ¬ ((verb.size : Int) > 100) := by omega
  have gn : ¬ ((N : Int) > 20) := by omega
  go_enter Tryd.func3, Tryd.ntmps3
  go_wp2_with (go_at_call 5; refine (awake_calls _ (G'.out.below HK.out.b)).mono ?_; rintro e w1 ⟨rfl, hd⟩; have HK := Lib.hid (HK.out.below hd); obtain ⟨k0, k1, k2, k3, k4, kf⟩ := arr5 HK.out.a; clear hd)
  clear k0 k1 k2 k3 k4 kf
  go_loopg [30] (N + 1) (fun kq v30 w' => ∃ i : Nat, v30 = .int .i64 (i : Int) ∧ Hid (i + kq = N + 1 ∧ i ≤ N ∧ ∀ x ∈ names.take i, x.size ≤ 100) ∧ Hid (Bk w w' [.string verb, .int .i64 slice, .int .i64 count, .int .u32 u, .slice sa N sc]))
  case atStart => exact ⟨0, rfl, Lib.hid ⟨by omega, by omega, by simp⟩, HK⟩
  case round =>
    clear HK
    obtain ⟨i, rfl, hi, HK⟩ := hrel
    obtain ⟨k0, k1, k2, k3, k4, kf⟩ := arr5 HK.out.a
    cases gk with
    | zero => exact absurd hi.out.1 (by have := hi.out.2.1; omega)
    | succ k9 =>
      by_cases hlt : i < N
      · obtain ⟨o, rfl, HR⟩ : ∃ o, sa = some ⟨B, o, none⟩ ∧ Row B o names w := strs_row S'.out HN.out hlt
        obtain ⟨nm, hnm⟩ : ∃ nm, names.getD i ⟨#[]⟩ = nm := ⟨_, rfl⟩
        have x1 := (HR.below HK.out.b).cells i (by rw [HN.out]; exact hlt)
        rw [hnm] at x1
        have hni := Lib.hid (getD_some hnm (by rw [HN.out]; exact hlt))
        clear hnm HR
        have g1 : (i : Int) < (N : Int) := by omega
        by_cases h100 : nm.size ≤ 100
        · have g2 : ¬ ((nm.size : Int) > 100) := by omega
          go_wp2
          go_roundg k9
          case measure => omega
          case rel => exact ⟨i + 1, congrArg _ (by omega), Lib.hid ⟨by have := hi.out.1; omega, by omega, take_le hi.out.2.2 hni.out h100⟩, HK⟩
        · have g2 : ((nm.size : Int) > 100) := by omega
          go_wp2
          go_ret
          exact ⟨rfl, HK.out.b⟩
      · have hiN : N = i := by have := hi.out.2.1; omega
        subst hiN
        have g1 : ¬ ((N : Int) < (N : Int)) := by omega
        have hsz : Hid (∀ x ∈ names, x.size ≤ 100) := Lib.hid (by
          have h := hi.out.2.2
          rw [← HN.out, List.take_length] at h
          exact h)
        clear hlt hi
        have HLn : Hid ((Args.joinB (Args.txt ⟨verb, slice, count, u, names⟩)).size ≤ 100000) := Lib.hid (line_le s0 s1 c0 c1 hu hv (by rw [HN.out]; exact hn) hsz.out)
        go_wp2
        clear k0 k1 k2 k3 k4 kf
        go_loopg [85, 5] (N + 1) (fun kq v85 v5 w' => ∃ i : Nat, v85 = .int .i64 (i : Int) ∧ v5 = .bool false ∧ Hid (i + kq = N + 1 ∧ i ≤ N) ∧ Hid (Bk w w' [.string verb, .int .i64 slice, .int .i64 count, .int .u32 u, .slice sa N sc]))
        case atStart => exact ⟨0, rfl, rfl, Lib.hid ⟨by omega, by omega⟩, HK⟩
        case round =>
          clear HK
          obtain ⟨i, rfl, rfl, hi, HK⟩ := hrel
          obtain ⟨k0, k1, k2, k3, k4, kf⟩ := arr5 HK.out.a
          cases gk with
          | zero => exact absurd hi.out.1 (by have := hi.out.2; omega)
          | succ k9 =>
            by_cases hlt : i < N
            · have g1 : (i : Int) < (N : Int) := by omega
              go_wp2
              go_roundg k9
              case measure => omega
              case rel => exact ⟨i + 1, congrArg _ (by omega), rfl, Lib.hid ⟨by have := hi.out.1; omega, by omega⟩, HK⟩
            · have hiN : N = i := by have := hi.out.2; omega
              subst hiN
              have g1 : ¬ ((N : Int) < (N : Int)) := by omega
              go_wp2_with (go_at_call 8; refine (print_calls verb slice count u names _ rfl HLn.out hu s0 s1 c0 c1 (by omega) (by rw [HN.out]; omega) (fun x hx => Nat.le_trans (hsz.out x hx) (by decide)) B _ _ (G'.out.below HK.out.b) (S'.out.below HK.out.b)).mono ?_; rintro e w4 ⟨r4, k4', rfl, hr4, hd⟩; have HK := Lib.hid (HK.out.below hd); obtain ⟨rfl, rfl⟩ := (hr4.resolve_left (fun h => HQ.out (Args.prs_ok right _ _ h.1))).2; clear hd hr4)
              go_ret
              exact ⟨rfl, HK.out.b⟩
set_option maxHeartbeats 16000000 in
set_option maxRecDepth 100000 in
/-- a number is out of its bounds -/
theorem back_cr4
    (verb : ByteArray) (slice count : Int) (u : Nat) (names : List ByteArray) (s0 : -9223372036854775808 ≤ slice) (s1 : slice ≤ 9223372036854775807) (c0 : -9223372036854775808 ≤ count) (c1 : count ≤ 9223372036854775807) (hu : u ≤ 4294967295)
    (hv : verb.size ≤ 100) (hn : names.length ≤ 20) (B : Nat) (sl : Value) (w : World) (G : Good w) (S : Strs B w sl names)
    (t1 : (verb.toList == ([99, 114, 101, 97, 116, 101] : List UInt8)) = true) (p1 : 1 ≤ slice) (p2 : slice ≤ 256) (p3 : 0 ≤ count) (p4 : ¬ count ≤ 64) (HQ : Hid (¬ Args.okA right ⟨verb, slice, count, u, names⟩)) :
    Calls Tryd.prog 3 #[.agg #[.string verb, .int .i64 slice, .int .i64 count, .int .u32 u, sl]] w fun e w' => e = .returned (.bool true) ∧ Below w.heap.size w w' := by
  have G' := Lib.hid G
  have S' := Lib.hid S
  clear G
  obtain ⟨sa, sc, rfl, -⟩ := S
  obtain ⟨N, hN⟩ : ∃ N, names.length = N := ⟨_, rfl⟩
  have HN := Lib.hid hN
  rw [hN] at hn S' ⊢
  clear hN
  have HK := Lib.hid (bk_start w (.string verb) (.int .i64 slice) (.int .i64 count) (.int .u32 u) (.slice sa N sc) 25)
  have gv : ¬ ((verb.size : Int) > 100) := by omega
  have gn : ¬ ((N : Int) > 20) := by omega
  go_enter Tryd.func3, Tryd.ntmps3
  go_wp2_with (go_at_call 5; refine (awake_calls _ (G'.out.below HK.out.b)).mono ?_; rintro e w1 ⟨rfl, hd⟩; have HK := Lib.hid (HK.out.below hd); obtain ⟨k0, k1, k2, k3, k4, kf⟩ := arr5 HK.out.a; clear hd)
  clear k0 k1 k2 k3 k4 kf
  go_loopg [30] (N + 1) (fun kq v30 w' => ∃ i : Nat, v30 = .int .i64 (i : Int) ∧ Hid (i + kq = N + 1 ∧ i ≤ N ∧ ∀ x ∈ names.take i, x.size ≤ 100) ∧ Hid (Bk w w' [.string verb, .int .i64 slice, .int .i64 count, .int .u32 u, .slice sa N sc]))
  case atStart => exact ⟨0, rfl, Lib.hid ⟨by omega, by omega, by simp⟩, HK⟩
  case round =>
    clear HK
    obtain ⟨i, rfl, hi, HK⟩ := hrel
    obtain ⟨k0, k1, k2, k3, k4, kf⟩ := arr5 HK.out.a
    cases gk with
    | zero => exact absurd hi.out.1 (by have := hi.out.2.1; omega)
    | succ k9 =>
      by_cases hlt : i < N
      · obtain ⟨o, rfl, HR⟩ : ∃ o, sa = some ⟨B, o, none⟩ ∧ Row B o names w := strs_row S'.out HN.out hlt
        obtain ⟨nm, hnm⟩ : ∃ nm, names.getD i ⟨#[]⟩ = nm := ⟨_, rfl⟩
        have x1 := (HR.below HK.out.b).cells i (by rw [HN.out]; exact hlt)
        rw [hnm] at x1
        have hni := Lib.hid (getD_some hnm (by rw [HN.out]; exact hlt))
        clear hnm HR
        have g1 : (i : Int) < (N : Int) := by omega
        by_cases h100 : nm.size ≤ 100
        · have g2 : ¬ ((nm.size : Int) > 100) := by omega
          go_wp2
          go_roundg k9
          case measure => omega
          case rel => exact ⟨i + 1, congrArg _ (by omega), Lib.hid ⟨by have := hi.out.1; omega, by omega, take_le hi.out.2.2 hni.out h100⟩, HK⟩
        · have g2 : ((nm.size : Int) > 100) := by omega
          go_wp2
          go_ret
          exact ⟨rfl, HK.out.b⟩
      · have hiN : N = i := by have := hi.out.2.1; omega
        subst hiN
        have g1 : ¬ ((N : Int) < (N : Int)) := by omega
        have hsz : Hid (∀ x ∈ names, x.size ≤ 100) := Lib.hid (by
          have h := hi.out.2.2
          rw [← HN.out, List.take_length] at h
          exact h)
        clear hlt hi
        have HLn : Hid ((Args.joinB (Args.txt ⟨verb, slice, count, u, names⟩)).size ≤ 100000) := Lib.hid (line_le s0 s1 c0 c1 hu hv (by rw [HN.out]; exact hn) hsz.out)
        go_wp2
        clear k0 k1 k2 k3 k4 kf
        go_loopg [85, 5] (N + 1) (fun kq v85 v5 w' => ∃ i : Nat, v85 = .int .i64 (i : Int) ∧ v5 = .bool false ∧ Hid (i + kq = N + 1 ∧ i ≤ N) ∧ Hid (Bk w w' [.string verb, .int .i64 slice, .int .i64 count, .int .u32 u, .slice sa N sc]))
        case atStart => exact ⟨0, rfl, rfl, Lib.hid ⟨by omega, by omega⟩, HK⟩
        case round =>
          clear HK
          obtain ⟨i, rfl, rfl, hi, HK⟩ := hrel
          obtain ⟨k0, k1, k2, k3, k4, kf⟩ := arr5 HK.out.a
          cases gk with
          | zero => exact absurd hi.out.1 (by have := hi.out.2; omega)
          | succ k9 =>
            by_cases hlt : i < N
            · have g1 : (i : Int) < (N : Int) := by omega
              go_wp2
              go_roundg k9
              case measure => omega
              case rel => exact ⟨i + 1, congrArg _ (by omega), rfl, Lib.hid ⟨by have := hi.out.1; omega, by omega⟩, HK⟩
            · have hiN : N = i := by have := hi.out.2; omega
              subst hiN
              have g1 : ¬ ((N : Int) < (N : Int)) := by omega
              go_wp2_with (go_at_call 8; refine (print_calls verb slice count u names _ rfl HLn.out hu s0 s1 c0 c1 (by omega) (by rw [HN.out]; omega) (fun x hx => Nat.le_trans (hsz.out x hx) (by decide)) B _ _ (G'.out.below HK.out.b) (S'.out.below HK.out.b)).mono ?_; rintro e w4 ⟨r4, k4', rfl, hr4, hd⟩; have HK := Lib.hid (HK.out.below hd); obtain ⟨rfl, rfl⟩ := (hr4.resolve_left (fun h => HQ.out (Args.prs_ok right _ _ h.1))).2; clear hd hr4)
              go_ret
              exact ⟨rfl, HK.out.b⟩
set_option maxHeartbeats 16000000 in
set_option maxRecDepth 100000 in
/-- a number is out of its bounds -/
theorem back_cr5
    (verb : ByteArray) (slice count : Int) (u : Nat) (names : List ByteArray) (s0 : -9223372036854775808 ≤ slice) (s1 : slice ≤ 9223372036854775807) (c0 : -9223372036854775808 ≤ count) (c1 : count ≤ 9223372036854775807) (hu : u ≤ 4294967295)
    (hv : verb.size ≤ 100) (hn : names.length ≤ 20) (B : Nat) (sl : Value) (w : World) (G : Good w) (S : Strs B w sl names)
    (t1 : (verb.toList == ([99, 114, 101, 97, 116, 101] : List UInt8)) = true) (p1 : 1 ≤ slice) (p2 : slice ≤ 256) (p3 : 0 ≤ count) (p4 : count ≤ 64) (b5 : ((u : Int) == 0) = false) (HQ : Hid (¬ Args.okA right ⟨verb, slice, count, u, names⟩)) :
    Calls Tryd.prog 3 #[.agg #[.string verb, .int .i64 slice, .int .i64 count, .int .u32 u, sl]] w fun e w' => e = .returned (.bool true) ∧ Below w.heap.size w w' := by
  have G' := Lib.hid G
  have S' := Lib.hid S
  clear G
  obtain ⟨sa, sc, rfl, -⟩ := S
  obtain ⟨N, hN⟩ : ∃ N, names.length = N := ⟨_, rfl⟩
  have HN := Lib.hid hN
  rw [hN] at hn S' ⊢
  clear hN
  have HK := Lib.hid (bk_start w (.string verb) (.int .i64 slice) (.int .i64 count) (.int .u32 u) (.slice sa N sc) 25)
  have gv : ¬ ((verb.size : Int) > 100) := by omega
  have gn : ¬ ((N : Int) > 20) := by omega
  go_enter Tryd.func3, Tryd.ntmps3
  go_wp2_with (go_at_call 5; refine (awake_calls _ (G'.out.below HK.out.b)).mono ?_; rintro e w1 ⟨rfl, hd⟩; have HK := Lib.hid (HK.out.below hd); obtain ⟨k0, k1, k2, k3, k4, kf⟩ := arr5 HK.out.a; clear hd)
  clear k0 k1 k2 k3 k4 kf
  go_loopg [30] (N + 1) (fun kq v30 w' => ∃ i : Nat, v30 = .int .i64 (i : Int) ∧ Hid (i + kq = N + 1 ∧ i ≤ N ∧ ∀ x ∈ names.take i, x.size ≤ 100) ∧ Hid (Bk w w' [.string verb, .int .i64 slice, .int .i64 count, .int .u32 u, .slice sa N sc]))
  case atStart => exact ⟨0, rfl, Lib.hid ⟨by omega, by omega, by simp⟩, HK⟩
  case round =>
    clear HK
    obtain ⟨i, rfl, hi, HK⟩ := hrel
    obtain ⟨k0, k1, k2, k3, k4, kf⟩ := arr5 HK.out.a
    cases gk with
    | zero => exact absurd hi.out.1 (by have := hi.out.2.1; omega)
    | succ k9 =>
      by_cases hlt : i < N
      · obtain ⟨o, rfl, HR⟩ : ∃ o, sa = some ⟨B, o, none⟩ ∧ Row B o names w := strs_row S'.out HN.out hlt
        obtain ⟨nm, hnm⟩ : ∃ nm, names.getD i ⟨#[]⟩ = nm := ⟨_, rfl⟩
        have x1 := (HR.below HK.out.b).cells i (by rw [HN.out]; exact hlt)
        rw [hnm] at x1
        have hni := Lib.hid (getD_some hnm (by rw [HN.out]; exact hlt))
        clear hnm HR
        have g1 : (i : Int) < (N : Int) := by omega
        by_cases h100 : nm.size ≤ 100
        · have g2 : ¬ ((nm.size : Int) > 100) := by omega
          go_wp2
          go_roundg k9
          case measure => omega
          case rel => exact ⟨i + 1, congrArg _ (by omega), Lib.hid ⟨by have := hi.out.1; omega, by omega, take_le hi.out.2.2 hni.out h100⟩, HK⟩
        · have g2 : ((nm.size : Int) > 100) := by omega
          go_wp2
          go_ret
          exact ⟨rfl, HK.out.b⟩
      · have hiN : N = i := by have := hi.out.2.1; omega
        subst hiN
        have g1 : ¬ ((N : Int) < (N : Int)) := by omega
        have hsz : Hid (∀ x ∈ names, x.size ≤ 100) := Lib.hid (by
          have h := hi.out.2.2
          rw [← HN.out, List.take_length] at h
          exact h)
        clear hlt hi
        have HLn : Hid ((Args.joinB (Args.txt ⟨verb, slice, count, u, names⟩)).size ≤ 100000) := Lib.hid (line_le s0 s1 c0 c1 hu hv (by rw [HN.out]; exact hn) hsz.out)
        go_wp2
        clear k0 k1 k2 k3 k4 kf
        go_loopg [85, 5] (N + 1) (fun kq v85 v5 w' => ∃ i : Nat, v85 = .int .i64 (i : Int) ∧ v5 = .bool false ∧ Hid (i + kq = N + 1 ∧ i ≤ N) ∧ Hid (Bk w w' [.string verb, .int .i64 slice, .int .i64 count, .int .u32 u, .slice sa N sc]))
        case atStart => exact ⟨0, rfl, rfl, Lib.hid ⟨by omega, by omega⟩, HK⟩
        case round =>
          clear HK
          obtain ⟨i, rfl, rfl, hi, HK⟩ := hrel
          obtain ⟨k0, k1, k2, k3, k4, kf⟩ := arr5 HK.out.a
          cases gk with
          | zero => exact absurd hi.out.1 (by have := hi.out.2; omega)
          | succ k9 =>
            by_cases hlt : i < N
            · have g1 : (i : Int) < (N : Int) := by omega
              go_wp2
              go_roundg k9
              case measure => omega
              case rel => exact ⟨i + 1, congrArg _ (by omega), rfl, Lib.hid ⟨by have := hi.out.1; omega, by omega⟩, HK⟩
            · have hiN : N = i := by have := hi.out.2; omega
              subst hiN
              have g1 : ¬ ((N : Int) < (N : Int)) := by omega
              go_wp2_with (go_at_call 8; refine (print_calls verb slice count u names _ rfl HLn.out hu s0 s1 c0 c1 (by omega) (by rw [HN.out]; omega) (fun x hx => Nat.le_trans (hsz.out x hx) (by decide)) B _ _ (G'.out.below HK.out.b) (S'.out.below HK.out.b)).mono ?_; rintro e w4 ⟨r4, k4', rfl, hr4, hd⟩; have HK := Lib.hid (HK.out.below hd); obtain ⟨rfl, rfl⟩ := (hr4.resolve_left (fun h => HQ.out (Args.prs_ok right _ _ h.1))).2; clear hd hr4)
              go_ret
              exact ⟨rfl, HK.out.b⟩
set_option maxHeartbeats 16000000 in
set_option maxRecDepth 100000 in
/-- a number is out of its bounds -/
theorem back_cr6
    (verb : ByteArray) (slice count : Int) (u : Nat) (names : List ByteArray) (s0 : -9223372036854775808 ≤ slice) (s1 : slice ≤ 9223372036854775807) (c0 : -9223372036854775808 ≤ count) (c1 : count ≤ 9223372036854775807) (hu : u ≤ 4294967295)
    (hv : verb.size ≤ 100) (hn : names.length ≤ 20) (B : Nat) (sl : Value) (w : World) (G : Good w) (S : Strs B w sl names)
    (t1 : (verb.toList == ([99, 114, 101, 97, 116, 101] : List UInt8)) = true) (p1 : 1 ≤ slice) (p2 : slice ≤ 256) (p3 : 0 ≤ count) (p4 : count ≤ 64) (b5 : ((u : Int) == 0) = true) (h6 : ¬ 1 ≤ names.length) (HQ : Hid (¬ Args.okA right ⟨verb, slice, count, u, names⟩)) :
    Calls Tryd.prog 3 #[.agg #[.string verb, .int .i64 slice, .int .i64 count, .int .u32 u, sl]] w fun e w' => e = .returned (.bool true) ∧ Below w.heap.size w w' := by
  have G' := Lib.hid G
  have S' := Lib.hid S
  clear G
  obtain ⟨sa, sc, rfl, -⟩ := S
  obtain ⟨N, hN⟩ : ∃ N, names.length = N := ⟨_, rfl⟩
  have HN := Lib.hid hN
  rw [hN] at hn S' ⊢
  clear hN
  have HK := Lib.hid (bk_start w (.string verb) (.int .i64 slice) (.int .i64 count) (.int .u32 u) (.slice sa N sc) 25)
  have gv : ¬ ((verb.size : Int) > 100) := by omega
  have gn : ¬ ((N : Int) > 20) := by omega
  go_enter Tryd.func3, Tryd.ntmps3
  go_wp2_with (go_at_call 5; refine (awake_calls _ (G'.out.below HK.out.b)).mono ?_; rintro e w1 ⟨rfl, hd⟩; have HK := Lib.hid (HK.out.below hd); obtain ⟨k0, k1, k2, k3, k4, kf⟩ := arr5 HK.out.a; clear hd)
  clear k0 k1 k2 k3 k4 kf
  go_loopg [30] (N + 1) (fun kq v30 w' => ∃ i : Nat, v30 = .int .i64 (i : Int) ∧ Hid (i + kq = N + 1 ∧ i ≤ N ∧ ∀ x ∈ names.take i, x.size ≤ 100) ∧ Hid (Bk w w' [.string verb, .int .i64 slice, .int .i64 count, .int .u32 u, .slice sa N sc]))
  case atStart => exact ⟨0, rfl, Lib.hid ⟨by omega, by omega, by simp⟩, HK⟩
  case round =>
    clear HK
    obtain ⟨i, rfl, hi, HK⟩ := hrel
    obtain ⟨k0, k1, k2, k3, k4, kf⟩ := arr5 HK.out.a
    cases gk with
    | zero => exact absurd hi.out.1 (by have := hi.out.2.1; omega)
    | succ k9 =>
      by_cases hlt : i < N
      · obtain ⟨o, rfl, HR⟩ : ∃ o, sa = some ⟨B, o, none⟩ ∧ Row B o names w := strs_row S'.out HN.out hlt
        obtain ⟨nm, hnm⟩ : ∃ nm, names.getD i ⟨#[]⟩ = nm := ⟨_, rfl⟩
        have x1 := (HR.below HK.out.b).cells i (by rw [HN.out]; exact hlt)
        rw [hnm] at x1
        have hni := Lib.hid (getD_some hnm (by rw [HN.out]; exact hlt))
        clear hnm HR
        have g1 : (i : Int) < (N : Int) := by omega
        by_cases h100 : nm.size ≤ 100
        · have g2 : ¬ ((nm.size : Int) > 100) := by omega
          go_wp2
          go_roundg k9
          case measure => omega
          case rel => exact ⟨i + 1, congrArg _ (by omega), Lib.hid ⟨by have := hi.out.1; omega, by omega, take_le hi.out.2.2 hni.out h100⟩, HK⟩
        · have g2 : ((nm.size : Int) > 100) := by omega
          go_wp2
          go_ret
          exact ⟨rfl, HK.out.b⟩
      · have hiN : N = i := by have := hi.out.2.1; omega
        subst hiN
        have g1 : ¬ ((N : Int) < (N : Int)) := by omega
        have hsz : Hid (∀ x ∈ names, x.size ≤ 100) := Lib.hid (by
          have h := hi.out.2.2
          rw [← HN.out, List.take_length] at h
          exact h)
        clear hlt hi
        have HLn : Hid ((Args.joinB (Args.txt ⟨verb, slice, count, u, names⟩)).size ≤ 100000) := Lib.hid (line_le s0 s1 c0 c1 hu hv (by rw [HN.out]; exact hn) hsz.out)
        have n6 : ¬ ((N : Int) ≥ 1) := by rw [HN.out] at h6; omega
        clear h6
        go_wp2
        clear k0 k1 k2 k3 k4 kf
        go_loopg [85, 5] (N + 1) (fun kq v85 v5 w' => ∃ i : Nat, v85 = .int .i64 (i : Int) ∧ v5 = .bool false ∧ Hid (i + kq = N + 1 ∧ i ≤ N) ∧ Hid (Bk w w' [.string verb, .int .i64 slice, .int .i64 count, .int .u32 u, .slice sa N sc]))
        case atStart => exact ⟨0, rfl, rfl, Lib.hid ⟨by omega, by omega⟩, HK⟩
        case round =>
          clear HK
          obtain ⟨i, rfl, rfl, hi, HK⟩ := hrel
          obtain ⟨k0, k1, k2, k3, k4, kf⟩ := arr5 HK.out.a
          cases gk with
          | zero => exact absurd hi.out.1 (by have := hi.out.2; omega)
          | succ k9 =>
            by_cases hlt : i < N
            · have g1 : (i : Int) < (N : Int) := by omega
              go_wp2
              go_roundg k9
              case measure => omega
              case rel => exact ⟨i + 1, congrArg _ (by omega), rfl, Lib.hid ⟨by have := hi.out.1; omega, by omega⟩, HK⟩
            · have hiN : N = i := by have := hi.out.2; omega
              subst hiN
              have g1 : ¬ ((N : Int) < (N : Int)) := by omega
              go_wp2_with (go_at_call 8; refine (print_calls verb slice count u names _ rfl HLn.out hu s0 s1 c0 c1 (by omega) (by rw [HN.out]; omega) (fun x hx => Nat.le_trans (hsz.out x hx) (by decide)) B _ _ (G'.out.below HK.out.b) (S'.out.below HK.out.b)).mono ?_; rintro e w4 ⟨r4, k4', rfl, hr4, hd⟩; have HK := Lib.hid (HK.out.below hd); obtain ⟨rfl, rfl⟩ := (hr4.resolve_left (fun h => HQ.out (Args.prs_ok right _ _ h.1))).2; clear hd hr4)
              go_ret
              exact ⟨rfl, HK.out.b⟩
set_option maxHeartbeats 16000000 in
set_option maxRecDepth 100000 in
/-- a number is out of its bounds -/
theorem back_cr7
    (verb : ByteArray) (slice count : Int) (u : Nat) (names : List ByteArray) (s0 : -9223372036854775808 ≤ slice) (s1 : slice ≤ 9223372036854775807) (c0 : -9223372036854775808 ≤ count) (c1 : count ≤ 9223372036854775807) (hu : u ≤ 4294967295)
    (hv : verb.size ≤ 100) (hn : names.length ≤ 20) (B : Nat) (sl : Value) (w : World) (G : Good w) (S : Strs B w sl names)
    (t1 : (verb.toList == ([99, 114, 101, 97, 116, 101] : List UInt8)) = true) (p1 : 1 ≤ slice) (p2 : slice ≤ 256) (p3 : 0 ≤ count) (p4 : count ≤ 64) (b5 : ((u : Int) == 0) = true) (h6 : 1 ≤ names.length) (h7 : ¬ names.length ≤ 8) (HQ : Hid (¬ Args.okA right ⟨verb, slice, count, u, names⟩)) :
    Calls Tryd.prog 3 #[.agg #[.string verb, .int .i64 slice, .int .i64 count, .int .u32 u, sl]] w fun e w' => e = .returned (.bool true) ∧ Below w.heap.size w w' := by
  have G' := Lib.hid G
  have S' := Lib.hid S
  clear G
  obtain ⟨sa, sc, rfl, -⟩ := S
  obtain ⟨N, hN⟩ : ∃ N, names.length = N := ⟨_, rfl⟩
  have HN := Lib.hid hN
  rw [hN] at hn S' ⊢
  clear hN
  have HK := Lib.hid (bk_start w (.string verb) (.int .i64 slice) (.int .i64 count) (.int .u32 u) (.slice sa N sc) 25)
  have gv : ¬ ((verb.size : Int) > 100) := by omega
  have gn : ¬ ((N : Int) > 20) := by omega
  go_enter Tryd.func3, Tryd.ntmps3
  go_wp2_with (go_at_call 5; refine (awake_calls _ (G'.out.below HK.out.b)).mono ?_; rintro e w1 ⟨rfl, hd⟩; have HK := Lib.hid (HK.out.below hd); obtain ⟨k0, k1, k2, k3, k4, kf⟩ := arr5 HK.out.a; clear hd)
  clear k0 k1 k2 k3 k4 kf
  go_loopg [30] (N + 1) (fun kq v30 w' => ∃ i : Nat, v30 = .int .i64 (i : Int) ∧ Hid (i + kq = N + 1 ∧ i ≤ N ∧ ∀ x ∈ names.take i, x.size ≤ 100) ∧ Hid (Bk w w' [.string verb, .int .i64 slice, .int .i64 count, .int .u32 u, .slice sa N sc]))
  case atStart => exact ⟨0, rfl, Lib.hid ⟨by omega, by omega, by simp⟩, HK⟩
  case round =>
    clear HK
    obtain ⟨i, rfl, hi, HK⟩ := hrel
    obtain ⟨k0, k1, k2, k3, k4, kf⟩ := arr5 HK.out.a
    cases gk with
    | zero => exact absurd hi.out.1 (by have := hi.out.2.1; omega)
    | succ k9 =>
      by_cases hlt : i < N
      · obtain ⟨o, rfl, HR⟩ : ∃ o, sa = some ⟨B, o, none⟩ ∧ Row B o names w := strs_row S'.out HN.out hlt
        obtain ⟨nm, hnm⟩ : ∃ nm, names.getD i ⟨#[]⟩ = nm := ⟨_, rfl⟩
        have x1 := (HR.below HK.out.b).cells i (by rw [HN.out]; exact hlt)
        rw [hnm] at x1
        have hni := Lib.hid (getD_some hnm (by rw [HN.out]; exact hlt))
        clear hnm HR
        have g1 : (i : Int) < (N : Int) := by omega
        by_cases h100 : nm.size ≤ 100
        · have g2 : ¬ ((nm.size : Int) > 100) := by omega
          go_wp2
          go_roundg k9
          case measure => omega
          case rel => exact ⟨i + 1, congrArg _ (by omega), Lib.hid ⟨by have := hi.out.1; omega, by omega, take_le hi.out.2.2 hni.out h100⟩, HK⟩
        · have g2 : ((nm.size : Int) > 100) := by omega
          go_wp2
          go_ret
          exact ⟨rfl, HK.out.b⟩
      · have hiN : N = i := by have := hi.out.2.1; omega
        subst hiN
        have g1 : ¬ ((N : Int) < (N : Int)) := by omega
        have hsz : Hid (∀ x ∈ names, x.size ≤ 100) := Lib.hid (by
          have h := hi.out.2.2
          rw [← HN.out, List.take_length] at h
          exact h)
        clear hlt hi
        have HLn : Hid ((Args.joinB (Args.txt ⟨verb, slice, count, u, names⟩)).size ≤ 100000) := Lib.hid (line_le s0 s1 c0 c1 hu hv (by rw [HN.out]; exact hn) hsz.out)
        have n6 : ((N : Int) ≥ 1) := by rw [HN.out] at h6; omega
        clear h6
        have n7 : ¬ ((N : Int) ≤ 8) := by rw [HN.out] at h7; omega
        clear h7
        go_wp2
        clear k0 k1 k2 k3 k4 kf
        go_loopg [85, 5] (N + 1) (fun kq v85 v5 w' => ∃ i : Nat, v85 = .int .i64 (i : Int) ∧ v5 = .bool false ∧ Hid (i + kq = N + 1 ∧ i ≤ N) ∧ Hid (Bk w w' [.string verb, .int .i64 slice, .int .i64 count, .int .u32 u, .slice sa N sc]))
        case atStart => exact ⟨0, rfl, rfl, Lib.hid ⟨by omega, by omega⟩, HK⟩
        case round =>
          clear HK
          obtain ⟨i, rfl, rfl, hi, HK⟩ := hrel
          obtain ⟨k0, k1, k2, k3, k4, kf⟩ := arr5 HK.out.a
          cases gk with
          | zero => exact absurd hi.out.1 (by have := hi.out.2; omega)
          | succ k9 =>
            by_cases hlt : i < N
            · have g1 : (i : Int) < (N : Int) := by omega
              go_wp2
              go_roundg k9
              case measure => omega
              case rel => exact ⟨i + 1, congrArg _ (by omega), rfl, Lib.hid ⟨by have := hi.out.1; omega, by omega⟩, HK⟩
            · have hiN : N = i := by have := hi.out.2; omega
              subst hiN
              have g1 : ¬ ((N : Int) < (N : Int)) := by omega
              go_wp2_with (go_at_call 8; refine (print_calls verb slice count u names _ rfl HLn.out hu s0 s1 c0 c1 (by omega) (by rw [HN.out]; omega) (fun x hx => Nat.le_trans (hsz.out x hx) (by decide)) B _ _ (G'.out.below HK.out.b) (S'.out.below HK.out.b)).mono ?_; rintro e w4 ⟨r4, k4', rfl, hr4, hd⟩; have HK := Lib.hid (HK.out.below hd); obtain ⟨rfl, rfl⟩ := (hr4.resolve_left (fun h => HQ.out (Args.prs_ok right _ _ h.1))).2; clear hd hr4)
              go_ret
              exact ⟨rfl, HK.out.b⟩
end Go.Proofs.YtfdfijohcapgaaaDoor.Path

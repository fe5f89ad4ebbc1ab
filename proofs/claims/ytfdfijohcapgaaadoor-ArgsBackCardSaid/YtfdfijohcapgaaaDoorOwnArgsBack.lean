/- The law ArgsBack: it answers true. -/
import Derived.Test.YtfdfijohcapgaaaDoorArgsY1
import Derived.Test.YtfdfijohcapgaaaDoorArgsY2
import Derived.Test.YtfdfijohcapgaaaDoorArgsY3
import Derived.Test.YtfdfijohcapgaaaDoorArgsY4
import Derived.Test.YtfdfijohcapgaaaDoorArgsY5
import Derived.Test.YtfdfijohcapgaaaDoorOpenArgs
namespace Go.Proofs.YtfdfijohcapgaaaDoor.Path
open Go Go.RowKit Go.Shelf Go.Proofs.YtfdfijohcapgaaaDoor.QPart Go.Proofs.YtfdfijohcapgaaaDoorW.PrintWords Go.Proofs.YtfdfijohcapgaaaDoorW.PrintLast Go.Proofs.YtfdfijohcapgaaaDoorW.PrintMore

theorem okA_cr {slice count frm : Int} {names : List ByteArray} (h : Args.okA right ⟨Args.crB, slice, count, frm, names⟩) : 1 ≤ slice ∧ slice ≤ 256 ∧ 0 ≤ count ∧ count ≤ 64 ∧ frm = 0 ∧ 1 ≤ names.length ∧ names.length ≤ 8 ∧ names.all right = true := by
  rcases h with h | h | h
  · exact h.2
  · exact absurd h.1 (by simp only; decide)
  · rcases h.1 with h | h | h <;> exact absurd h (by simp only; decide)
theorem okA_ex {slice count frm : Int} {names : List ByteArray} (h : Args.okA right ⟨Args.exB, slice, count, frm, names⟩) : slice = 0 ∧ 1 ≤ count ∧ count ≤ 64 ∧ names = [] := by
  rcases h with h | h | h
  · exact absurd h.1 (by simp only; decide)
  · exact h.2
  · rcases h.1 with h | h | h <;> exact absurd h (by simp only; decide)
theorem okA_al {verb : ByteArray} {slice count frm : Int} {names : List ByteArray} (hv : verb = Args.veB ∨ verb = Args.reB ∨ verb = Args.liB) (h : Args.okA right ⟨verb, slice, count, frm, names⟩) : slice = 0 ∧ count = 0 ∧ frm = 0 ∧ names = [] := by
  rcases h with h | h | h
  · have h1 : verb = Args.crB := h.1
    subst h1
    rcases hv with h | h | h <;> exact absurd h (by decide)
  · have h1 : verb = Args.exB := h.1
    subst h1
    rcases hv with h | h | h <;> exact absurd h (by decide)
  · exact h.2
theorem eq_at (verb c : ByteArray) (l : List UInt8) (hl : c.data.toList = l) : (verb.toList == l) = decide (verb = c) := by
  rw [← hl, ← Lib.toList_data c]; exact beq_bytes verb c
theorem join_one' (verb : ByteArray) (slice count frm : Int) (h : verb = Args.veB ∨ verb = Args.reB ∨ verb = Args.liB) : Args.joinB (Args.txt ⟨verb, slice, count, frm, []⟩) = verb := by
  have e : Args.txt ⟨verb, slice, count, frm, []⟩ = [verb] := by
    have n1 : ¬ verb = Args.crB := by rcases h with rfl | rfl | rfl <;> decide
    have n2 : ¬ verb = Args.exB := by rcases h with rfl | rfl | rfl <;> decide
    simp only [Args.txt, if_neg n1, if_neg n2]
  rw [e, ← Args.addB_join]; rfl
set_option maxHeartbeats 4000000 in
set_option maxRecDepth 100000 in
/-- too much: the door is asked alone -/
theorem back_long (verb : ByteArray) (slice count : Int) (u : Nat) (sa : Option Addr) (n c : Nat) (h : verb.size > 100 ∨ n > 20) (w : World) (G : Good w) :
    Calls Tryd.prog 3 #[.agg #[.string verb, .int .i64 slice, .int .i64 count, .int .u32 u, .slice sa n c]] w fun e w' => e = .returned (.bool true) ∧ Below w.heap.size w w' := by
  have G' := Lib.hid G
  clear G
  have HK := Lib.hid (bk_start w (.string verb) (.int .i64 slice) (.int .i64 count) (.int .u32 u) (.slice sa n c) 25)
  by_cases hv : verb.size > 100
  · have g1 : (verb.size : Int) > 100 := by omega
    clear h
    go_enter Tryd.func3, Tryd.ntmps3
    go_wp2_with (go_at_call 5; refine (awake_calls _ (G'.out.below HK.out.b)).mono ?_; rintro e w1 ⟨rfl, hd⟩; have HK := Lib.hid (HK.out.below hd); obtain ⟨k0, k1, k2, k3, k4, kf⟩ := arr5 HK.out.a; clear hd)
    go_ret
    exact ⟨rfl, HK.out.b⟩
  · have g1 : ¬ (verb.size : Int) > 100 := by omega
    have g2 : (n : Int) > 20 := by omega
    clear h hv
    go_enter Tryd.func3, Tryd.ntmps3
    go_wp2_with (go_at_call 5; refine (awake_calls _ (G'.out.below HK.out.b)).mono ?_; rintro e w1 ⟨rfl, hd⟩; have HK := Lib.hid (HK.out.below hd); obtain ⟨k0, k1, k2, k3, k4, kf⟩ := arr5 HK.out.a; clear hd)
    go_ret
    exact ⟨rfl, HK.out.b⟩
theorem backs (verb : ByteArray) (slice count : Int) (u : Nat) (names : List ByteArray) (s0 : -9223372036854775808 ≤ slice) (s1 : slice ≤ 9223372036854775807) (c0 : -9223372036854775808 ≤ count) (c1 : count ≤ 9223372036854775807) (hu : u ≤ 4294967295)
    (hv : verb.size ≤ 100) (hn : names.length ≤ 20) (B : Nat) (sl : Value) (w : World) (G : Good w) (S : Strs B w sl names) :
    Calls Tryd.prog 3 #[.agg #[.string verb, .int .i64 slice, .int .i64 count, .int .u32 u, sl]] w fun e w' => e = .returned (.bool true) ∧ Below w.heap.size w w' := by
  have bt : ∀ x : Int, x = 0 → (x == 0) = true := fun x h => beq_iff_eq.2 h
  have bf : ∀ x : Int, ¬ x = 0 → (x == 0) = false := fun x h => beq_eq_false_iff_ne.2 h
  have nl : ∀ {l : List ByteArray}, l.length = 0 → l = [] := fun h => List.eq_nil_of_length_eq_zero h
  have T : ∀ {c : ByteArray} {l : List UInt8}, c.data.toList = l → verb = c → (verb.toList == l) = true := fun hl h => by rw [eq_at verb _ _ hl]; exact decide_eq_true h
  have F : ∀ {c : ByteArray} {l : List UInt8}, c.data.toList = l → ¬ verb = c → (verb.toList == l) = false := fun hl h => by rw [eq_at verb _ _ hl]; exact decide_eq_false h
  have e1 : Args.crB.data.toList = [99, 114, 101, 97, 116, 101] := rfl
  have e2 : Args.exB.data.toList = [101, 120, 116, 101, 110, 100] := rfl
  have e3 : Args.veB.data.toList = [118, 101, 114, 105, 102, 121] := rfl
  have e4 : Args.reB.data.toList = [114, 101, 112, 97, 105, 114] := rfl
  have e5 : Args.liB.data.toList = [108, 105, 115, 116] := rfl
  by_cases n1 : verb = Args.crB
  · have t1 := T e1 n1
    have Q : ∀ {p : Prop}, ¬ p → (Args.okA right ⟨verb, slice, count, u, names⟩ → p) → Hid (¬ Args.okA right ⟨verb, slice, count, u, names⟩) := fun h h2 => Lib.hid fun h3 => h (h2 h3)
    have O : Args.okA right ⟨verb, slice, count, u, names⟩ → 1 ≤ slice ∧ slice ≤ 256 ∧ 0 ≤ count ∧ count ≤ 64 ∧ (u : Int) = 0 ∧ 1 ≤ names.length ∧ names.length ≤ 8 ∧ names.all right = true := fun h => by subst n1; exact okA_cr h
    by_cases p1 : 1 ≤ slice
    · by_cases p2 : slice ≤ 256
      · by_cases p3 : 0 ≤ count
        · by_cases p4 : count ≤ 64
          · by_cases p5 : (u : Int) = 0
            · by_cases p6 : 1 ≤ names.length
              · by_cases p7 : names.length ≤ 8
                · exact back_cr verb slice count u names s0 s1 c0 c1 hu hv hn B sl w G S t1 p1 p2 p3 p4 (bt _ p5) p6 p7 (Lib.hid n1)
                · exact back_cr7 verb slice count u names s0 s1 c0 c1 hu hv hn B sl w G S t1 p1 p2 p3 p4 (bt _ p5) p6 p7 (Q p7 fun h => (O h).2.2.2.2.2.2.1)
              · exact back_cr6 verb slice count u names s0 s1 c0 c1 hu hv hn B sl w G S t1 p1 p2 p3 p4 (bt _ p5) p6 (Q p6 fun h => (O h).2.2.2.2.2.1)
            · exact back_cr5 verb slice count u names s0 s1 c0 c1 hu hv hn B sl w G S t1 p1 p2 p3 p4 (bf _ p5) (Q p5 fun h => (O h).2.2.2.2.1)
          · exact back_cr4 verb slice count u names s0 s1 c0 c1 hu hv hn B sl w G S t1 p1 p2 p3 p4 (Q p4 fun h => (O h).2.2.2.1)
        · exact back_cr3 verb slice count u names s0 s1 c0 c1 hu hv hn B sl w G S t1 p1 p2 p3 (Q p3 fun h => (O h).2.2.1)
      · exact back_cr2 verb slice count u names s0 s1 c0 c1 hu hv hn B sl w G S t1 p1 p2 (Q p2 fun h => (O h).2.1)
    · exact back_cr1 verb slice count u names s0 s1 c0 c1 hu hv hn B sl w G S t1 p1 (Q p1 fun h => (O h).1)
  · have t1 := F e1 n1
    by_cases n2 : verb = Args.exB
    · have t2 := T e2 n2
      have O : Args.okA right ⟨verb, slice, count, u, names⟩ → slice = 0 ∧ 1 ≤ count ∧ count ≤ 64 ∧ names = [] := fun h => by subst n2; exact okA_ex h
      by_cases p1 : slice = 0
      · by_cases p2 : 1 ≤ count
        · by_cases p3 : count ≤ 64
          · by_cases p4 : names.length = 0
            · exact back_ex verb slice count u names s0 s1 c0 c1 hu hv hn B sl w G S t1 t2 (bt _ p1) p2 p3 p4 (Lib.hid n2) (Lib.hid (.inr (.inl ⟨n2, p1, p2, p3, nl p4⟩)))
            · exact back_ex4 verb slice count u names s0 s1 c0 c1 hu hv hn B sl w G S t1 t2 (bt _ p1) p2 p3 p4 (Lib.hid fun h => p4 (by rw [(O h).2.2.2]; rfl))
          · exact back_ex3 verb slice count u names s0 s1 c0 c1 hu hv hn B sl w G S t1 t2 (bt _ p1) p2 p3 (Lib.hid fun h => p3 (O h).2.2.1)
        · exact back_ex2 verb slice count u names s0 s1 c0 c1 hu hv hn B sl w G S t1 t2 (bt _ p1) p2 (Lib.hid fun h => p2 (O h).2.1)
      · exact back_ex1 verb slice count u names s0 s1 c0 c1 hu hv hn B sl w G S t1 t2 (bf _ p1) (Lib.hid fun h => p1 (O h).1)
    · have t2 := F e2 n2
      by_cases n3 : verb = Args.veB
      · have t3 := T e3 n3
        have hv3 : verb = Args.veB ∨ verb = Args.reB ∨ verb = Args.liB := by exact .inl n3
        have O := fun h => okA_al (verb := verb) (slice := slice) (count := count) (frm := (u : Int)) (names := names) hv3 h
        by_cases p1 : slice = 0
        · by_cases p2 : count = 0
          · by_cases p3 : (u : Int) = 0
            · by_cases p4 : names.length = 0
              · exact back_ve verb slice count u names s0 s1 c0 c1 hu hv hn B sl w G S t1 t2 t3 (bt _ p1) (bt _ p2) (bt _ p3) p4 (Lib.hid (.inr (.inr ⟨hv3, p1, p2, p3, nl p4⟩))) (Lib.hid (by rw [nl p4]; exact join_one' verb slice count u hv3))
              · exact back_ve4 verb slice count u names s0 s1 c0 c1 hu hv hn B sl w G S t1 t2 t3 (bt _ p1) (bt _ p2) (bt _ p3) p4 (Lib.hid fun h => p4 (by rw [(O h).2.2.2]; rfl))
            · exact back_ve3 verb slice count u names s0 s1 c0 c1 hu hv hn B sl w G S t1 t2 t3 (bt _ p1) (bt _ p2) (bf _ p3) (Lib.hid fun h => p3 (O h).2.2.1)
          · exact back_ve2 verb slice count u names s0 s1 c0 c1 hu hv hn B sl w G S t1 t2 t3 (bt _ p1) (bf _ p2) (Lib.hid fun h => p2 (O h).2.1)
        · exact back_ve1 verb slice count u names s0 s1 c0 c1 hu hv hn B sl w G S t1 t2 t3 (bf _ p1) (Lib.hid fun h => p1 (O h).1)
      · have t3 := F e3 n3
        by_cases n4 : verb = Args.reB
        · have t4 := T e4 n4
          have hv3 : verb = Args.veB ∨ verb = Args.reB ∨ verb = Args.liB := by exact .inr (.inl n4)
          have O := fun h => okA_al (verb := verb) (slice := slice) (count := count) (frm := (u : Int)) (names := names) hv3 h
          by_cases p1 : slice = 0
          · by_cases p2 : count = 0
            · by_cases p3 : (u : Int) = 0
              · by_cases p4 : names.length = 0
                · exact back_re verb slice count u names s0 s1 c0 c1 hu hv hn B sl w G S t1 t2 t3 t4 (bt _ p1) (bt _ p2) (bt _ p3) p4 (Lib.hid (.inr (.inr ⟨hv3, p1, p2, p3, nl p4⟩))) (Lib.hid (by rw [nl p4]; exact join_one' verb slice count u hv3))
                · exact back_re4 verb slice count u names s0 s1 c0 c1 hu hv hn B sl w G S t1 t2 t3 t4 (bt _ p1) (bt _ p2) (bt _ p3) p4 (Lib.hid fun h => p4 (by rw [(O h).2.2.2]; rfl))
              · exact back_re3 verb slice count u names s0 s1 c0 c1 hu hv hn B sl w G S t1 t2 t3 t4 (bt _ p1) (bt _ p2) (bf _ p3) (Lib.hid fun h => p3 (O h).2.2.1)
            · exact back_re2 verb slice count u names s0 s1 c0 c1 hu hv hn B sl w G S t1 t2 t3 t4 (bt _ p1) (bf _ p2) (Lib.hid fun h => p2 (O h).2.1)
          · exact back_re1 verb slice count u names s0 s1 c0 c1 hu hv hn B sl w G S t1 t2 t3 t4 (bf _ p1) (Lib.hid fun h => p1 (O h).1)
        · have t4 := F e4 n4
          by_cases n5 : verb = Args.liB
          · have t5 := T e5 n5
            have hv3 : verb = Args.veB ∨ verb = Args.reB ∨ verb = Args.liB := by exact .inr (.inr n5)
            have O := fun h => okA_al (verb := verb) (slice := slice) (count := count) (frm := (u : Int)) (names := names) hv3 h
            by_cases p1 : slice = 0
            · by_cases p2 : count = 0
              · by_cases p3 : (u : Int) = 0
                · by_cases p4 : names.length = 0
                  · exact back_li verb slice count u names s0 s1 c0 c1 hu hv hn B sl w G S t1 t2 t3 t4 t5 (bt _ p1) (bt _ p2) (bt _ p3) p4 (Lib.hid (.inr (.inr ⟨hv3, p1, p2, p3, nl p4⟩))) (Lib.hid (by rw [nl p4]; exact join_one' verb slice count u hv3))
                  · exact back_li4 verb slice count u names s0 s1 c0 c1 hu hv hn B sl w G S t1 t2 t3 t4 t5 (bt _ p1) (bt _ p2) (bt _ p3) p4 (Lib.hid fun h => p4 (by rw [(O h).2.2.2]; rfl))
                · exact back_li3 verb slice count u names s0 s1 c0 c1 hu hv hn B sl w G S t1 t2 t3 t4 t5 (bt _ p1) (bt _ p2) (bf _ p3) (Lib.hid fun h => p3 (O h).2.2.1)
              · exact back_li2 verb slice count u names s0 s1 c0 c1 hu hv hn B sl w G S t1 t2 t3 t4 t5 (bt _ p1) (bf _ p2) (Lib.hid fun h => p2 (O h).2.1)
            · exact back_li1 verb slice count u names s0 s1 c0 c1 hu hv hn B sl w G S t1 t2 t3 t4 t5 (bf _ p1) (Lib.hid fun h => p1 (O h).1)
          · have t5 := F e5 n5
            refine back_none verb slice count u names s0 s1 c0 c1 hu hv hn B sl w G S t1 t2 t3 t4 t5 (Lib.hid ?_)
            rintro (h | h | h)
            · exact n1 h.1
            · exact n2 h.1
            · rcases h.1 with h | h | h
              · exact n3 h
              · exact n4 h
              · exact n5 h
theorem back (cs : Array Value) (w : World) (h : ArgOk w cs) (G : Good w) :
    Calls Tryd.prog 3 #[.agg cs] w fun e w' => e = .returned (.bool true) ∧ Below w.heap.size w w' := by
  obtain ⟨verb, slice, count, u, names, B, sl, rfl, s0, s1, c0, c1, hu, -, -, -, S⟩ := h
  by_cases hl : verb.size > 100 ∨ names.length > 20
  · obtain ⟨sa, sc, rfl, -⟩ := S
    exact back_long verb slice count u sa _ sc hl w G
  · exact backs verb slice count u names s0 s1 c0 c1 hu (by omega) (by omega) B sl w G S
end Go.Proofs.YtfdfijohcapgaaaDoor.Path

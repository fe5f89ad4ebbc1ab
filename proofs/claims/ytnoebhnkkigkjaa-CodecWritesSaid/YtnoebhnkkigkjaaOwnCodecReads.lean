/- CodecReads: the walk. -/
import Derived.Test.YtnoebhnkkigkjaaCodecLaw
import Derived.Deep.QuietTactic
import Derived.BigQuiet
namespace Go.Proofs.Ytnoebhnkkigkjaa.Codec
open Go Go.RowKit Go.Proofs.YtnoebhnkkigkjaaW.PrintWords Go.Proofs.YtnoebhnkkigkjaaW.PrintMore

theorem u8_wf {x : Int} (h : (Lit.int .u8 x).wf = true) : 0 ≤ x ∧ x < 256 := by
  have h1 : IntKind.u8.min ≤ x ∧ x ≤ IntKind.u8.max := by simpa [Lit.wf] using h
  have e1 : IntKind.u8.min = 0 := by decide
  have e2 : IntKind.u8.max = 255 := by decide
  omega
theorem small_wrap {n : Int} (h0 : -1000000000000000 ≤ n) (h1 : n ≤ 1000000000000000) : wrap64 n = n := by unfold wrap64; omega
theorem up_wrap {j n : Nat} (h : j < n) (h1 : n ≤ 9223372036854775807) : wrap64 ((j : Int) + 1) = (j : Int) + 1 := by unfold wrap64; omega
theorem mids {L i m : Nat} (hL : (L : Int) ≤ 5000) (h : i + m ≤ L) : wrap64 ((L : Int) - (i : Int)) = (L : Int) - (i : Int) ∧ decide ((L : Int) - (i : Int) < (m : Int)) = false ∧ wrap64 ((i : Int) + (m : Int)) = (i : Int) + (m : Int) ∧ wrap64 ((L : Int) - ((i : Int) + (m : Int))) = (L : Int) - ((i : Int) + (m : Int)) := by
  refine ⟨small_wrap (by omega) (by omega), ?_, small_wrap (by omega) (by omega), small_wrap (by omega) (by omega)⟩
  simp; omega
theorem six {m : Nat} (h1 : 1 ≤ m) (h6 : m ≤ 6) : decide ((m : Int) < 1) = false ∧ decide (6 < (m : Int)) = false := by
  constructor <;> simp <;> omega
theorem le_of {L i m : Nat} {n : Int} (e : n = (m : Int)) (h : 1 ≤ n ∧ n ≤ 6 ∧ n ≤ (L : Int) - (i : Int)) : 1 ≤ m ∧ m ≤ 6 ∧ i + m ≤ L := by omega
theorem nat_of {n : Int} (h : 0 ≤ n) : ∃ m : Nat, n = (m : Int) := ⟨n.toNat, by omega⟩
set_option maxRecDepth 100000 in
theorem pow_six {m : Nat} (h : m ≤ 6) : (256 : Int) ^ m ≤ 256 ^ 6 := by exact_mod_cast Nat.pow_le_pow_right (by omega) h
theorem num_wrap {xs : List Int} {m : Nat} (hw : ∀ x ∈ xs, 0 ≤ x ∧ x < 256) (hm : m ≤ 6) (hl : m ≤ xs.length) : wrap64 (numOf (xs.take m)) = numOf (xs.take m) := by
  have hv := numOf_bound xs hw m hl
  have hp := pow_six hm
  refine small_wrap (by omega) (by omega)
theorem j_lt {j n : Nat} (h : j < n) : decide ((j : Int) < (n : Int)) = true := by simp; omega
theorem end_lt {j n : Nat} (h : j < n) : n - (intOf (Value.int .i64 ((j : Int) + 1))).toNat < n - (intOf (Value.int .i64 (j : Int))).toNat := by
  show n - ((j : Int) + 1).toNat < n - ((j : Int)).toNat
  omega
theorem drop_ge {xs : List Int} {i m : Nat} (h : i + m ≤ xs.length) : m ≤ (xs.drop i).length := by rw [List.length_drop]; omega
theorem dec_lt {a b : Int} (h : a < b) : decide (a < b) = true := by simp [h]
theorem dec_nlt {a b : Int} (h : ¬ a < b) : decide (a < b) = false := by simp [h]
theorem last_of {n d : Int} (h1 : ¬ n < 1) (h6 : ¬ 6 < n) (h : ¬ (1 ≤ n ∧ n ≤ 6 ∧ n ≤ d)) : d < n := by omega
theorem last_of0 {n d : Int} (h1 : ¬ n < 0) (h : ¬ (0 ≤ n ∧ n ≤ d)) : d < n := by omega
theorem drop_lt {xs : List Int} {i : Nat} {n : Int} (hi : i ≤ xs.length) (h : (xs.length : Int) - (i : Int) < n) : ((xs.drop i).length : Int) < n := by rw [List.length_drop]; omega
theorem len_wrap {L i : Nat} (hL : (L : Int) ≤ 5000) (h : i ≤ L) : wrap64 ((L : Int) - (i : Int)) = (L : Int) - (i : Int) := small_wrap (by omega) (by omega)
theorem InSt.below {w w' : World} {g : Nat} {st : Option (List Int)} (h : InSt w g st) (hb : Below w.heap.size w w') : InSt w' g st := by
  rcases st with _ | ys
  · exact InIs.below h hb
  · obtain ⟨A, c, h⟩ := h
    exact ⟨A, c, h.below hb⟩
theorem InSt.q {w : World} {g : Nat} {st : Option (List Int)} (h : InSt w g st) (n : Nat) : InSt (w.drewN n) g st := h.below (pw_below_drewN (Below.refl _ _) n)
theorem raw_row {w : World} {base : Nat} {e : TypeId} {v : Value} {zs : List Int} {m : Nat} (h : w.ownsRow base e 1 v zs.length (nums .u8 zs)) (hl : zs.length = m) (hm : m ≤ 9223372036854775807) : ∃ A c, v = .slice A m c ∧ ReadsInt w .u8 A m zs := by
  obtain ⟨A, c, rfl⟩ := own_slice h
  subst hl
  exact ⟨A, c, rfl, own_reads h rfl hm⟩
theorem le_of0 {L i m : Nat} (hL : (L : Int) ≤ 5000) (h : 0 ≤ (m : Int) ∧ (m : Int) ≤ (L : Int) - (i : Int)) : i + m ≤ L ∧ m ≤ 9223372036854775807 := by omega
theorem take_len {xs : List Int} {i m : Nat} (h : i + m ≤ xs.length) : ((xs.drop i).take m).length = m := by rw [List.length_take, List.length_drop]; omega
/-- what holds at each round: so many bytes are taken, or all is spoilt -/
def ReadsAt (W : World) (g : Nat) (xs : List Int) (v6 v7 : Value) (wr : World) : Prop :=
  Below W.heap.size W wr ∧ ((∃ i : Nat, i ≤ xs.length ∧ v6 = .int .i64 (i : Int) ∧ v7 = .bool false ∧ InSt wr g (some (xs.drop i))) ∨ (v6 = .int .i64 (xs.length : Int) ∧ v7 = .bool true ∧ InSt wr g none))
set_option maxHeartbeats 4000000 in
set_option maxRecDepth 100000 in
theorem codecreads (A0 : Option Addr) (c0 : Nat) (xs : List Int) (A1 : Option Addr) (c1 : Nat) (l : List (Int × Int × Int × List Int)) (W : World)
    (hC0 : (Kd.int .u8).C W A0 xs.length xs) (hl0 : xs.length ≤ c0) (hg0 : xs.length ≤ 9223372036854775807 ∧ ∀ x ∈ xs, (Lit.int .u8 x).wf = true)
    (hC1 : kitem.C W A1 l.length l) (hl1 : l.length ≤ c1) (hg1 : l.length ≤ 9223372036854775807 ∧ ∀ p ∈ l, (Lit.int .u8 p.1).wf = true ∧ (Lit.int .i64 p.2.1).wf = true ∧ (Lit.int .i64 p.2.2.1).wf = true ∧ (p.2.2.2.length ≤ 9223372036854775807 ∧ ∀ x ∈ p.2.2.2, (Lit.int .u8 x).wf = true)) :
    Calls Try.prog 4 #[.slice A0 xs.length c0, .slice A1 l.length c1] W fun e w' => e = .returned (.bool true) ∧ Below W.heap.size W w' := by
  have hf : ∀ w, Below W.heap.size W w → Calls Try.prog 11 #[.slice A1 l.length c1] w fun e w' => (∃ b, e = .returned (.bool b)) ∧ w = w' :=
    fun w hb => few_calls A1 c1 l w (Kd.C_below hC1 hb)
  have HF := Lib.hid hf
  have HR := Lib.hid (reads_of_kd hC0)
  have HC := Lib.hid hC1
  have HG0 := Lib.hid hg0.2
  have HG1 := Lib.hid hg1.2
  have HL := Lib.hid (And.intro hl0 (And.intro hg0.1 (And.intro hl1 hg1.1)))
  clear hf hl0 hC0 hg0 hl1 hC1 hg1
  by_cases hlen : 5000 < (xs.length : Int)
  · have tl : decide (5000 < (xs.length : Int)) = true := by simp only [decide_eq_true_eq]; exact hlen
    clear hlen
    go_enter Try.func4, Try.ntmps4
    go_wp2_with (first
      | (go_at_call 10; (with_reducible refine (awake_calls _).mono ?_); rintro e w1 ⟨rfl, e1⟩; first | (have E1 := Lib.hid (E1.out.trans (e1.mono E1.out.size)); clear e1) | (have E1 := Lib.hid e1; clear e1))
      | (go_at_call 11; (with_reducible refine (HF.out _ E1.out).mono ?_); rintro e w2 ⟨⟨b, rfl⟩, rfl⟩; cases b))
    all_goals
      go_ret
      exact ⟨rfl, E1.out⟩
  · have tl : decide (5000 < (xs.length : Int)) = false := by simp only [decide_eq_false_iff_not]; exact hlen
    have HX := Lib.hid (show (xs.length : Int) ≤ 5000 by omega)
    clear hlen
    go_enter Try.func4, Try.ntmps4
    go_wp2_with (first
      | (go_at_call 10; (with_reducible refine (awake_calls _).mono ?_); rintro e w1 ⟨rfl, e1⟩; first | (have E1 := Lib.hid (E1.out.trans (e1.mono E1.out.size)); clear e1) | (have E1 := Lib.hid e1; clear e1))
      | (go_at_call 11; (with_reducible refine (HF.out _ E1.out).mono ?_); rintro e w2 ⟨⟨b, rfl⟩, rfl⟩; cases b)
      | (go_at_call 17; (with_reducible refine (newin_calls A0 xs.length c0 xs _ (reads_below HR.out (E1.out.mono (Nat.le_refl _))) (by have := HX.out; omega)).mono ?_); rintro e w2 ⟨g, rfl, e1, e2, e3⟩; have E2 := Lib.hid (And.intro (Nat.le_trans E1.out.size e1) (And.intro e2 (E1.out.trans (e3.mono E1.out.size)))); clear e1 e2 e3))
    · go_ret
      exact ⟨rfl, E1.out⟩
    · go_loopw [6, 7, 29] (fun v6 v7 v29 wr => ∃ j : Nat, j ≤ l.length ∧ v29 = .int .i64 (j : Int) ∧ ReadsAt W g xs v6 v7 wr) (fun _ _ v29 _ => l.length - (intOf v29).toNat)
      case atStart => exact ⟨0, by omega, rfl, E2.out.2.2, .inl ⟨0, by omega, rfl, rfl, by rw [List.drop_zero]; exact E2.out.2.1⟩⟩
      case round =>
        obtain ⟨j, hj, rfl, hrel⟩ := hrel
        by_cases hjn : j < l.length
        · obtain ⟨ad, A', c', rfl, f0, f1, f2, f3, f4, f5⟩ := item_at (Kd.C_below HC.out hrel.1) j hjn
          have t3 := j_lt hjn
          have hwj : wrap64 ((j : Int) + 1) = (j : Int) + 1 := up_wrap hjn HL.out.2.2.2
          have HWJ := Lib.hid hwj
          have hend := end_lt hjn
          have HE := Lib.hid (show j + 1 ≤ l.length from hjn)
          clear f1 f3 f4 f5
          have hwn := (HG1.out _ (List.getElem_mem HE.out)).2.2.1
          have HWN := Lib.hid hwn
          generalize l[j].1 = k at f0
          generalize l[j].2.2.1 = n at f2 HWN
          clear hwn hjn
          obtain ⟨hB, hrel⟩ := hrel
          have HB := Lib.hid hB
          clear hB
          have HX2 := HX.out
          rcases hrel with ⟨i, hi, rfl, rfl, hI⟩ | ⟨rfl, rfl, hI⟩
          · by_cases hk : k < 3
            · have t4 : decide (k < 3) = true := by simp [hk]
              by_cases hn : 1 ≤ n ∧ n ≤ 6 ∧ n ≤ (xs.length : Int) - (i : Int)
              · obtain ⟨m, rfl⟩ : ∃ m : Nat, n = (m : Int) := nat_of (Int.le_trans (by decide) hn.1)
                obtain ⟨h1, h6, him⟩ := le_of rfl hn
                obtain ⟨t5, t6⟩ := six h1 h6
                obtain ⟨t7, t8, t9, t10⟩ := mids HX.out him
                obtain ⟨A2, c2, hI⟩ := hI
                have hwf : ∀ x ∈ xs.drop i, 0 ≤ x ∧ x < 256 := fun x hx => u8_wf (HG0.out x (List.mem_of_mem_drop hx))
                have HN0 := inn_ok g A2 c2 (xs.drop i) m wr hI h1 h6 (drop_ge him) hwf
                rw [List.drop_drop] at HN0
                have HN := Lib.hid HN0
                obtain ⟨A3, s1, s2⟩ := mid_at A0 c0 xs i m him HL.out.1
                have HS := Lib.hid s2
                have hwv := num_wrap hwf h6 (drop_ge him)
                have HU := Lib.hid (number_calls A3 m (c0 - i) ((xs.drop i).take m))
                have HNW := Lib.hid (fun x (hx : x ∈ (xs.drop i).take m) => hwf x (List.mem_of_mem_take hx))
                have HM6 := Lib.hid h6
                have HIM := Lib.hid him
                clear hI hwf HN0 s2 hn him hi hk hj HX2 h1 h6
                generalize numOf ((xs.drop i).take m) = V at *
                go_wp2_with (first
                  | (go_at_call 18; (with_reducible refine HN.out.mono ?_); rintro e w3 ⟨rfl, e1, e2⟩; have E3 := Lib.hid (And.intro e1 (keep_below HB.out E2.out.1 e2)); clear e1 e2)
                  | (go_at_call 23; (with_reducible refine (HU.out _ (HS.out _ (reads_below HR.out E3.out.2)) HM6.out HNW.out).mono ?_); rintro e w4 ⟨rfl, rfl⟩)
                  | (go_at_call 22; (with_reducible refine (bad_some g _ _ E3.out.1).mono ?_); rintro e w4 ⟨rfl, rfl⟩)
                  | (go_at_call 24; (with_reducible refine (left_some g xs i m HIM.out _ E3.out.1).mono ?_); rintro e w4 ⟨rfl, rfl⟩)
                  | (go_at_call 21; (with_reducible refine (done_some g xs i m HIM.out _ E3.out.1).mono ?_); rintro e w4 ⟨rfl, rfl⟩))
                rw [HWJ.out]
                exact ⟨⟨j + 1, HE.out, by norm_cast, E3.out.2, .inl ⟨i + m, HIM.out, by norm_cast, rfl, E3.out.1⟩⟩, hend⟩
              · by_cases h1 : n < 1
                · have t5 := dec_lt h1
                  have HN := Lib.hid (inn_spoil g _ n wr hI (fun _ _ => .inl h1))
                  clear hI hj
                  go_wp2_with (first
                    | (go_at_call 18; (with_reducible refine HN.out.mono ?_); rintro e w3 ⟨rfl, e1, e2⟩; have E3 := Lib.hid (And.intro e1 (keep_below HB.out E2.out.1 e2)); clear e1 e2)
                    | (go_at_call 20; (with_reducible refine HN.out.mono ?_); rintro e w3 ⟨rfl, e1, e2⟩; have E3 := Lib.hid (And.intro e1 (keep_below HB.out E2.out.1 e2)); clear e1 e2)
                    | (go_at_call 22; (with_reducible refine (bad_none g _ E3.out.1).mono ?_); rintro e w4 ⟨rfl, rfl⟩)
                    | (go_at_call 24; (with_reducible refine (left_none g _ E3.out.1).mono ?_); rintro e w4 ⟨rfl, rfl⟩)
                    | (go_at_call 21; (with_reducible refine (done_none g _ E3.out.1).mono ?_); rintro e w4 ⟨rfl, rfl⟩))
                  all_goals try rw [HWJ.out]
                  exact ⟨⟨j + 1, HE.out, by norm_cast, E3.out.2, .inr ⟨rfl, rfl, E3.out.1⟩⟩, hend⟩
                by_cases h6 : 6 < n
                · have t5 := dec_nlt h1
                  have t6 := dec_lt h6
                  have HN := Lib.hid (inn_spoil g _ n wr hI (fun _ _ => .inr (.inl h6)))
                  clear hI hj
                  go_wp2_with (first
                    | (go_at_call 18; (with_reducible refine HN.out.mono ?_); rintro e w3 ⟨rfl, e1, e2⟩; have E3 := Lib.hid (And.intro e1 (keep_below HB.out E2.out.1 e2)); clear e1 e2)
                    | (go_at_call 20; (with_reducible refine HN.out.mono ?_); rintro e w3 ⟨rfl, e1, e2⟩; have E3 := Lib.hid (And.intro e1 (keep_below HB.out E2.out.1 e2)); clear e1 e2)
                    | (go_at_call 22; (with_reducible refine (bad_none g _ E3.out.1).mono ?_); rintro e w4 ⟨rfl, rfl⟩)
                    | (go_at_call 24; (with_reducible refine (left_none g _ E3.out.1).mono ?_); rintro e w4 ⟨rfl, rfl⟩)
                    | (go_at_call 21; (with_reducible refine (done_none g _ E3.out.1).mono ?_); rintro e w4 ⟨rfl, rfl⟩))
                  all_goals try rw [HWJ.out]
                  exact ⟨⟨j + 1, HE.out, by norm_cast, E3.out.2, .inr ⟨rfl, rfl, E3.out.1⟩⟩, hend⟩
                have h2 := last_of h1 h6 hn
                have t5 := dec_nlt h1
                have t6 := dec_nlt h6
                have t7 := len_wrap HX.out hi
                have t8 := dec_lt h2
                have HN := Lib.hid (inn_spoil g _ n wr hI (fun ys e => .inr (.inr (by injection e with e; subst e; exact drop_lt hi h2))))
                clear hI hj
                go_wp2_with (first
                  | (go_at_call 18; (with_reducible refine HN.out.mono ?_); rintro e w3 ⟨rfl, e1, e2⟩; have E3 := Lib.hid (And.intro e1 (keep_below HB.out E2.out.1 e2)); clear e1 e2)
                  | (go_at_call 20; (with_reducible refine HN.out.mono ?_); rintro e w3 ⟨rfl, e1, e2⟩; have E3 := Lib.hid (And.intro e1 (keep_below HB.out E2.out.1 e2)); clear e1 e2)
                  | (go_at_call 22; (with_reducible refine (bad_none g _ E3.out.1).mono ?_); rintro e w4 ⟨rfl, rfl⟩)
                  | (go_at_call 24; (with_reducible refine (left_none g _ E3.out.1).mono ?_); rintro e w4 ⟨rfl, rfl⟩)
                  | (go_at_call 21; (with_reducible refine (done_none g _ E3.out.1).mono ?_); rintro e w4 ⟨rfl, rfl⟩))
                all_goals try rw [HWJ.out]
                exact ⟨⟨j + 1, HE.out, by norm_cast, E3.out.2, .inr ⟨rfl, rfl, E3.out.1⟩⟩, hend⟩
            · have t4 := dec_nlt hk
              by_cases hn : 0 ≤ n ∧ n ≤ (xs.length : Int) - (i : Int)
              · obtain ⟨m, rfl⟩ := nat_of hn.1
                obtain ⟨him, hm9⟩ := le_of0 HX.out hn
                have t5 : decide ((m : Int) < 0) = false := dec_nlt (by omega)
                obtain ⟨t7, t8, t9, t10⟩ := mids HX.out him
                obtain ⟨A2, c2, hI⟩ := hI
                have HN0 := inraw_ok g A2 c2 (xs.drop i) m wr hI (drop_ge him)
                rw [List.drop_drop] at HN0
                have HN := Lib.hid HN0
                obtain ⟨A3, s1, s2⟩ := mid_at A0 c0 xs i m him HL.out.1
                have HS := Lib.hid s2
                have HLT := Lib.hid (take_len him)
                have HM9 := Lib.hid hm9
                have HIM := Lib.hid him
                have hcs : ∀ (w : World) (A : Option Addr) (c : Nat), ReadsInt w .u8 A m ((xs.drop i).take m) → ∀ d, (convert 25 9 (.slice A m c)).run Try.prog (w.drewN d) = .ok (.string (strOfNums ((xs.drop i).take m))) (w.drewN d) :=
                  fun w A c h d => string_of_reads Try.underlying25 Try.underlying5 Try.underlying9 (h.drewN d)
                have HCS := Lib.hid hcs
                clear hI HN0 s2 hn him hi hk hj HX2 hm9 hcs
                generalize strOfNums ((xs.drop i).take m) = str at HCS
                go_wp2_with (first
                  | (go_at_call 20; (with_reducible refine HN.out.mono ?_); rintro e w3 ⟨v3, rfl, e0, e1, e2⟩; have E3 := Lib.hid (And.intro e1 (keep_below HB.out E2.out.1 e2)); clear e1 e2; obtain ⟨A4, c4, rfl, e4⟩ := raw_row e0 HLT.out HM9.out; clear e0; have s3 := HCS.out _ A4 c4 e4; clear e4; have s4 := HCS.out _ A3 (c0 - i) (HS.out _ (reads_below HR.out E3.out.2))))
                go_quiet (fail)
                go_wp2_with (first
                  | (go_at_call 22; (with_reducible refine (bad_some g _ _ (E3.out.1.q _)).mono ?_); rintro e w4 ⟨rfl, rfl⟩)
                  | (go_at_call 24; (with_reducible refine (left_some g xs i m HIM.out _ (E3.out.1.q _)).mono ?_); rintro e w4 ⟨rfl, rfl⟩)
                  | (go_at_call 21; (with_reducible refine (done_some g xs i m HIM.out _ (E3.out.1.q _)).mono ?_); rintro e w4 ⟨rfl, rfl⟩))
                all_goals try rw [HWJ.out]
                exact ⟨⟨j + 1, HE.out, by norm_cast, pw_below_drewN E3.out.2 _, .inl ⟨i + m, HIM.out, by norm_cast, rfl, E3.out.1.q _⟩⟩, hend⟩
              · by_cases h1 : n < 0
                · have t5 := dec_lt h1
                  have HN := Lib.hid (inraw_spoil g _ n wr hI (fun _ _ => .inl h1))
                  clear hI hj
                  go_wp2_with (first
                    | (go_at_call 18; (with_reducible refine HN.out.mono ?_); rintro e w3 ⟨rfl, e1, e2⟩; have E3 := Lib.hid (And.intro e1 (keep_below HB.out E2.out.1 e2)); clear e1 e2)
                    | (go_at_call 20; (with_reducible refine HN.out.mono ?_); rintro e w3 ⟨rfl, e1, e2⟩; have E3 := Lib.hid (And.intro e1 (keep_below HB.out E2.out.1 e2)); clear e1 e2)
                    | (go_at_call 22; (with_reducible refine (bad_none g _ E3.out.1).mono ?_); rintro e w4 ⟨rfl, rfl⟩)
                    | (go_at_call 24; (with_reducible refine (left_none g _ E3.out.1).mono ?_); rintro e w4 ⟨rfl, rfl⟩)
                    | (go_at_call 21; (with_reducible refine (done_none g _ E3.out.1).mono ?_); rintro e w4 ⟨rfl, rfl⟩))
                  go_quiet (fail)
                  go_wp2_with (first
                    | (go_at_call 18; (with_reducible refine HN.out.mono ?_); rintro e w3 ⟨rfl, e1, e2⟩; have E3 := Lib.hid (And.intro e1 (keep_below HB.out E2.out.1 e2)); clear e1 e2)
                    | (go_at_call 20; (with_reducible refine HN.out.mono ?_); rintro e w3 ⟨rfl, e1, e2⟩; have E3 := Lib.hid (And.intro e1 (keep_below HB.out E2.out.1 e2)); clear e1 e2)
                    | (go_at_call 22; (with_reducible refine (bad_none g _ (E3.out.1.q _)).mono ?_); rintro e w4 ⟨rfl, rfl⟩)
                    | (go_at_call 24; (with_reducible refine (left_none g _ (E3.out.1.q _)).mono ?_); rintro e w4 ⟨rfl, rfl⟩)
                    | (go_at_call 21; (with_reducible refine (done_none g _ (E3.out.1.q _)).mono ?_); rintro e w4 ⟨rfl, rfl⟩))
                  all_goals try rw [HWJ.out]
                  exact ⟨⟨j + 1, HE.out, by norm_cast, pw_below_drewN E3.out.2 _, .inr ⟨rfl, rfl, E3.out.1.q _⟩⟩, hend⟩
                have h2 := last_of0 h1 hn
                have t5 := dec_nlt h1
                have t7 := len_wrap HX.out hi
                have t8 := dec_lt h2
                have HN := Lib.hid (inraw_spoil g _ n wr hI (fun ys e => .inr (by injection e with e; subst e; exact drop_lt hi h2)))
                clear hI hj
                go_wp2_with (first
                  | (go_at_call 18; (with_reducible refine HN.out.mono ?_); rintro e w3 ⟨rfl, e1, e2⟩; have E3 := Lib.hid (And.intro e1 (keep_below HB.out E2.out.1 e2)); clear e1 e2)
                  | (go_at_call 20; (with_reducible refine HN.out.mono ?_); rintro e w3 ⟨rfl, e1, e2⟩; have E3 := Lib.hid (And.intro e1 (keep_below HB.out E2.out.1 e2)); clear e1 e2)
                  | (go_at_call 22; (with_reducible refine (bad_none g _ E3.out.1).mono ?_); rintro e w4 ⟨rfl, rfl⟩)
                  | (go_at_call 24; (with_reducible refine (left_none g _ E3.out.1).mono ?_); rintro e w4 ⟨rfl, rfl⟩)
                  | (go_at_call 21; (with_reducible refine (done_none g _ E3.out.1).mono ?_); rintro e w4 ⟨rfl, rfl⟩))
                go_quiet (fail)
                go_wp2_with (first
                  | (go_at_call 18; (with_reducible refine HN.out.mono ?_); rintro e w3 ⟨rfl, e1, e2⟩; have E3 := Lib.hid (And.intro e1 (keep_below HB.out E2.out.1 e2)); clear e1 e2)
                  | (go_at_call 20; (with_reducible refine HN.out.mono ?_); rintro e w3 ⟨rfl, e1, e2⟩; have E3 := Lib.hid (And.intro e1 (keep_below HB.out E2.out.1 e2)); clear e1 e2)
                  | (go_at_call 22; (with_reducible refine (bad_none g _ (E3.out.1.q _)).mono ?_); rintro e w4 ⟨rfl, rfl⟩)
                  | (go_at_call 24; (with_reducible refine (left_none g _ (E3.out.1.q _)).mono ?_); rintro e w4 ⟨rfl, rfl⟩)
                  | (go_at_call 21; (with_reducible refine (done_none g _ (E3.out.1.q _)).mono ?_); rintro e w4 ⟨rfl, rfl⟩))
                all_goals try rw [HWJ.out]
                exact ⟨⟨j + 1, HE.out, by norm_cast, pw_below_drewN E3.out.2 _, .inr ⟨rfl, rfl, E3.out.1.q _⟩⟩, hend⟩
          · by_cases hk : k < 3
            · have t4 := dec_lt hk
              have HN := Lib.hid (inn_spoil g _ n wr hI (fun ys e => by cases e))
              clear hI hj
              go_wp2_with (first
                | (go_at_call 18; (with_reducible refine HN.out.mono ?_); rintro e w3 ⟨rfl, e1, e2⟩; have E3 := Lib.hid (And.intro e1 (keep_below HB.out E2.out.1 e2)); clear e1 e2)
                | (go_at_call 20; (with_reducible refine HN.out.mono ?_); rintro e w3 ⟨rfl, e1, e2⟩; have E3 := Lib.hid (And.intro e1 (keep_below HB.out E2.out.1 e2)); clear e1 e2)
                | (go_at_call 22; (with_reducible refine (bad_none g _ E3.out.1).mono ?_); rintro e w4 ⟨rfl, rfl⟩)
                | (go_at_call 24; (with_reducible refine (left_none g _ E3.out.1).mono ?_); rintro e w4 ⟨rfl, rfl⟩)
                | (go_at_call 21; (with_reducible refine (done_none g _ E3.out.1).mono ?_); rintro e w4 ⟨rfl, rfl⟩))
              all_goals try rw [HWJ.out]
              exact ⟨⟨j + 1, HE.out, by norm_cast, E3.out.2, .inr ⟨rfl, rfl, E3.out.1⟩⟩, hend⟩
            · have t4 := dec_nlt hk
              have HN := Lib.hid (inraw_spoil g _ n wr hI (fun ys e => by cases e))
              clear hI hj
              go_wp2_with (first
                | (go_at_call 18; (with_reducible refine HN.out.mono ?_); rintro e w3 ⟨rfl, e1, e2⟩; have E3 := Lib.hid (And.intro e1 (keep_below HB.out E2.out.1 e2)); clear e1 e2)
                | (go_at_call 20; (with_reducible refine HN.out.mono ?_); rintro e w3 ⟨rfl, e1, e2⟩; have E3 := Lib.hid (And.intro e1 (keep_below HB.out E2.out.1 e2)); clear e1 e2)
                | (go_at_call 22; (with_reducible refine (bad_none g _ E3.out.1).mono ?_); rintro e w4 ⟨rfl, rfl⟩)
                | (go_at_call 24; (with_reducible refine (left_none g _ E3.out.1).mono ?_); rintro e w4 ⟨rfl, rfl⟩)
                | (go_at_call 21; (with_reducible refine (done_none g _ E3.out.1).mono ?_); rintro e w4 ⟨rfl, rfl⟩))
              go_quiet (fail)
              go_wp2_with (first
                | (go_at_call 18; (with_reducible refine HN.out.mono ?_); rintro e w3 ⟨rfl, e1, e2⟩; have E3 := Lib.hid (And.intro e1 (keep_below HB.out E2.out.1 e2)); clear e1 e2)
                | (go_at_call 20; (with_reducible refine HN.out.mono ?_); rintro e w3 ⟨rfl, e1, e2⟩; have E3 := Lib.hid (And.intro e1 (keep_below HB.out E2.out.1 e2)); clear e1 e2)
                | (go_at_call 22; (with_reducible refine (bad_none g _ (E3.out.1.q _)).mono ?_); rintro e w4 ⟨rfl, rfl⟩)
                | (go_at_call 24; (with_reducible refine (left_none g _ (E3.out.1.q _)).mono ?_); rintro e w4 ⟨rfl, rfl⟩)
                | (go_at_call 21; (with_reducible refine (done_none g _ (E3.out.1.q _)).mono ?_); rintro e w4 ⟨rfl, rfl⟩))
              all_goals try rw [HWJ.out]
              exact ⟨⟨j + 1, HE.out, by norm_cast, pw_below_drewN E3.out.2 _, .inr ⟨rfl, rfl, E3.out.1.q _⟩⟩, hend⟩
        · obtain rfl : j = l.length := by omega
          have t3 : decide ((l.length : Int) < (l.length : Int)) = false := by simp
          have HB := Lib.hid hrel.1
          clear hrel
          go_wp2
          go_ret
          exact ⟨rfl, HB.out⟩
end Go.Proofs.Ytnoebhnkkigkjaa.Codec

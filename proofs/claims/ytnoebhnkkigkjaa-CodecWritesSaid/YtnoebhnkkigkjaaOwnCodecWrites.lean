/- CodecWrites: the walk. -/
import Derived.Test.YtnoebhnkkigkjaaCodecLaw4
import Derived.Deep.RegionHeld3
import Derived.Deep.RegionWith
import Derived.Deep.QuietTactic
import Derived.BigQuiet
namespace Go.Proofs.Ytnoebhnkkigkjaa.Codec
open Go Go.RowKit Go.Proofs.YtnoebhnkkigkjaaW.PrintWords Go.Proofs.YtnoebhnkkigkjaaW.PrintMore

set_option maxRecDepth 100000 in
theorem num_ok {n' z' : Nat} (h : 1 ≤ (z' : Int) ∧ (z' : Int) ≤ 6 ∧ 0 ≤ (n' : Int) ∧ (n' : Int) < 256 ^ (z' : Int).toNat) : 1 ≤ z' ∧ z' ≤ 6 ∧ n' < 256 ^ z' ∧ n' < 18446744073709551616 ∧ z' < 7 := by
  obtain ⟨h1, h2, h3, h4⟩ := h
  rw [Int.toNat_natCast] at h4
  have h5 : n' < 256 ^ z' := by exact_mod_cast h4
  have h6 : 256 ^ z' ≤ 256 ^ 6 := Nat.pow_le_pow_right (by omega) (by omega)
  refine ⟨by omega, by omega, h5, ?_, by omega⟩
  have : (256 : Nat) ^ 6 = 281474976710656 := by decide
  omega
theorem u64_id {n : Nat} (h : n < 18446744073709551616) : IntKind.u64.wrap (n : Int) = (n : Int) := by
  show (n : Int) % 18446744073709551616 = _
  omega
theorem own_reads_n {w : World} {base : Nat} {e : TypeId} {v : Value} {n m : Nat} (h : w.ownsRow base e 1 v n (nums .u8 (wide n m))) (hn : n ≤ 9223372036854775807) : ∀ A c, v = .slice A n c → ReadsInt w .u8 A n (wide n m) := by
  rintro A c rfl
  have h1 : w.ownsRow base e 1 (.slice A n c) (wide n m).length (nums .u8 (wide n m)) := by rw [wide_length]; exact h
  exact own_reads h1 (wide_length n m).symm (by rw [wide_length]; exact hn)
set_option maxHeartbeats 4000000 in
set_option maxRecDepth 100000 in
theorem codecwrites (A1 : Option Addr) (c1 : Nat) (l : List It) (W : World) (hC1 : kitem.C W A1 l.length l) (hl1 : l.length ≤ c1)
    (hg1 : l.length * 48 ≤ reachBytes ∧ l.length ≤ 9223372036854775807 ∧ ∀ p ∈ l, (Lit.int .u8 p.1).wf = true ∧ (Lit.int .i64 p.2.1).wf = true ∧ (Lit.int .i64 p.2.2.1).wf = true ∧ (p.2.2.2.length * 1 ≤ reachBytes ∧ p.2.2.2.length ≤ 9223372036854775807 ∧ ∀ x ∈ p.2.2.2, (Lit.int .u8 x).wf = true)) :
    Calls Try.prog 3 #[.slice A1 l.length c1] W fun e w' => e = .returned (.bool true) ∧ Below W.heap.size W w' := by
  have hlen : ∀ p ∈ l, p.2.2.2.length ≤ 140737488355328 := fun p hp => by
    have h := (hg1.2.2 p hp).2.2.2.1
    have := reachBytes_lt
    omega
  have hf : ∀ w, Below W.heap.size W w → Calls Try.prog 11 #[.slice A1 l.length c1] w fun e w' => (∃ b, e = .returned (.bool b) ∧ (b = true → l.length ≤ 100 ∧ ∀ p ∈ l, p.2.2.2.length ≤ 20000)) ∧ w = w' :=
    fun w hb => few_tells A1 c1 l w (Kd.C_below hC1 hb) hlen
  have HF := Lib.hid hf
  have HC := Lib.hid hC1
  have HG1 := Lib.hid hg1.2.2
  have HL := Lib.hid (And.intro hl1 hg1.2.1)
  clear hf hC1 hg1 hl1 hlen
  go_enter Try.func3, Try.ntmps3
  go_wp2_with (first
    | (go_at_call 10; (with_reducible refine (awake_calls _).mono ?_); rintro e w1 ⟨rfl, e1⟩; first | (have E1 := Lib.hid (E1.out.trans (e1.mono E1.out.size)); clear e1) | (have E1 := Lib.hid e1; clear e1))
    | (go_at_call 11; (with_reducible refine (HF.out _ E1.out).mono ?_); rintro e w2 ⟨⟨b, rfl, hq⟩, rfl⟩; have HQ := Lib.hid hq; clear hq; cases b))
  · go_ret
    exact ⟨rfl, E1.out⟩
  · go_loopw [4, 5, 23] (fun v4 v5 v23 wr => ∃ j : Nat, j ≤ l.length ∧ v23 = .int .i64 (j : Int) ∧ WRound W l w1.heap.size j v4 v5 wr) (fun _ _ v23 _ => l.length - (intOf v23).toNat)
    case atStart => exact ⟨0, by omega, rfl, _, _, _, _, winv_new E1.out, rfl, by simp, by simp, fun _ => ⟨rfl, rfl, fun p hp => by simp at hp⟩⟩
    case round =>
      obtain ⟨j, hj, rfl, v, xs, ys, sp, hI, rfl, hx, hy, hs⟩ := hrel
      by_cases hjn : j < l.length
      · obtain ⟨ad, A', c', rfl, f0, f1, f2, f3, f4, f5⟩ := item_at HC.out j hjn
        replace f0 := below_cell hI.bel f0
        replace f1 := below_cell hI.bel f1
        replace f2 := below_cell hI.bel f2
        replace f3 := below_cell hI.bel f3
        have t3 := j_lt hjn
        have hwj := up_wrap hjn HL.out.2
        have HWJ := Lib.hid hwj
        have hend := end_lt hjn
        have HE := Lib.hid (show j + 1 ≤ l.length from hjn)
        have HS := Lib.hid hs
        have HXY := Lib.hid (And.intro hx hy)
        obtain ⟨Aw, cw, rfl⟩ := hI.slice
        have HI := Lib.hid hI
        have HR := Lib.hid f5
        have HB0 := Lib.hid ((HQ.out trivial).2 _ (List.getElem_mem hjn))
        have HP := Lib.hid (HG1.out _ (List.getElem_mem hjn))
        clear hs hx hy hI f4 f5
        generalize hp : l[j] = p at *
        obtain ⟨k, n, z, B⟩ := p
        by_cases hk : k < 3
        · have t4 := dec_lt hk
          by_cases hok : 1 ≤ z ∧ z ≤ 6 ∧ 0 ≤ n ∧ n < 256 ^ z.toNat
          · obtain ⟨z', rfl⟩ := nat_of (Int.le_trans (by decide) hok.1)
            obtain ⟨n', rfl⟩ := nat_of hok.2.2.1
            have HO := Lib.hid (HI.out.below (alloc_below wr (.cells #[.int .u8 k, .int .i64 n', .int .i64 z', .slice A' B.length c'] 29)))
            obtain ⟨q1, q2, q3, q4, q5⟩ := num_ok hok
            have q1' : z' ≤ 9223372036854775807 := by omega
            have HN := Lib.hid (n_calls W.heap.size w1.heap.size v xs n' z' sp _ HO.out.out q1 q2 q3 (by have := HXY.out; have := HE.out; have := (HQ.out trivial).1; omega))
            have HWD := Lib.hid (fun w => wide_calls n' z' w q1 q2 q4)
            have u1 : IntKind.u64.wrap (n' : Int) = (n' : Int) := u64_id q4
            obtain ⟨u2, u3⟩ := six q1 q2
            have u4' : decide ((n' : Int) < 0) = false := dec_nlt (by omega)
            have u5 := wide_bound q1 q2 q3
            have HEN := Lib.hid (enc_num (B := B) hk hok)
            clear hok
            go_wp2_with (first
              | (go_at_call 12; (with_reducible refine HN.out.mono ?_); rintro e w3 ⟨rfl, e1⟩; have E3 := Lib.hid (HI.out.put e1); clear e1; obtain ⟨x0, x1, x2, x3⟩ := x_cells E3.out.1)
              | (go_at_call 13; (with_reducible refine (HWD.out _).mono ?_); rintro e w4 ⟨v4, rfl, e0, e1⟩; obtain ⟨v3, hI3⟩ := E3.out.2; have hI4 := hI3.below e1; have hr4 := own_reads_n e0 q1'; obtain ⟨A4, c4, rfl⟩ := own_slice e0; have E4 := Lib.hid (And.intro hI4 hr4); clear e0 e1 hI3 hI4 hr4)
              | (at_builtin; refine print_append_row (w0 := W) W.heap.size rfl (.tmp 69) (.tmp 75) 25 5 .u8 1 rfl Try.underlying25 info_u8 (by decide) (.slice Aw ys.length cw) ys (wide z' n') A4 z' c4 rfl rfl E4.out.1.own (E4.out.2 _ _ rfl) E4.out.1.bel E4.out.1.out.le (by have := HXY.out; have := HE.out; have := (HQ.out trivial).1; omega) ?_; intro va wa ho hb hgr hat; have E5 := Lib.hid (E4.out.1.want ho hb hgr hat); clear ho hb hgr hat))
            rw [HWJ.out]
            obtain ⟨z1, z2, z3⟩ := HEN.out
            exact ⟨⟨j + 1, HE.out, by norm_cast, wround_ok HE.out hp (by rw [z1]; exact E5.out) z2 z3 HXY.out HS.out⟩, hend⟩
          · have hbad := not_ok hok
            have HO := Lib.hid (HI.out.below (alloc_below wr (.cells #[.int .u8 k, .int .i64 n, .int .i64 z, .slice A' B.length c'] 29)))
            have HN := Lib.hid (n_spoil W.heap.size w1.heap.size v xs n z sp _ HO.out.out hbad)
            clear hok
            by_cases b1 : z < 1
            · have u1 := dec_lt b1
              clear hbad b1
              go_wp2_with (first
                | (go_at_call 12; (with_reducible refine HN.out.mono ?_); rintro e w3 ⟨rfl, e1⟩; have E3 := Lib.hid (HI.out.put e1); clear e1; obtain ⟨x0, x1, x2, x3⟩ := x_cells E3.out.1))
              rw [HWJ.out]
              obtain ⟨v3, hI3⟩ := E3.out.2
              exact ⟨⟨j + 1, HE.out, by norm_cast, wround_bad hI3 (grow HXY.out.1) (grow HXY.out.2)⟩, hend⟩
            · have u1 := dec_nlt b1
              by_cases b2 : 6 < z
              · have u2 := dec_lt b2
                clear hbad b1 b2
                go_wp2_with (first
                  | (go_at_call 12; (with_reducible refine HN.out.mono ?_); rintro e w3 ⟨rfl, e1⟩; have E3 := Lib.hid (HI.out.put e1); clear e1; obtain ⟨x0, x1, x2, x3⟩ := x_cells E3.out.1))
                rw [HWJ.out]
                obtain ⟨v3, hI3⟩ := E3.out.2
                exact ⟨⟨j + 1, HE.out, by norm_cast, wround_bad hI3 (grow HXY.out.1) (grow HXY.out.2)⟩, hend⟩
              · have u2 := dec_nlt b2
                by_cases b3 : n < 0
                · have u3 := dec_lt b3
                  clear hbad b1 b2 b3
                  go_wp2_with (first
                    | (go_at_call 12; (with_reducible refine HN.out.mono ?_); rintro e w3 ⟨rfl, e1⟩; have E3 := Lib.hid (HI.out.put e1); clear e1; obtain ⟨x0, x1, x2, x3⟩ := x_cells E3.out.1))
                  rw [HWJ.out]
                  obtain ⟨v3, hI3⟩ := E3.out.2
                  exact ⟨⟨j + 1, HE.out, by norm_cast, wround_bad hI3 (grow HXY.out.1) (grow HXY.out.2)⟩, hend⟩
                · have u3 := dec_nlt b3
                  obtain ⟨z', rfl, y1, y2, y3⟩ := over_nat b1 b2 b3 hbad
                  have u5 := wide_over y1 y2 y3
                  clear hbad b1 b2 b3 y3
                  go_wp2_with (first
                    | (go_at_call 12; (with_reducible refine HN.out.mono ?_); rintro e w3 ⟨rfl, e1⟩; have E3 := Lib.hid (HI.out.put e1); clear e1; obtain ⟨x0, x1, x2, x3⟩ := x_cells E3.out.1))
                  rw [HWJ.out]
                  obtain ⟨v3, hI3⟩ := E3.out.2
                  exact ⟨⟨j + 1, HE.out, by norm_cast, wround_bad hI3 (grow HXY.out.1) (grow HXY.out.2)⟩, hend⟩
        · have t4 := dec_nlt hk
          have HB := Lib.hid (show B.length ≤ 20000 from HB0.out)
          by_cases h3 : k = 3
          · subst h3
            have HW := Lib.hid (fun x (hx : x ∈ B) => u8_wf (HP.out.2.2.2.2.2 x hx))
            have HO := Lib.hid (HI.out.below (alloc_below wr (.cells #[.int .u8 3, .int .i64 n, .int .i64 z, .slice A' B.length c'] 29)))
            have hbn : xs.length + B.length + 1 ≤ 140737488355328 ∧ ys.length + B.length + 1 ≤ 140737488355328 := by have := HXY.out; have := HE.out; have := (HQ.out trivial).1; have := HB.out; omega
            have HN := Lib.hid (text_any W.heap.size w1.heap.size v xs B sp _ HO.out.out HW.out HB.out hbn.1)
            have HBN := Lib.hid hbn.2
            have s3 := string_of_reads (P := Try.prog) (c := c') Try.underlying25 Try.underlying5 Try.underlying9 (reads_below HR.out HO.out.bel)
            obtain ⟨q, q1, q2, q3, q4⟩ := and_255 B.length HB.out
            have HQQ := Lib.hid (And.intro q1 q2)
            have HNE := Lib.hid (own_ne HI.out (Nat.le_refl _))
            clear hbn q1 q2
            cases sp
            all_goals
              go_wp2_with (first
                | (go_at_call 14; (with_reducible refine HN.out.mono ?_); rintro e w3 ⟨rfl, e1⟩; have E3 := Lib.hid (HI.out.put e1); clear e1; obtain ⟨x0, x1, x2, x3⟩ := x_cells E3.out.1; obtain ⟨v3, hI3⟩ := E3.out.2; have E4 := Lib.hid hI3; clear hI3))
              go_region_held3 (fun w' => w'.cell? ⟨wr.heap.size, 3, none⟩ = some (.slice A' B.length c')) (first | exact x3 | exact keep_alloc x3 | exact z3 | exact y3) (first
                | (refine Gy.step_append_row (w0 := W) W.heap.size rfl (.tmp 92) (.tmp 98) 25 5 .u8 1 rfl Try.underlying25 info_u8 (by decide) (.slice Aw ys.length cw) ys [(q : Int)] _ 1 1 rfl rfl (E4.out.below (drew_alloc_below _ _)).own (reads_one _ _ _ _) (E4.out.below (drew_alloc_below _ _)).bel (E4.out.below (drew_alloc_below _ _)).out.le (hl1 HBN.out) ?_; intro va wa ho hb hgr hat; have yn := own_ne2 HNE.out hat (cell_lt (keep_alloc x3)); have y3 := grown_cell hgr HNE.out (keep_alloc x3); have E5 := Lib.hid ((E4.out.below (drew_alloc_below _ _)).want ho hb hgr hat); have HYN := Lib.hid yn; clear ho hb hgr hat yn)
                | (refine Gy.step_append_row (w0 := W) W.heap.size rfl (.tmp 99) (.tmp 101) 25 5 .u8 1 rfl Try.underlying25 info_u8 (by decide) va (ys ++ [(q : Int)]) B A' B.length c' rfl rfl E5.out.own (reads_below HR.out E5.out.bel) E5.out.bel E5.out.out.le (hl2 HBN.out) ?_; intro vb wb ho hb hgr hat; have z3 := grown_cell hgr HYN.out y3; have E6 := Lib.hid (E5.out.want ho hb hgr hat); clear ho hb hgr hat))
              go_wp2
              rw [HWJ.out]
              exact ⟨⟨j + 1, HE.out, by norm_cast, wround_text HE.out hp HQQ.out.2 HB.out E6.out HXY.out (by first | exact fun _ => HS.out trivial | exact HS.out | (intro h; cases h))⟩, hend⟩
          · have t5 : (k == 3) = false := by simp [h3]
            have HO := Lib.hid (HI.out.below (alloc_below wr (.cells #[.int .u8 k, .int .i64 n, .int .i64 z, .slice A' B.length c'] 29)))
            have hbn : xs.length + B.length ≤ 140737488355328 ∧ ys.length + B.length ≤ 140737488355328 := by have := HXY.out; have := HE.out; have := (HQ.out trivial).1; have := HB.out; omega
            have HN := Lib.hid (raw_calls W.heap.size w1.heap.size v xs B sp (A') B.length c' _ HO.out.out (reads_below HR.out HO.out.bel) hbn.1)
            have HBN := Lib.hid hbn.2
            have HEN := Lib.hid (enc_raw (n := n) (z := z) hk h3 HB.out)
            clear hbn h3
            go_wp2_with (first
              | (go_at_call 15; (with_reducible refine HN.out.mono ?_); rintro e w3 ⟨rfl, e1⟩; have E3 := Lib.hid (HI.out.put e1); clear e1; obtain ⟨x0, x1, x2, x3⟩ := x_cells E3.out.1; obtain ⟨v3, hI3⟩ := E3.out.2; have E4 := Lib.hid hI3; clear hI3)
              | (at_builtin; refine print_append_row (w0 := W) W.heap.size rfl (.tmp 33) (.tmp 35) 25 5 .u8 1 rfl Try.underlying25 info_u8 (by decide) (.slice Aw ys.length cw) ys B A' B.length c' rfl rfl E4.out.own (reads_below HR.out E4.out.bel) E4.out.bel E4.out.out.le (by rw [Nat.mul_one]; exact HBN.out) ?_; intro va wa ho hb hgr hat; have E5 := Lib.hid (E4.out.want ho hb hgr hat); clear ho hb hgr hat))
            rw [HWJ.out]
            obtain ⟨z1, z2, z3⟩ := HEN.out
            exact ⟨⟨j + 1, HE.out, by norm_cast, wround_ok HE.out hp (by rw [z1]; exact E5.out) z2 z3 HXY.out HS.out⟩, hend⟩
      · obtain rfl : j = l.length := Nat.le_antisymm hj (Nat.le_of_not_lt hjn)
        rw [List.take_length] at hs
        have t3 : decide ((l.length : Int) < (l.length : Int)) = false := by simp
        have hlx : xs.length ≤ 140737488355328 := by have := (HQ.out trivial).1; omega
        have HI := Lib.hid hI
        cases sp
        · obtain ⟨rfl, rfl, hok⟩ := hs rfl
          obtain ⟨Aw, cw, rfl⟩ := hI.slice
          have hlc : (code l).length ≤ 9223372036854775807 := by omega
          have HLX := Lib.hid (And.intro hlx hlc)
          have HOK := Lib.hid hok
          have HBY := Lib.hid (code_bytes l hok (fun p hp x hx => u8_wf ((HG1.out p hp).2.2.2.2.2 x hx)))
          have HEN := Lib.hid (end_calls W.heap.size w1.heap.size v (code l) wr hI.out hlx)
          clear hI hs hok hlx hlc hx hy
          go_wp2_with (first
            | (go_at_call 16; (with_reducible refine HEN.out.mono ?_); rintro e w3 ⟨v2, rfl, e0, e1⟩; obtain ⟨A2, c2, rfl⟩ := own_slice e0; have s4 := string_of_reads (P := Try.prog) (c := c2) Try.underlying25 Try.underlying5 Try.underlying9 (own_reads e0 rfl HLX.out.2); have s5 := string_of_reads (P := Try.prog) (c := cw) Try.underlying25 Try.underlying5 Try.underlying9 (own_reads (HI.out.below e1).own rfl HLX.out.2); have E3 := Lib.hid (And.intro e0 (HI.out.below e1).bel); clear e0 e1)
            | (go_at_call 17; (with_reducible refine (newin_calls A2 (code l).length c2 (code l) _ (own_reads E3.out.1 rfl HLX.out.2) HLX.out.1).mono ?_); rintro e w4 ⟨g2, rfl, e1, e2, e3⟩; have E4 := Lib.hid (And.intro (Nat.le_trans E3.out.2.size e1) (And.intro e2 (E3.out.2.trans (e3.mono E3.out.2.size)))); clear e1 e2 e3))
          go_loopw [129] (fun v129 wr2 => ∃ i : Nat, i ≤ l.length ∧ v129 = .int .i64 (i : Int) ∧ RInv W wr2 g2 l i) (fun v129 _ => l.length - (intOf v129).toNat)
          case atStart => exact ⟨0, Nat.zero_le _, rfl, by rw [List.drop_zero]; exact E4.out.2.1, E4.out.2.2⟩
          case round =>
            obtain ⟨i, hi, rfl, hI2, hB2⟩ := hrel
            clear s4 s5 HEN E3 HI t3
            by_cases hin : i < l.length
            · obtain ⟨ad, A', c', rfl, f0, f1, f2, f3, f4, f5⟩ := item_at HC.out i hin
              replace f0 := below_cell hB2 f0
              replace f1 := below_cell hB2 f1
              replace f2 := below_cell hB2 f2
              replace f3 := below_cell hB2 f3
              have t3 := j_lt hin
              have hwj := up_wrap hin HL.out.2
              have HWJ := Lib.hid hwj
              have hend := end_lt hin
              have HE := Lib.hid (show i + 1 ≤ l.length from hin)
              have HIN := Lib.hid hin
              have hlt := InSt.lt hI2
              have HNE := Lib.hid (show wr.heap.size ≠ g2 by omega)
              have HI2 := Lib.hid hI2
              have HB2 := Lib.hid hB2
              have HR := Lib.hid f5
              have HBD := Lib.hid (fun x hx => HBY.out x (by rw [← List.take_append_drop i l]; unfold code at hx ⊢; rw [List.flatMap_append]; exact List.mem_append_right _ hx) : ∀ x ∈ code (l.drop i), 0 ≤ x ∧ x < 256)
              have HOKI := Lib.hid (HOK.out _ (List.getElem_mem hin))
              have HBL := Lib.hid (show l[i].2.2.2.length ≤ 9223372036854775807 from (HG1.out _ (List.getElem_mem hin)).2.2.2.2.1)
              clear hI2 hB2 f4 f5 hlt hwj
              generalize hp : l[i] = p at *
              obtain ⟨k, n, z, B⟩ := p
              obtain ⟨x0, x1, x2, x3⟩ := x_cells (alloc_at wr (.cells #[.int .u8 k, .int .i64 n, .int .i64 z, .slice A' B.length c'] 29))
              by_cases hk : k < 3
              · have t4 := dec_lt hk
                have hok := HOKI.out.1 hk
                obtain ⟨z', rfl⟩ := nat_of (Int.le_trans (by decide) hok.1)
                obtain ⟨n', rfl⟩ := nat_of hok.2.2.1
                obtain ⟨q1, q2, q3, q4, q5⟩ := num_ok hok
                have HN := Lib.hid (fun w (hI : InSt w g2 (some (code (l.drop i)))) => in_num (w := w) (g := g2) HIN.out hp hk q1 q2 q3 HBD.out hI)
                clear hok q1 q2 q3 q4 q5
                go_wp2_with (fail)
                go_region_held3 (fun w' => w'.cell? ⟨wr.heap.size, 1, none⟩ = some (.int .i64 n') ∧ w'.cell? ⟨wr.heap.size, 2, none⟩ = some (.int .i64 z')) (first | exact ⟨x1, x2⟩ | exact ⟨y1, y2⟩) (first
                  | (go_at_call 18; (with_reducible refine (HN.out _ (HI2.out.below (alloc_drew_below _ _))).mono ?_); rintro e w5 ⟨rfl, e1, e2⟩; have y1 := keepg_cell e2 HNE.out x1; have y2 := keepg_cell e2 HNE.out x2; have E5 := Lib.hid (rinv_step HB2.out E4.out.1 e1 e2); clear e1 e2))
                go_wp2
                rw [HWJ.out]
                exact ⟨⟨i + 1, HE.out, by norm_cast, E5.out⟩, hend⟩
              · have t4 := dec_nlt hk
                by_cases h3 : k = 3
                · subst h3
                  have HN := Lib.hid (fun w (hI : InSt w g2 (some (code (l.drop i)))) => in_text (w := w) (g := g2) HIN.out hp (HOKI.out.2 rfl) HBD.out hI)
                  have s6 := string_of_reads (P := Try.prog) (c := c') Try.underlying25 Try.underlying5 Try.underlying9 (reads_below HR.out (HB2.out.trans ((alloc_drew_below wr (.cells #[.int .u8 3, .int .i64 n, .int .i64 z, .slice A' B.length c'] 29)).mono HB2.out.size)))
                  clear hk
                  go_wp2_with (fail)
                  go_region_held3 (fun w' => w'.cell? ⟨wr.heap.size, 3, none⟩ = some (.slice A' B.length c') ∧ (convert 25 9 (.slice A' B.length c')).run Try.prog w' = .ok (.string (strOfNums B)) w') (first | exact ⟨x3, s6⟩ | exact ⟨y3, s7⟩) (first
                    | (go_at_call 19; (with_reducible refine (HN.out _ (HI2.out.below (alloc_drew_below _ _))).mono ?_); rintro e w5 ⟨rfl, e1, e2⟩; have y3 := keepg_cell e2 HNE.out x3; have E5 := Lib.hid (rinv_step HB2.out E4.out.1 e1 e2); clear e1 e2; have s7 := string_of_reads (P := Try.prog) (c := c') Try.underlying25 Try.underlying5 Try.underlying9 (reads_below HR.out E5.out.2)))
                  all_goals
                    go_wp2
                    rw [HWJ.out]
                    exact ⟨⟨i + 1, HE.out, by norm_cast, E5.out⟩, hend⟩
                · have t5 : (k == 3) = false := by simp [h3]
                  have HN := Lib.hid (fun w (hI : InSt w g2 (some (code (l.drop i)))) => in_raw (w := w) (g := g2) HIN.out hp hk h3 hI)
                  have s6 := string_of_reads (P := Try.prog) (c := c') Try.underlying25 Try.underlying5 Try.underlying9 (reads_below HR.out (HB2.out.trans ((alloc_drew_below wr (.cells #[.int .u8 k, .int .i64 n, .int .i64 z, .slice A' B.length c'] 29)).mono HB2.out.size)))
                  clear hk h3
                  go_wp2_with (fail)
                  go_region_with (first
                    | (go_at_call 20; (with_reducible refine (HN.out _ (HI2.out.below (alloc_drew_below _ _))).mono ?_); rintro e w5 ⟨v5, rfl, e0, e1, e2⟩; obtain ⟨A4, c4, rfl, e4⟩ := raw_row e0 rfl HBL.out; have y3 := keepg_cell e2 HNE.out x3; have E5 := Lib.hid (rinv_step HB2.out E4.out.1 e1 e2); clear e0 e1 e2; have s8 := string_of_reads (P := Try.prog) (c := c4) Try.underlying25 Try.underlying5 Try.underlying9 e4; clear e4; have s7 := string_of_reads (P := Try.prog) (c := c') Try.underlying25 Try.underlying5 Try.underlying9 (reads_below HR.out E5.out.2)))
                  all_goals
                    go_wp2
                    rw [HWJ.out]
                    exact ⟨⟨i + 1, HE.out, by norm_cast, E5.out⟩, hend⟩
            · obtain rfl : i = l.length := Nat.le_antisymm hi (Nat.le_of_not_lt hin)
              have t3 : decide ((l.length : Int) < (l.length : Int)) = false := by simp
              have HIE := Lib.hid (rinv_end ⟨hI2, hB2⟩)
              have HB2 := Lib.hid hB2
              clear hI2 hB2
              go_wp2_with (first
                | (go_at_call 21; (with_reducible refine (done_end _ _ HIE.out).mono ?_); rintro e w5 ⟨rfl, rfl⟩)
                | (go_at_call 22; (with_reducible refine (bad_some _ [] _ HIE.out).mono ?_); rintro e w5 ⟨rfl, rfl⟩))
              go_ret
              exact ⟨rfl, HB2.out⟩
        · clear hs
          have hc := hI.out.c1
          clear hI
          go_wp2_with (first
            | (go_at_call 16; (with_reducible refine (end_spoilt _ _ hc).mono ?_); rintro e w3 ⟨rfl, rfl⟩))
          go_ret
          exact ⟨rfl, HI.out.bel⟩
end Go.Proofs.Ytnoebhnkkigkjaa.Codec

/- The walk over the reference's digest: it is SHA-256. -/
import Derived.Test.YtnoebhnkkigkjaaShaRef8
namespace Go.Proofs.Ytnoebhnkkigkjaa.Dig
open Go Go.RowKit Go.Proofs.Ytnoebhnkkigkjaa.QDig Go.Proofs.YtnoebhnkkigkjaaW.PrintWords Go.Proofs.YtnoebhnkkigkjaaW.PrintLast Go.Proofs.YtnoebhnkkigkjaaW.PrintMore Gy

set_option maxHeartbeats 1000000 in
set_option maxRecDepth 100000 in
theorem ref_calls (A : Option Addr) (n c : Nat) (xs : List Int) (w : World) (hR : ReadsInt w .u8 A n xs) (hb : Bytes xs) (hx : xs.length ≤ 1000000) :
    Calls Try.prog 27 #[.slice A n c] w fun e w' => e = .returned (.agg (nums .u8 (sha xs)).toArray) ∧ Below w.heap.size w w' := by
  obtain rfl : xs.length = n := hR.1
  obtain ⟨al, hal⟩ : ∃ al, al = padded xs := ⟨_, rfl⟩
  obtain ⟨N, hN⟩ : ∃ N, N = padN xs.length / 64 := ⟨_, rfl⟩
  obtain ⟨fin, hfin⟩ : ∃ f, f = mixAll kTab al Gy.begun N := ⟨_, rfl⟩
  obtain ⟨bl, hbl⟩ : ∃ b, b = bytes32 fin := ⟨_, rfl⟩
  have hsha : sha xs = bl := by rw [hbl, hfin, hal, hN]; rfl
  have hlen : al.length = 64 * N := by rw [hal, padded_length, hN]; unfold padN; omega
  have hbn : 64 * N ≤ 1000072 := by rw [hN]; unfold padN; omega
  have hba : Bytes al := by rw [hal]; exact padded_bytes hb
  have hpos : 0 < al.length := by rw [hal, padded_length]; have := padN_le xs.length; omega
  rw [hsha]
  have hbl2 : bl.length = 32 := by rw [hbl, bytes32_length]
  have HBL := Lib.hid (And.intro hbl hbl2)
  clear hbl hbl2
  have HL := Lib.hid (And.intro hal (And.intro hlen (And.intro hbn (And.intro hba (And.intro hfin hpos)))))
  clear hal hN hfin hsha hlen hbn hba hpos
  obtain ⟨z32, hz32, hzr⟩ := zero_32
  obtain ⟨zt, hzt, hz64⟩ := zero_64w
  obtain ⟨zs, hzs, hz8⟩ := zero_8w
  have HR := Lib.hid (And.intro hR (And.intro hb hx))
  have HZ := Lib.hid (And.intro hz32 (And.intro hzt hzs))
  clear hR hb hx hz32 hzt hzs
  go_enter Try.func27, Try.ntmps27
  go_wp2_with (first
    | ((with_reducible refine gate_dst (N := 20) rfl ?_); refine run_value (d := 20) (v := .agg (n64 kTab).toArray) rfl rfl ?hr ?_; (case hr => kernel_rfl); simp only [Act.put, List.setIfInBounds_toArray, List.set_cons_zero, List.set_cons_succ])
    | (with_reducible refine store_row rfl 83 (.tmp 3) (.tmp 20) rfl rfl (w.heap.size + 1) (n64 kTab) rfl rfl (ref_k w z32 zt HZ.out.1 HZ.out.2.1).1 info_64w (n64_one kTab) ?_; (have F := Lib.hid (ref_k w z32 zt HZ.out.1 HZ.out.2.1).2); (generalize (((w.alloc (.cells z32 49)).alloc (.cells zt 83)).setCells (w.heap.size + 1) 0 (n64 kTab)) = X2 at F ⊢); have szF := F.out.sz)
    | ((with_reducible refine gate_dst (N := 21) rfl ?_); refine run_value (d := 21) (v := .agg (n64 Gy.begun.nats).toArray) rfl rfl ?hr ?_; (case hr => kernel_rfl); simp only [Act.put, List.setIfInBounds_toArray, List.set_cons_zero, List.set_cons_succ])
    | (with_reducible refine store_row rfl 84 (.tmp 4) (.tmp 21) rfl rfl (w.heap.size + 1 + 1) (n64 Gy.begun.nats) rfl rfl (ref_h F.out zs HZ.out.2.2 Gy.begun).1 (info_8b _) (n64_one _) ?_; (have G := Lib.hid (ref_h F.out zs HZ.out.2.2 Gy.begun).2); (generalize ((X2.alloc (.cells zs 84)).setCells (w.heap.size + 1 + 1) 0 (n64 Gy.begun.nats)) = W2 at G ⊢); clear szF F; have szG := G.out.sz)
    | (at_builtin; refine print_append_row (w0 := W2) (w.heap.size + 1 + 1 + 1) rfl (.tmp 22) (.tmp 23) 25 5 .u8 1 rfl Try.underlying25 info_u8 (by decide) (.slice (some ⟨w.heap.size + 1 + 1 + 1, 0, none⟩) 0 0) [] xs A xs.length c rfl rfl (gro_start G.out).own (Gy.reads_below HR.out.1 (G.out.B.trans ((Gy.alloc_below W2 _).mono G.out.B.size))) (gro_start G.out).bel (gro_start G.out).base (by have := HR.out.2.2; simp; omega) ?_; intro v1 w1 ho hb hgr hat; rw [List.nil_append] at ho; obtain ⟨A1, c1, rfl, hg1⟩ := gro_next (gro_start G.out).le ho hb xs.length rfl; have E1 := Lib.hid hg1; clear ho hb hgr hat hg1)
    | (at_builtin; refine print_append_row (w0 := W2) (w.heap.size + 1 + 1 + 1) rfl (.tmp 24) (.tmp 25) 25 5 .u8 1 rfl Try.underlying25 info_u8 (by decide) (.slice A1 xs.length c1) xs [128] (some ⟨w1.heap.size, 0, none⟩) 1 1 rfl rfl (E1.out.alloc _).own' (one_read w1 128) (E1.out.alloc _).bel (E1.out.alloc _).base (by have := HR.out.2.2; omega) ?_; intro v2 w2 ho hb hgr hat; rw [grown_zero] at ho; obtain ⟨A2, c2, rfl, hg2⟩ := gro_next (gro_start G.out).le ho hb (xs.length + 1) (grown_length xs 0).symm; have E2 := Lib.hid hg2; clear ho hb hgr hat hg2))
  have HP0 := Lib.hid (show Lp w W2 w2 xs (.slice A2 (xs.length + 1) c2) (xs.length + 1) 0 from ⟨E2.out, rfl, by have := padN_le xs.length; omega⟩)
  clear E1 E2
  go_loopw [5] (fun v5 wr => ∃ (q m : Nat) (A3 : Option Addr) (c3 : Nat), v5 = .slice A3 q c3 ∧ Gy.Hd (Lp w W2 wr xs (.slice A3 q c3) q m)) (fun v5 _ => padN xs.length - sliceLen v5)
  case atStart => exact ⟨_, 0, A2, c2, rfl, ⟨HP0.out⟩⟩
  case round =>
    obtain ⟨q, m, A3, c3, rfl, hH⟩ := hrel
    clear HP0
    by_cases hq : q % 64 = 56
    · obtain ⟨t1, t2, t3, t4⟩ := (pad_tests q).1 hq
      have HQ := Lib.hid (show xs.length + 1 + m = padN xs.length - 8 from by have h1 := hH.out.eq; have h2 := hH.out.le; have h3 := (pad_more xs.length m (by omega)).1 (by omega); omega)
      have hqb : q ≤ 1000072 := by have h1 := hH.out.le; have h2 := HR.out.2.2; unfold padN at h1; omega
      have hxb := HR.out.2.2
      clear hq
      go_wp2_with (first
        | (go_at_call 13; (with_reducible refine (Wide_at _ (xs.length * 8) 8 8 _ (by omega) rfl (by omega) (by omega)).mono ?_); rintro e w4 ⟨A4, c4, rfl, e1, e2⟩; have E4 := Lib.hid (And.intro (hH.out.G.below e2) e1); clear e1 e2)
        | (at_builtin; refine print_append_row (w0 := W2) (w.heap.size + 1 + 1 + 1) rfl (.tmp 34) (.tmp 39) 25 5 .u8 1 rfl Try.underlying25 info_u8 (by decide) (.slice A3 q c3) (grown xs m) (wideN (xs.length * 8) 8) A4 8 c4 rfl rfl E4.out.1.own' E4.out.2 E4.out.1.bel E4.out.1.base (by rw [grown_length]; have h1 := hH.out.eq; omega) ?_; intro v5 w5 ho hb hgr hat; rw [grown_end xs m HQ.out, ← HL.out.1] at ho; obtain ⟨A5, c5, rfl, hg5⟩ := gro_next (gro_start G.out).le ho hb al.length rfl; obtain ⟨g, rfl, hcap, hC⟩ := gro_ref G.out hg5 HL.out.2.2.2.2.2 (by have := HL.out.2.1; have := HL.out.2.2.1; omega); have E5 := Lib.hid (And.intro hcap hC); clear ho hb hgr hat hg5 hcap hC))
      clear t1 t2 t3 t4 hqb hxb hH HQ E4
      have HF := Lib.hid HL.out.2.2.2.2.1
      refine l2_loop (N := N) _ HL.out.2.2.2.1 E5.out.1 (by have h1 := HL.out.2.1; have h2 := HL.out.2.2.1; omega) HL.out.2.1 ⟨rfl, rfl, rfl, rfl, rfl, rfl, rfl⟩ E5.out.2 ?_
      intro a w6 hF hM
      rw [← HF.out] at hM
      obtain ⟨v, hv, e⟩ := frame_fn a hF.size hF.defers
      rw [(hv 2).trans hF.t2, (hv 4).trans hF.t4] at e
      rw [e]
      have HO := Lib.hid (out8_start hM z32 HZ.out.1)
      clear e hF hv hM E5
      go_wp2
      generalize w6.heap.size = gb at HO ⊢
      refine l8_loop (s := fin) _ (by rw [HF.out]; exact mixAll_ok begun_ok N) ⟨rfl, rfl, rfl, rfl, rfl⟩ rfl HO.out ?_
      intro a w7 hF hM
      obtain ⟨v2, hv, e⟩ := frame_fn a hF.size hF.defers
      rw [(hv 2).trans hF.t2, (hv 18).trans hF.t18] at e
      rw [e]
      have hq := hM.O
      have HO32 := hq.O
      rw [bPart_all, ← HBL.out.1] at HO32
      have HM := Lib.hid HO32
      have HB := Lib.hid (And.intro (hq.R.there2 (nums .u8 bl) (len_32 HBL.out.2)) (And.intro ((hq.R.put (nums .u8 bl) (len_32 HBL.out.2)).loadV (P := Try.prog) Try.underlying49 rfl (info_32a HBL.out.2)) (setCells_below (Nat.le_refl _) (nums .u8 bl) 0 hq.B)))
      clear e hF hv hM hq HO32 HO
      go_wp2_with (first
        | (with_reducible refine wpList_load_mid rfl 49 (.tmp 18) rfl gb 0 rfl (nums .u8 bl) _ HM.out.at_ Try.underlying49 rfl (info_32a HBL.out.2) ?_)
        | (with_reducible refine store_row rfl 49 (.tmp 2) (.tmp 241) rfl rfl w.heap.size (nums .u8 bl) rfl rfl HB.out.1 (info_32b HBL.out.2) (nums_one _ _) ?_))
      exact bodyPost_ret (results_arr rfl rfl HB.out.2.1) rfl ⟨rfl, HB.out.2.2⟩
    · obtain ⟨t1, t2, t3, t4⟩ := (pad_tests q).2 hq
      have HQ := Lib.hid (show q + 1 = xs.length + 1 + (m + 1) ∧ q < padN xs.length - 8 from by have h1 := hH.out.eq; have h2 := hH.out.le; have h3 := (pad_more xs.length m (by omega)).2 (by omega); omega)
      have hqb : q ≤ 1000072 := by have h1 := hH.out.le; have h2 := HR.out.2.2; unfold padN at h1; omega
      clear hq
      go_wp2_with (at_builtin; refine print_append_row (w0 := W2) (w.heap.size + 1 + 1 + 1) rfl (.tmp 31) (.tmp 32) 25 5 .u8 1 rfl Try.underlying25 info_u8 (by decide) (.slice A3 q c3) (grown xs m) [0] (some ⟨wr.heap.size, 0, none⟩) 1 1 rfl rfl (hH.out.G.alloc _).own' (one_read wr 0) (hH.out.G.alloc _).bel (hH.out.G.alloc _).base (by rw [grown_length]; have h1 := hH.out.eq; omega) ?_; intro v4 w4 ho hb hgr hat; rw [grown_next] at ho; obtain ⟨A4, c4, rfl, hg4⟩ := gro_next (gro_start G.out).le ho hb (q + 1) (by rw [grown_length]; exact HQ.out.1); have E4 := Lib.hid hg4; clear ho hb hgr hat hg4)
      exact ⟨⟨q + 1, m + 1, A4, c4, rfl, ⟨E4.out, HQ.out.1, HQ.out.2⟩⟩, end_pad (by have := HQ.out.2; omega)⟩
end Go.Proofs.Ytnoebhnkkigkjaa.Dig

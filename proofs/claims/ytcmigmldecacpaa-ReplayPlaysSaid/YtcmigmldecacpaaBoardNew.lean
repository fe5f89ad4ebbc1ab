/- The walks over package replay: a board is made. -/
import Derived.Test.YtcmigmldecacpaaBoardCalls
namespace Go.Proofs.Ytcmigmldecacpaa.Vec
open Go Go.RowKit Go.Proofs.YtcmigmldecacpaaW.PrintWords Go.Proofs.YtcmigmldecacpaaW.PrintMore

abbrev kvals : Kd (List Int) := Kd.slice 5 (Kd.int .u8)
theorem val_at {w : World} {A : Option Addr} {n : Nat} {l : List (List Int)} (h : kvals.C w A n l) (j : Nat) (hj : j < l.length) :
    ∃ ad A' c', A = some ad ∧ w.cell? (ad.add j) = some (.slice A' l[j].length c') ∧ l[j].length ≤ c' ∧ ReadsInt w .u8 A' l[j].length l[j] := by
  obtain ⟨ad, e, hx⟩ := h.2.2 (by have := h.1; omega)
  obtain ⟨cs, _, ⟨A', c', k4, k5, k6⟩, hc⟩ := hx j l[j] (List.getElem?_eq_getElem hj)
  subst k4
  refine ⟨ad, A', c', e, ?_, k5, Gy.reads_of_kd k6⟩
  have h1 := hc 0 _ rfl
  have e1 : j * kvals.sz + 0 = j := by show j * 1 + 0 = j; omega
  rw [e1] at h1
  exact h1
theorem info_row : (Try.prog.info? 31).map (fun i => (i.zero, i.size, i.bytes)) = some (some (.slice none 0 0), 1, 24) := by kernel_rfl
theorem add_zero (ad : Addr) (w : World) (u : Value) (h : w.cell? (ad.add 0) = some u) : w.cell? ad = some u := by
  have e : ad.add 0 = ad := by
    unfold Addr.add
    cases ad with
    | mk b o f => cases f <;> simp
  rw [e] at h
  exact h
theorem lit_cell (w : World) (u : Value) (t : TypeId) (f : Nat × Nat) : (w.alloc (.cells #[u] t f)).cell? ((⟨w.heap.size, 0, none⟩ : Addr).add 0) = some u := by
  rw [Gy.addr_add]
  have h := Gy.alloc_at w (.cells #[u] t f)
  unfold World.cell?
  simp only [h]
  rfl
theorem own_none {v : Value} {w : World} {base : Nat} {e : TypeId} {n : Nat} {xs : List Value} (h : w.ownsRow base e 1 v n xs) : ∀ k, v.ownBlock = some k → k < w.heap.size := own_lt h
/-- one slot more -/
theorem app_slot {W wr w2 w4 : World} {g : Nat} {hv v1 : Value} {ks : List Value} {rows : List (List Int)} {row : List Int} {A3 : Option Addr} {c3 n : Nat} {f : Nat × Nat} (hB : BoardIs W.heap.size wr g hv ks rows) (hm : MadeRow wr.drew n row A3 c3 w2) (hn : row.length = n) (hl : n ≤ 100000)
    (ho : w4.ownsRow W.heap.size 31 1 v1 (ks ++ [Value.slice A3 n c3]).length (ks ++ [Value.slice A3 n c3])) (hb : Below W.heap.size W w4) (hgr : (w2.alloc (.cells #[Value.slice A3 n c3] 31 f)).grownBy w4 hv.ownBlock) (hat : v1.ownBlock = hv.ownBlock ∨ ∃ b, v1.ownBlock = some b ∧ (w2.alloc (.cells #[Value.slice A3 n c3] 31 f)).heap.size ≤ b) :
    BoardIs W.heap.size (w4.setCell ⟨g, 0, none⟩ v1) g v1 (ks ++ [Value.slice A3 n c3]) (rows ++ [row]) ∧ Below W.heap.size W (w4.setCell ⟨g, 0, none⟩ v1) := by
  subst hn
  have hbel : Below wr.heap.size wr w2 := (Gy.drew_below wr).trans (hm.2.mono (Gy.drew_below wr).size)
  have hbel2 := hbel.trans ((Gy.alloc_below w2 (.cells #[Value.slice A3 row.length c3] 31 f)).mono hbel.size)
  have hg : g < wr.drew.heap.size := Gy.cell_lt (o := 0) hB.c0
  have hs := made_slot (g := g) (ob := hv.ownBlock) hm rfl (by omega) hg (fun k e => own_lt hB.own k e)
  have hs2 := hs.move (w' := w2.alloc (.cells #[Value.slice A3 row.length c3] 31 f)) (fun k hk _ _ => (Gy.alloc_below w2 _).block k hk) (fun _ _ _ h => h)
  exact ⟨(hB.below hbel2).app _ row hs2 ho hb hgr hat, hb.setCell (show W.heap.size ≤ (⟨g, 0, none⟩ : Addr).block from hB.ge) _⟩
theorem grown_cell {w w1 : World} {b o : Nat} {u v : Value} (hgr : w.grownBy w1 v.ownBlock) (ho : v.ownBlock ≠ some b) (h : w.cell? ⟨b, o, none⟩ = some u) : w1.cell? ⟨b, o, none⟩ = some u := by
  rw [cell_of_heap (hgr.block b (Gy.cell_lt h) (fun e => ho e.symm))]
  exact h
theorem grown_free {w w1 : World} {b o : Nat} {u v : Value} (hgr : w.grownBy w1 v.ownBlock) (ho : v.ownBlock ≠ some b) (h : w.cell? ⟨b, o, none⟩ = some u) (hf : w.frozen? ⟨b, o, none⟩ = false) : w1.frozen? ⟨b, o, none⟩ = false := by
  rw [frozen_of_heap (hgr.block b (Gy.cell_lt h) (fun e => ho e.symm))]
  exact hf
theorem board_zero (W : World) : (zeroValue 87).run Try.prog W = .ok (.agg #[.slice none 0 0]) W := by kernel_rfl
theorem app_len {ks : List Value} {j n : Nat} (h : ks.length = j) (hj : j < n) (hn : n ≤ 1000) : (ks.length + 1) * 24 ≤ 140737488355328 := by omega
set_option maxHeartbeats 8000000 in
set_option maxRecDepth 100000 in
theorem newboard_calls (A0 : Option Addr) (c0 : Nat) (l : List (List Int)) (i0 n : Nat) (W : World) (hC : kvals.C W A0 l.length l) (hi0 : i0 ≤ l.length) (hn : n ≤ 100000) (hll : l.length ≤ 1000) (h0 : ∀ (h : 0 < l.length), l[0].length = n) (hlt : ∀ i (h : i < l.length), i < i0 → l[i].length = n) (hbad : ∀ (h : i0 < l.length), l[i0].length ≠ n ∧ l[i0].length ≤ 100000) :
    Calls Try.prog 15 #[.slice A0 l.length c0] W fun e w' => (i0 = l.length ∧ e = .returned (.tuple #[.pointer (some ⟨W.heap.size, 0, none⟩), .int .i64 0]) ∧ Brd W.heap.size w' W.heap.size l ∨ i0 < l.length ∧ e = .returned (.tuple #[.pointer none, .int .i64 1])) ∧ Below W.heap.size W w' := by
  have HC := Lib.hid hC
  have H := Lib.hid (And.intro hi0 (And.intro hn (And.intro hll (And.intro h0 (And.intro hlt hbad)))))
  have hz := board_zero
  clear hC hi0 hn hll h0 hlt hbad
  go_enter Try.func15, Try.ntmps15
  go_wp2
  go_loopw [11] (fun v11 wr => ∃ j : Nat, j ≤ i0 ∧ v11 = .int .i64 (j : Int) ∧ Gy.Hd (Brd W.heap.size wr W.heap.size (l.take j) ∧ Below W.heap.size W wr)) (fun v11 _ => l.length - (intOf v11).toNat)
  case atStart => exact ⟨0, Nat.zero_le _, rfl, ⟨⟨_, _, board_new⟩, Gy.alloc_below _ _⟩⟩
  case round =>
    obtain ⟨j, hj, rfl, ⟨⟨hv, ks, hB⟩, hbel⟩⟩ := hrel
    by_cases hjn : j < l.length
    · have t3 := j_lt hjn
      obtain ⟨ad, Av, cv, rfl, kv, lv, rv⟩ := val_at HC.out j hjn
      obtain ⟨ad2, Af, cf, e2, kf, _, _⟩ := val_at HC.out 0 (by omega)
      injection e2 with e2
      subst e2
      have HBB := Lib.hid hbel
      replace kv := below_cell (hbel.mono (Nat.le_refl _)) kv
      replace kf := below_cell (hbel.mono (Nat.le_refl _)) kf
      rw [H.out.2.2.2.1 (by omega)] at kf
      have kf2 := add_zero _ _ _ kf
      have tz : (0 : Int) < (l.length : Int) := by omega
      have HJ := Lib.hid hjn
      have hend := end_row hjn
      have hwj := up_wrap hjn (by have := H.out.2.2.1; omega)
      have HWJ := Lib.hid hwj
      by_cases hji : j < i0
      · rw [H.out.2.2.2.2.1 j hjn hji] at kv rv
        have hrl := H.out.2.2.2.2.1 j hjn hji
        have hsnoc : l.take (j + 1) = l.take j ++ [l[j]] := List.take_succ_eq_append_getElem hjn
        have HS := Lib.hid hsnoc
        have HRL := Lib.hid (And.intro hrl rv)
        have HI := Lib.hid (show j + 1 ≤ i0 from hji)
        have k0 := hB.c0
        have f0 := hB.f0
        have k0d : wr.drew.cell? ⟨W.heap.size, 0, none⟩ = some hv := k0
        have HB := Lib.hid hB
        have hlen := hB.len
        rw [List.length_take, Nat.min_eq_left (by omega)] at hlen
        have HLEN := Lib.hid hlen
        clear hB hbel hrl hsnoc rv lv hji hlen
        generalize l[j] = row at *
        go_wp2
        go_region_law (first
          | (refine step_append_val (w0 := W) W.heap.size rfl (.tmp 26) (.tmp 29) 22 31 (.slice none 0 0) 24 rfl Try.underlying22 info_row rfl (by decide) hv ks ⟨w2.heap.size, 0, none⟩ 1 (.slice A3 n c3) rfl rfl (E3.out.2.below (Gy.alloc_below _ _)).own (lit_cell _ _ _ _) rfl (E3.out.1.trans ((Gy.alloc_below _ _).mono E3.out.1.size)) (E3.out.2.below (Gy.alloc_below _ _)).le (app_len HLEN.out HJ.out H.out.2.2.1) ?_; intro v1 w4 ho hb hgr hat; obtain ⟨A9, c9, rfl⟩ := own_slice ho; have z0 := grown_cell hgr HB.out.ne (E3.out.2.below (Gy.alloc_below _ _)).c0; have zf := grown_free hgr HB.out.ne (E3.out.2.below (Gy.alloc_below _ _)).c0 (E3.out.2.below (Gy.alloc_below _ _)).f0; have E4 := Lib.hid (app_slot HB.out E2.out HRL.out.1 H.out.2.1 ho hb hgr hat); clear ho hb hgr hat)
          | (go_simp; go_at_call 51; (with_reducible refine (clone_calls Av n cv row _ (Gy.reads_below HRL.out.2 (HBB.out.trans ((Gy.drew_below _).mono HBB.out.size))) (by have := HRL.out.1; have := H.out.2.1; omega)).mono ?_); rintro e w2 ⟨v2, rfl, e1, e2⟩; obtain ⟨A3, c3, rfl⟩ := own_slice e1; rw [HRL.out.1] at e1; have E2 := Lib.hid (show MadeRow wr.drew n row A3 c3 w2 from ⟨e1, e2⟩); have E3 := Lib.hid (And.intro ((HBB.out.trans ((Gy.drew_below _).mono HBB.out.size)).trans (e2.mono (Nat.le_trans HBB.out.size (Gy.drew_below _).size))) (HB.out.below ((Gy.drew_below _).trans (e2.mono (Gy.drew_below _).size)))); clear e1 e2; have y0 := E3.out.2.c0; have y0a : ∀ ob : Obj, (w2.alloc ob).cell? ⟨W.heap.size, 0, none⟩ = some hv := fun ob => (E3.out.2.below (Gy.alloc_below _ ob)).c0; rw [HRL.out.1]))
        all_goals
          have e4 := E4.out
          have hle : (ks ++ [Value.slice A3 n c3]).length = ks.length + 1 := by simp
          rw [hle, ← HS.out] at e4
          have E5 := Lib.hid e4
          clear e4 hle
          go_wp2
          rw [HWJ.out]
          exact ⟨⟨j + 1, HI.out, by norm_cast, ⟨⟨_, _, E5.out.1⟩, E5.out.2⟩⟩, hend⟩
      · obtain rfl : j = i0 := by omega
        have hb2 := H.out.2.2.2.2.2 hjn
        have t6 : (((l[j]).length : Int) == (n : Int)) = false := by simp; omega
        have t7 : ((l[j]).length == n) = false := by simp; omega
        clear hB rv lv hb2
        generalize (l[j]).length = m at *
        go_wp2
        go_ret2
        exact ⟨.inr ⟨HJ.out, rfl⟩, HBB.out⟩
    · obtain rfl : j = l.length := by have := H.out.1; omega
      have t3 : decide ((l.length : Int) < (l.length : Int)) = false := by simp
      rw [List.take_length] at hB
      have HBB := Lib.hid (And.intro hB hbel)
      have HI := Lib.hid (show i0 = l.length by have := H.out.1; omega)
      clear hB hbel
      go_wp2
      go_ret2
      exact ⟨.inl ⟨HI.out, rfl, ⟨_, _, HBB.out.1⟩⟩, HBB.out.2⟩
end Go.Proofs.Ytcmigmldecacpaa.Vec

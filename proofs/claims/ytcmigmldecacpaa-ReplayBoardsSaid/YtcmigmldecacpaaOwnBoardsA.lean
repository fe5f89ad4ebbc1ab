/- ReplayBoards: what is refused. -/
import Derived.Test.YtcmigmldecacpaaBoardLaw
namespace Go.Proofs.Ytcmigmldecacpaa.Vec
open Go Go.RowKit Go.Proofs.YtcmigmldecacpaaW.PrintWords Go.Proofs.YtcmigmldecacpaaW.PrintMore

/-- values as they came in, of one length -/
structure Same (W : World) (A0 : Option Addr) (c0 : Nat) (l : List (List Int)) (n : Nat) : Prop where
  C : kvals.C W A0 l.length l
  cap : l.length ≤ c0
  few : l.length ≤ 40
  n100 : n ≤ 100
  same : ∀ j (h : j < l.length), l[j].length = n
  by_ : ∀ j (h : j < l.length), By l[j]
theorem Same.val {W wr : World} {A0 : Option Addr} {c0 : Nat} {l : List (List Int)} {n : Nat} (h : Same W A0 c0 l n) (hb : Below W.heap.size W wr) (j : Nat) (hj : j < l.length) :
    ∃ ad A' c', A0 = some ad ∧ wr.cell? (ad.add j) = some (.slice A' n c') ∧ n ≤ c' ∧ ReadsInt wr .u8 A' n l[j] := by
  obtain ⟨ad, A', c', e, k, lc, r⟩ := val_at h.C j hj
  rw [h.same j hj] at k lc r
  exact ⟨ad, A', c', e, below_cell hb k, lc, Gy.reads_below r hb⟩
theorem Same.board {W w : World} {A0 : Option Addr} {c0 : Nat} {l : List (List Int)} {n : Nat} (h : Same W A0 c0 l n) (hb : Below W.heap.size W w) :
    Calls Try.prog 15 #[.slice A0 l.length c0] w fun e w' => ∃ g, e = .returned (.tuple #[.pointer (some ⟨g, 0, none⟩), .int .i64 0]) ∧ Brd g w' g l ∧ Below W.heap.size W w' ∧ W.heap.size ≤ g := by
  have h1 := newboard_calls A0 c0 l l.length n w (Kd.C_below h.C hb) (Nat.le_refl _) (by have := h.n100; omega) (by have := h.few; omega) (fun h0 => h.same 0 h0) (fun i hi _ => h.same i hi) (fun h0 => by omega)
  refine h1.mono fun e w' ⟨h2, h3⟩ => ?_
  rcases h2 with ⟨_, h4, h5⟩ | ⟨h4, _⟩
  · exact ⟨_, h4, h5, hb.trans (h3.mono hb.size), hb.size⟩
  · omega
theorem Same.fewC {W w : World} {A0 : Option Addr} {c0 : Nat} {l : List (List Int)} {n : Nat} (h : Same W A0 c0 l n) (hb : Below W.heap.size W w) :
    Calls Try.prog 14 #[.slice A0 l.length c0] w fun e w' => (∃ r, e = .returned (.bool r)) ∧ Below W.heap.size W w' :=
  (few_tells A0 c0 l w (Kd.C_below h.C hb) h.cap (by have := h.few; omega)).mono fun _ _ ⟨⟨r, h1, _⟩, h2⟩ => ⟨⟨r, h1⟩, hb.trans (h2.mono hb.size)⟩
theorem Same.alikeC {W w : World} {A0 : Option Addr} {c0 : Nat} {l : List (List Int)} {n : Nat} (h : Same W A0 c0 l n) (hb : Below W.heap.size W w) :
    Calls Try.prog 16 #[.slice A0 l.length c0] w fun e w' => e = .returned (.bool true) ∧ Below w.heap.size w w' ∧ Below W.heap.size W w' := by
  obtain ⟨r, i0, h1, h2, h3, h4⟩ := alike_tells l n (by have := h.few; omega) (fun h0 => h.same 0 h0)
  rcases h4 with ⟨rfl, _⟩ | ⟨_, h5, h6⟩
  · exact (alike_calls A0 c0 l true w (Kd.C_below h.C hb) h.cap h1).mono fun _ _ h => ⟨h.1, h.2, hb.trans (h.2.mono hb.size)⟩
  · exact absurd (h.same i0 h5) h6
theorem awakeC {W w : World} (hb : Below W.heap.size W w) : Calls Try.prog 13 #[] w fun e w' => e = .returned (.bool true) ∧ Below W.heap.size W w' :=
  (awake_calls w).mono fun _ _ h => ⟨h.1, hb.trans (h.2.mono hb.size)⟩
theorem Brd.below {base : Nat} {w w' : World} {g : Nat} {rows : List (List Int)} (h : Brd base w g rows) (hb : Below w.heap.size w w') : Brd base w' g rows := by
  obtain ⟨hv, ks, h⟩ := h
  exact ⟨hv, ks, h.below hb⟩
theorem Brd.outC {base : Nat} {w : World} {g : Nat} {rows : List (List Int)} (h : Brd base w g rows) (z : Int) (hz : z < 0 ∨ (rows.length : Int) ≤ z) :
    Calls Try.prog 19 #[.pointer (some ⟨g, 0, none⟩), .int .i64 z] w fun e w' => e = .returned (.slice none 0 0) ∧ w = w' := by
  obtain ⟨hv, ks, h⟩ := h
  exact slot_out base g hv ks rows z w h hz
theorem Brd.inC {base : Nat} {w : World} {g : Nat} {rows : List (List Int)} (h : Brd base w g rows) (z : Nat) (hz : z < rows.length) (n : Nat) (hn : rows[z].length = n) (hl : n ≤ 100) :
    Calls Try.prog 19 #[.pointer (some ⟨g, 0, none⟩), .int .i64 (z : Int)] w fun e w' => ∃ A c, e = .returned (.slice A n c) ∧ ReadsInt w' .u8 A n rows[z] ∧ Below w.heap.size w w' := by
  obtain ⟨hv, ks, h⟩ := h
  refine (slot_in base g hv ks rows z w h hz (by omega)).mono fun e w' ⟨A, c, h1, h2⟩ => ?_
  rw [hn] at h1
  have h3 := Gy.own_reads h2.1 rfl (by omega)
  rw [hn] at h3
  exact ⟨A, c, h1, h3, h2.2⟩
/-- what is asked for that isn't there -/
def Out (N : Nat) (sc : Bool) (za fr : Int) : Prop := (za < 0 ∧ decide ((0 : Int) ≤ za) = false) ∨ (decide ((0 : Int) ≤ za) = true ∧ (N : Int) ≤ za ∧ decide (za < (N : Int)) = false) ∨
  (sc = false ∧ decide ((0 : Int) ≤ za) = true ∧ decide (za < (N : Int)) = true ∧ fr < 0 ∧ decide ((0 : Int) ≤ fr) = false) ∨ (sc = false ∧ decide ((0 : Int) ≤ za) = true ∧ decide (za < (N : Int)) = true ∧ decide ((0 : Int) ≤ fr) = true ∧ (N : Int) ≤ fr ∧ decide (fr < (N : Int)) = false) ∨
  (sc = false ∧ decide ((0 : Int) ≤ za) = true ∧ decide (za < (N : Int)) = true ∧ decide ((0 : Int) ≤ fr) = true ∧ decide (fr < (N : Int)) = true ∧ za = fr)
theorem Brd.scaleOut {base N : Nat} {w : World} {g : Nat} {rows : List (List Int)} (h : Brd base w g rows) (hN : rows.length = N) {za fr c : Int} (ho : Out N true za fr) :
    Calls Try.prog 17 #[.pointer (some ⟨g, 0, none⟩), .int .i64 za, .int .u8 c] w fun e w' => e = .returned (.int .i64 1) ∧ w = w' := by
  obtain ⟨hv, ks, h⟩ := h
  refine scale_out base g hv ks rows za c w h ?_
  rw [hN]
  rcases ho with h | h | h | h | h
  · exact .inl h.1
  · exact .inr h.2.1
  all_goals exact absurd h.1 (by decide)
theorem Brd.addOut {base N : Nat} {w : World} {g : Nat} {rows : List (List Int)} (h : Brd base w g rows) (hN : rows.length = N) {za fr c : Int} (ho : Out N false za fr) :
    Calls Try.prog 18 #[.pointer (some ⟨g, 0, none⟩), .int .i64 za, .int .i64 fr, .int .u8 c] w fun e w' => e = .returned (.int .i64 1) ∧ w = w' := by
  obtain ⟨hv, ks, h⟩ := h
  refine add_out base g hv ks rows za fr c w h ?_
  rw [hN]
  rcases ho with h | h | h | h | h
  all_goals omega
set_option maxHeartbeats 16000000 in
set_option maxRecDepth 100000 in
theorem boards_out (A0 : Option Addr) (c0 : Nat) (l : List (List Int)) (n : Nat) (za fr : Int) (c : Int) (sc : Bool) (W : World) (hS : Same W A0 c0 l n) (ho : Out l.length sc za fr) :
    Calls Try.prog 3 #[.slice A0 l.length c0, .int .i64 za, .int .i64 fr, .int .u8 c, .bool sc] W fun e w' => e = .returned (.bool true) ∧ Below W.heap.size W w' := by
  have HS := Lib.hid hS
  have HO := Lib.hid ho
  clear hS
  cases sc <;> rcases ho with ⟨_, d1⟩ | ⟨d1, _, d2⟩ | ⟨hf, d1, d2, _, d3⟩ | ⟨hf, d1, d2, d3, _, d4⟩ | ⟨hf, d1, d2, d3, d4, rfl⟩ <;> first | (cases hf; done) | skip
  all_goals
    go_enter Try.func3, Try.ntmps3
    go_wp2_with (first
      | (go_at_call 13; first | (with_reducible refine (awakeC H2.out).mono ?_; rintro e w3 ⟨rfl, e1⟩; have H3 := Lib.hid e1; clear e1) | (with_reducible refine (awakeC (Below.refl _ W)).mono ?_; rintro e w1 ⟨rfl, e1⟩; have H1 := Lib.hid e1; clear e1))
      | (go_at_call 14; (with_reducible refine (HS.out.fewC H1.out).mono ?_); rintro e w2 ⟨⟨r, rfl⟩, e1⟩; have H2 := Lib.hid e1; clear e1; cases r)
      | (go_at_call 15; (with_reducible refine (HS.out.board H2.out).mono ?_); rintro e w3 ⟨g, rfl, e1, e2, e3⟩; have H3 := Lib.hid (And.intro e1 (And.intro e2 e3)); clear e1 e2 e3)
      | (go_at_call 16; (with_reducible refine (HS.out.alikeC H3.out.2.1).mono ?_); rintro e w4 ⟨rfl, e1, e2⟩; have H4 := Lib.hid (And.intro (H3.out.1.below e1) e2); clear e1 e2)
      | (go_at_call 17; (with_reducible refine (H4.out.1.scaleOut rfl HO.out).mono ?_); rintro e w5 ⟨rfl, rfl⟩)
      | (go_at_call 18; (with_reducible refine (H4.out.1.addOut rfl HO.out).mono ?_); rintro e w5 ⟨rfl, rfl⟩)
      | (go_at_call 19; (with_reducible refine (H4.out.1.outC _ (.inr (Int.le_refl _))).mono ?_); rintro e w5 ⟨rfl, rfl⟩)
      | (go_at_call 19; (with_reducible refine (H4.out.1.outC _ (.inl (by decide))).mono ?_); rintro e w5 ⟨rfl, rfl⟩))
    · go_ret
      exact ⟨rfl, H3.out⟩
    · go_loopw [106] (fun v106 wr => ∃ i : Nat, i ≤ l.length ∧ v106 = .int .i64 (i : Int) ∧ Gy.Hd (Brd g wr g l ∧ Below W.heap.size W wr)) (fun v106 _ => l.length - (intOf v106).toNat)
      case atStart => exact ⟨0, Nat.zero_le _, rfl, ⟨H4.out⟩⟩
      case round =>
        obtain ⟨i, hi, rfl, hx⟩ := hrel
        by_cases hin : i < l.length
        · have t3 := j_lt hin
          obtain ⟨ad, Av, cv, rfl, kv, lv, rv⟩ := HS.out.val hx.out.2 i hin
          have hwj := up_wrap hin (by have := HS.out.few; omega)
          have HWJ := Lib.hid hwj
          have hend := end_row hin
          have s6 := string_of_reads (P := Try.prog) (c := cv) Try.underlying31 Try.underlying5 Try.underlying9 (Gy.reads_below rv (Gy.drew_below _))
          have HRV := Lib.hid rv
          have HJ := Lib.hid hin
          have HX := Lib.hid (And.intro (hx.out.1.below (Gy.drew_below _)) (hx.out.2.trans ((Gy.drew_below _).mono hx.out.2.size)))
          clear rv lv hx
          go_wp2
          go_region_with (first | (go_at_call 19; (with_reducible refine (HX.out.1.inC i HJ.out n (HS.out.same i HJ.out) HS.out.n100).mono ?_); rintro e w5 ⟨A5, c5, rfl, e1, e2⟩; have s7 := string_of_reads (P := Try.prog) (c := c5) Try.underlying31 Try.underlying5 Try.underlying9 e1; have s8 := string_of_reads (P := Try.prog) (c := cv) Try.underlying31 Try.underlying5 Try.underlying9 (Gy.reads_below HRV.out ((Gy.drew_below _).trans (e2.mono (Gy.drew_below _).size))); have H5 := Lib.hid (And.intro (HX.out.1.below e2) (HX.out.2.trans (e2.mono HX.out.2.size))); clear e1 e2))
          all_goals
            go_wp2
            rw [HWJ.out]
            exact ⟨⟨i + 1, HJ.out, by norm_cast, ⟨H5.out⟩⟩, hend⟩
        · obtain rfl : i = l.length := Nat.le_antisymm hi (Nat.le_of_not_lt hin)
          have t3 : decide ((l.length : Int) < (l.length : Int)) = false := by simp
          have HX := Lib.hid hx.out.2
          clear hx
          go_wp2_with (first
            | (go_at_call 18; (with_reducible refine (add_nil _ _ _ _).mono ?_); rintro e w5 ⟨rfl, rfl⟩)
            | (go_at_call 17; (with_reducible refine (scale_nil _ _ _).mono ?_); rintro e w5 ⟨rfl, rfl⟩)
            | (go_at_call 19; (with_reducible refine (slot_nil _ _).mono ?_); rintro e w5 ⟨rfl, rfl⟩))
          go_ret
          exact ⟨rfl, HX.out⟩
end Go.Proofs.Ytcmigmldecacpaa.Vec

/- Rank and Reduce, in the form in which the printer asks for them. -/
import Derived.Test.YtcmigmldecacpaaReduce
import Derived.Test.YtcmigmldecacpaaQFilledx1
namespace Go.Proofs.Ytcmigmldecacpaa.Giv
open Go Go.RowKit Go.Proofs.YtcmigmldecacpaaW.PrintWords Go.Proofs.YtcmigmldecacpaaW.PrintLast Go.Proofs.YtcmigmldecacpaaW.PrintMore Go.Proofs.Ytcmigmldecacpaa.Vec Go.Proofs.Ytcmigmldecacpaa.Dense Go.Proofs.Ytcmigmldecacpaa.Reduce
set_option linter.unusedSimpArgs false
set_option linter.unusedVariables false

/-! ### rows, filled -/
def okR (l : List (List Int)) : Bool := decide (l.length ≤ 1000) && l.all fun r => decide (r.length ≤ 1000) && okB r
theorem okR_iff {l : List (List Int)} (h : okR l = true) : l.length ≤ 1000 ∧ ∀ r ∈ l, r.length ≤ 1000 ∧ By r := by
  unfold okR at h
  simp only [Bool.and_eq_true, decide_eq_true_eq, List.all_eq_true] at h
  exact ⟨h.1, fun r hr => ⟨(h.2 r hr).1, okB_by (h.2 r hr).2⟩⟩
def maxFrom (m : Nat) (l : List (List Int)) : Nat := l.foldl (fun n r => max n r.length) m
def padTo (m : Nat) (r : List Int) : List Int := r ++ List.replicate (m - r.length) 0
def fillRows (l : List (List Int)) : List (List Int) := l.map (padTo (maxFrom 0 l))
def widthN (l : List (List Int)) : Nat := (l.headD []).length
theorem maxFrom_le {B : Nat} : ∀ (l : List (List Int)) (m : Nat), m ≤ B → (∀ r ∈ l, r.length ≤ B) → maxFrom m l ≤ B
  | [], m, hm, _ => hm
  | r :: l, m, hm, h => maxFrom_le l (max m r.length) (by have := h r (by simp); omega) (fun x hx => h x (by simp [hx]))
theorem le_maxFrom : ∀ (l : List (List Int)) (m : Nat), m ≤ maxFrom m l ∧ ∀ r ∈ l, r.length ≤ maxFrom m l
  | [], m => ⟨Nat.le_refl _, fun r hr => by cases hr⟩
  | r :: l, m => by
    have h := le_maxFrom l (max m r.length)
    refine ⟨Nat.le_trans (Nat.le_max_left _ _) h.1, fun x hx => ?_⟩
    rcases List.mem_cons.1 hx with rfl | hx
    · exact Nat.le_trans (Nat.le_max_right _ _) h.1
    · exact h.2 x hx
theorem padTo_length {m : Nat} {r : List Int} (h : r.length ≤ m) : (padTo m r).length = m := by unfold padTo; rw [List.length_append, List.length_replicate]; omega
theorem padTo_by {m : Nat} {r : List Int} (h : By r) : By (padTo m r) := by
  intro x hx
  rcases List.mem_append.1 hx with hx | hx
  · exact h x hx
  · have := List.eq_of_mem_replicate hx
    omega
theorem fill_slots {l : List (List Int)} (h : ∀ r ∈ l, r.length ≤ 1000 ∧ By r) : Slots (fillRows l) (maxFrom 0 l) ∧ maxFrom 0 l ≤ 1000 ∧ (fillRows l).length = l.length := by
  refine ⟨⟨fun r hr => ?_, fun r hr => ?_⟩, maxFrom_le l 0 (by omega) (fun r hr => (h r hr).1), by unfold fillRows; rw [List.length_map]⟩
  · obtain ⟨x, hx, rfl⟩ := List.mem_map.1 hr
    exact padTo_length ((le_maxFrom l 0).2 x hx)
  · obtain ⟨x, hx, rfl⟩ := List.mem_map.1 hr
    exact padTo_by (h x hx).2
theorem width_fill {l : List (List Int)} (h : ∀ r ∈ l, r.length ≤ 1000 ∧ By r) : widthN (fillRows l) ≤ maxFrom 0 l := by
  cases l with
  | nil => simp [widthN, fillRows]
  | cons r t =>
    have := (fill_slots h).1.len (padTo (maxFrom 0 (r :: t)) r) (by simp [fillRows])
    show (padTo (maxFrom 0 (r :: t)) r).length ≤ _
    omega
theorem fl1 (l : List (List Int)) (M : Nat) (hM : M ≤ 1000) (hl : l.length ≤ 1000) (h : ∀ r ∈ l, r.length ≤ M) : ∀ (d i k : Nat) (out : List (List Int)), i + d = l.length → d < k → out = (l.take i).map (padTo M) → QFilled.dense_filled.l1 k M out l (l.length : Int) i = some (l.map (padTo M)) := by
  intro d
  induction d with
  | zero =>
    intro i k out hi hk ho
    obtain ⟨k, rfl⟩ : ∃ m, k = m + 1 := ⟨k - 1, by omega⟩
    simp only [QFilled.dense_filled.l1]
    rw [if_neg (by omega), ho, List.take_of_length_le (by omega)]
  | succ d ih =>
    intro i k out hi hk ho
    obtain ⟨k, rfl⟩ : ∃ m, k = m + 1 := ⟨k - 1, by omega⟩
    have hi' : i < l.length := by omega
    have hr := h _ (List.getElem_mem hi')
    have hrd : QFilled.rd_L1 l (i : Int) = l[i] := by
      unfold QFilled.rd_L1; rw [Int.toNat_natCast, List.getD_eq_getElem?_getD, List.getElem?_eq_getElem hi']; rfl
    have hcl : bytes_Clone.f l[i] = some l[i] := by unfold bytes_Clone.f; rw [if_pos (by omega)]
    have hw : wrap64 ((M : Int) - (l[i].length : Int)) = ((M - l[i].length : Nat) : Int) := by unfold wrap64; omega
    have hw1 : wrap64 ((i : Int) + 1) = ((i + 1 : Nat) : Int) := by unfold wrap64; omega
    have hol : out.length ≤ 1000 := by rw [ho, List.length_map, List.length_take]; omega
    have hnx := ih (i + 1) k (out ++ [padTo M l[i]]) (by omega) (by omega) (by rw [ho, List.take_succ_eq_append_getElem hi', List.map_append]; rfl)
    simp only [QFilled.dense_filled.l1]
    rw [if_pos (by omega), if_pos (by omega), if_pos (by omega), hrd, hcl, Option.bind_some, hw, if_pos (by omega), Int.toNat_natCast, if_pos (by omega), if_pos (by omega), hw1]
    exact hnx
theorem fl0 (l : List (List Int)) (hl : l.length ≤ 1000) (h : ∀ r ∈ l, r.length ≤ 1000) : ∀ (d i k m : Nat), i + d = l.length → d + l.length + 1 < k → m ≤ 1000 → (∀ r ∈ l, r.length ≤ maxFrom m (l.drop i)) → QFilled.dense_filled.l0 k l m l (l.length : Int) i = some (l.map (padTo (maxFrom m (l.drop i)))) := by
  intro d
  induction d with
  | zero =>
    intro i k m hi hk hm hh
    obtain ⟨k, rfl⟩ : ∃ m, k = m + 1 := ⟨k - 1, by omega⟩
    rw [List.drop_eq_nil_of_le (by omega)] at hh ⊢
    simp only [QFilled.dense_filled.l0]
    rw [if_neg (by omega)]
    exact fl1 l m hm hl hh l.length 0 k [] (by omega) (by omega) rfl
  | succ d ih =>
    intro i k m hi hk hm hh
    obtain ⟨k, rfl⟩ : ∃ m, k = m + 1 := ⟨k - 1, by omega⟩
    have hi' : i < l.length := by omega
    have hrd : QFilled.rd_L1 l (i : Int) = l[i] := by
      unfold QFilled.rd_L1; rw [Int.toNat_natCast, List.getD_eq_getElem?_getD, List.getElem?_eq_getElem hi']; rfl
    have hmx : mx (m : Int) (l[i].length : Int) = ((max m l[i].length : Nat) : Int) := by unfold mx; omega
    have hw1 : wrap64 ((i : Int) + 1) = ((i + 1 : Nat) : Int) := by unfold wrap64; omega
    rw [List.drop_eq_getElem_cons hi'] at hh ⊢
    simp only [QFilled.dense_filled.l0]
    rw [if_pos (by omega), if_pos (by omega), if_pos (by omega), hrd, hmx, hw1]
    exact ih (i + 1) k (max m l[i].length) (by omega) (by omega) (by have := h _ (List.getElem_mem hi'); omega) hh
theorem filled_f {l : List (List Int)} (hl : l.length ≤ 1000) (h : ∀ r ∈ l, r.length ≤ 1000 ∧ By r) : QFilled.dense_filled.f (2 * l.length + 2) l = some (fillRows l) := by
  unfold QFilled.dense_filled.f
  exact fl0 l hl (fun r hr => (h r hr).1) l.length 0 _ 0 (by omega) (by omega) (by omega) (fun r hr => by rw [List.drop_zero]; exact (le_maxFrom l 0).2 r hr)
abbrev kR : Kd (List Int) := Kd.slice 5 (Kd.int .u8)
theorem info_row : (Try.prog.info? 31).map (fun i => (i.zero, i.size, i.bytes)) = some (some (.slice none 0 0), 1, 24) := by kernel_rfl
theorem filled_calls (A0 : Option Addr) (c0 : Nat) (l : List (List Int)) (w : World) (hC : Kd.C kR w A0 l.length l) (hc : l.length ≤ c0) (hl : l.length ≤ 1000) (h : ∀ r ∈ l, r.length ≤ 1000 ∧ By r) :
    Calls Try.prog 57 #[.slice A0 l.length c0] w fun e w' => ∃ A c, e = .returned (.slice A (fillRows l).length c) ∧ Kd.R kR 31 w' w.heap.size (fun _ => True) (.slice A (fillRows l).length c) (fillRows l) ∧ Below w.heap.size w w' := by
  refine (QFilled.dense_filled.calls _ A0 c0 l _ w hC hc (filled_f hl h)).mono ?_
  rintro e w' ⟨v, rfl, hS, hb⟩
  have hR := Kd.S_R hS
  obtain ⟨A, c, rfl⟩ := Kd.R_slice hR
  exact ⟨A, c, rfl, hR, hb⟩
theorem width_calls (A : Option Addr) (c : Nat) (l : List (List Int)) (w : World) (hC : Kd.C kR w A l.length l) (hc : l.length ≤ c) :
    Calls Try.prog 59 #[.slice A l.length c] w fun e w' => e = .returned (.int .i64 (widthN l : Nat)) ∧ Below w.heap.size w w' := by
  refine (QFilled.dense_width.calls A c l (widthN l : Nat) w hC hc ?_).mono (fun e w' h => ⟨h.1, h.2.below⟩)
  unfold QFilled.dense_width.f
  cases l with
  | nil => rfl
  | cons r t =>
    rw [if_neg (by simp <;> omega), if_pos (by simp <;> omega)]
    rfl
/-! ### rows' two forms -/
theorem nums_of_reps {w : World} {base : Nat} {ok : Nat → Prop} {row : List Int} {cs : List Value} (h : Reps ((Kd.int .u8).M w base ok) 1 row cs) : cs = nums .u8 row :=
  Kd.reps_encs (enc := fun x => Value.int .u8 x) h
theorem rows_of_R {base : Nat} {w : World} {v : Value} {ok : Nat → Prop} {rows : List (List Int)} (h : Kd.R kR 31 w base ok v rows) (hl : ∀ r ∈ rows, r.length ≤ 100000) : ∃ ks, RowsIs base w v ks rows := by
  obtain ⟨h0, inner, ho, hr⟩ := h
  have hlen : inner.length = rows.length := (hr.1).trans (Nat.mul_one _)
  refine ⟨inner, by rw [hlen]; exact ho, hlen, fun i u row h1 h2 => ?_⟩
  obtain ⟨v', hv', g0, in2, ho2, hr2⟩ := hr.2 i row h2
  have hi := (List.getElem?_eq_some_iff.1 h1).1
  have e1 : (inner.drop (i * 1)).take 1 = [u] := by
    rw [Nat.mul_one, List.drop_eq_getElem_cons hi, List.take_succ_cons, List.take_zero]
    rw [List.getElem?_eq_getElem hi] at h1
    injection h1 with h1
    rw [h1]
  have e2 : ([u] : List Value) = [v'] := e1.symm.trans hv'
  injection e2 with e2
  subst e2
  obtain rfl := nums_of_reps hr2
  have ho3 : w.ownsRow base 5 1 u row.length (nums .u8 row) := ho2
  obtain ⟨A, c, rfl⟩ := Vec.own_slice ho3
  have hrl := hl row (List.mem_of_getElem? h2)
  refine ⟨A, c, rfl, own_le ho3, Gy.own_reads ho3 rfl (by omega), ho3, fun e => ?_⟩
  obtain ⟨g, cap, rfl⟩ := Gy.own_some ho (Nat.lt_of_le_of_lt (Nat.zero_le _) (List.getElem?_eq_some_iff.1 h2).1)
  exact (g0 g e).2 rfl
theorem R_of_rows {base : Nat} {w : World} {v : Value} {ks : List Value} {rows : List (List Int)} (h : RowsIs base w v ks rows) : Kd.R kR 31 w base (fun _ => True) v rows := by
  refine ⟨fun _ _ => trivial, ks, by have := h.own; rw [h.len] at this; exact this, by rw [h.len]; exact (Nat.mul_one _).symm, fun j p hj => ?_⟩
  have hjl := (List.getElem?_eq_some_iff.1 hj).1
  have hjk : j < ks.length := by rw [h.len]; exact hjl
  obtain ⟨A, c, e, hc, hR, ho, hne⟩ := h.el j _ p (List.getElem?_eq_getElem hjk) hj
  have e1 : (ks.drop (j * 1)).take 1 = [ks[j]] := by
    rw [Nat.mul_one, List.drop_eq_getElem_cons hjk, List.take_succ_cons, List.take_zero]
  show ∃ v', (ks.drop (j * 1)).take 1 = [v'] ∧ _
  rw [e1]
  exact ⟨ks[j], rfl, fun k hk => ⟨trivial, fun e2 => hne (hk.trans e2)⟩, nums .u8 p, ho, Kd.reps_scalar p⟩
/-! ### reduce, of rows that there may be none of -/
theorem redTo_nil (k : Nat) : redTo [] k = ([], []) := by
  induction k with
  | zero => rfl
  | succ k ih => rw [redTo_succ, ih]; rfl
set_option maxHeartbeats 4000000 in
set_option maxRecDepth 100000 in
theorem reduce_empty (A : Option Addr) (c N : Nat) (W : World) (hN : N ≤ 100000) :
    Calls Try.prog 58 #[.slice A 0 c, .int .i64 (N : Int)] W fun e w' => e = .returned (.slice none 0 0) ∧ Below W.heap.size W w' := by
  have HN := Lib.hid hN
  clear hN
  go_enter Try.func58, Try.ntmps58
  go_wp2_with fail
  go_loopw [5, 10] (fun v5 v10 wr => ∃ k : Nat, k ≤ N ∧ v10 = .int .i64 (k : Int) ∧ v5 = .slice none 0 0 ∧ Gy.Hd (Below W.heap.size W wr)) (fun _ v10 _ => N - (intOf v10).toNat)
  case atStart => exact ⟨0, Nat.zero_le _, rfl, rfl, ⟨Below.refl _ _⟩⟩
  case round =>
    obtain ⟨wb, rfl⟩ : ∃ wb, wb = wr := ⟨wr, rfl⟩
    obtain ⟨k, hk, rfl, rfl, hx⟩ := hrel
    have HX := Lib.hid hx.out
    clear hx
    by_cases hlt : k < N
    · have t3 := j_lt hlt
      have HJ := Lib.hid hlt
      have HWJ := Lib.hid (up_wrap hlt (by have := HN.out; omega))
      have hwj := HWJ.out
      have hend := end_row hlt
      clear hlt
      go_wp2_with fail
      go_loopw [8] (fun v8 wr => v8 = .int .i64 0 ∧ wr = wb) (fun _ _ => 0)
      case atStart => exact ⟨rfl, rfl⟩
      case round =>
        obtain ⟨rfl, rfl⟩ := hrel
        go_wp2_with fail
        (try rw [HWJ.out])
        exact ⟨⟨k + 1, HJ.out, by norm_cast, rfl, ⟨HX.out⟩⟩, hend⟩
    · obtain rfl : k = N := Nat.le_antisymm hk (Nat.le_of_not_lt hlt)
      have t3 : decide ((k : Int) < (k : Int)) = false := by simp
      go_wp2_with fail
      go_ret
      exact ⟨rfl, HX.out⟩
/-- what reduce leaves -/
structure Left (B : Nat) (w : World) (n c : Nat) (A : Option Addr) (rows : List (List Int)) (P : List Nat) (A5 : Option Addr) (c5 : Nat) (W w' : World) : Prop where
  rows : Kd.R kR 31 w' B (fun _ => True) (.slice A n c) rows
  pl : Kd.R (Kd.int .i64) 3 w' B (fun _ => True) (.slice A5 P.length c5) (P.map Int.ofNat)
  bel : Below B W w'
theorem reduced_calls (B n c N m : Nat) (A : Option Addr) (rows : List (List Int)) (W w : World) (h : Kd.R kR 31 w B (fun _ => True) (.slice A n c) rows) (hB : B ≤ w.heap.size) (hW : Below B W w) (hS : Slots rows m) (hm : m ≤ 100000) (hrl : rows.length ≤ 100000) (hN : N ≤ m ∨ (rows = [] ∧ N ≤ 100000)) :
    Calls Try.prog 58 #[.slice A n c, .int .i64 (N : Int)] w fun e w' => ∃ A5 c5, e = .returned (.slice A5 (redTo rows N).2.length c5) ∧ Left B w n c A (redTo rows N).1 (redTo rows N).2 A5 c5 W w' := by
  have hn := (Kd.R_reads' h).1
  subst hn
  by_cases h0 : rows = []
  · subst h0
    refine (reduce_empty A c N w (by rcases hN with h | h <;> omega)).mono ?_
    rintro e w' ⟨rfl, hb⟩
    rw [redTo_nil]
    exact ⟨none, 0, rfl, Kd.R_below h hb, Kd.R_nil _ _ _ _ _, hW.trans (hb.mono hB)⟩
  · have hpos : 0 < rows.length := List.length_pos_iff.2 h0
    obtain ⟨ks, hks⟩ := rows_of_R h (fun r hr => by rw [hS.len r hr]; exact hm)
    obtain ⟨g, cap, e⟩ := Gy.own_some hks.own (by rw [hks.len]; exact hpos)
    injection e with e1 e2 e3
    subst e1
    have hNm : N ≤ m := by rcases hN with h | h; exact h; exact absurd h.1 h0
    refine (reduce_calls B g _ c N m ks rows w hks hB hS hm hrl hNm).mono ?_
    rintro e w' ⟨v, rfl, hl⟩
    obtain ⟨A5, c5, rfl⟩ := Kd.R_slice hl.pl
    rw [List.length_map]
    obtain ⟨ks', hr⟩ := hl.rows
    have hlen := hr.n_eq
    have hpl := hl.pl
    rw [List.length_map] at hpl
    exact ⟨A5, c5, rfl, R_of_rows hr, Kd.R_lower hpl hB, hW.trans hl.bx.bel⟩
theorem F_len {α : Type} {d : Kd α} {W : World} {ok : Nat → Prop} {A : Option Addr} {n m : Nat} {xs : List α} (h : Kd.F d W ok A n xs) (e : n = m) : Kd.F d W ok A m xs := e ▸ h
/-! ### Rank and Reduce -/
def dense_Rank.f (l0 : List (List Int)) : Option Int := if okR l0 = true then some (((redTo (fillRows l0) (widthN (fillRows l0))).2.length : Nat) : Int) else none
def dense_Reduce.f (l0 : List (List Int)) : Option (List (List Int) × List Int) := if okR l0 = true then some ((redTo (fillRows l0) (widthN (fillRows l0))).1.take (redTo (fillRows l0) (widthN (fillRows l0))).2.length, (redTo (fillRows l0) (widthN (fillRows l0))).2.map Int.ofNat) else none
theorem red_step {w w2 : World} {A2 : Option Addr} {c2 : Nat} {l : List (List Int)} (hl : l.length ≤ 1000) (h : ∀ r ∈ l, r.length ≤ 1000 ∧ By r) (hR : Kd.R kR 31 w2 w.heap.size (fun _ => True) (.slice A2 (fillRows l).length c2) (fillRows l)) (hb : Below w.heap.size w w2) :
    Calls Try.prog 58 #[.slice A2 (fillRows l).length c2, .int .i64 ((widthN (fillRows l) : Nat) : Int)] w2 fun e w' => ∃ A5 c5, e = .returned (.slice A5 (redTo (fillRows l) (widthN (fillRows l))).2.length c5) ∧ Left w.heap.size w2 (fillRows l).length c2 A2 (redTo (fillRows l) (widthN (fillRows l))).1 (redTo (fillRows l) (widthN (fillRows l))).2 A5 c5 w w' :=
  reduced_calls w.heap.size _ c2 _ (maxFrom 0 l) A2 _ w w2 hR hb.size hb (fill_slots h).1 (by have := (fill_slots h).2.1; omega) (by rw [(fill_slots h).2.2]; omega) (.inl (width_fill h))
set_option maxHeartbeats 4000000 in
set_option maxRecDepth 100000 in
theorem dense_Rank.calls (A0 : Option Addr) (c0 : Nat) (l0 : List (List Int)) (r : Int) (w : World) (hr0 : Kd.C (Kd.slice 5 (Kd.int .u8)) w A0 l0.length l0) (hc0 : l0.length ≤ c0) (h : dense_Rank.f l0 = some r) :
    Calls Try.prog 27 #[.slice A0 l0.length c0] w fun e w' => e = .returned (.int .i64 r) ∧ Below w.heap.size w w' := by
  unfold dense_Rank.f at h
  split at h
  · rename_i hok
    obtain rfl := Option.some.inj h
    obtain ⟨hl, hb⟩ := okR_iff hok
    have H := Lib.hid (And.intro hr0 (And.intro hc0 (And.intro hl hb)))
    clear hr0 hc0 h hok hl hb
    have HK := Lib.hid (fun (w2 : World) (A2 : Option Addr) (c2 : Nat) hR hb => red_step (w := w) (w2 := w2) (A2 := A2) (c2 := c2) H.out.2.2.1 H.out.2.2.2 hR hb)
    generalize redTo (fillRows l0) (widthN (fillRows l0)) = st at HK
    generalize hww : widthN (fillRows l0) = ww at HK
    obtain ⟨R, P⟩ := st
    have hw2 := Lib.hid hww
    clear hww
    go_enter Try.func27, Try.ntmps27
    go_wp2_with (first
      | (go_at_call 57; (with_reducible refine (filled_calls A0 c0 l0 _ H.out.1 H.out.2.1 H.out.2.2.1 H.out.2.2.2).mono ?_); rintro e w2 ⟨A2, c2, rfl, h2, b2⟩; have H2 := Lib.hid (And.intro h2 b2); clear h2 b2)
      | (go_at_call 59; (with_reducible refine (width_calls A2 c2 _ w2 (Kd.R_reads' H2.out.1).2.2 (Kd.R_reads' H2.out.1).2.1).mono ?_); rintro e w3 ⟨rfl, b3⟩; rw [hw2.out]; have H3 := Lib.hid b3; clear b3)
      | (go_at_call 58; (with_reducible refine (HK.out w3 A2 c2 (Kd.R_below H2.out.1 H3.out) (H2.out.2.trans (H3.out.mono H2.out.2.size))).mono ?_); rintro e w4 ⟨A5, c5, rfl, h4⟩; have H4 := Lib.hid h4; clear h4))
    go_ret
    exact ⟨rfl, H4.out.bel⟩
  · cases h
set_option maxHeartbeats 4000000 in
set_option maxRecDepth 100000 in
theorem dense_Reduce.calls (A0 : Option Addr) (c0 : Nat) (l0 : List (List Int)) (r1 : List (List Int)) (r2 : List Int) (w : World) (hr0 : Kd.C (Kd.slice 5 (Kd.int .u8)) w A0 l0.length l0) (hc0 : l0.length ≤ c0) (h : dense_Reduce.f l0 = some (r1, r2)) :
    Calls Try.prog 26 #[.slice A0 l0.length c0] w fun e w' => ∃ v0_ v1_ : Value, e = .returned (.tuple #[v0_, v1_]) ∧ Kd.V (Kd.slice 5 (Kd.int .u8)) 31 w' w.heap.size (fun k_ => (w.heap.size ≤ k_) ∧ some k_ ≠ (v1_ : Value).ownBlock) v0_ r1 ∧ Kd.R (Kd.int .i64) 3 w' w.heap.size (fun k_ => w.heap.size ≤ k_) v1_ r2 ∧ Below w.heap.size w w' := by
  unfold dense_Reduce.f at h
  split at h
  · rename_i hok
    have h' := Option.some.inj h
    injection h' with h1 h2
    subst h1 h2
    obtain ⟨hl, hb⟩ := okR_iff hok
    have H := Lib.hid (And.intro hr0 (And.intro hc0 (And.intro hl hb)))
    have HLE := Lib.hid (show (redTo (fillRows l0) (widthN (fillRows l0))).2.length ≤ (fillRows l0).length ∧ (redTo (fillRows l0) (widthN (fillRows l0))).1.length = (fillRows l0).length from ⟨(redTo_inv (fill_slots hb).1 _).2.2, (redTo_inv (fill_slots hb).1 _).2.1⟩)
    clear hr0 hc0 h hok hl hb
    have HK := Lib.hid (fun (w2 : World) (A2 : Option Addr) (c2 : Nat) hR hb => red_step (w := w) (w2 := w2) (A2 := A2) (c2 := c2) H.out.2.2.1 H.out.2.2.2 hR hb)
    generalize redTo (fillRows l0) (widthN (fillRows l0)) = st at HK HLE
    generalize hww : widthN (fillRows l0) = ww at HK
    obtain ⟨R, P⟩ := st
    have hw2 := Lib.hid hww
    clear hww
    obtain ⟨inf, hinf, _⟩ := Option.map_eq_some_iff.1 info_row
    have hcut := fun (A2 : Option Addr) (c2 : Nat) (hc : (fillRows l0).length ≤ c2) => cut_to (P := Try.prog) 22 31 .i64 Try.underlying22 hinf A2 (fillRows l0).length c2 (P.length : Int) (by omega) (by have h1 : P.length ≤ (fillRows l0).length := HLE.out.1; omega) hc
    have HCUT := Lib.hid hcut
    clear hcut
    go_enter Try.func26, Try.ntmps26
    go_wp2_with (first
      | (go_at_call 57; (with_reducible refine (filled_calls A0 c0 l0 _ H.out.1 H.out.2.1 H.out.2.2.1 H.out.2.2.2).mono ?_); rintro e w2 ⟨A2, c2, rfl, h2, b2⟩; have H2 := Lib.hid (And.intro h2 b2); have hct := HCUT.out A2 c2 (Kd.R_reads' h2).2.1; rw [Int.toNat_natCast] at hct; clear h2 b2)
      | (go_at_call 59; (with_reducible refine (width_calls A2 c2 _ w2 (Kd.R_reads' H2.out.1).2.2 (Kd.R_reads' H2.out.1).2.1).mono ?_); rintro e w3 ⟨rfl, b3⟩; rw [hw2.out]; have H3 := Lib.hid b3; clear b3)
      | (go_at_call 58; (with_reducible refine (HK.out w3 A2 c2 (Kd.R_below H2.out.1 H3.out) (H2.out.2.trans (H3.out.mono H2.out.2.size))).mono ?_); rintro e w4 ⟨A5, c5, rfl, h4⟩; have H4 := Lib.hid h4; clear h4))
    go_ret2
    have hrows := Kd.R_take (m := P.length) (Kd.R_bound H4.out.rows) (by have := HLE.out; omega)
    have hpl := Kd.R_bound H4.out.pl
    refine ⟨_, _, rfl, ?_, Kd.R_mono hpl (fun k hk => hk.2.1), H4.out.bel⟩
    have hF := Kd.R_F hrows
    have hle := (Kd.R_reads' hrows).1
    obtain ⟨inner, hin⟩ := Kd.R_own H4.out.pl
    refine ⟨A2, c2, congrArg (fun n => Value.slice A2 n c2) hle, by have := (Kd.R_reads' hrows).2.1; omega, ?_⟩
    have hF' := F_len hF hle
    refine Kd.F_mono hF' (fun k hk => ⟨hk.2.1, fun e => ?_⟩)
    obtain ⟨_, _, _, q, hq, cells, hc⟩ := hk
    obtain ⟨c2, g2⟩ := own_typed hin k e.symm
    rw [hc] at g2
    injection g2 with g2
    injection g2 with _ g2 _
    subst g2
    revert hq
    decide
  · cases h
end Go.Proofs.Ytcmigmldecacpaa.Giv

/- The walks over package vector: so much of a vector, sums. -/
import Derived.Test.YtcmigmldecacpaaZVecCalls
namespace Go.Proofs.Ytcmigmldecacpaa.Vec
open Go Go.RowKit Go.Proofs.YtcmigmldecacpaaW.PrintWords Go.Proofs.YtcmigmldecacpaaW.PrintMore

theorem drew_alloc (w : World) : Below w.heap.size w w.drew := Gy.drew_below w
/-- the world in which a table of its own lies -/
def TabWorld (w : World) (zs : Array Value) (c : Nat) : World := (w.alloc (.cells zs 121)).setCells w.heap.size 0 (tab c 256)
theorem tabw_at (w : World) (zs : Array Value) (c : Nat) (hz : zs = (List.replicate 256 (.int .u8 0)).toArray) : TabAt (TabWorld w zs c) w.heap.size c 256 := set_tab (tab_start w c zs _ hz)
theorem tabw_below (w : World) (zs : Array Value) (c : Nat) : Below w.heap.size w (TabWorld w zs c) := set_below (Nat.le_refl _) _ 0 (Gy.alloc_below w _)
theorem store_cells {w : World} {b c k c' k' : Nat} (h : TabAt w b c k) : (storeCells ⟨b, 0, none⟩ (tab c' k')).run Try.prog w = .ok () (w.setCells b 0 (tab c' k')) := by
  have ht := h.there2 c' k'
  rw [List.size_toArray] at ht
  have h1 := run_storeCells_cells (P := Try.prog) b 0 (tab c' k') 0 w (fun j hj => by simpa using (ht j (by simpa using hj)).1) (fun j hj => by simpa using (ht j (by simpa using hj)).2) (fun v hv => tab_one c' k' v hv)
  simpa using h1
structure AxAt (w wr : World) (tb c n : Nat) (A : Option Addr) (cap : Nat) (xs : List Int) : Prop where
  tab : TabAt wr tb c 256
  own : wr.ownsRow (tb + 1) 5 1 (.slice A n cap) n (nums .u8 xs)
  bel : Below w.heap.size w wr
  le : w.heap.size ≤ tb
theorem AxAt.cell {w wr : World} {tb c n cap : Nat} {A : Option Addr} {xs : List Int} (h : AxAt w wr tb c n A cap xs) (j : Nat) (hj : j < n) (m : Int) (hm : xs[j]? = some m) : ∃ b, A = some ⟨b, 0, none⟩ ∧ tb < b ∧ wr.cell? ⟨b, j, none⟩ = some (.int .u8 m) ∧ wr.frozen? ⟨b, j, none⟩ = false := by
  obtain ⟨b, c', e⟩ := Gy.own_some h.own (by omega)
  have ho := h.own
  rw [e] at ho
  injection e with e1 e2 e3
  refine ⟨b, e1, own_base ho b rfl, ?_, ho.frozenAt j⟩
  rw [ho.cellAt j (by omega)]
  unfold nums
  rw [List.getElem?_map, hm]
  rfl
theorem AxAt.set {w wr : World} {tb c n cap b : Nat} {xs : List Int} (h : AxAt w wr tb c n (some ⟨b, 0, none⟩) cap xs) (hb : tb < b) (j : Nat) (v : Int) : AxAt w (wr.setCell ⟨b, j, none⟩ (.int .u8 v)) tb c n (some ⟨b, 0, none⟩) cap (xs.set j v) := by
  refine ⟨tab_far h.tab (by omega), ?_, h.bel.setCell (show w.heap.size ≤ (⟨b, j, none⟩ : Addr).block from by have := h.le; show _ ≤ b; omega) _, h.le⟩
  have h2 := (h.own.stored j (.int .u8 v)).1
  have e : (nums .u8 xs).set j (.int .u8 v) = nums .u8 (xs.set j v) := by simp [nums, List.map_set]
  rw [e] at h2
  exact h2
theorem AxAt.drew {w wr : World} {tb c n cap : Nat} {A : Option Addr} {xs : List Int} (h : AxAt w wr tb c n A cap xs) : AxAt w wr.drew tb c n A cap xs :=
  ⟨h.tab.below (Gy.drew_below wr), h.own, h.bel.trans ((Gy.drew_below wr).mono h.bel.size), h.le⟩
theorem end_row {j n : Nat} (h : j < n) : n - (intOf (Value.int .i64 ((j : Int) + 1))).toNat < n - (intOf (Value.int .i64 (j : Int))).toNat := by
  show n - ((j : Int) + 1).toNat < n - ((j : Int)).toNat
  omega
theorem j_lt {j n : Nat} (h : j < n) : decide ((j : Int) < (n : Int)) = true := by simp; omega
theorem up_wrap {j n : Nat} (h : j < n) (h1 : n ≤ 9223372036854775807) : wrap64 ((j : Int) + 1) = (j : Int) + 1 := by unfold wrap64; omega
/-- what is made stands in a row of its own -/
def MadeRow (w : World) (n : Nat) (xs : List Int) (A : Option Addr) (cap : Nat) (w' : World) : Prop := w'.ownsRow w.heap.size 5 1 (.slice A n cap) n (nums .u8 xs) ∧ Below w.heap.size w w'
theorem own_lower {w : World} {base base' : Nat} {e : TypeId} {size n : Nat} {v : Value} {xs : List Value} (ho : w.ownsRow base e size v n xs) (hb : base' ≤ base) : w.ownsRow base' e size v n xs := by
  refine ⟨ho.1, ?_⟩
  rcases ho.2 with h1 | ⟨g, c', cur, e, hg, h2⟩
  · exact .inl h1
  · exact .inr ⟨g, c', cur, e, by omega, h2⟩
theorem ax_start {w w1 w2 w3 : World} {c cap : Nat} {A : Option Addr} {a b : List Int} (f : Int → Int → Int) (hT : TabAt w2 w1.heap.size c 256) (hB : Below w.heap.size w w2) (h1 : w.heap.size ≤ w1.heap.size) (ho : w3.ownsRow w2.heap.size 5 1 (.slice A a.length cap) a.length (nums .u8 a)) (h3 : Below w2.heap.size w2 w3) :
    AxAt w w3 w1.heap.size c a.length A cap (mixL f a b 0) := by
  rw [mixL_zero]
  exact ⟨hT.below h3, own_lower ho hT.lt, hB.trans (h3.mono hB.size), h1⟩
theorem AxAt.made {w wr : World} {tb c n cap : Nat} {A : Option Addr} {xs : List Int} (h : AxAt w wr tb c n A cap xs) : MadeRow w n xs A cap wr := by
  exact ⟨own_lower h.own (by have := h.le; omega), h.bel⟩
/-- c times each -/
def scaleL (a : List Int) (c : Nat) : List Int := List.zipWith (fun _ y => mulI c y) a a
set_option maxHeartbeats 4000000 in
set_option maxRecDepth 100000 in
theorem axpy_calls (A0 : Option Addr) (c0 : Nat) (A1 : Option Addr) (c1 n c : Nat) (a b : List Int) (w : World) (h0 : ReadsInt w .u8 A0 n a) (h1 : ReadsInt w .u8 A1 n b) (ha : By a) (hb : By b) (hc : c < 256) (hn : n ≤ 100000) :
    Calls Try.prog 54 #[.slice A0 n c0, .slice A1 n c1, .int .u8 c] w fun e w' => ∃ A' c', e = .returned (.tuple #[.slice A' n c', .int .i64 0]) ∧ MadeRow w n (plusL a b c) A' c' w' := by
  obtain ⟨zs, hzs, hz⟩ := row_zero
  obtain rfl := h0.1
  have HZ := Lib.hid hzs
  have H0 := Lib.hid h0
  have H1 := Lib.hid h1
  have HB := Lib.hid (And.intro ha hb)
  have HC := Lib.hid hc
  have hlb := h1.1
  have HL := Lib.hid (And.intro hlb hn)
  clear hzs h0 h1 ha hb hc hlb hn
  go_enter Try.func54, Try.ntmps54
  have htl := tab_length c 256
  go_wp2_with (first
    | (go_at_call 78; (with_reducible refine (table_calls c _ HC.out).mono ?_); rintro e w1 ⟨rfl, e1⟩; have E1 := Lib.hid e1; clear e1; have hsc : (storeCells ⟨w1.heap.size, 0, none⟩ (tab c 256)).run Try.prog (w1.alloc (.cells zs 121)) = .ok () (TabWorld w1 zs c) := store_cells (tab_start w1 c zs _ HZ.out); have hb2 := tabw_below w1 zs c; have ht2 := tabw_at w1 zs c HZ.out; generalize TabWorld w1 zs c = w2 at hsc hb2 ht2; have E2 := Lib.hid (And.intro ht2 (E1.out.trans (hb2.mono E1.out.size))); clear hb2 ht2)
    | (go_at_call 51; (with_reducible refine (clone_calls A0 a.length c0 a _ (Gy.reads_below H0.out E2.out.2) (by have := HL.out; omega)).mono ?_); rintro e w3 ⟨v3, rfl, e1, e2⟩; obtain ⟨A3, c3, rfl⟩ := own_slice e1; have E3 := Lib.hid (And.intro e1 e2); clear e1 e2))
  have AX := Lib.hid (ax_start (b := b) (addI c) E2.out.1 E2.out.2 E1.out.size E3.out.1 E3.out.2)
  clear hsc
  go_loopw [23] (fun v23 wr => ∃ j : Nat, j ≤ a.length ∧ v23 = .int .i64 (j : Int) ∧ Gy.Hd (AxAt w wr w1.heap.size c a.length A3 c3 (mixL (addI c) a b j))) (fun v23 _ => a.length - (intOf v23).toNat)
  case atStart => exact ⟨0, Nat.zero_le _, rfl, ⟨AX.out⟩⟩
  case round =>
    obtain ⟨j, hj, rfl, hx⟩ := hrel
    clear E3 AX
    by_cases hjn : j < a.length
    · have t3 := j_lt hjn
      obtain ⟨bb, rfl, hbb, k0, f0⟩ := hx.out.cell j hjn _ (mixL_at (addI c) HL.out.1 j hjn)
      obtain ⟨p, hp, lp⟩ := HB.out.2.at j (by have := HL.out.1; omega)
      obtain ⟨m, hm, lm⟩ := HB.out.1.at j hjn
      obtain ⟨ad, rfl, hcell⟩ := H1.out.2.2 (by omega)
      have kb := (Gy.reads_below H1.out hx.out.bel).2.2 (by omega)
      obtain ⟨ad2, e2, kb⟩ := kb
      injection e2 with e2
      subst e2
      replace kb := kb j hjn
      rw [show b.getD j 0 = (p : Int) from by rw [← hp]; simp [List.getD_eq_getElem?_getD, (show j < b.length by have := HL.out.1; omega)]] at kb
      have kt := hx.out.tab.cell p lp
      rw [if_pos lp] at kt
      rw [hm] at k0
      have f1 := Go.u8_xor_nat m (Gy.gmul p c) lm (Gy.gmul_lt lp HC.out)
      have lp2 : (p : Int) < 256 := by omega
      have hst := mixL_set (addI c) HL.out.1 j hjn
      rw [hm, hp, (addI_by c m p lm lp HC.out).1] at hst
      have HST := Lib.hid hst
      have HBB := Lib.hid hbb
      have HJ := Lib.hid hjn
      have hwj := up_wrap hjn (by have := HL.out.2; omega)
      have HWJ := Lib.hid hwj
      have hend := end_row hjn
      have f0' := f0
      clear hcell hst hp hm hbb
      go_wp2
      go_region_with (fail)
      all_goals
        have hnx := hx.out.set HBB.out j (m ^^^ Gy.gmul p c : Nat)
        rw [HST.out] at hnx
        have HNX := Lib.hid hnx.drew
        clear hnx
        go_wp2
        rw [HWJ.out]
        exact ⟨⟨j + 1, HJ.out, by norm_cast, ⟨HNX.out⟩⟩, hend⟩
    · obtain rfl : j = a.length := Nat.le_antisymm hj (Nat.le_of_not_lt hjn)
      have t3 : decide ((a.length : Int) < (a.length : Int)) = false := by simp
      go_wp2
      go_ret2
      refine ⟨A3, c3, rfl, ?_⟩
      have h := hx.out.made
      rw [mixL_all (addI c) HL.out.1] at h
      exact h
set_option maxHeartbeats 4000000 in
set_option maxRecDepth 100000 in
theorem scale_calls (A0 : Option Addr) (c0 n c : Nat) (a : List Int) (w : World) (h0 : ReadsInt w .u8 A0 n a) (ha : By a) (hc : c < 256) (hn : n ≤ 100000) :
    Calls Try.prog 53 #[.slice A0 n c0, .int .u8 c] w fun e w' => ∃ A' c', e = .returned (.slice A' n c') ∧ MadeRow w n (scaleL a c) A' c' w' := by
  obtain ⟨zs, hzs, hz⟩ := row_zero
  obtain rfl := h0.1
  have HZ := Lib.hid hzs
  have H0 := Lib.hid h0
  have HB := Lib.hid ha
  have HC := Lib.hid hc
  have HL := Lib.hid hn
  clear hzs h0 ha hc hn
  go_enter Try.func53, Try.ntmps53
  have htl := tab_length c 256
  go_wp2_with (first
    | (go_at_call 78; (with_reducible refine (table_calls c _ HC.out).mono ?_); rintro e w1 ⟨rfl, e1⟩; have E1 := Lib.hid e1; clear e1; have hsc : (storeCells ⟨w1.heap.size, 0, none⟩ (tab c 256)).run Try.prog (w1.alloc (.cells zs 121)) = .ok () (TabWorld w1 zs c) := store_cells (tab_start w1 c zs _ HZ.out); have hb2 := tabw_below w1 zs c; have ht2 := tabw_at w1 zs c HZ.out; generalize TabWorld w1 zs c = w2 at hsc hb2 ht2; have E2 := Lib.hid (And.intro ht2 (E1.out.trans (hb2.mono E1.out.size))); clear hb2 ht2)
    | (go_at_call 51; (with_reducible refine (clone_calls A0 a.length c0 a _ (Gy.reads_below H0.out E2.out.2) (by have := HL.out; omega)).mono ?_); rintro e w3 ⟨v3, rfl, e1, e2⟩; obtain ⟨A3, c3, rfl⟩ := own_slice e1; have E3 := Lib.hid (And.intro e1 e2); clear e1 e2))
  have AX := Lib.hid (ax_start (b := a) (fun _ y => mulI c y) E2.out.1 E2.out.2 E1.out.size E3.out.1 E3.out.2)
  clear hsc
  go_loopw [15] (fun v15 wr => ∃ j : Nat, j ≤ a.length ∧ v15 = .int .i64 (j : Int) ∧ Gy.Hd (AxAt w wr w1.heap.size c a.length A3 c3 (mixL (fun _ y => mulI c y) a a j))) (fun v15 _ => a.length - (intOf v15).toNat)
  case atStart => exact ⟨0, Nat.zero_le _, rfl, ⟨AX.out⟩⟩
  case round =>
    obtain ⟨j, hj, rfl, hx⟩ := hrel
    clear E3 AX
    by_cases hjn : j < a.length
    · have t3 := j_lt hjn
      obtain ⟨bb, rfl, hbb, k0, f0⟩ := hx.out.cell j hjn _ (mixL_at (fun _ y => mulI c y) rfl j hjn)
      obtain ⟨m, hm, lm⟩ := HB.out.at j hjn
      have kt := hx.out.tab.cell m lm
      rw [if_pos lm] at kt
      rw [hm] at k0
      have lp2 : (m : Int) < 256 := by omega
      have hst := mixL_set (fun _ y => mulI c y) (a := a) (b := a) rfl j hjn
      rw [hm] at hst
      have HST := Lib.hid hst
      have HBB := Lib.hid hbb
      have HJ := Lib.hid hjn
      have hwj := up_wrap hjn (by have := HL.out; omega)
      have HWJ := Lib.hid hwj
      have hend := end_row hjn
      clear hst hm hbb
      go_wp2
      rw [HWJ.out]
      have hnx := hx.out.set HBB.out j (Gy.gmul m c : Nat)
      have e9 : mulI c (m : Int) = ((Gy.gmul m c : Nat) : Int) := by unfold mulI; rw [Int.toNat_natCast]
      have hs9 := HST.out
      rw [e9] at hs9
      rw [hs9] at hnx
      exact ⟨⟨j + 1, HJ.out, by norm_cast, ⟨hnx⟩⟩, hend⟩
    · obtain rfl : j = a.length := Nat.le_antisymm hj (Nat.le_of_not_lt hjn)
      have t3 : decide ((a.length : Int) < (a.length : Int)) = false := by simp
      go_wp2
      go_ret
      refine ⟨A3, c3, rfl, ?_⟩
      have h := hx.out.made
      rw [mixL_all (fun _ y => mulI c y) rfl] at h
      exact h
end Go.Proofs.Ytcmigmldecacpaa.Vec

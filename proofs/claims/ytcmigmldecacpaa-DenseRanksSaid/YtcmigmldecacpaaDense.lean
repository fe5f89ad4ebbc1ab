/- The walks over package dense: rows that are turned in place. -/
import Derived.Test.YtcmigmldecacpaaGiv
import Derived.Test.YtcmigmldecacpaaFlowL
import Derived.Deep.RegionWith
namespace Go.Proofs.Ytcmigmldecacpaa.Dense
open Go Go.RowKit Go.Proofs.YtcmigmldecacpaaW.PrintWords Go.Proofs.YtcmigmldecacpaaW.PrintLast Go.Proofs.YtcmigmldecacpaaW.PrintMore Go.Proofs.Ytcmigmldecacpaa.Vec Go.Proofs.Ytcmigmldecacpaa.Giv
set_option linter.unusedSimpArgs false
set_option linter.unusedVariables false

/-- all but one block stays -/
def Ext (b : Nat) (w w' : World) : Prop := w.heap.size ≤ w'.heap.size ∧ ∀ k, k < w.heap.size → k ≠ b → w'.heap[k]? = w.heap[k]?
theorem Ext.refl (b : Nat) (w : World) : Ext b w w := ⟨Nat.le_refl _, fun _ _ _ => rfl⟩
theorem Ext.set (b : Nat) (w : World) (i : Nat) (u : Value) : Ext b w (w.setCell ⟨b, i, none⟩ u) := ⟨by rw [Gy.set_size]; exact Nat.le_refl _, fun k _ hk => Below.heap_setCell w _ _ _ hk⟩
theorem Ext.of_below {b : Nat} {w w' : World} (h : Below w.heap.size w w') : Ext b w w' := ⟨h.size, fun k hk _ => h.block k hk⟩
/-- one block has been written, and what is new -/
structure Bx (base b : Nat) (w w' : World) : Prop where
  bel : Below base w w'
  ext : Ext b w w'
theorem Bx.size {base b : Nat} {w w' : World} (h : Bx base b w w') : w.heap.size ≤ w'.heap.size := h.ext.1
theorem Bx.refl (base b : Nat) (w : World) : Bx base b w w := ⟨Below.refl _ _, Ext.refl _ _⟩
theorem Bx.of_below {base b : Nat} {w w' : World} (h : Below w.heap.size w w') (hb : base ≤ w.heap.size) : Bx base b w w' := ⟨h.mono hb, Ext.of_below h⟩
theorem Bx.trans {base b : Nat} {w w' w2 : World} (h : Bx base b w w') (h2 : Bx base b w' w2) : Bx base b w w2 :=
  ⟨h.bel.trans h2.bel, Nat.le_trans h.ext.1 h2.ext.1, fun k hk hne => (h2.ext.2 k (Nat.lt_of_lt_of_le hk h.ext.1) hne).trans (h.ext.2 k hk hne)⟩
theorem Bx.trans_at {base b : Nat} {w w' w2 : World} (h : Bx base b w w') (h2 : Below w.heap.size w' w2) (hs : w'.heap.size ≤ w2.heap.size) (hb : base ≤ w.heap.size) : Bx base b w w2 :=
  ⟨h.bel.trans (h2.mono hb), Nat.le_trans h.ext.1 hs, fun k hk hne => (h2.block k hk).trans (h.ext.2 k hk hne)⟩
theorem Bx.setCell {base b : Nat} {w w' : World} (h : Bx base b w w') (hb : base ≤ b) (i : Nat) (u : Value) : Bx base b w (w'.setCell ⟨b, i, none⟩ u) := h.trans ⟨(Below.refl _ _).setCell hb _, Ext.set b w' i u⟩
theorem reads_block {w : World} {k : IntKind} {ad : Addr} {n : Nat} {xs : List Int} (h : ReadsInt w k (some ad) n xs) (hn : 0 < n) : ad.block < w.heap.size := by
  obtain ⟨ad2, e, hc⟩ := h.2.2 hn
  injection e with e
  subst e
  have h1 := hc 0 hn
  have hb : (ad.add 0).block = ad.block := by unfold Addr.add; split <;> rfl
  rcases Nat.lt_or_ge ad.block w.heap.size with h' | h'
  · exact h'
  · have : (ad.add 0).block ≥ w.heap.size := by rw [hb]; exact h'
    simp [World.cell?, Array.getElem?_eq_none this] at h1
theorem reads_move {w w' : World} {k : IntKind} {A : Option Addr} {n : Nat} {xs : List Int} (h : ReadsInt w k A n xs) (hm : ∀ ad, A = some ad → 0 < n → w'.heap[ad.block]? = w.heap[ad.block]?) : ReadsInt w' k A n xs := by
  refine ⟨h.1, h.2.1, fun hn => ?_⟩
  obtain ⟨ad, e, hc⟩ := h.2.2 hn
  refine ⟨ad, e, fun j hj => ?_⟩
  have h1 := hc j hj
  have hb : (ad.add j).block = ad.block := by unfold Addr.add; split <;> rfl
  have e2 := hm ad e hn
  unfold World.cell? at h1 ⊢
  rw [hb] at h1 ⊢
  rw [e2]; exact h1
/-- a row, its bytes made since, in another block than the rows' own -/
def ElIs (base : Nat) (w : World) (ob : Option Nat) (u : Value) (row : List Int) : Prop :=
  ∃ A c, u = .slice A row.length c ∧ row.length ≤ c ∧ ReadsInt w .u8 A row.length row ∧ w.ownsRow base 5 1 u row.length (nums .u8 row) ∧ u.ownBlock ≠ ob
theorem ElIs.ext {base b : Nat} {w w' : World} {u : Value} {row : List Int} (h : ElIs base w (some b) u row) (hb : Ext b w w') : ElIs base w' (some b) u row := by
  obtain ⟨A, c, e, hc, hR, hn⟩ := h
  refine ⟨A, c, e, hc, reads_move hR (fun ad e2 h0 => ?_), own_move hn.1 (fun k hk => hb.2 k (own_lt hn.1 k hk) (fun e2 => hn.2 (by rw [hk, e2]))), hn.2⟩
  subst e2
  exact hb.2 _ (reads_block hR h0) (fun e2 => hn.2 (by rw [e, ← e2]; rfl))
structure RowsIs (base : Nat) (w : World) (v : Value) (ks : List Value) (rows : List (List Int)) : Prop where
  own : w.ownsRow base 31 1 v ks.length ks
  len : ks.length = rows.length
  el : ∀ (i : Nat) (u : Value) (row : List Int), ks[i]? = some u → rows[i]? = some row → ElIs base w v.ownBlock u row
theorem RowsIs.below {base : Nat} {w w' : World} {v : Value} {ks : List Value} {rows : List (List Int)} (h : RowsIs base w v ks rows) (hb : Below w.heap.size w w') : RowsIs base w' v ks rows := by
  refine ⟨own_move h.own (fun k hk => hb.block k (own_lt h.own k hk)), h.len, fun i u row h1 h2 => ?_⟩
  obtain ⟨A, c, e, hc, hR, hn⟩ := h.el i u row h1 h2
  exact ⟨A, c, e, hc, Gy.reads_below hR hb, own_move hn.1 (fun k hk => hb.block k (own_lt hn.1 k hk)), hn.2⟩
theorem RowsIs.set {base b n cap : Nat} {w : World} {ks : List Value} {rows : List (List Int)} (h : RowsIs base w (.slice (some ⟨b, 0, none⟩) n cap) ks rows) (i : Nat) (u : Value) (row : List Int) (hu : ElIs base w (some b) u row) :
    RowsIs base (w.setCell ⟨b, i, none⟩ u) (.slice (some ⟨b, 0, none⟩) n cap) (ks.set i u) (rows.set i row) := by
  have hn : n = ks.length := by
    obtain ⟨A, c, e⟩ := Vec.own_slice h.own
    injection e
  subst hn
  have hst := (h.own.stored i u).1
  refine ⟨by rw [List.length_set]; exact hst, by rw [List.length_set, List.length_set]; exact h.len, fun j v r h1 h2 => ?_⟩
  by_cases e : i = j
  · subst e
    rw [List.getElem?_set] at h1 h2
    simp only [if_true] at h1 h2
    split at h1
    · split at h2
      · injection h1 with h1
        injection h2 with h2
        subst h1 h2
        exact hu.ext (Ext.set b w i _)
      · cases h2
    · cases h1
  · rw [List.getElem?_set_ne e] at h1 h2
    have h3 : ElIs base w (some b) v r := h.el j v r h1 h2
    exact h3.ext (Ext.set b w i _)
/-- where a row's header lies, and its bytes -/
theorem RowsIs.at {base b n cap : Nat} {w : World} {ks : List Value} {rows : List (List Int)} (h : RowsIs base w (.slice (some ⟨b, 0, none⟩) n cap) ks rows) (i : Nat) (hi : i < rows.length) :
    ∃ A c, ks[i]? = some (.slice A rows[i].length c) ∧ rows[i].length ≤ c ∧ w.cell? ⟨b, i, none⟩ = some (.slice A rows[i].length c) ∧ w.frozen? ⟨b, i, none⟩ = false ∧ ReadsInt w .u8 A rows[i].length rows[i] := by
  have hn : n = ks.length := by
    obtain ⟨A, c, e⟩ := Vec.own_slice h.own
    injection e
  subst hn
  have hik : i < ks.length := by have := h.len; omega
  obtain ⟨A, c, e, hc, hR, _⟩ := h.el i _ _ (List.getElem?_eq_getElem hik) (List.getElem?_eq_getElem hi)
  refine ⟨A, c, by rw [List.getElem?_eq_getElem hik, e], hc, ?_, h.own.frozenAt i, hR⟩
  rw [h.own.cellAt i (by omega), List.getElem?_eq_getElem hik, e]
theorem RowsIs.n_eq {base n cap : Nat} {A : Option Addr} {w : World} {ks : List Value} {rows : List (List Int)} (h : RowsIs base w (.slice A n cap) ks rows) : n = rows.length := by
  obtain ⟨A', c, e⟩ := Vec.own_slice h.own
  injection e with _ e2 _
  rw [e2, h.len]
theorem made_el {base b n c' : Nat} {w w' : World} {A : Option Addr} {xs : List Int} (hm : MadeRow w n xs A c' w') (hn : xs.length = n) (hl : n ≤ 9223372036854775807) (hb : base ≤ w.heap.size) (hlt : b < w.heap.size) : ElIs base w' (some b) (.slice A n c') xs := by
  subst hn
  refine ⟨A, c', rfl, own_le hm.1, Gy.own_reads hm.1 rfl hl, own_lower hm.1 hb, fun e => ?_⟩
  have := own_base hm.1 b e
  omega
/-- rows of one length, of bytes -/
structure Slots (rows : List (List Int)) (n : Nat) : Prop where
  len : ∀ r ∈ rows, r.length = n
  b : ∀ r ∈ rows, By r
theorem Slots.at {rows : List (List Int)} {n : Nat} (h : Slots rows n) {i : Nat} (hi : i < rows.length) : (rows[i]).length = n ∧ By rows[i] := ⟨h.len _ (List.getElem_mem hi), h.b _ (List.getElem_mem hi)⟩
theorem scaleL_by {a : List Int} {c : Nat} (ha : By a) (hc : c < 256) : By (scaleL a c) := by
  intro x hx
  obtain ⟨i, hi, rfl⟩ := List.mem_iff_getElem.1 hx
  have hl := scaleL_length a c
  obtain ⟨m, hm, lm⟩ := ha.at i (by omega)
  have e : (scaleL a c)[i] = mulI c a[i] := by unfold scaleL; exact List.getElem_zipWith
  rw [e, hm]
  unfold mulI
  rw [Int.toNat_natCast]
  have := Gy.gmul_lt lm hc
  omega
theorem getD_at (l : List Int) (j : Nat) (hj : j < l.length) : l.getD j 0 = l[j] := by simp [List.getD_eq_getElem?_getD, hj]
theorem RowsIs.cell {base b n cap : Nat} {w : World} {ks : List Value} {rows : List (List Int)} {u : Value} (h : RowsIs base w (.slice (some ⟨b, 0, none⟩) n cap) ks rows) {i : Nat} (hk : ks[i]? = some u) : w.cell? ⟨b, i, none⟩ = some u := by
  have hn : n = ks.length := by
    obtain ⟨A, c, e⟩ := Vec.own_slice h.own
    injection e
  subst hn
  have hi := (List.getElem?_eq_some_iff.1 hk).1
  rw [h.own.cellAt i (by omega), hk]
theorem RowsIs.free {base b n cap : Nat} {w : World} {ks : List Value} {rows : List (List Int)} (h : RowsIs base w (.slice (some ⟨b, 0, none⟩) n cap) ks rows) (i : Nat) : w.frozen? ⟨b, i, none⟩ = false := by
  have hn : n = ks.length := by
    obtain ⟨A, c, e⟩ := Vec.own_slice h.own
    injection e
  subst hn
  exact h.own.frozenAt i
theorem RowsIs.reads {base m c : Nat} {w : World} {v : Value} {ks : List Value} {rows : List (List Int)} {row : List Int} {A : Option Addr} (h : RowsIs base w v ks rows) {i : Nat} (hi : i < rows.length) (hk : ks[i]? = some (.slice A m c)) (hr : rows[i] = row) : ReadsInt w .u8 A m row := by
  obtain ⟨A', c', e, _, hR, _⟩ := h.el i _ _ hk (by rw [List.getElem?_eq_getElem hi, hr])
  injection e with e1 e2 e3
  subst e1 e2
  exact hR
theorem reads_cell {w : World} {ad : Addr} {m : Nat} {row : List Int} (h : ReadsInt w .u8 (some ad) m row) {j : Nat} {x : Int} (hj : j < m) (hx : row.getD j 0 = x) : w.cell? (ad.add j) = some (.int .u8 x) := by
  obtain ⟨ad2, e, hc⟩ := h.2.2 (by omega)
  injection e with e
  subst e
  rw [hc j hj, hx]
theorem RowsIs.base {base n cap b : Nat} {w : World} {ks : List Value} {rows : List (List Int)} (h : RowsIs base w (.slice (some ⟨b, 0, none⟩) n cap) ks rows) : base ≤ b := own_base h.own b rfl
/-! ### sub -/
def subAt (rf : List Int) (f at_ i : Nat) (r : List Int) : List Int := if i ≠ f ∧ r.getD at_ 0 ≠ 0 then plusL r rf (r.getD at_ 0).toNat else r
def subTo (rows : List (List Int)) (rf : List Int) (f at_ k : Nat) : List (List Int) := rows.mapIdx fun i r => if i < k then subAt rf f at_ i r else r
def subL (rows : List (List Int)) (f at_ : Nat) : List (List Int) := subTo rows (rows.getD f []) f at_ rows.length
theorem subTo_length (rows : List (List Int)) (rf : List Int) (f at_ k : Nat) : (subTo rows rf f at_ k).length = rows.length := by simp [subTo]
theorem subTo_at {rows : List (List Int)} (rf : List Int) (f at_ k i : Nat) (hi : i < rows.length) : (subTo rows rf f at_ k)[i]'(by rw [subTo_length]; exact hi) = if i < k then subAt rf f at_ i rows[i] else rows[i] := by simp [subTo]
theorem subTo_zero (rows : List (List Int)) (rf : List Int) (f at_ : Nat) : subTo rows rf f at_ 0 = rows := by
  apply List.ext_getElem (subTo_length _ _ _ _ _)
  intro i h1 h2
  rw [subTo_at rf f at_ 0 i h2, if_neg (by omega)]
theorem subTo_next {rows : List (List Int)} (rf : List Int) (f at_ k : Nat) (hk : k < rows.length) : subTo rows rf f at_ (k + 1) = (subTo rows rf f at_ k).set k (subAt rf f at_ k rows[k]) := by
  apply List.ext_getElem (by rw [List.length_set, subTo_length, subTo_length])
  intro i h1 h2
  have hi : i < rows.length := by rw [subTo_length] at h1; exact h1
  rw [List.getElem_set, subTo_at rf f at_ (k + 1) i hi]
  by_cases e : k = i
  · subst e; rw [if_pos (by omega), if_pos rfl]
  · rw [if_neg e, subTo_at rf f at_ k i hi]
    by_cases h : i < k
    · rw [if_pos h, if_pos (by omega)]
    · rw [if_neg h, if_neg (by omega)]
theorem subTo_same {rows : List (List Int)} {rf : List Int} {f at_ k : Nat} (hk : k < rows.length) (h : subAt rf f at_ k rows[k] = rows[k]) : subTo rows rf f at_ (k + 1) = subTo rows rf f at_ k := by
  rw [subTo_next rf f at_ k hk, h]
  apply List.ext_getElem (by rw [List.length_set])
  intro i h1 h2
  rw [List.getElem_set]
  by_cases e : k = i
  · subst e; rw [if_pos rfl, subTo_at rf f at_ k k hk, if_neg (by omega)]
  · rw [if_neg e]
theorem subTo_f {rows : List (List Int)} {rf : List Int} {f at_ k : Nat} (hf : f < rows.length) : (subTo rows rf f at_ k)[f]'(by rw [subTo_length]; exact hf) = rows[f] := by
  rw [subTo_at rf f at_ k f hf]
  unfold subAt
  split
  · rw [if_neg (by simp)]
  · rfl
theorem subTo_k {rows : List (List Int)} {rf : List Int} {f at_ k : Nat} (hk : k < rows.length) : (subTo rows rf f at_ k)[k]'(by rw [subTo_length]; exact hk) = rows[k] := by
  rw [subTo_at rf f at_ k k hk, if_neg (by omega)]
theorem sub_call {base b n cap m ci cf c : Nat} {W0 w : World} {ks : List Value} {R : List (List Int)} {Ai Af : Option Addr} {ri rf : List Int} {J' : World → Prop} (hR : RowsIs base w (.slice (some ⟨b, 0, none⟩) n cap) ks R)
    (hax : ReadsInt w .u8 Ai m ri ∧ ReadsInt w .u8 Af m rf ∧ By ri ∧ By rf ∧ c < 256 ∧ m ≤ 100000) (hB : Bx base b W0 w) (hbase : base ≤ w.heap.size) (hJ : ∀ w', Bx base b W0 w' → RowsIs base w' (.slice (some ⟨b, 0, none⟩) n cap) ks R → J' w') :
    Calls Try.prog 54 #[.slice Ai m ci, .slice Af m cf, .int .u8 (c : Int)] w fun e w' => ∃ v, e = .returned v ∧ (∃ A c', v = .tuple #[.slice A m c', .int .i64 0] ∧ ElIs base w' (some b) (.slice A m c') (plusL ri rf c)) ∧ J' w' ∧ Ext b w w' := by
  obtain ⟨h0, h1, h2, h3, h4, h5⟩ := hax
  refine (axpy_calls Ai ci Af cf m c ri rf w h0 h1 h2 h3 h4 h5).mono ?_
  rintro e w' ⟨A', c', rfl, hm⟩
  have hl : (plusL ri rf c).length = m := (plusL_length (h1.1.trans h0.1.symm) c).trans h0.1
  have hlt : b < w.heap.size := own_lt hR.own b rfl
  exact ⟨_, rfl, ⟨A', c', rfl, made_el hm hl (by omega) hbase hlt⟩, hJ w' (hB.trans (Bx.of_below hm.2 hbase)) (hR.below hm.2), Ext.of_below hm.2⟩
set_option maxHeartbeats 4000000 in
set_option maxRecDepth 100000 in
theorem sub_calls (base b n cap f at_ m : Nat) (ks : List Value) (rows : List (List Int)) (W : World) (h : RowsIs base W (.slice (some ⟨b, 0, none⟩) n cap) ks rows) (hbase : base ≤ W.heap.size) (hS : Slots rows m) (hm : m ≤ 100000) (hf : f < rows.length) (hrl : rows.length ≤ 100000) (hat : at_ < m) :
    Calls Try.prog 80 #[.slice (some ⟨b, 0, none⟩) n cap, .int .i64 (f : Int), .int .i64 (at_ : Int)] W fun e w' => e = .returned (.tuple #[]) ∧ (∃ ks', RowsIs base w' (.slice (some ⟨b, 0, none⟩) n cap) ks' (subL rows f at_)) ∧ Bx base b W w' := by
  obtain rfl : n = rows.length := h.n_eq
  have H := Lib.hid h
  have HP := Lib.hid (And.intro hbase (And.intro hS (And.intro hm (And.intro hf (And.intro hrl hat)))))
  clear h hbase hS hm hf hrl hat
  obtain ⟨rf0, hrf0⟩ : ∃ rf0, rf0 = rows.getD f [] := ⟨_, rfl⟩
  have HRF := Lib.hid hrf0
  clear hrf0
  go_enter Try.func80, Try.ntmps80
  go_wp2_with fail
  go_loopw [10] (fun v10 wr => ∃ i : Nat, i ≤ rows.length ∧ v10 = .int .i64 (i : Int) ∧ Gy.Hd ((∃ ks', RowsIs base wr (.slice (some ⟨b, 0, none⟩) rows.length cap) ks' (subTo rows rf0 f at_ i)) ∧ Bx base b W wr)) (fun v10 _ => rows.length - (intOf v10).toNat)
  case atStart => exact ⟨0, Nat.zero_le _, rfl, ⟨⟨_, by rw [subTo_zero]; exact H.out⟩, Bx.refl _ _ _⟩⟩
  case round =>
    obtain ⟨i, hi, rfl, hx⟩ := hrel
    obtain ⟨⟨ks', hR⟩, hB⟩ := hx.out
    by_cases hlt : i < rows.length
    · have t3 := j_lt hlt
      obtain ⟨Ai, ci, ki, li, k0, fz, rdi⟩ := hR.at i (by rw [subTo_length]; exact hlt)
      obtain ⟨Af, cf, kf, lf, k1, _, rdf⟩ := hR.at f (by rw [subTo_length]; exact HP.out.2.2.2.1)
      have ei := subTo_k (rf := rf0) (f := f) (at_ := at_) hlt
      have ef := subTo_f (rows := rows) (rf := rf0) (at_ := at_) (k := i) HP.out.2.2.2.1
      obtain ⟨mi, byi⟩ := HP.out.2.1.at hlt
      obtain ⟨mf, byf⟩ := HP.out.2.1.at HP.out.2.2.2.1
      rw [ei, mi] at ki li k0 rdi
      rw [ef, mf] at kf lf k1 rdf
      have erf : rows[f]'HP.out.2.2.2.1 = rf0 := by rw [HRF.out, List.getD_eq_getElem?_getD, List.getElem?_eq_getElem HP.out.2.2.2.1]; rfl
      rw [erf] at rdf byf
      have hnx := subTo_next rf0 f at_ i hlt
      have hsame : subAt rf0 f at_ i rows[i] = rows[i] → subTo rows rf0 f at_ (i + 1) = subTo rows rf0 f at_ i := subTo_same hlt
      generalize rows[i] = ri at ei mi byi rdi hnx hsame
      obtain ⟨adi, rfl, hci⟩ := rdi.2.2 (by have := HP.out.2.2.2.2.2; omega)
      obtain ⟨c, hc, lc⟩ := byi.at at_ (by rw [mi]; exact HP.out.2.2.2.2.2)
      have kc := hci at_ HP.out.2.2.2.2.2
      have egd : ri.getD at_ 0 = (c : Int) := by rw [getD_at ri at_ (by rw [mi]; exact HP.out.2.2.2.2.2), hc]
      rw [egd] at kc
      have HC := Lib.hid (And.intro egd (And.intro mi (And.intro byi byf)))
      have HX := Lib.hid (And.intro hR hB)
      have HK := Lib.hid (And.intro ki (And.intro kf (And.intro li lf)))
      have HRD := Lib.hid (And.intro rdi rdf)
      have HJ := Lib.hid hlt
      have HWJ := Lib.hid (up_wrap hlt (by have := HP.out.2.2.2.2.1; omega))
      have hwj := HWJ.out
      have hend := end_row hlt
      have HNX := Lib.hid (And.intro hnx hsame)
      have HLC := Lib.hid lc
      have tf : (f : Int) < (rows.length : Int) := by have := HP.out.2.2.2.1; omega
      have tat : (at_ : Int) < (m : Int) := by have := HP.out.2.2.2.2.2; omega
      have hifl : i < (subTo rows rf0 f at_ i).length := by rw [subTo_length]; exact hlt
      have hffl : f < (subTo rows rf0 f at_ i).length := by rw [subTo_length]; exact HP.out.2.2.2.1
      have HCF := Lib.hid (fun (w : World) (h : RowsIs base w (.slice (some ⟨b, 0, none⟩) rows.length cap) ks' (subTo rows rf0 f at_ i)) => h.cell kf)
      have HST := Lib.hid (fun (w : World) (h : RowsIs base w (.slice (some ⟨b, 0, none⟩) rows.length cap) ks' (subTo rows rf0 f at_ i)) => h.cell ki)
      have HAX := Lib.hid (fun (w : World) (h : RowsIs base w (.slice (some ⟨b, 0, none⟩) rows.length cap) ks' (subTo rows rf0 f at_ i)) => (And.intro (h.reads hifl ki ei) (And.intro (h.reads hffl kf (ef.trans erf)) (And.intro byi (And.intro byf (And.intro lc HP.out.2.2.1))))))
      have HCI := Lib.hid (fun (w : World) (h : RowsIs base w (.slice (some ⟨b, 0, none⟩) rows.length cap) ks' (subTo rows rf0 f at_ i)) => reads_cell (h.reads hifl ki ei) HP.out.2.2.2.2.2 egd)
      have HBB := Lib.hid hR.base
      clear hifl hffl
      clear hR hB hx ki kf li lf rdi rdf ei mi mf byi byf hci hc egd hnx hsame lc ef erf
      by_cases hif : i = f
      · subst hif
        have t4 : ((i : Int) == (i : Int)) = true := by simp
        have t5 : ((i : Int) != (i : Int)) = false := by simp
        have hsm : subTo rows rf0 i at_ (i + 1) = subTo rows rf0 i at_ i := HNX.out.2 (by unfold subAt; rw [if_neg (by simp)])
        have HSM := Lib.hid hsm
        clear hsm
        go_wp2_with fail
        (try rw [HWJ.out])
        exact ⟨⟨i + 1, HJ.out, by norm_cast, ⟨⟨ks', by rw [HSM.out]; exact HX.out.1⟩, HX.out.2⟩⟩, hend⟩
      · have t4 : ((i : Int) == (f : Int)) = false := by simp; omega
        have t5 : ((i : Int) != (f : Int)) = true := by simp; omega
        by_cases hc0 : c = 0
        · subst hc0
          have hsm : subTo rows rf0 f at_ (i + 1) = subTo rows rf0 f at_ i := HNX.out.2 (by unfold subAt; rw [HC.out.1, if_neg (by simp)])
          have HSM := Lib.hid hsm
          clear hsm
          go_wp2_with fail
          (try rw [HWJ.out])
          exact ⟨⟨i + 1, HJ.out, by norm_cast, ⟨⟨ks', by rw [HSM.out]; exact HX.out.1⟩, HX.out.2⟩⟩, hend⟩
        · have t6 : ((c : Int) == 0) = false := by simp; omega
          have t7 : ((c : Int) != 0) = true := by simp; omega
          have hst : subTo rows rf0 f at_ (i + 1) = (subTo rows rf0 f at_ i).set i (plusL ri rf0 c) := by
            rw [HNX.out.1]; unfold subAt; rw [HC.out.1, if_pos ⟨hif, by omega⟩, Int.toNat_natCast]
          have HST2 := Lib.hid hst
          clear hst
          go_wp2_with fail
          have HJ0 : Hid (Bx base b W wr.drew ∧ (false = true → ∃ ks2, RowsIs base wr.drew (.slice (some ⟨b, 0, none⟩) rows.length cap) ks2 ((subTo rows rf0 f at_ i).set i (plusL ri rf0 c))) ∧ (false = false → RowsIs base wr.drew (.slice (some ⟨b, 0, none⟩) rows.length cap) ks' (subTo rows rf0 f at_ i))) := ⟨HX.out.2.trans (Bx.of_below (Gy.drew_below wr) (Nat.le_trans HP.out.1 HX.out.2.size)), fun h => (by cases h), fun _ => HX.out.1.below (Gy.drew_below wr)⟩
          refine Gy.FlowL.flow (by kernel_rfl) (fun i_ => List.getD [(fun v _ => v = .slice (some ⟨b, 0, none⟩) rows.length cap), (fun v _ => v = .int .i64 (i : Int)), (fun v _ => v = .slice (some adi) m ci), (fun v _ => v = .slice (some ⟨b, 0, none⟩) rows.length cap), (fun v _ => v = .int .i64 (f : Int)), (fun v _ => v = .pointer (some ⟨b, f, none⟩)), (fun v _ => v = .slice Af m cf), (fun v _ => v = .slice (some adi) m ci), (fun v _ => v = .int .i64 (at_ : Int)), (fun v _ => v = .pointer (some (adi.add at_))), (fun v _ => v = .int .u8 (c : Int)), (fun v w => ∃ A c', v = .tuple #[.slice A m c', .int .i64 0] ∧ ElIs base w (some b) (.slice A m c') (plusL ri rf0 c)), (fun v w => ∃ A c', v = .tuple #[.slice A m c', .int .i64 0] ∧ ElIs base w (some b) (.slice A m c') (plusL ri rf0 c)), (fun v w => ∃ A c', v = .slice A m c' ∧ ElIs base w (some b) (.slice A m c') (plusL ri rf0 c)), (fun v _ => v = .int .i64 0), (fun v _ => v = .pointer (some ⟨b, i, none⟩)), (fun _ _ => True)] i_ (fun _ _ => True)) (fun L w => Bx base b W w ∧ (L 16 = true → ∃ ks2, RowsIs base w (.slice (some ⟨b, 0, none⟩) rows.length cap) ks2 ((subTo rows rf0 f at_ i).set i (plusL ri rf0 c))) ∧ (L 16 = false → RowsIs base w (.slice (some ⟨b, 0, none⟩) rows.length cap) ks' (subTo rows rf0 f at_ i))) (fun w w' => Ext b w w') (by kernel_rfl) HJ0.out (Gy.FlowL.mono_list [(fun v _ => v = .slice (some ⟨b, 0, none⟩) rows.length cap), (fun v _ => v = .int .i64 (i : Int)), (fun v _ => v = .slice (some adi) m ci), (fun v _ => v = .slice (some ⟨b, 0, none⟩) rows.length cap), (fun v _ => v = .int .i64 (f : Int)), (fun v _ => v = .pointer (some ⟨b, f, none⟩)), (fun v _ => v = .slice Af m cf), (fun v _ => v = .slice (some adi) m ci), (fun v _ => v = .int .i64 (at_ : Int)), (fun v _ => v = .pointer (some (adi.add at_))), (fun v _ => v = .int .u8 (c : Int)), (fun v w => ∃ A c', v = .tuple #[.slice A m c', .int .i64 0] ∧ ElIs base w (some b) (.slice A m c') (plusL ri rf0 c)), (fun v w => ∃ A c', v = .tuple #[.slice A m c', .int .i64 0] ∧ ElIs base w (some b) (.slice A m c') (plusL ri rf0 c)), (fun v w => ∃ A c', v = .slice A m c' ∧ ElIs base w (some b) (.slice A m c') (plusL ri rf0 c)), (fun v _ => v = .int .i64 0), (fun v _ => v = .pointer (some ⟨b, i, none⟩)), (fun _ _ => True)] ?_) (Gy.FlowL.of_allFrom ⟨?_, ?_, ?_, ?_, ?_, ?_, ?_, ?_, ?_, ?_, ?_, ?_, ?_, ?_, ?_, ?_, ?_, trivial⟩) ?_
          · exact ⟨fun v w w' h hb => h, fun v w w' h hb => h, fun v w w' h hb => h, fun v w w' h hb => h, fun v w w' h hb => h, fun v w w' h hb => h, fun v w w' h hb => h, fun v w w' h hb => h, fun v w w' h hb => h, fun v w w' h hb => h, fun v w w' h hb => h, fun v w w' ⟨A, c, e, h⟩ hb => ⟨A, c, e, h.ext hb⟩, fun v w w' ⟨A, c, e, h⟩ hb => ⟨A, c, e, h.ext hb⟩, fun v w w' ⟨A, c, e, h⟩ hb => ⟨A, c, e, h.ext hb⟩, fun v w w' h hb => h, fun v w w' h hb => h, fun v w w' h hb => h, trivial⟩
          · intro L a w hD
            have e0 : a.eval (.tmp 0) = .slice (some ⟨b, 0, none⟩) rows.length cap := hD.same.at_other 0 (by kernel_rfl)
            exact Gy.FlowL.step_move rfl rfl (Gy.FlowL.wanted_none rfl) e0 hD.J (Ext.refl b w)
          · intro L a w hD
            have e6 : a.eval (.tmp 6) = .int .i64 (i : Int) := hD.same.at_other 6 (by kernel_rfl)
            exact Gy.FlowL.step_move rfl rfl (Gy.FlowL.wanted_none rfl) e6 hD.J (Ext.refl b w)
          · intro L a w hD
            have e7 : a.eval (.tmp 7) = .slice (some adi) m ci := hD.same.at_other 7 (by kernel_rfl)
            exact Gy.FlowL.step_move rfl rfl (Gy.FlowL.wanted_none rfl) e7 hD.J (Ext.refl b w)
          · intro L a w hD
            have e0 : a.eval (.tmp 0) = .slice (some ⟨b, 0, none⟩) rows.length cap := hD.same.at_other 0 (by kernel_rfl)
            exact Gy.FlowL.step_move rfl rfl (Gy.FlowL.wanted_none rfl) e0 hD.J (Ext.refl b w)
          · intro L a w hD
            have e1 : a.eval (.tmp 1) = .int .i64 (f : Int) := hD.same.at_other 1 (by kernel_rfl)
            exact Gy.FlowL.step_move rfl rfl (Gy.FlowL.wanted_none rfl) e1 hD.J (Ext.refl b w)
          · intro L a w hD
            have e29 : a.eval (.tmp 29) = .slice (some ⟨b, 0, none⟩) rows.length cap := hD.at 3 (by kernel_rfl)
            have e30 : a.eval (.tmp 30) = .int .i64 (f : Int) := hD.at 4 (by kernel_rfl)
            have f29 := e29; simp only [Act.eval, Array.getD_eq_getD_getElem?] at f29
            have f30 := e30; simp only [Act.eval, Array.getD_eq_getD_getElem?] at f30
            refine Gy.FlowL.step_value rfl (Gy.FlowL.wanted_none rfl) (v := .pointer (some ⟨b, f, none⟩)) (w1 := w) ?_ rfl hD.J (Ext.refl b w)
            simp only [execOp, e29, e30]; go_simp
          · intro L a w hD
            have e31 : a.eval (.tmp 31) = .pointer (some ⟨b, f, none⟩) := hD.at 5 (by kernel_rfl)
            have hR := hD.J.2.2 (hD.later 16 (by kernel_rfl))
            have k0 := HCF.out w hR
            have f31 := e31; simp only [Act.eval, Array.getD_eq_getD_getElem?] at f31
            refine Gy.FlowL.step_value rfl (Gy.FlowL.wanted_none rfl) (v := .slice Af m cf) (w1 := w) ?_ rfl hD.J (Ext.refl b w)
            simp only [execOp, e31]; go_simp
          · intro L a w hD
            have e7 : a.eval (.tmp 7) = .slice (some adi) m ci := hD.same.at_other 7 (by kernel_rfl)
            exact Gy.FlowL.step_move rfl rfl (Gy.FlowL.wanted_none rfl) e7 hD.J (Ext.refl b w)
          · intro L a w hD
            have e2 : a.eval (.tmp 2) = .int .i64 (at_ : Int) := hD.same.at_other 2 (by kernel_rfl)
            exact Gy.FlowL.step_move rfl rfl (Gy.FlowL.wanted_none rfl) e2 hD.J (Ext.refl b w)
          · intro L a w hD
            have e33 : a.eval (.tmp 33) = .slice (some adi) m ci := hD.at 7 (by kernel_rfl)
            have e34 : a.eval (.tmp 34) = .int .i64 (at_ : Int) := hD.at 8 (by kernel_rfl)
            have f33 := e33; simp only [Act.eval, Array.getD_eq_getD_getElem?] at f33
            have f34 := e34; simp only [Act.eval, Array.getD_eq_getD_getElem?] at f34
            refine Gy.FlowL.step_value rfl (Gy.FlowL.wanted_none rfl) (v := .pointer (some (adi.add at_))) (w1 := w) ?_ rfl hD.J (Ext.refl b w)
            simp only [execOp, e33, e34]; go_simp
          · intro L a w hD
            have e35 : a.eval (.tmp 35) = .pointer (some (adi.add at_)) := hD.at 9 (by kernel_rfl)
            have hR := hD.J.2.2 (hD.later 16 (by kernel_rfl))
            have k0 := HCI.out w hR
            have f35 := e35; simp only [Act.eval, Array.getD_eq_getD_getElem?] at f35
            refine Gy.FlowL.step_value rfl (Gy.FlowL.wanted_none rfl) (v := .int .u8 (c : Int)) (w1 := w) ?_ rfl hD.J (Ext.refl b w)
            simp only [execOp, e35]; go_simp
          · intro L a w hD
            have e28 : a.eval (.tmp 28) = .slice (some adi) m ci := hD.at 2 (by kernel_rfl)
            have e32 : a.eval (.tmp 32) = .slice Af m cf := hD.at 6 (by kernel_rfl)
            have e36 : a.eval (.tmp 36) = .int .u8 (c : Int) := hD.at 10 (by kernel_rfl)
            have hR := hD.J.2.2 (hD.later 16 (by kernel_rfl))
            have h16 := hD.later 16 (by kernel_rfl)
            refine Gy.FlowL.step_call (args := #[.slice (some adi) m ci, .slice Af m cf, .int .u8 (c : Int)]) rfl (Gy.FlowL.wanted_none rfl) Try.func54 (by kernel_rfl) (by kernel_rfl) rfl (by simp only [List.map_toArray, List.map_cons, List.map_nil, e28, e32, e36]) ?_
            exact sub_call hR (HAX.out w hR) hD.J.1 (Nat.le_trans HP.out.1 hD.J.1.size) (fun w' h1 h2 => ⟨h1, fun h => absurd (h.symm.trans h16) (by decide), fun _ => h2⟩)
          · intro L a w hD
            have q37 : (fun v w => ∃ A c', v = .tuple #[.slice A m c', .int .i64 0] ∧ ElIs base w (some b) (.slice A m c') (plusL ri rf0 c)) (a.eval (.tmp 37)) w := hD.at 11 (by kernel_rfl)
            obtain ⟨A37, c37, e37, r37⟩ := q37
            have q : (∃ A c', a.eval (.tmp 37) = .tuple #[.slice A m c', .int .i64 0] ∧ ElIs base w (some b) (.slice A m c') (plusL ri rf0 c)) := ⟨A37, c37, e37, r37⟩
            exact Gy.FlowL.step_move rfl rfl (Gy.FlowL.wanted_none rfl) q hD.J (Ext.refl b w)
          · intro L a w hD
            have q25 : (fun v w => ∃ A c', v = .tuple #[.slice A m c', .int .i64 0] ∧ ElIs base w (some b) (.slice A m c') (plusL ri rf0 c)) (a.eval (.tmp 25)) w := hD.at 12 (by kernel_rfl)
            obtain ⟨A25, c25, e25, r25⟩ := q25
            have f25 := e25; simp only [Act.eval, Array.getD_eq_getD_getElem?] at f25
            refine Gy.FlowL.step_value rfl (Gy.FlowL.wanted_none rfl) (v := .slice A25 m c25) (w1 := w) ?_ ⟨A25, c25, rfl, r25⟩ hD.J (Ext.refl b w)
            simp only [execOp, e25]; go_simp
          · intro L a w hD
            have q25 : (fun v w => ∃ A c', v = .tuple #[.slice A m c', .int .i64 0] ∧ ElIs base w (some b) (.slice A m c') (plusL ri rf0 c)) (a.eval (.tmp 25)) w := hD.at 12 (by kernel_rfl)
            obtain ⟨A25, c25, e25, r25⟩ := q25
            have f25 := e25; simp only [Act.eval, Array.getD_eq_getD_getElem?] at f25
            refine Gy.FlowL.step_value rfl (Gy.FlowL.wanted_none rfl) (v := .int .i64 0) (w1 := w) ?_ rfl hD.J (Ext.refl b w)
            simp only [execOp, e25]; go_simp
          · intro L a w hD
            have e26 : a.eval (.tmp 26) = .slice (some ⟨b, 0, none⟩) rows.length cap := hD.at 0 (by kernel_rfl)
            have e27 : a.eval (.tmp 27) = .int .i64 (i : Int) := hD.at 1 (by kernel_rfl)
            have f26 := e26; simp only [Act.eval, Array.getD_eq_getD_getElem?] at f26
            have f27 := e27; simp only [Act.eval, Array.getD_eq_getD_getElem?] at f27
            refine Gy.FlowL.step_value rfl (Gy.FlowL.wanted_none rfl) (v := .pointer (some ⟨b, i, none⟩)) (w1 := w) ?_ rfl hD.J (Ext.refl b w)
            simp only [execOp, e26, e27]; go_simp
          · intro L a w hD
            have e40 : a.eval (.tmp 40) = .pointer (some ⟨b, i, none⟩) := hD.at 15 (by kernel_rfl)
            have q38 : (fun v w => ∃ A c', v = .slice A m c' ∧ ElIs base w (some b) (.slice A m c') (plusL ri rf0 c)) (a.eval (.tmp 38)) w := hD.at 13 (by kernel_rfl)
            obtain ⟨A38, c38, e38, r38⟩ := q38
            have hR := hD.J.2.2 hD.not
            have f40 := e40; simp only [Act.eval, Array.getD_eq_getD_getElem?] at f40
            have f38 := e38; simp only [Act.eval, Array.getD_eq_getD_getElem?] at f38
            have k0 := HST.out w hR
            have f0 := hR.free i
            refine Gy.FlowL.step_skip (w1 := w.setCell ⟨b, i, none⟩ (.slice A38 m c38)) rfl (Gy.FlowL.wanted_none rfl) ?_ trivial ⟨hD.J.1.setCell HBB.out _ _, fun _ => ⟨_, hR.set i _ _ r38⟩, fun h => absurd h (by simp [Gy.FlowL.add])⟩ (Ext.set b w _ _)
            simp only [execOp, e40, e38]; go_simp
          · intro L a w hs hJ hL hv
            obtain ⟨ks2, hR2⟩ := hJ.2.1 (hL 16 (by decide))
            have hp := Gy.FlowL.same_puts (by kernel_rfl) hs
            have HR2 := Lib.hid (And.intro hR2 hJ.1)
            generalize Gy.FlowL.At _ a = vs at hp
            clear hv hs hJ hR2
            subst hp
            simp only [Gy.FlowL.puts, Act.put, List.setIfInBounds_toArray, List.set_cons_zero, List.set_cons_succ]
            go_wp2_with fail
            (try rw [HWJ.out])
            exact ⟨⟨i + 1, HJ.out, by norm_cast, ⟨⟨ks2, by rw [HST2.out]; exact HR2.out.1⟩, HR2.out.2⟩⟩, hend⟩
    · obtain rfl : i = rows.length := Nat.le_antisymm hi (Nat.le_of_not_lt hlt)
      have t3 : decide ((rows.length : Int) < (rows.length : Int)) = false := by simp
      have HX := Lib.hid (And.intro hR hB)
      clear hR hB hx
      go_wp2
      go_end0
      refine ⟨rfl, ⟨ks', ?_⟩, HX.out.2⟩
      unfold subL
      rw [← HRF.out]
      exact HX.out.1
end Go.Proofs.Ytcmigmldecacpaa.Dense

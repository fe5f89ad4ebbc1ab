/- The numbers of any row that aren't 0 are told, in order, and no other ones. No condition beyond the kinds of the arguments. -/
import Derived.Test.YtcmigmldecacpaaQRowCellsx4
import Derived.Test.YtcmigmldecacpaaGivPicks
namespace Go.Proofs.Ytcmigmldecacpaa.Pure
open Go Go.RowKit Go.Proofs.Ytcmigmldecacpaa.QRowCells Go.Proofs.YtcmigmldecacpaaW.PrintWords Go.Proofs.YtcmigmldecacpaaW.PrintLast Go.Proofs.Ytcmigmldecacpaa.Vec Go.Proofs.Ytcmigmldecacpaa.Giv Go.Proofs.Ytcmigmldecacpaa.Draws Go.Proofs.Ytcmigmldecacpaa.SortCells

namespace RC
theorem up63 {i n : Nat} (h : i < n) (hn : n ≤ 9223372036854775807) : wrap64 ((i : Int) + 1) = ((i + 1 : Nat) : Int) := by rw [Gy.wrap64_id (by omega) (by omega)]; omega
theorem rdI (l : List Int) (i : Nat) : rd l (i : Int) = l.getD i 0 := by unfold rd; rw [Int.toNat_natCast]
theorem rdC (l : List Cl) (i : Nat) (hi : i < l.length) : rd_T70 l (i : Int) = l[i] := by
  unfold rd_T70; rw [Int.toNat_natCast, List.getD_eq_getElem?_getD, List.getElem?_eq_getElem hi]; rfl
/-! ### the cells of a row -/
def nzB (r : List Int) (j : Nat) : Bool := decide (r.getD j 0 ≠ 0)
def nzP (r : List Int) (n : Nat) : List Nat := (List.range n).filter (nzB r)
def mkC (r : List Int) (j : Nat) : Cl := ⟨(j : Int), r.getD j 0⟩
def cellsL (r : List Int) (n : Nat) : List Cl := (nzP r n).map (mkC r)
theorem nzP_succ (r : List Int) (n : Nat) : nzP r (n + 1) = nzP r n ++ if nzB r n then [n] else [] := by
  unfold nzP
  rw [List.range_succ, List.filter_append]
  congr 1
  cases h : nzB r n <;> simp [h]
theorem cells_len (r : List Int) (n : Nat) : (cellsL r n).length ≤ n := by
  unfold cellsL nzP
  rw [List.length_map]
  exact Nat.le_trans (List.length_filter_le _ _) (by rw [List.length_range]; exact Nat.le_refl _)
theorem cells_at (r : List Int) (n i : Nat) (h : i < (cellsL r n).length) (h' : i < (nzP r n).length) : (cellsL r n)[i] = mkC r (nzP r n)[i] := by
  have key : ∀ (l : List Cl) (e : l = (nzP r n).map (mkC r)) (h : i < l.length), l[i] = mkC r (nzP r n)[i] := by
    intro l e h
    subst e
    rw [List.getElem_map]
  exact key _ rfl h
theorem cells_l0 (r : List Int) (hr : r.length ≤ 10000) : ∀ d i : Nat, i + d = r.length → Ev (fun k => row_Cells.l0 k (cellsL r i) r (r.length : Int) i) (cellsL r r.length) := by
  intro d
  induction d with
  | zero =>
    intro i hi
    obtain rfl : i = r.length := by omega
    refine Ev.step (fun k => ?_) (Ev.now _)
    simp only [row_Cells.l0]
    rw [if_neg (by omega)]
  | succ d ih =>
    intro i hi
    have hi' : i < r.length := by omega
    have hl := cells_len r i
    refine Ev.step (fun k => ?_) (ih (i + 1) (by omega))
    have hs : cellsL r (i + 1) = cellsL r i ++ if nzB r i then [mkC r i] else [] := by
      unfold cellsL
      rw [nzP_succ, List.map_append]
      cases nzB r i <;> rfl
    simp only [row_Cells.l0]
    rw [if_pos (by omega), if_pos (by omega), if_pos (by omega), rdI, hs]
    by_cases h : r.getD i 0 = 0
    · have e : nzB r i = false := by unfold nzB; simp only [decide_eq_false_iff_not]; exact fun hh => hh h
      rw [if_pos h, e, up63 hi' (by omega)]
      simp
    · have e : nzB r i = true := decide_eq_true h
      rw [if_neg h, if_pos (by omega), e, up63 hi' (by omega)]
      rfl
theorem cells_run (r : List Int) (hr : r.length ≤ 10000) : Ev (fun k => row_Cells.f k r) (cellsL r r.length) := by
  have h := cells_l0 r hr r.length 0 (by omega)
  exact h
/-! ### what a program that does nothing answers wrongly -/
theorem rows_one : Ev (fun k => precode_Rows.f k 1) [[1], [1], [2], [4]] := Ev.of (fun k => precode_Rows.mono 1 k) (k := 60) (by decide +kernel)
theorem okB_one {x : Int} (h : 0 ≤ x ∧ x < 256) : okB [x] = true := by
  unfold okB
  simp [h.1, h.2]
theorem rows_mem : ∀ j : Nat, j < 4 → ∃ y : Int, rd_L3 [[1], [1], [2], [4]] (j : Int) = [y] ∧ 0 ≤ y ∧ y < 256 := by
  intro j hj
  rcases (by omega : j = 0 ∨ j = 1 ∨ j = 2 ∨ j = 3) with h | h | h | h <;> subst h
  · exact ⟨1, rfl, by omega, by omega⟩
  · exact ⟨1, rfl, by omega, by omega⟩
  · exact ⟨2, rfl, by omega, by omega⟩
  · exact ⟨4, rfl, by omega, by omega⟩
theorem of_l0 (L : List Cl) (hL : ∀ p ∈ L, 0 ≤ p.f0 ∧ p.f0 < 5 ∧ 1 ≤ p.f1 ∧ p.f1 < 256) (hl : L.length ≤ 1000) : ∀ (d i : Nat) (x : Int), i + d = L.length → 0 ≤ x ∧ x < 256 →
    ∃ y : Int, Ev (fun k => row_Of.l0 k 1 [[1], [1], [2], [4]] [x] L (L.length : Int) i) [y] := by
  intro d
  induction d with
  | zero =>
    intro i x hi hx
    refine ⟨x, Ev.step (fun k => ?_) (Ev.now _)⟩
    simp only [row_Of.l0]
    rw [if_neg (by omega)]
  | succ d ih =>
    intro i x hi hx
    have hi' : i < L.length := by omega
    obtain ⟨p1, p2, p3, p4⟩ := hL _ (List.getElem_mem hi')
    by_cases h0 : L[i].f0 < 1
    · have e0 : L[i].f0 = 0 := by omega
      obtain ⟨X, rfl⟩ : ∃ X : Nat, x = (X : Int) := ⟨x.toNat, by omega⟩
      obtain ⟨C, hC⟩ : ∃ C : Nat, L[i].f1 = (C : Int) := ⟨L[i].f1.toNat, by omega⟩
      have hx2 : Go.bits .xor .u8 (X : Int) (C : Int) = ((X ^^^ C : Nat) : Int) := Go.u8_xor_nat X C (by omega) (by omega)
      have hlt : X ^^^ C < 256 := Gy.xor_lt8 (by omega) (by omega)
      obtain ⟨y, hy⟩ := ih (i + 1) ((X ^^^ C : Nat) : Int) (by omega) ⟨by omega, by omega⟩
      refine ⟨y, Ev.step (fun k => ?_) hy⟩
      simp only [row_Of.l0]
      rw [if_pos (by omega), if_pos (by omega), if_pos (by omega), rdC L i hi', if_pos h0, if_pos (by omega), e0, if_pos (show (0 : Int) < (([(X : Int)] : List Int).length : Int) from by simp), hC, show rd [(X : Int)] 0 = (X : Int) from rfl, hx2, up63 hi' (by omega)]
      rfl
    · obtain ⟨j, hj⟩ : ∃ j : Nat, wrap64 (L[i].f0 - 1) = (j : Int) ∧ j < 4 := ⟨(L[i].f0 - 1).toNat, by unfold wrap64; omega, by omega⟩
      obtain ⟨y, hy, hy1, hy2⟩ := rows_mem j hj.2
      have hax : vector_Axpy.f [x] [y] L[i].f1 = some (plusL [x] [y] L[i].f1.toNat, 0) := by
        unfold vector_Axpy.f
        rw [if_pos (show ([x] : List Int).length = ([y] : List Int).length from rfl), if_pos ⟨by simp, okB_one hx, okB_one ⟨hy1, hy2⟩, by omega, by omega⟩]
      have hpl : (plusL [x] [y] L[i].f1.toNat).length = 1 := plusL_length (a := [x]) (b := [y]) rfl _
      have hpb : By (plusL [x] [y] L[i].f1.toNat) := plusL_by (fun z hz => by rw [List.mem_singleton.1 hz]; exact hx) (fun z hz => by rw [List.mem_singleton.1 hz]; exact ⟨hy1, hy2⟩) (by omega) rfl
      obtain ⟨z, hz⟩ : ∃ z, plusL [x] [y] L[i].f1.toNat = [z] := List.length_eq_one_iff.1 hpl
      rw [hz] at hax hpb
      obtain ⟨u, hu⟩ := ih (i + 1) z (by omega) (hpb z List.mem_cons_self)
      refine ⟨u, Ev.step (fun k => ?_) hu⟩
      simp only [row_Of.l0]
      rw [if_pos (by omega), if_pos (by omega), if_pos (by omega), rdC L i hi', if_neg h0, hj.1, if_pos (by omega), if_pos (by have := hj.2; simp; omega), hy, hax, Option.bind_some, up63 hi' (by omega)]
theorem wake : Ev (fun k => geyserlaw08_awake.f k) true := by
  obtain ⟨h1, h2, h3⟩ := picksL_ok 1 0
  have hp : row_Picks.f 1 0 = some (picksL 1 0) := by
    unfold row_Picks.f
    rw [if_pos ⟨by decide, by decide⟩, if_pos ⟨by decide, by decide⟩]
    rfl
  obtain ⟨_, d1, d2, d3⟩ := deg_cast 1 0
  obtain ⟨y, hy⟩ := of_l0 (picksL 1 0) (fun p hp => by have := h3 p hp; exact ⟨this.1, this.2.1, this.2.2.1, this.2.2.2⟩) (by omega) (picksL 1 0).length 0 0 (by omega) ⟨by omega, by omega⟩
  have hof : Ev (fun k => row_Of.f k 1 0) [y] := by
    refine Ev.congr (f := fun k => (precode_Rows.f k 1).bind fun t136 => row_Of.l0 k 1 t136 (List.replicate (1 : Int).toNat 0) (picksL 1 0) ((picksL 1 0).length : Int) 0) (fun k => ?_) (Ev.bind rows_one hy)
    unfold row_Of.f
    rw [hp, Option.bind_some, if_neg (by omega)]
    rfl
  have hc := cells_run [0, 3] (by decide)
  have hcl : (cellsL [0, 3] ([0, 3] : List Int).length).length = 1 := by decide
  refine Ev.congr (f := fun k => (row_Of.f k 1 0).bind fun t151 => (if (t151.length : Int) = 1 then ((row_Cells.f k (([0, 3] : List Int))).bind fun t157 => (some ((t157.length : Int) == 1))) else (some false))) (fun k => by unfold geyserlaw08_awake.f; rfl) (Ev.bind hof (Ev.congr (fun k => if_pos rfl) (Ev.bind hc (Ev.congr (fun k => ?_) (Ev.now _)))))
  rw [hcl]
  rfl
/-! ### the law -/
def backL (r : List Int) (Q : List Nat) : List Int := (List.range r.length).map fun j => if j ∈ Q then r.getD j 0 else 0
theorem back_len (r : List Int) (Q : List Nat) : (backL r Q).length = r.length := by unfold backL; rw [List.length_map, List.length_range]
theorem back_at (r : List Int) (Q : List Nat) (j : Nat) (h : j < (backL r Q).length) : (backL r Q)[j] = if j ∈ Q then r.getD j 0 else 0 := by
  have key : ∀ (l : List Int) (e : l = (List.range r.length).map fun j => if j ∈ Q then r.getD j 0 else 0) (h : j < l.length), l[j] = if j ∈ Q then r.getD j 0 else 0 := by
    intro l e h
    subst e
    rw [List.getElem_map, List.getElem_range]
  exact key _ rfl h
theorem back_set (r : List Int) (Q : List Nat) (a : Nat) (_ha : a < r.length) : (backL r Q).set a (r.getD a 0) = backL r (Q ++ [a]) := by
  refine List.ext_getElem (by rw [List.length_set, back_len, back_len]) fun j h1 h2 => ?_
  rw [List.length_set, back_len] at h1
  rw [List.getElem_set, back_at, back_at]
  by_cases e : a = j
  · subst e
    rw [if_pos rfl, if_pos (by simp)]
  · rw [if_neg e]
    have : (j ∈ Q ++ [a]) ↔ j ∈ Q := by simp; exact fun h => absurd h.symm e
    by_cases hq : j ∈ Q
    · rw [if_pos hq, if_pos (this.2 hq)]
    · rw [if_neg hq, if_neg (fun h => hq (this.1 h))]
theorem back_none (r : List Int) : backL r [] = List.replicate r.length 0 := by
  refine List.ext_getElem (by rw [back_len, List.length_replicate]) fun j h1 h2 => ?_
  rw [back_at, List.getElem_replicate]
  simp
theorem back_all (r : List Int) : backL r (nzP r r.length) = r := by
  refine List.ext_getElem (back_len r _) fun j h1 h2 => ?_
  rw [back_at]
  have e : r.getD j 0 = r[j] := by simp [List.getD_eq_getElem?_getD, h2]
  by_cases hq : j ∈ nzP r r.length
  · rw [if_pos hq, e]
  · rw [if_neg hq]
    have : r.getD j 0 = 0 := by
      by_cases hz : r.getD j 0 = 0
      · exact hz
      · exact absurd (List.mem_filter.2 ⟨List.mem_range.2 h2, decide_eq_true hz⟩) hq
    rw [← e, this]
theorem nz_sorted (r : List Int) (n : Nat) : (nzP r n).Pairwise (· < ·) := List.Pairwise.filter _ List.pairwise_lt_range
theorem law_l0 (r : List Int) (hr : r.length ≤ 5000) : ∀ d i : Nat, i + d = (nzP r r.length).length →
    Ev (fun k => geyserlaw08_RowCells.l0 k r (backL r ((nzP r r.length).take i)) (cellsL r r.length) ((cellsL r r.length).length : Int) i) true := by
  have hcl : (cellsL r r.length).length = (nzP r r.length).length := by unfold cellsL; rw [List.length_map]
  have hle : (nzP r r.length).length ≤ r.length := by rw [← hcl]; exact cells_len r _
  intro d
  induction d with
  | zero =>
    intro i hi
    refine Ev.step (fun k => ?_) (Ev.now _)
    simp only [geyserlaw08_RowCells.l0]
    rw [if_neg (by omega), List.take_of_length_le (by omega), back_all]
    simp
  | succ d ih =>
    intro i hi
    have hi' : i < (nzP r r.length).length := by omega
    have hic : i < (cellsL r r.length).length := by omega
    have hm := List.getElem_mem hi'
    obtain ⟨m1, m2⟩ := List.mem_filter.1 hm
    have m1' := List.mem_range.1 m1
    have m2' : r.getD (nzP r r.length)[i] 0 ≠ 0 := of_decide_eq_true m2
    have hcell : (cellsL r r.length)[i] = mkC r (nzP r r.length)[i] := cells_at r _ i hic hi'
    have hstep := ih (i + 1) (by omega)
    rw [List.take_succ_eq_append_getElem hi', ← back_set r _ _ m1'] at hstep
    refine Ev.step (fun k => ?_) hstep
    simp only [geyserlaw08_RowCells.l0]
    rw [if_pos (by omega), if_pos (by omega), if_pos (by omega), rdC _ i hic, hcell]
    show (if (((nzP r r.length)[i] : Nat) : Int) < 0 then _ else _) = _
    rw [if_neg (by omega)]
    show (if (((nzP r r.length)[i] : Nat) : Int) ≥ (r.length : Int) then _ else _) = _
    rw [if_neg (by omega)]
    show (if r.getD (nzP r r.length)[i] 0 = 0 then _ else _) = _
    rw [if_neg m2']
    have hset : ∀ (X : Option Bool), (if 0 ≤ (mkC r (nzP r r.length)[i]).f0 then (if (mkC r (nzP r r.length)[i]).f0 < ((backL r ((nzP r r.length).take i)).length : Int) then X else none) else none) = X := fun X => by
      show (if 0 ≤ (((nzP r r.length)[i] : Nat) : Int) then (if (((nzP r r.length)[i] : Nat) : Int) < _ then X else none) else none) = X
      rw [if_pos (by omega), if_pos (by rw [back_len]; omega)]
    have hsv : (backL r ((nzP r r.length).take i)).set ((mkC r (nzP r r.length)[i]).f0 : Int).toNat (mkC r (nzP r r.length)[i]).f1 = (backL r ((nzP r r.length).take i)).set (nzP r r.length)[i] (r.getD (nzP r r.length)[i] 0) := by
      show List.set _ ((((nzP r r.length)[i] : Nat) : Int)).toNat _ = _
      rw [Int.toNat_natCast]
      rfl
    by_cases h0 : i = 0
    · subst h0
      rw [if_neg (by omega), hset, hsv, up63 hi' (by omega)]
    · have hi1 : i - 1 < (nzP r r.length).length := by omega
      have hic1 : i - 1 < (cellsL r r.length).length := by omega
      have hcell1 : (cellsL r r.length)[i - 1] = mkC r (nzP r r.length)[i - 1] := cells_at r _ (i - 1) hic1 hi1
      have hw : wrap64 ((i : Int) - 1) = ((i - 1 : Nat) : Int) := by unfold wrap64; omega
      have hlt : (nzP r r.length)[i - 1] < (nzP r r.length)[i] := List.pairwise_iff_getElem.1 (nz_sorted r r.length) (i - 1) i hi1 hi' (by omega)
      rw [if_pos (by omega), hw, if_pos (by omega), if_pos (by omega), rdC _ (i - 1) hic1, hcell1]
      show (if (((nzP r r.length)[i - 1] : Nat) : Int) ≥ (((nzP r r.length)[i] : Nat) : Int) then _ else _) = _
      rw [if_neg (by omega), hset, hsv, up63 hi' (by omega)]
theorem RowCells (r : List Int) (hn : r.length ≤ 9223372036854775807) : ∃ k, geyserlaw08_RowCells.f k r = some true := by
  refine Ev.rounds ?_
  have dull : Ev (fun k => geyserlaw08_RowCells.j0 k r true) true := by
    refine Ev.step (f := fun k => (geyserlaw08_awake.f k).bind fun t => some t) (fun k => ?_) (Ev.bind wake (Ev.now _))
    simp only [geyserlaw08_RowCells.j0]
    rw [if_pos trivial]
  refine Ev.congr (f := fun k => (geyserlaw08_awake.f k).bind fun t160 => (if t160 = true then (geyserlaw08_RowCells.j0 k r (decide ((r.length : Int) > 5000))) else (geyserlaw08_RowCells.j0 k r true))) (fun k => by unfold geyserlaw08_RowCells.f; rfl) (Ev.bind wake (Ev.congr (fun k => if_pos rfl) ?_))
  by_cases h : (r.length : Int) > 5000
  · rw [decide_eq_true h]; exact dull
  · rw [decide_eq_false h]
    have hr : r.length ≤ 5000 := by omega
    have hlaw := law_l0 r hr (nzP r r.length).length 0 (by omega)
    rw [List.take_zero, back_none] at hlaw
    refine Ev.step (f := fun k => (row_Cells.f k r).bind fun t165 => geyserlaw08_RowCells.l0 k r (List.replicate r.length 0) t165 (t165.length : Int) 0) (fun k => ?_) (Ev.bind (cells_run r (by omega)) hlaw)
    simp only [geyserlaw08_RowCells.j0]
    rw [if_neg (by decide), if_pos (by omega), Int.toNat_natCast, if_pos (by omega)]
end RC

end Go.Proofs.Ytcmigmldecacpaa.Pure

/- row.Picks, in the form in which the printer asks for it. -/
import Derived.Test.YtcmigmldecacpaaZSortCells
namespace Go.Proofs.Ytcmigmldecacpaa.Giv
open Go Go.RowKit Go.Proofs.YtcmigmldecacpaaW.PrintWords Go.Proofs.YtcmigmldecacpaaW.PrintLast Go.Proofs.YtcmigmldecacpaaW.PrintMore Go.Proofs.Ytcmigmldecacpaa.Vec Go.Proofs.Ytcmigmldecacpaa.Rand Go.Proofs.Ytcmigmldecacpaa.Draws Go.Proofs.Ytcmigmldecacpaa.SortCells
set_option linter.unusedSimpArgs false
set_option linter.unusedVariables false

def picksL (k id : Nat) : List Cl := sortC (drawn k id).out
def row_Picks.f (a0 a1 : Int) : Option (List S70) := if 0 ≤ a1 ∧ a1 < 4294967296 then some (if 1 ≤ a0 ∧ a0 ≤ 64 then picksL a0.toNat a1.toNat else []) else none
theorem picksL_ok (k id : Nat) : (picksL k id).Perm (drawn k id).out ∧ (picksL k id).length = degN k id ∧ ∀ p ∈ picksL k id, 0 ≤ p.f0 ∧ p.f0 < placesN k ∧ 1 ≤ p.f1 ∧ p.f1 < 256 := by
  have h := sortC_perm (drawn k id).out
  have ho := drawn_ok k id
  exact ⟨h.1, h.2.trans ho.ol, fun p hp => ho.rng p (h.1.mem_iff.1 hp)⟩
/-! ### Count, Seed -/
theorem wrong_calls (k : Int) (w : World) : Calls Try.prog 81 #[.int .i64 k] w fun e w' => e = .returned (.bool (decide (k < 1 ∨ 64 < k))) ∧ w = w' := by
  by_cases h1 : k < 1
  · have e : decide (k < 1 ∨ 64 < k) = true := by simp [h1]
    rw [e]
    clear e
    go_enter Try.func81, Try.ntmps81
    go_wp2
    go_ret
    exact ⟨rfl, rfl⟩
  · by_cases h2 : 64 < k
    · have e : decide (k < 1 ∨ 64 < k) = true := by simp [h2]
      rw [e]
      clear e
      go_enter Try.func81, Try.ntmps81
      go_wp2
      go_ret
      exact ⟨rfl, rfl⟩
    · have e : decide (k < 1 ∨ 64 < k) = false := by simp; omega
      rw [e]
      clear e
      go_enter Try.func81, Try.ntmps81
      go_wp2
      go_ret
      exact ⟨rfl, rfl⟩
theorem sparse_calls (k : Nat) (w : World) (hk : k ≤ 64) : Calls Try.prog 82 #[.int .i64 (k : Int)] w fun e w' => e = .returned (.int .i64 (((k + 7) / 8 + 1 : Nat) : Int)) ∧ w = w' := by
  have h1 : wrap64 ((k : Int) + 8) = ((k + 8 : Nat) : Int) := by unfold wrap64; omega
  have h2 : wrap64 (((k + 8 : Nat) : Int) - 1) = ((k + 7 : Nat) : Int) := by unfold wrap64; omega
  have h3 : Int.tdiv ((k + 7 : Nat) : Int) 8 = (((k + 7) / 8 : Nat) : Int) := rfl
  have h4 : wrap64 ((((k + 7) / 8 : Nat) : Int) + 1) = (((k + 7) / 8 + 1 : Nat) : Int) := by unfold wrap64; omega
  have h5 : wrap64 (((k + 7) / 8 : Nat) : Int) = (((k + 7) / 8 : Nat) : Int) := by unfold wrap64; omega
  have H := Lib.hid (And.intro h1 (And.intro h2 (And.intro h3 (And.intro h4 h5))))
  clear h1 h2 h3 h4 h5 hk
  go_enter Try.func82, Try.ntmps82
  go_wp2
  go_ret
  exact ⟨Gy.ret_eq (by rw [H.out.1, H.out.2.1, H.out.2.2.1, H.out.2.2.2.2, H.out.2.2.2.1]), rfl⟩
theorem count_calls (k : Nat) (w : World) (h1 : 1 ≤ k) (hk : k ≤ 64) : Calls Try.prog 60 #[.int .i64 (k : Int)] w fun e w' => e = .returned (.int .i64 (((k + 7) / 8 + 3 : Nat) : Int)) ∧ w = w' := by
  have e : decide ((k : Int) < 1 ∨ (64 : Int) < (k : Int)) = false := by simp; omega
  have h4 : wrap64 ((((k + 7) / 8 + 1 : Nat) : Int) + 2) = (((k + 7) / 8 + 3 : Nat) : Int) := by unfold wrap64; omega
  have H := Lib.hid (And.intro e (And.intro h4 hk))
  clear e h4 h1 hk
  have hs := fun w => sparse_calls k w H.out.2.2
  generalize (((k + 7) / 8 + 1 : Nat) : Int) = u at hs H
  go_enter Try.func60, Try.ntmps60
  go_wp2_with (first
    | (go_at_call 81; (with_reducible refine (wrong_calls _ _).mono ?_); rintro e w1 ⟨rfl, rfl⟩; rw [H.out.1])
    | (go_at_call 82; (with_reducible refine (hs _).mono ?_); rintro e w1 ⟨rfl, rfl⟩))
  go_ret
  exact ⟨Gy.ret_eq H.out.2.1, rfl⟩
theorem count_none (k : Int) (w : World) (h : k < 1 ∨ 64 < k) : Calls Try.prog 60 #[.int .i64 k] w fun e w' => e = .returned (.int .i64 0) ∧ w = w' := by
  have H := Lib.hid (decide_eq_true h)
  clear h
  go_enter Try.func60, Try.ntmps60
  go_wp2_with (go_at_call 81; (with_reducible refine (wrong_calls _ _).mono ?_); rintro e w1 ⟨rfl, rfl⟩; rw [H.out])
  go_ret
  exact ⟨rfl, rfl⟩
theorem seed_calls (k id : Nat) (w : World) (hk : k ≤ 64) (hid : id < 4294967296) : Calls Try.prog 100 #[.int .i64 (k : Int), .int .u32 (id : Int)] w fun e w' => e = .returned (.int .u32 ((seedN k id : Nat) : Int)) ∧ w = w' := by
  have H := Lib.hid (And.intro hk hid)
  clear hk hid
  go_enter Try.func100, Try.ntmps100
  go_wp2
  go_ret
  refine ⟨?_, rfl⟩
  have h1 := H.out.1
  have h2 := H.out.2
  have e : ((((id : Int) * 2654435761) % 4294967296) + ((((k : Int)) % 4294967296) * 40503 % 4294967296)) % 4294967296 = ((seedN k id : Nat) : Int) := by
    unfold seedN
    omega
  first
    | exact congrArg (fun x => Ending.returned (.int .u32 x)) e
    | (refine congrArg (fun x => Ending.returned (.int .u32 x)) ?_; unfold seedN; simp only [IntKind.wrap, IntKind.bits, IntKind.signed]; omega)
/-! ### the walk -/
theorem made_bools (W : World) (n : Nat) (hn : n ≤ 1000) : (W.alloc (.cells (madeCells #[.bool false] n) 4)).ownsRow W.heap.size 4 1 (.slice (some ⟨W.heap.size, 0, none⟩) n n) n (bools (List.replicate n false)) := by
  have hcur : (W.alloc (.cells (madeCells #[.bool false] n) 4)).heap[W.heap.size]? = some (.cells (List.replicate n (Value.bool false)).toArray 4 (0, 0)) := by
    rw [Gy.alloc_at, ← toList_madeCells_one]
  refine ⟨by simp [bools], .inr ⟨W.heap.size, _, _, rfl, Nat.le_refl _, hcur, Nat.le_refl _, show n ≤ 9223372036854775807 by omega, by simp, ?_⟩⟩
  simp only [Nat.mul_one]
  rw [List.take_of_length_le (by simp)]
  unfold bools
  rw [List.map_replicate]
structure PickAt (W : World) (n g b : Nat) (s : Dr) (v8 : Value) (w : World) : Prop where
  cell : w.cell? ⟨g, 0, none⟩ = some (.int .u32 (s.x : Int))
  free : w.frozen? ⟨g, 0, none⟩ = false
  own : w.ownsRow W.heap.size 4 1 (.slice (some ⟨b, 0, none⟩) n n) n (bools s.T)
  out : Kd.R k70 70 w W.heap.size (fun k => k ≠ g ∧ k ≠ b) v8 s.out
  bel : Below W.heap.size W w
  ge : W.heap.size ≤ g
  ne : g ≠ b
  gl : g < w.heap.size
section
variable {W w w' : World} {n g b : Nat} {s : Dr} {v8 : Value}
theorem PickAt.lt (h : PickAt W n g b s v8 w) : b < w.heap.size := own_lt h.own b rfl
theorem PickAt.bas (h : PickAt W n g b s v8 w) : W.heap.size ≤ b := own_base h.own b rfl
/-- the generator goes on -/
theorem PickAt.gen {y : Nat} (h : PickAt W n g b s v8 w) (hb : Below w.heap.size (w.setCell ⟨g, 0, none⟩ (.int .u32 (y : Int))) w') : PickAt W n g b { s with x := y } v8 w' := by
  have hl := h.lt
  have hkeep : ∀ k, k < w.heap.size → k ≠ g → w'.heap[k]? = w.heap[k]? := fun k hk hne => by
    rw [hb.block k hk, Below.heap_setCell w _ _ _ hne]
  refine ⟨?_, ?_, own_move h.own (fun k hk => ?_), Kd.R_step h.out (fun k hk hlt => hkeep k hlt hk.1), (h.bel.setCell h.ge _).trans (hb.mono h.bel.size), h.ge, h.ne, Nat.lt_of_lt_of_le h.gl (by have := hb.size; rwa [Gy.set_size] at this)⟩
  · rw [hb.cell (p := ⟨g, 0, none⟩) h.gl]; exact Gy.cell_set h.cell _
  · rw [hb.frozen (p := ⟨g, 0, none⟩) h.gl]
    have : (w.setCell ⟨g, 0, none⟩ (.int .u32 (y : Int))).frozen? ⟨g, 0, none⟩ = w.frozen? ⟨g, 0, none⟩ := by go_simp
    rw [this]; exact h.free
  · injection hk with hk
    subst hk
    exact hkeep _ hl (fun e => h.ne e.symm)
theorem PickAt.same (h : PickAt W n g b s v8 w) (hb : Below w.heap.size w w') : PickAt W n g b s v8 w' :=
  ⟨by rw [hb.cell (p := ⟨g, 0, none⟩) h.gl]; exact h.cell, by rw [hb.frozen (p := ⟨g, 0, none⟩) h.gl]; exact h.free, own_move h.own (fun k hk => hb.block k (own_lt h.own k hk)), Kd.R_below h.out hb, h.bel.trans (hb.mono h.bel.size), h.ge, h.ne, Nat.lt_of_lt_of_le h.gl hb.size⟩
/-- a place is taken -/
theorem PickAt.take (h : PickAt W n g b s v8 w) (a : Nat) : PickAt W n g b { s with T := s.T.set a true } v8 (w.setCell ⟨b, a, none⟩ (.bool true)) := by
  have hkeep : ∀ k, k ≠ b → (w.setCell ⟨b, a, none⟩ (.bool true)).heap[k]? = w.heap[k]? := fun k hne => Below.heap_setCell w _ _ _ hne
  refine ⟨?_, ?_, ?_, Kd.R_step h.out (fun k hk _ => hkeep k hk.2), h.bel.setCell h.bas _, h.ge, h.ne, by rw [Gy.set_size]; exact h.gl⟩
  · unfold World.cell?
    show (match (w.setCell ⟨b, a, none⟩ (.bool true)).heap[g]? with | _ => _) = _
    rw [hkeep g h.ne]
    exact h.cell
  · unfold World.frozen?
    show (match (w.setCell ⟨b, a, none⟩ (.bool true)).heap[g]? with | _ => _) = _
    rw [hkeep g h.ne]
    exact h.free
  · have h1 := (h.own.stored a (.bool true)).1
    unfold bools at h1 ⊢
    rw [List.map_set]
    exact h1
theorem PickAt.append {p : Cl} {v1 : Value} {w1 : World} (h : PickAt W n g b s v8 w) (h1 : Kd.R k70 70 w1 W.heap.size (fun k => k ≠ g ∧ k ≠ b) v1 (s.out ++ [p])) (hb : Below W.heap.size w w1) (hg : w.grownBy w1 v8.ownBlock) : PickAt W n g b { s with out := s.out ++ [p] } v1 w1 := by
  have hne : ∀ k, (k = g ∨ k = b) → some k ≠ v8.ownBlock := fun k hk e => by
    have := h.out.1 k e.symm
    rcases hk with hk | hk
    · exact this.1 hk
    · exact this.2 hk
  have hgb := hg.block g h.gl (hne g (.inl rfl))
  refine ⟨?_, ?_, own_move h.own (fun k hk => ?_), h1, h.bel.trans hb, h.ge, h.ne, Nat.lt_of_lt_of_le h.gl hg.size⟩
  · rw [World.cell?_of_block (a := ⟨g, 0, none⟩) hgb]; exact h.cell
  · rw [World.frozen?_of_block (a := ⟨g, 0, none⟩) hgb]; exact h.free
  · injection hk with hk
    subst hk
    exact hg.block _ h.lt (hne _ (.inr rfl))
theorem PickAt.cells (h : PickAt W n g b s v8 w) (a : Nat) (ha : a < n) (hl : s.T.length = n) : w.cell? ⟨b, a, none⟩ = some (.bool (s.T.getD a false)) ∧ w.frozen? ⟨b, a, none⟩ = false := by
  refine ⟨?_, h.own.frozenAt a⟩
  rw [h.own.cellAt a (by omega)]
  unfold bools
  rw [List.getElem?_map, List.getD_eq_getElem?_getD, List.getElem?_eq_getElem (by omega)]
  rfl
end
theorem PickAt.start {w w2 : World} {x n : Nat} (hm : Made w w2 (x : Int)) (hn : n ≤ 1000) : PickAt w n w.heap.size w2.heap.size ⟨x, List.replicate n false, []⟩ (.slice none 0 0) (w2.alloc (.cells (madeCells #[.bool false] n) 4)) := by
  have hb := Gy.alloc_below w2 (.cells (madeCells #[.bool false] n) 4)
  exact ⟨by rw [hb.cell (p := ⟨w.heap.size, 0, none⟩) hm.2.2.2]; exact hm.1, by rw [hb.frozen (p := ⟨w.heap.size, 0, none⟩) hm.2.2.2]; exact hm.2.1, own_weaken (made_bools w2 n hn) hm.2.2.1.size, Kd.R_nil _ _ _ _ _, hm.2.2.1.trans (hb.mono hm.2.2.1.size), Nat.le_refl _, Nat.ne_of_lt hm.2.2.2, Nat.lt_of_lt_of_le hm.2.2.2 hb.size⟩
theorem pick_degree {W w : World} {g b k id : Nat} {v8 : Value} {N : Int} (hN : N = ((placesN k : Nat) : Int)) (h : PickAt W (placesN k) g b ⟨state0 k id, List.replicate (placesN k) false, []⟩ v8 w) :
    Calls Try.prog 101 #[.pointer (some ⟨g, 0, none⟩), .int .i64 N] w fun e w' => e = .returned (.int .i64 ((degN k id : Nat) : Int)) ∧ PickAt W (placesN k) g b (dr0 k id) v8 w' := by
  have hst := rn_cast (state_lt k id)
  refine (degree_calls g (state0 k id : Int) N w h.cell h.free (by rw [hst.1]; exact Int.natCast_nonneg _) (by rw [hst.1]; have := hst.2; omega)).mono ?_
  rintro e w' ⟨rfl, hb⟩
  rw [hst.1] at hb ⊢
  rw [hN, (deg_cast k id).1]
  exact ⟨rfl, h.gen hb⟩
theorem pick_below {W w : World} {g b n m : Nat} {s : Dr} {v8 : Value} {N : Int} (hN : N = (m : Int)) (hm : 1 ≤ m) (hm2 : m ≤ 1000) (hs : s.x < 4294967296) (h : PickAt W n g b s v8 w) :
    Calls Try.prog 102 #[.pointer (some ⟨g, 0, none⟩), .int .i64 N] w fun e w' => e = .returned (.int .i64 ((rnN s.x % m : Nat) : Int)) ∧ PickAt W n g b { s with x := rnN s.x } v8 w' := by
  have hst := rn_cast hs
  subst hN
  refine (below_calls g (s.x : Int) (m : Int) w h.cell h.free (by omega) (by omega) (by rw [hst.1]; exact Int.natCast_nonneg _) (by rw [hst.1]; have := hst.2; omega)).mono ?_
  rintro e w' ⟨rfl, hb⟩
  rw [hst.1] at hb ⊢
  exact ⟨by rw [Int.natCast_emod], h.gen (hb.below (Below.refl _ _))⟩
set_option maxHeartbeats 16000000 in
set_option maxRecDepth 100000 in
theorem picks_some (k id : Nat) (w : World) (h1 : 1 ≤ k) (hk : k ≤ 64) (hid : id < 4294967296) :
    Calls Try.prog 89 #[.int .i64 (k : Int), .int .u32 (id : Int)] w fun e w' => ∃ v0_ : Value, e = .returned v0_ ∧ Kd.R k70 70 w' w.heap.size (fun _ => True) v0_ (picksL k id) ∧ Below w.heap.size w w' := by
  have hct := fun w => count_calls k w h1 hk
  have hsd := fun w => seed_calls k id w hk hid
  have hz : ((((k + 7) / 8 + 3 : Nat) : Int) == 0) = false := by simp; omega
  have hn : wrap64 ((((k + 7) / 8 + 3 : Nat) : Int) + (k : Int)) = ((placesN k : Nat) : Int) := by unfold placesN wrap64; omega
  have hp : placesN k ≤ 200 ∧ 3 ≤ placesN k := by unfold placesN; omega
  obtain ⟨hd1, hd2, hd3, hd4⟩ := deg_cast k id
  have hrb := rb_cast (X := seedN k id) (Nat.mod_lt _ (by omega))
  have hst := state_lt k id
  have hrn := rn_cast hst
  have HC := Lib.hid (And.intro hct (And.intro hsd (And.intro hz (And.intro hn hp))))
  have HD := Lib.hid (And.intro hd1 (And.intro hd2 (And.intro hd3 hd4)))
  have HS := Lib.hid (And.intro hrb (And.intro hst hrn))
  clear hct hsd hz hn hp hd1 hd2 hd3 hd4 hrb hst hrn h1 hk hid
  have hz2 := HC.out.2.2.1
  generalize (((k + 7) / 8 + 3 : Nat) : Int) = c0 at HC hz2
  have hN := HC.out.2.2.2.1
  have hmk := print_make_of (P := Try.prog) 102 4 (.bool false) 1 Try.underlying102 (by kernel_rfl) rfl (by decide) (placesN k) (by have := HC.out.2.2.2.2; omega)
  have hmk2 : ∀ W : World, (Instr.makeSlice 102 (.int .i64 (wrap64 (c0 + (k : Int)))) (.int .i64 (wrap64 (c0 + (k : Int))))).run Try.prog W = .ok (.slice (some ⟨W.heap.size, 0, none⟩) (placesN k) (placesN k)) (W.alloc (.cells (madeCells #[.bool false] (placesN k)) 4)) := by
    rw [hN]; exact hmk
  have HN := Lib.hid hN
  clear hN hmk
  go_enter Try.func89, Try.ntmps89
  go_wp2_with (first
    | (go_at_call 60; (with_reducible refine (HC.out.1 _).mono ?_); rintro e w1 ⟨rfl, rfl⟩)
    | (go_at_call 100; (with_reducible refine (HC.out.2.1 _).mono ?_); rintro e w1 ⟨rfl, rfl⟩)
    | (go_at_call 99; (with_reducible refine (new_calls _ _).mono ?_); rintro e w2 ⟨rfl, hm⟩; rw [HS.out.1.1] at hm; have HP := Lib.hid (PickAt.start (n := placesN k) (x := state0 k id) hm (by have := HC.out.2.2.2.2.1; omega)); clear hm)
    | (go_at_call 101; (with_reducible refine (pick_degree HN.out HP.out).mono ?_); rintro e w4 ⟨rfl, h4⟩; have H4 := Lib.hid h4; clear h4))
  rw [HN.out]
  go_loopw [8, 26] (fun v8 v26 wr => ∃ i : Nat, i ≤ degN k id ∧ v26 = .int .i64 (i : Int) ∧ Gy.Hd (PickAt w (placesN k) w.heap.size w2.heap.size (drawTo (placesN k) (dr0 k id) i) v8 wr)) (fun _ v26 _ => degN k id - (intOf v26).toNat)
  case atStart => exact ⟨0, Nat.zero_le _, rfl, ⟨H4.out⟩⟩
  case round =>
    obtain ⟨wb, rfl⟩ : ∃ wb, wb = wr := ⟨wr, rfl⟩
    obtain ⟨i, hi, rfl, hx⟩ := hrel
    have HX := Lib.hid hx.out
    clear hx
    by_cases hlt : i < degN k id
    · have t3 := j_lt hlt
      have hok := drawTo_ok (dr0_ok k id) i (by have := HD.out.2.2.1; omega)
      have hnext : drawTo (placesN k) (dr0 k id) (i + 1) = drawStep (placesN k) (drawTo (placesN k) (dr0 k id) i) := rfl
      obtain ⟨s, hs⟩ : ∃ s, s = drawTo (placesN k) (dr0 k id) i := ⟨_, rfl⟩
      have hx2 := HX.out
      rw [← hs] at hok hnext hx2
      have HX2 := Lib.hid hx2
      have HOK := Lib.hid (And.intro hok (And.intro hnext (show s.T.count true < s.T.length by rw [hok.cnt, hok.len]; have := HD.out.2.2.1; omega)))
      have HJ := Lib.hid hlt
      have HWJ := Lib.hid (up_wrap hlt (by have := HD.out.2.2.2; omega))
      have hwj := HWJ.out
      have hend := end_row hlt
      have H255 := Lib.hid (show (255 : Int) = ((255 : Nat) : Int) from rfl)
      clear hok hnext hx2 hs hlt
      go_wp2_with (go_at_call 102; (with_reducible refine (pick_below (m := placesN k) rfl (by have := HC.out.2.2.2.2; omega) (by have := HC.out.2.2.2.2; omega) HOK.out.1.lt HX2.out).mono ?_); rintro e w5 ⟨rfl, h5⟩; have H5 := Lib.hid h5; clear h5)
      go_loopw [9] (fun v9 wr => ∃ a : Nat, a < placesN k ∧ v9 = .int .i64 (a : Int) ∧ wr = w5 ∧ probe s.T (placesN k) a = probe s.T (placesN k) (rnN s.x % placesN k)) (fun v9 _ => dst (placesN k) (freeOf s.T) (intOf v9).toNat)
      case atStart => exact ⟨_, Nat.mod_lt _ (by have := HC.out.2.2.2.2; omega), rfl, rfl, rfl⟩
      case round =>
        obtain ⟨a, ha, rfl, rfl, hpr⟩ := hrel
        obtain ⟨k1, f1⟩ := H5.out.cells a ha HOK.out.1.len
        have hta := j_lt ha
        have hai : (a : Int) < ((placesN k : Nat) : Int) := by omega
        cases hT : s.T.getD a false with
        | true =>
          have k2 : wr.cell? ⟨w2.heap.size, a, none⟩ = some (.bool true) := by rw [← hT]; exact k1
          obtain ⟨p1, p2⟩ := probe_taken HOK.out.2.2 HOK.out.1.len ha hT
          have hw1 : wrap64 ((a : Int) + 1) = ((a + 1 : Nat) : Int) := by have := HC.out.2.2.2.2; unfold wrap64; omega
          have hw2 : Int.tmod ((a + 1 : Nat) : Int) ((placesN k : Nat) : Int) = ((up1 (placesN k) a : Nat) : Int) := by rw [← up1_mod ha]; rfl
          have hw3 : wrap64 ((up1 (placesN k) a : Nat) : Int) = ((up1 (placesN k) a : Nat) : Int) := by have := up1_lt ha; have := HC.out.2.2.2.2; unfold wrap64; omega
          have hz : (((placesN k : Nat) : Int) == 0) = false := by have := HC.out.2.2.2.2; simp; omega
          have HW := Lib.hid (And.intro hw1 (And.intro hw2 hw3))
          have HPR := Lib.hid (And.intro p1 (And.intro p2 (And.intro hpr ha)))
          clear hw1 hw2 hw3 p1 p2 hpr ha k1 hT
          go_wp2_with fail
          rw [HW.out.1, HW.out.2.1]
          exact ⟨⟨_, up1_lt HPR.out.2.2.2, rfl, trivial, HPR.out.1.trans HPR.out.2.2.1⟩, HPR.out.2.1⟩
        | false =>
          have k2 : wr.cell? ⟨w2.heap.size, a, none⟩ = some (.bool false) := by rw [← hT]; exact k1
          have HA := Lib.hid (And.intro ha (show a = probe s.T (placesN k) (rnN s.x % placesN k) by rw [← hpr, probe_free hT]))
          have HT2 := Lib.hid (H5.out.take a)
          have hx1 := (rn_cast HOK.out.1.lt).2
          have HX1 := Lib.hid hx1
          clear k1 hT hpr ha hx1
          go_wp2_with (first
            | (go_at_call 102; (with_reducible refine (pick_below (m := 255) (N := 255) rfl (by omega) (by omega) HX1.out HT2.out).mono ?_); rintro e w6 ⟨rfl, h6⟩; have H6 := Lib.hid h6; clear h6)
            | ((with_reducible refine gate_builtin (b := .append) (xs := #[.tmp 42, .tmp 49]) rfl ?_); at_builtin; refine Kd.R_append k70 (W := w6) (w0 := w6) w.heap.size rfl (.tmp 42) (.tmp 49) 67 70 (.agg #[.int .i64 0, .int .u8 0]) 16 rfl Try.underlying67 (by kernel_rfl) rfl (by decide) (by omega) _ s.out ⟨(a : Int), 1 + ((rnN (rnN s.x) : Nat) : Int) % 255⟩ [.int .i64 (a : Int), .int .u8 (1 + ((rnN (rnN s.x) : Nat) : Int) % 255)] (fun k => k ≠ w.heap.size ∧ k ≠ w2.heap.size) (fun _ => False) rfl rfl (k70_mkM _ _ _ _) (fun _ h => h.elim) ?aF H6.out.out (Below.refl _ _) H6.out.bel.size ?aL ?_
               (case aF => (intro q hq; have := H6.out.gl; have := H6.out.lt; exact ⟨by omega, by omega⟩))
               (case aL => have := HOK.out.1.ol; have := HJ.out; have := HD.out.2.2.2; omega)
               intro v1 w7 h7 b7 g7 a7
               have H7 := Lib.hid (H6.out.append h7 b7 g7)
               clear h7 b7 g7 a7))
          (try rw [HWJ.out])
          refine ⟨⟨i + 1, HJ.out, by norm_cast, ⟨?_⟩⟩, hend⟩
          rw [HOK.out.2.1]
          have h8 := H7.out
          have e1 : (1 + ((rnN (rnN s.x) : Nat) : Int) % 255) = ((1 + rnN (rnN s.x) % 255 : Nat) : Int) := by omega
          have e2 := HA.out.2
          rw [e1] at h8
          unfold drawStep
          rw [← e2]
          exact h8
    · obtain rfl : i = degN k id := Nat.le_antisymm hi (Nat.le_of_not_lt hlt)
      have t3 : decide (((degN k id : Nat) : Int) < ((degN k id : Nat) : Int)) = false := by simp
      have hok := drawn_ok k id
      have hx2 := HX.out
      have hpk : picksL k id = sortC (drawn k id).out := rfl
      rw [show drawTo (placesN k) (dr0 k id) (degN k id) = drawn k id from rfl] at hx2
      generalize drawn k id = s at hok hx2 hpk
      have hR := Kd.R_mono (ok' := fun _ => True) hx2.out (fun _ _ => trivial)
      obtain ⟨A8, c8, e8⟩ := Kd.R_slice hR
      subst e8
      have hol : s.out.length = degN k id := hok.ol
      rw [hol] at hR
      have HR := Lib.hid (And.intro hR (And.intro hol (And.intro hx2.bel hpk)))
      rw [hol]
      clear hx2 hR hok hlt hi
      go_wp2_with (go_at_call 103; (with_reducible refine (sort_calls HR.out.1 (by rw [HR.out.2.1]; have := HD.out.2.1; omega) (by rw [HR.out.2.1]; have := HD.out.2.2.2; omega)).mono ?_); rintro e w6 ⟨rfl, h6, b6⟩; have H6 := Lib.hid (And.intro h6 b6); clear h6 b6)
      go_ret
      rw [HR.out.2.2.2]
      exact ⟨_, rfl, H6.out.1, HR.out.2.2.1.trans H6.out.2⟩
theorem picks_none (k id : Int) (w : World) (h : k < 1 ∨ 64 < k) : Calls Try.prog 89 #[.int .i64 k, .int .u32 id] w fun e w' => e = .returned (.slice none 0 0) ∧ w = w' := by
  have H := Lib.hid (fun w => count_none k w h)
  clear h
  go_enter Try.func89, Try.ntmps89
  go_wp2_with (go_at_call 60; (with_reducible refine (H.out _).mono ?_); rintro e w1 ⟨rfl, rfl⟩)
  go_ret
  exact ⟨rfl, rfl⟩
theorem row_Picks.calls (a0 a1 : Int) (r : List S70) (w : World) (h : row_Picks.f a0 a1 = some r) :
    Calls Try.prog 89 #[.int .i64 a0, .int .u32 a1] w fun e w' => ∃ v0_ : Value, e = .returned v0_ ∧ Kd.R k70 70 w' w.heap.size (fun _ => True) v0_ r ∧ Below w.heap.size w w' := by
  unfold row_Picks.f at h
  split at h
  · rename_i h1
    obtain rfl := Option.some.inj h
    obtain ⟨id, rfl⟩ : ∃ n : Nat, a1 = (n : Int) := ⟨a1.toNat, by omega⟩
    split
    · rename_i h2
      obtain ⟨k, rfl⟩ : ∃ n : Nat, a0 = (n : Int) := ⟨a0.toNat, by omega⟩
      exact picks_some k id w (by omega) (by omega) (by omega)
    · rename_i h2
      refine (picks_none a0 id w (by omega)).mono ?_
      rintro e w' ⟨rfl, rfl⟩
      exact ⟨_, rfl, Kd.R_nil _ _ _ _ _, Below.refl _ _⟩
  · cases h
end Go.Proofs.Ytcmigmldecacpaa.Giv

/- The law CutMakes: it answers true. -/
import Derived.Test.YtlmgikhgmbjfdaaDoorMCM5
import Derived.HandedShaped
import Derived.MakeChecks
import Derived.SizedLaws

namespace Go.Proofs.YtlmgikhgmbjfdaaDoor.Cuts
open Go Go.RowKit Go.Proofs.YtlmgikhgmbjfdaaDoor.QDig Go.Proofs.YtlmgikhgmbjfdaaDoorW.PrintWords Go.Proofs.YtlmgikhgmbjfdaaDoorW.PrintLast Go.Proofs.YtlmgikhgmbjfdaaDoorW.PrintMore Gy

set_option maxHeartbeats 4000000 in
set_option maxRecDepth 100000 in
theorem make_fail (A : Option Addr) (n c : Nat) (slice k : Int) (hk : k ≠ 0) (w : World) (hchk : ∀ W, Below w.heap.size w W → Calls Tryd.prog 26 #[.slice A n c, .int .i64 slice] W fun e w' => e = .returned (.int .i64 k) ∧ Below W.heap.size W w') :
    Calls Tryd.prog 8 #[.slice A n c, .int .i64 slice] w fun e w' => e = .returned (.tuple #[.agg #[.int .i64 0, .slice none 0 0, .slice none 0 0], .slice none 0 0, .int .i64 k]) ∧ Below w.heap.size w w' := by
  have HC := Lib.hid hchk
  have hb : (k == 0) = false := beq_eq_false_iff_ne.2 hk
  have HA := Lib.hid (And.intro (Gy.Arr.fresh w [.int .i64 0, .slice none 0 0, .slice none 0 0] _ rfl 28) (Gy.alloc_below w (.cells #[.int .i64 0, .slice none 0 0, .slice none 0 0] 28)))
  clear hchk hk
  go_enter Tryd.func8, Tryd.ntmps8
  go_wp2_with (go_at_call 26; refine (HC.out _ ((Below.refl w.heap.size w).alloc (Nat.le_refl _) _)).mono ?_; rintro e w2 ⟨rfl, hd⟩; have HA2 := Lib.hid (And.intro (HA.out.1.below hd) (HA.out.2.trans (hd.mono HA.out.2.size))); clear hd; have a0 := HA2.out.1.cell (i := 0) (v := .int .i64 0) rfl; have a1 := HA2.out.1.cell (i := 1) (v := .slice none 0 0) rfl; have a2 := HA2.out.1.cell (i := 2) (v := .slice none 0 0) rfl; have af := HA2.out.1.fr)
  have hA3 := ((HA2.out.1.set (i := 0) (by simp) (.int .i64 0)).set (i := 1) (by simp) (.slice none 0 0)).set (i := 2) (by simp) (.slice none 0 0)
  have bS : ∀ {W : World} (i : Nat) (v : Value), Below w.heap.size w W → Below w.heap.size w (W.setCell ⟨w.heap.size, i, none⟩ v) := fun i v hb => hb.setCell (Nat.le_refl _) v
  exact bodyPost_ret (fin_set rfl rfl rfl rfl rfl hA3) rfl ⟨rfl, bS 2 _ (bS 1 _ (bS 0 _ HA2.out.2))⟩
theorem few_empty (A : Option Addr) (c : Nat) (w : World) : Calls Tryd.prog 7 #[.slice A 0 c] w fun e w' => e = .returned (.bool true) ∧ Below w.heap.size w w' := by
  go_enter Tryd.func7, Tryd.ntmps7
  go_wp2
  go_loopw [7] (fun v7 w' => v7 = .int .i64 0 ∧ w' = w) (fun _ _ => 0)
  case atStart => exact ⟨rfl, rfl⟩
  case round =>
    obtain ⟨rfl, rfl⟩ := hrel
    go_wp2
    go_ret
    exact ⟨rfl, Below.refl _ _⟩
set_option maxHeartbeats 4000000 in
set_option maxRecDepth 100000 in
/-- too much: the door is asked alone -/
theorem cm_long (A : Option Addr) (n c : Nat) (slice : Int) (w : World) (hfew : ∀ W, Below w.heap.size w W → Calls Tryd.prog 7 #[.slice A n c] W fun e w' => e = .returned (.bool false) ∧ Below W.heap.size W w') :
    Calls Tryd.prog 3 #[.slice A n c, .int .i64 slice] w fun e w' => e = .returned (.bool true) ∧ Below w.heap.size w w' := by
  have HF := Lib.hid hfew
  have HB := Lib.hid (Below.refl w.heap.size w)
  clear hfew
  go_enter Tryd.func3, Tryd.ntmps3
  go_wp2_with (first
    | (go_at_call 6; refine (awake_calls _).mono ?_; rintro e w1 ⟨rfl, hd⟩; have HB := Lib.hid (HB.out.trans (hd.mono HB.out.size)); clear hd)
    | (go_at_call 7; refine (HF.out _ HB.out).mono ?_; rintro e w1 ⟨rfl, hd⟩; have HB := Lib.hid (HB.out.trans (hd.mono HB.out.size)); clear hd))
  go_ret
  exact ⟨rfl, HB.out⟩
set_option maxHeartbeats 4000000 in
set_option maxRecDepth 100000 in
/-- what can't be cut is refused, for that reason -/
theorem cm_fail (A : Option Addr) (n c : Nat) (slice k : Int) (hk : k ≠ 0) (w : World) (hfew : ∀ W, Below w.heap.size w W → Calls Tryd.prog 7 #[.slice A n c] W fun e w' => e = .returned (.bool true) ∧ Below W.heap.size W w')
    (hmake : ∀ W, Below w.heap.size w W → Calls Tryd.prog 8 #[.slice A n c, .int .i64 slice] W fun e w' => e = .returned (.tuple #[.agg #[.int .i64 0, .slice none 0 0, .slice none 0 0], .slice none 0 0, .int .i64 k]) ∧ Below W.heap.size W w')
    (hwrong : ∀ W, Below w.heap.size w W → Calls Tryd.prog 9 #[.slice A n c, .int .i64 slice] W fun e w' => e = .returned (.int .i64 k) ∧ Below W.heap.size W w') :
    Calls Tryd.prog 3 #[.slice A n c, .int .i64 slice] w fun e w' => e = .returned (.bool true) ∧ Below w.heap.size w w' := by
  have HF := Lib.hid hfew
  have HMk := Lib.hid hmake
  have HWr := Lib.hid hwrong
  have hb : (k == 0) = false := beq_eq_false_iff_ne.2 hk
  have HB := Lib.hid (Below.refl w.heap.size w)
  clear hfew hmake hwrong hk
  go_enter Tryd.func3, Tryd.ntmps3
  go_wp2_with (first
    | (go_at_call 6; refine (awake_calls _).mono ?_; rintro e w1 ⟨rfl, hd⟩; have HB := Lib.hid (HB.out.trans (hd.mono HB.out.size)); clear hd)
    | (go_at_call 7; refine (HF.out _ HB.out).mono ?_; rintro e w1 ⟨rfl, hd⟩; have HB := Lib.hid (HB.out.trans (hd.mono HB.out.size)); clear hd)
    | (go_at_call 8; refine (HMk.out _ HB.out).mono ?_; rintro e w3 ⟨rfl, hd⟩; have HB := Lib.hid ((HB.out.trans (hd.mono HB.out.size)).alloc (HB.out.trans (hd.mono HB.out.size)).size (.cells #[.int .i64 0, .slice none 0 0, .slice none 0 0] 28)); have HS := Lib.hid (Gy.Arr.fresh w3 [.int .i64 0, .slice none 0 0, .slice none 0 0] _ rfl 28); clear hd)
    | (go_at_call 9; refine (HWr.out _ HB.out).mono ?_; rintro e w4 ⟨rfl, hd⟩; have s1 := (HS.out.below hd).cell (i := 1) (v := .slice none 0 0) rfl; have HB := Lib.hid (HB.out.trans (hd.mono HB.out.size)); clear hd))
  go_ret
  exact ⟨rfl, HB.out⟩
theorem str_app (xs ys : List Int) : strOfNums (xs ++ ys) = strOfNums xs ++ strOfNums ys := by
  apply data_inj
  rw [strOfNums_data, ByteArray.data_append, Array.toList_append, strOfNums_data, strOfNums_data, List.map_append]
theorem conv_of {w : World} {A : Option Addr} {n c : Nat} {xs : List Int} (h : ReadsInt w .u8 A n xs) : (convert 39 9 (.slice A n c)).run Tryd.prog w = .ok (.string (strOfNums xs)) w :=
  string_of_reads Tryd.underlying39 Tryd.underlying5 Tryd.underlying9 h
theorem u8_isSome : (Tryd.prog.info? 5).isSome = true := by kernel_rfl
theorem neq_arr (w : World) (xs : List Int) (hx : xs.length = 32) : (binOp .neq 36 (.agg (nums .u8 xs).toArray) (.agg (nums .u8 xs).toArray)).run Tryd.prog w = .ok (.bool false) w := by
  obtain ⟨i, hi⟩ := Option.isSome_iff_exists.1 u8_isSome
  have h := Gy.run_eql_arr (P := Tryd.prog) w 36 5 32 Tryd.underlying36 hi (by kernel_rfl) Tryd.underlying5 xs xs hx hx
  rw [decide_eq_true rfl] at h
  have h2 : (Op.equal 36 (.agg (nums .u8 xs).toArray) (.agg (nums .u8 xs).toArray)).run Tryd.prog w = .ok true w := by
    simp only [binOp, Sem.run_bind] at h
    cases hq : (Op.equal 36 (.agg (nums .u8 xs).toArray) (.agg (nums .u8 xs).toArray)).run Tryd.prog w <;> rw [hq] at h <;> simp [Result.andThen] at h ⊢
    exact h
  simp only [binOp, Sem.run_bind, h2, Result.andThen_ok]
  rfl
theorem info_d32 : (Tryd.prog.info? 36).map (·.size) = some 32 := by kernel_rfl
theorem info_slice1 : (Tryd.prog.info? 38).map (·.size) = some 34 := by kernel_rfl
theorem rcrc_calls (A : Option Addr) (c : Nat) (xs : List Int) (w : World) (hR : ReadsInt w .u8 A xs.length xs) (hc : xs.length ≤ c) (hx : Bytes xs) (hl : xs.length ≤ 1000000) :
    Calls Tryd.prog 11 #[.slice A xs.length c] w fun e w' => e = .returned (.int .u32 (Gy.crc xs : Nat)) ∧ Below w.heap.size w w' := by
  obtain ⟨k, hk⟩ : ∃ k : Nat, 10 * xs.length < k := ⟨10 * xs.length + 1, by omega⟩
  exact (geyserref01_CRC.calls k A c xs _ w (Go.Proofs.YtlmgikhgmbjfdaaDoor.Pure.kd_of_reads hR) hc (Go.Proofs.YtlmgikhgmbjfdaaDoor.Pure.rcrc_f hx (by omega) hk)).mono fun _ _ h => ⟨h.1, h.2.below⟩
theorem slice_range {W : World} {b : Nat} {row : List Int} (h : Gy.Arr W b (sliceOf row).cells) : W.rangeAt b 2 (nums .u8 (sha row)) := by
  intro j v hv
  rw [Nat.add_comm]
  exact h.cell (i := j + 2) hv
/-- a file's box -/
structure FBox (W : World) (xb : Nat) (nm : ByteArray) (len : Nat) (D : List Int) (first : Nat) : Prop where
  arr : Gy.Arr W xb (fileL nm (len : Int) D (first : Int))
  c : D.length = 32
theorem FBox.below {W W' : World} {xb : Nat} {nm : ByteArray} {len : Nat} {D : List Int} {first : Nat} (h : FBox W xb nm len D first) (hb : Below W.heap.size W W') : FBox W' xb nm len D first := ⟨h.arr.below hb, h.c⟩
theorem FBox.name {W : World} {xb : Nat} {nm : ByteArray} {len : Nat} {D : List Int} {first : Nat} (h : FBox W xb nm len D first) : W.cell? ⟨xb, 0, none⟩ = some (.string nm) := h.arr.cell rfl
theorem FBox.size {W : World} {xb : Nat} {nm : ByteArray} {len : Nat} {D : List Int} {first : Nat} (h : FBox W xb nm len D first) : W.cell? ⟨xb, 1, none⟩ = some (.int .i64 (len : Int)) := h.arr.cell rfl
theorem FBox.first {W : World} {xb : Nat} {nm : ByteArray} {len : Nat} {D : List Int} {first : Nat} (h : FBox W xb nm len D first) : W.cell? ⟨xb, 34, none⟩ = some (.int .i64 (first : Int)) := h.arr.cell (file34 _ _ _ _ h.c)
theorem FBox.dig {W : World} {xb : Nat} {nm : ByteArray} {len : Nat} {D : List Int} {first : Nat} (h : FBox W xb nm len D first) : W.rangeAt xb 2 (nums .u8 D) := by
  intro j v hv
  have hj : j < (nums .u8 D).length := (List.getElem?_eq_some_iff.1 hv).1
  rw [Nat.add_comm]
  refine h.arr.cell ?_
  show (nums .u8 D ++ [.int .i64 (first : Int)])[j]? = some v
  rw [List.getElem?_append_left hj]
  exact hv
theorem zero_slice (w : World) (T : TypeId) : Gy.Arr (w.alloc (.cells #[.int .i64 0, .int .u32 0, .int .u8 0, .int .u8 0, .int .u8 0, .int .u8 0, .int .u8 0, .int .u8 0, .int .u8 0, .int .u8 0, .int .u8 0, .int .u8 0, .int .u8 0, .int .u8 0, .int .u8 0, .int .u8 0, .int .u8 0, .int .u8 0, .int .u8 0, .int .u8 0, .int .u8 0, .int .u8 0, .int .u8 0, .int .u8 0, .int .u8 0, .int .u8 0, .int .u8 0, .int .u8 0, .int .u8 0, .int .u8 0, .int .u8 0, .int .u8 0, .int .u8 0, .int .u8 0] T)) w.heap.size (sliceL 0 0 z32) := Gy.Arr.fresh w _ _ rfl T
theorem zlenS : (sliceL 0 0 z32).length = 34 := by kernel_rfl
theorem box_slice {w : World} {f : SliceR} (hD : f.dig.length = 32) (T : TypeId) : Gy.Arr ((w.alloc (.cells #[.int .i64 0, .int .u32 0, .int .u8 0, .int .u8 0, .int .u8 0, .int .u8 0, .int .u8 0, .int .u8 0, .int .u8 0, .int .u8 0, .int .u8 0, .int .u8 0, .int .u8 0, .int .u8 0, .int .u8 0, .int .u8 0, .int .u8 0, .int .u8 0, .int .u8 0, .int .u8 0, .int .u8 0, .int .u8 0, .int .u8 0, .int .u8 0, .int .u8 0, .int .u8 0, .int .u8 0, .int .u8 0, .int .u8 0, .int .u8 0, .int .u8 0, .int .u8 0, .int .u8 0, .int .u8 0] T)).setCells w.heap.size 0 f.cells) w.heap.size f.cells ∧ Below w.heap.size w ((w.alloc (.cells #[.int .i64 0, .int .u32 0, .int .u8 0, .int .u8 0, .int .u8 0, .int .u8 0, .int .u8 0, .int .u8 0, .int .u8 0, .int .u8 0, .int .u8 0, .int .u8 0, .int .u8 0, .int .u8 0, .int .u8 0, .int .u8 0, .int .u8 0, .int .u8 0, .int .u8 0, .int .u8 0, .int .u8 0, .int .u8 0, .int .u8 0, .int .u8 0, .int .u8 0, .int .u8 0, .int .u8 0, .int .u8 0, .int .u8 0, .int .u8 0, .int .u8 0, .int .u8 0, .int .u8 0, .int .u8 0] T)).setCells w.heap.size 0 f.cells) :=
  ⟨(zero_slice w T).put f.cells ((SliceR.len hD).trans zlenS.symm), Gy.setCells_below (Nat.le_refl _) _ _ (Gy.alloc_below _ _)⟩
set_option maxHeartbeats 8000000 in
set_option maxRecDepth 100000 in
theorem cm_main {LB lo cl s : Nat} {l : List Inp} (hs1 : 1 ≤ s) (hs2 : s ≤ 256) (hn1 : 1 ≤ l.length) (hn2 : l.length ≤ 8) (hsz : lensOf l ≤ 30000) (hnm : ∀ x ∈ l, x.name.size ≤ 30000) (hbb : ∀ x ∈ l, Bytes x.b) (w : World) (G : Path.Good w) (hI : InAt w LB lo l) (hfew : fewB l = true) (h0 : chk2 s l = 0) :
    Calls Tryd.prog 3 #[.slice (some ⟨LB, lo, none⟩) l.length cl, .int .i64 (s : Int)] w fun e w' => e = .returned (.bool true) ∧ Below w.heap.size w w' := by
  have HFm := Lib.hid (formed_cut hs1 hs2 hn1 hn2 hsz hnm h0)
  have HFo := Lib.hid (cutOf_form hs1 l)
  have HI := Lib.hid hI
  have HG := Lib.hid G
  have HN := Lib.hid (And.intro hsz (And.intro hnm hbb))
  have HS := Lib.hid (And.intro hs1 (And.intro hs2 (And.intro hn1 hn2)))
  have HF0 := Lib.hid (And.intro hfew h0)
  have HB := Lib.hid (Below.refl w.heap.size w)
  have hInW : ∀ W, Below w.heap.size w W → InAt W LB lo l := fun W hW => ⟨fun i x hx => cell_kept hW (hI.name i x hx), fun i x hx => by obtain ⟨A, c, g1, g2, g3, g4⟩ := hI.b i x hx; exact ⟨A, c, cell_kept hW g1, g2, Gy.reads_below g3 hW, g4⟩⟩
  have HIW := Lib.hid hInW
  have HFT : Hid (∀ (W : World) (fb fc : Nat) (Al Ar : Option Addr) (lc : Nat), SetRd W fb Al Ar (filesFrom s 0 l) ((srcOf s l).map sliceOf) (srcOf s l) → Calls Tryd.prog 10 #[.agg #[.int .i64 (s : Int), .slice (some ⟨fb, 0, none⟩) l.length fc, .slice Al (cntAll s l) lc]] W fun e w' => e = .returned (.bool true) ∧ Below W.heap.size W w') := Lib.hid fun W fb fc Al Ar lc hR => by
    have hF := HFm.out
    rw [HFo.out] at hF
    have h1 := formed_true hF (fc := fc) (lc := lc) W hR.f hR.l
    rw [show (⟨filesFrom s 0 l, (srcOf s l).map sliceOf, srcOf s l⟩ : Cut).files.length = l.length from filesFrom_length s l 0, show (⟨filesFrom s 0 l, (srcOf s l).map sliceOf, srcOf s l⟩ : Cut).slices.length = cntAll s l from by show ((srcOf s l).map sliceOf).length = _; rw [List.length_map, srcOf_length hs1]] at h1
    exact h1
  clear hfew h0 hI hInW G hsz hnm hbb
  go_enter Tryd.func3, Tryd.ntmps3
  go_wp2_with (first
    | (go_at_call 6; refine (awake_calls _).mono ?_; rintro e w1 ⟨rfl, hd⟩; have HB := Lib.hid (HB.out.trans (hd.mono HB.out.size)); clear hd)
    | (go_at_call 7; refine (few_calls (fun x hx => ⟨Nat.le_trans (by obtain ⟨i, hi⟩ := List.getElem?_of_mem hx; exact lensOf_at hi) (Nat.le_trans HN.out.1 (by decide)), Nat.le_trans (HN.out.2.1 x hx) (by decide)⟩) (by omega) _ (HIW.out _ HB.out)).mono ?_; rw [HF0.out.1]; rintro e w2 ⟨rfl, hd⟩; have HB := Lib.hid (HB.out.trans (hd.mono HB.out.size)); clear hd)
    | (go_at_call 8; refine (make_ok HS.out.1 HS.out.2.1 (HIW.out _ HB.out) HS.out.2.2.1 (by omega) HN.out.1 (fun W hW => by rw [← HF0.out.2]; exact chk_main HS.out.1 HS.out.2.1 HS.out.2.2.1 HS.out.2.2.2 HN.out.1 HN.out.2.1 W (HG.out.below (HB.out.trans (hW.mono HB.out.size))) (HIW.out _ (HB.out.trans (hW.mono HB.out.size))))).mono ?_; rintro e w3 ⟨fb, fc, Al, lc, Ar, rc, rfl, hR, hd⟩; have HB := Lib.hid ((HB.out.trans (hd.mono HB.out.size)).alloc (HB.out.trans (hd.mono HB.out.size)).size (.cells #[.int .i64 (s : Int), .slice (some ⟨fb, 0, none⟩) l.length fc, .slice Al (cntAll s l) lc] 28)); have HX := Lib.hid (Gy.Arr.fresh w3 [.int .i64 (s : Int), .slice (some ⟨fb, 0, none⟩) l.length fc, .slice Al (cntAll s l) lc] _ rfl 28); have HRD := Lib.hid (hR.below (Gy.alloc_below w3 (.cells #[.int .i64 (s : Int), .slice (some ⟨fb, 0, none⟩) l.length fc, .slice Al (cntAll s l) lc] 28))); clear hR hd)
    | (go_at_call 9; refine (wrong_main HS.out.1 HS.out.2.1 HS.out.2.2.1 HS.out.2.2.2 HN.out.1 HN.out.2.1 _ (HIW.out _ HB.out)).mono ?_; rw [HF0.out.2]; rintro e w4 ⟨rfl, hd⟩; have HB := Lib.hid (HB.out.trans (hd.mono HB.out.size)); have HX := Lib.hid (HX.out.below hd); have HRD := Lib.hid (HRD.out.below hd); obtain ⟨sb, hsb⟩ : ∃ sb, sb = w3.heap.size := ⟨_, rfl⟩; rw [← hsb] at HX ⊢; have s0 := HX.out.cell (i := 0) (v := .int .i64 (s : Int)) rfl; have s1 := HX.out.cell (i := 1) (v := .slice (some ⟨fb, 0, none⟩) l.length fc) rfl; have s2 := HX.out.cell (i := 2) (v := .slice Al (cntAll s l) lc) rfl; clear hd hsb)
    | (go_at_call 10; refine (HFT.out _ _ _ _ _ _ HRD.out).mono ?_; rintro e w5 ⟨rfl, hd⟩; have HB := Lib.hid (HB.out.trans (hd.mono HB.out.size)); have HX := Lib.hid (HX.out.below hd); have HRD := Lib.hid (HRD.out.below hd); clear s0 s1 s2; have s0 := HX.out.cell (i := 0) (v := .int .i64 (s : Int)) rfl; have s1 := HX.out.cell (i := 1) (v := .slice (some ⟨fb, 0, none⟩) l.length fc) rfl; have s2 := HX.out.cell (i := 2) (v := .slice Al (cntAll s l) lc) rfl; clear hd))
  clear s0 s1 s2
  obtain ⟨m, hm⟩ : ∃ m, m = cntAll s l := ⟨_, rfl⟩
  have HMm := Lib.hid hm
  have hm64 : m ≤ 64 := by rw [hm]; exact (chk2_zero HF0.out.2).2.2
  obtain ⟨src, hsrc⟩ : ∃ src, src = srcOf s l := ⟨_, rfl⟩
  have HSr := Lib.hid hsrc
  have HLs := Lib.hid (show src.length = m by rw [hsrc, hm]; exact srcOf_length HS.out.1 l)
  rw [← hm] at HX ⊢
  rw [← hsrc] at HRD
  clear hm hsrc HFm HFo HFT
  have HB6 := HB
  have HX6 := HX
  have HR6 := HRD
  clear HB HX HRD
  generalize w5 = w6 at HB6 HX6 HR6 ⊢
  go_loopw [80] (fun v80 w' => ∃ i : Nat, i ≤ m ∧ v80 = .int .i64 (i : Int) ∧ Hid (Below w.heap.size w w') ∧ Hid (Gy.Arr w' sb [.int .i64 (s : Int), .slice (some ⟨fb, 0, none⟩) l.length fc, .slice Al m lc]) ∧ Hid (SetRd w' fb Al Ar (filesFrom s 0 l) (src.map sliceOf) src)) (fun v80 _ => m - (intOf v80).toNat)
  case atStart => exact ⟨0, by omega, rfl, HB6, HX6, HR6⟩
  case round =>
    clear HB6 HX6 HR6
    obtain ⟨i, hi, rfl, HBl, HXl, HRl⟩ := hrel
    by_cases hil : i < m
    · obtain ⟨row, hrow⟩ : ∃ row, src[i]? = some row := ⟨src[i]'(by rw [HLs.out]; exact hil), List.getElem?_eq_getElem (by rw [HLs.out]; exact hil)⟩
      have hmem := List.mem_of_getElem? hrow
      rw [HSr.out] at hmem
      have hbr := chunk_bytes HN.out.2.2 HS.out.1 hmem
      have hlr := chunk_ne HS.out.1 hmem
      have HBr := Lib.hid hbr
      have HLr := Lib.hid (show row.length ≤ 1000000 by have := hlr.2; omega)
      obtain ⟨lb, lo2, rfl, hrl⟩ := HRl.out.l (by rw [List.length_map, HLs.out]; omega)
      obtain ⟨rb, g, c2, rfl, hk, hkc, hkr⟩ := HRl.out.r i row hrow
      have s1 := HXl.out.cell (i := 1) (v := .slice (some ⟨fb, 0, none⟩) l.length fc) rfl
      have s2 := HXl.out.cell (i := 2) (v := .slice (some ⟨lb, lo2, none⟩) m lc) rfl
      have ti : decide ((i : Int) < (m : Int)) = true := decide_eq_true (by omega)
      have HRs : Hid (wr.rangeAt lb (lo2 + i * 34) (sliceOf row).cells) := Lib.hid (range_at (m := 34) (fun x hx => by obtain ⟨r, -, rfl⟩ := List.mem_map.1 hx; exact SliceR.len (Gy.sha_length _)) hrl (by rw [List.getElem?_map, hrow]; rfl))
      have HBx := Lib.hid (box_slice (w := wr) (f := sliceOf row) (Gy.sha_length _) 38)
      have HK := Lib.hid (And.intro hk (And.intro hkc hkr))
      clear hmem hbr hrl hk hkr hrow
      go_wp2_with (first
        | (with_reducible refine wpList_load_mid rfl 38 (.tmp 86) rfl lb (lo2 + i * 34) rfl (sliceOf row).cells _ HRs.out Tryd.underlying38 rfl (by rw [SliceR.len (Gy.sha_length _)]; exact info_slice1) ?_)
        | ((with_reducible refine wpList_store_mid rfl 38 (.tmp 10) (.tmp 87) rfl wr.heap.size 0 (sliceOf row).cells.toArray rfl rfl ((zero_slice wr _).there2 _ ((SliceR.len (Gy.sha_length _)).trans zlenS.symm)) (by rw [List.size_toArray, SliceR.len (Gy.sha_length _)]; exact info_slice1) (all_oneCell_toArray (SliceR.one _)) ?_); generalize World.setCells _ wr.heap.size 0 _ = wb at HBx ⊢; obtain ⟨xb, hxb⟩ : ∃ xb, xb = wr.heap.size := ⟨_, rfl⟩; rw [← hxb] at HBx ⊢; have HWb := Lib.hid (show Below wr.heap.size wr wb by rw [← hxb]; exact HBx.out.2); clear hxb))
      refine Gy.FlowL.flow (by kernel_rfl) (fun i_ => List.getD [(fun v _ => v = .slice (some ⟨rb, 0, none⟩) m rc), (fun v _ => v = .int .i64 (i : Int)), (fun v _ => v = .pointer (some ⟨rb, i, none⟩)), (fun v _ => v = .slice (some ⟨g, 0, none⟩) row.length c2), (fun v _ => v = .int .i64 (row.length : Int)), (fun v _ => v = .pointer (some ⟨xb, 0, none⟩)), (fun v _ => v = .int .i64 (row.length : Int)), (fun v _ => v = .bool false), (fun v _ => v = .bool false), (fun v _ => v = .slice (some ⟨rb, 0, none⟩) m rc), (fun v _ => v = .int .i64 (i : Int)), (fun v _ => v = .pointer (some ⟨rb, i, none⟩)), (fun v _ => v = .slice (some ⟨g, 0, none⟩) row.length c2), (fun v _ => v = .int .u32 ((Gy.crc row : Nat) : Int)), (fun v _ => v = .pointer (some ⟨xb, 1, none⟩)), (fun v _ => v = .int .u32 ((Gy.crc row : Nat) : Int)), (fun v _ => v = .bool false), (fun v _ => v = .bool false), (fun v _ => v = .bool false), (fun v _ => v = .slice (some ⟨rb, 0, none⟩) m rc), (fun v _ => v = .int .i64 (i : Int)), (fun v _ => v = .pointer (some ⟨rb, i, none⟩)), (fun v _ => v = .slice (some ⟨g, 0, none⟩) row.length c2), (fun v _ => v = .agg (nums .u8 (sha row)).toArray), (fun v _ => v = .pointer (some ⟨xb, 2, none⟩)), (fun v _ => v = .agg (nums .u8 (sha row)).toArray), (fun v _ => v = .bool false), (fun v _ => v = .bool false)] i_ (fun _ _ => True)) (fun _ w5 => Below wb.heap.size wb w5) (fun _ _ => True) (by kernel_rfl) (Gy.drew_below _) (Gy.FlowL.mono_list [(fun v _ => v = .slice (some ⟨rb, 0, none⟩) m rc), (fun v _ => v = .int .i64 (i : Int)), (fun v _ => v = .pointer (some ⟨rb, i, none⟩)), (fun v _ => v = .slice (some ⟨g, 0, none⟩) row.length c2), (fun v _ => v = .int .i64 (row.length : Int)), (fun v _ => v = .pointer (some ⟨xb, 0, none⟩)), (fun v _ => v = .int .i64 (row.length : Int)), (fun v _ => v = .bool false), (fun v _ => v = .bool false), (fun v _ => v = .slice (some ⟨rb, 0, none⟩) m rc), (fun v _ => v = .int .i64 (i : Int)), (fun v _ => v = .pointer (some ⟨rb, i, none⟩)), (fun v _ => v = .slice (some ⟨g, 0, none⟩) row.length c2), (fun v _ => v = .int .u32 ((Gy.crc row : Nat) : Int)), (fun v _ => v = .pointer (some ⟨xb, 1, none⟩)), (fun v _ => v = .int .u32 ((Gy.crc row : Nat) : Int)), (fun v _ => v = .bool false), (fun v _ => v = .bool false), (fun v _ => v = .bool false), (fun v _ => v = .slice (some ⟨rb, 0, none⟩) m rc), (fun v _ => v = .int .i64 (i : Int)), (fun v _ => v = .pointer (some ⟨rb, i, none⟩)), (fun v _ => v = .slice (some ⟨g, 0, none⟩) row.length c2), (fun v _ => v = .agg (nums .u8 (sha row)).toArray), (fun v _ => v = .pointer (some ⟨xb, 2, none⟩)), (fun v _ => v = .agg (nums .u8 (sha row)).toArray), (fun v _ => v = .bool false), (fun v _ => v = .bool false)] ?_) (Gy.FlowL.of_allFrom ⟨?_, ?_, ?_, ?_, ?_, ?_, ?_, ?_, ?_, ?_, ?_, ?_, ?_, ?_, ?_, ?_, ?_, ?_, ?_, ?_, ?_, ?_, ?_, ?_, ?_, ?_, ?_, ?_, trivial⟩) ?_
      · exact ⟨fun v w w' h hb => h, fun v w w' h hb => h, fun v w w' h hb => h, fun v w w' h hb => h, fun v w w' h hb => h, fun v w w' h hb => h, fun v w w' h hb => h, fun v w w' h hb => h, fun v w w' h hb => h, fun v w w' h hb => h, fun v w w' h hb => h, fun v w w' h hb => h, fun v w w' h hb => h, fun v w w' h hb => h, fun v w w' h hb => h, fun v w w' h hb => h, fun v w w' h hb => h, fun v w w' h hb => h, fun v w w' h hb => h, fun v w w' h hb => h, fun v w w' h hb => h, fun v w w' h hb => h, fun v w w' h hb => h, fun v w w' h hb => h, fun v w w' h hb => h, fun v w w' h hb => h, fun v w w' h hb => h, fun v w w' h hb => h, trivial⟩
      · intro L a w5 hD
        have e6 : a.eval (.tmp 6) = .slice (some ⟨rb, 0, none⟩) m rc := hD.same.at_other 6 (by kernel_rfl)
        exact Gy.FlowL.step_move rfl rfl (Gy.FlowL.wanted_none rfl) e6 hD.J trivial
      · intro L a w5 hD
        have e9 : a.eval (.tmp 9) = .int .i64 (i : Int) := hD.same.at_other 9 (by kernel_rfl)
        exact Gy.FlowL.step_move rfl rfl (Gy.FlowL.wanted_none rfl) e9 hD.J trivial
      · intro L a w5 hD
        have e88 : a.eval (.tmp 88) = .slice (some ⟨rb, 0, none⟩) m rc := hD.at 0 (by kernel_rfl)
        have e89 : a.eval (.tmp 89) = .int .i64 (i : Int) := hD.at 1 (by kernel_rfl)
        have f88 := e88; simp only [Act.eval, Array.getD_eq_getD_getElem?] at f88
        have f89 := e89; simp only [Act.eval, Array.getD_eq_getD_getElem?] at f89
        refine Gy.FlowL.step_value rfl (Gy.FlowL.wanted_none rfl) (v := .pointer (some ⟨rb, i, none⟩)) (w1 := w5) ?_ rfl hD.J trivial
        first | (simp only [execOp]; go_simp; done) | (simp only [execOp, e88, e89]; go_simp)
      · intro L a w5 hD
        have e90 : a.eval (.tmp 90) = .pointer (some ⟨rb, i, none⟩) := hD.at 2 (by kernel_rfl)
        have hcell : w5.cell? ⟨rb, i, none⟩ = some (.slice (some ⟨g, 0, none⟩) row.length c2) := cell_kept (HWb.out.trans (hD.J.mono HWb.out.size)) HK.out.1
        have f90 := e90; simp only [Act.eval, Array.getD_eq_getD_getElem?] at f90
        refine Gy.FlowL.step_value rfl (Gy.FlowL.wanted_none rfl) (v := .slice (some ⟨g, 0, none⟩) row.length c2) (w1 := w5) ?_ rfl hD.J trivial
        first | (simp only [execOp]; go_simp; done) | (simp only [execOp, e90]; go_simp)
      · intro L a w5 hD
        have e91 : a.eval (.tmp 91) = .slice (some ⟨g, 0, none⟩) row.length c2 := hD.at 3 (by kernel_rfl)
        have f91 := e91; simp only [Act.eval, Array.getD_eq_getD_getElem?] at f91
        refine Gy.FlowL.step_value rfl (Gy.FlowL.wanted_none rfl) (v := .int .i64 (row.length : Int)) (w1 := w5) ?_ rfl hD.J trivial
        first | (simp only [execOp]; go_simp; done) | (simp only [execOp, e91]; go_simp)
      · intro L a w5 hD
        have e10 : a.eval (.tmp 10) = .pointer (some ⟨xb, 0, none⟩) := hD.same.at_other 10 (by kernel_rfl)
        have f10 := e10; simp only [Act.eval, Array.getD_eq_getD_getElem?] at f10
        refine Gy.FlowL.step_value rfl (Gy.FlowL.wanted_none rfl) (v := .pointer (some ⟨xb, 0, none⟩)) (w1 := w5) ?_ rfl hD.J trivial
        first | (simp only [execOp]; go_simp; done) | (simp only [execOp, e10]; go_simp)
      · intro L a w5 hD
        have e93 : a.eval (.tmp 93) = .pointer (some ⟨xb, 0, none⟩) := hD.at 5 (by kernel_rfl)
        have hcell : w5.cell? ⟨xb, 0, none⟩ = some (.int .i64 (row.length : Int)) := (HBx.out.1.below hD.J).cell rfl
        have f93 := e93; simp only [Act.eval, Array.getD_eq_getD_getElem?] at f93
        refine Gy.FlowL.step_value rfl (Gy.FlowL.wanted_none rfl) (v := .int .i64 (row.length : Int)) (w1 := w5) ?_ rfl hD.J trivial
        first | (simp only [execOp]; go_simp; done) | (simp only [execOp, e93]; go_simp)
      · intro L a w5 hD
        have e92 : a.eval (.tmp 92) = .int .i64 (row.length : Int) := hD.at 4 (by kernel_rfl)
        have e94 : a.eval (.tmp 94) = .int .i64 (row.length : Int) := hD.at 6 (by kernel_rfl)
        have f92 := e92; simp only [Act.eval, Array.getD_eq_getD_getElem?] at f92
        have f94 := e94; simp only [Act.eval, Array.getD_eq_getD_getElem?] at f94
        refine Gy.FlowL.step_value rfl (Gy.FlowL.wanted_none rfl) (v := .bool false) (w1 := w5) ?_ rfl hD.J trivial
        first | (simp only [execOp]; go_simp; done) | (simp only [execOp, e92, e94]; go_simp)
      · intro L a w5 hD
        have e95 : a.eval (.tmp 95) = .bool false := hD.at 7 (by kernel_rfl)
        exact Gy.FlowL.step_move rfl rfl (Gy.FlowL.wanted_none rfl) e95 hD.J trivial
      · intro L a w5 hD
        have e6 : a.eval (.tmp 6) = .slice (some ⟨rb, 0, none⟩) m rc := hD.same.at_other 6 (by kernel_rfl)
        exact Gy.FlowL.step_move rfl rfl (Gy.FlowL.wanted_some (g := 8) (b := false) rfl (hD.at 8 (by kernel_rfl))) e6 hD.J trivial
      · intro L a w5 hD
        have e9 : a.eval (.tmp 9) = .int .i64 (i : Int) := hD.same.at_other 9 (by kernel_rfl)
        exact Gy.FlowL.step_move rfl rfl (Gy.FlowL.wanted_some (g := 8) (b := false) rfl (hD.at 8 (by kernel_rfl))) e9 hD.J trivial
      · intro L a w5 hD
        have e97 : a.eval (.tmp 97) = .slice (some ⟨rb, 0, none⟩) m rc := hD.at 9 (by kernel_rfl)
        have e98 : a.eval (.tmp 98) = .int .i64 (i : Int) := hD.at 10 (by kernel_rfl)
        have f97 := e97; simp only [Act.eval, Array.getD_eq_getD_getElem?] at f97
        have f98 := e98; simp only [Act.eval, Array.getD_eq_getD_getElem?] at f98
        refine Gy.FlowL.step_value rfl (Gy.FlowL.wanted_some (g := 8) (b := false) rfl (hD.at 8 (by kernel_rfl))) (v := .pointer (some ⟨rb, i, none⟩)) (w1 := w5) ?_ rfl hD.J trivial
        first | (simp only [execOp]; go_simp; done) | (simp only [execOp, e97, e98]; go_simp)
      · intro L a w5 hD
        have e99 : a.eval (.tmp 99) = .pointer (some ⟨rb, i, none⟩) := hD.at 11 (by kernel_rfl)
        have hcell : w5.cell? ⟨rb, i, none⟩ = some (.slice (some ⟨g, 0, none⟩) row.length c2) := cell_kept (HWb.out.trans (hD.J.mono HWb.out.size)) HK.out.1
        have f99 := e99; simp only [Act.eval, Array.getD_eq_getD_getElem?] at f99
        refine Gy.FlowL.step_value rfl (Gy.FlowL.wanted_some (g := 8) (b := false) rfl (hD.at 8 (by kernel_rfl))) (v := .slice (some ⟨g, 0, none⟩) row.length c2) (w1 := w5) ?_ rfl hD.J trivial
        first | (simp only [execOp]; go_simp; done) | (simp only [execOp, e99]; go_simp)
      · intro L a w5 hD
        have e100 : a.eval (.tmp 100) = .slice (some ⟨g, 0, none⟩) row.length c2 := hD.at 12 (by kernel_rfl)
        refine Gy.FlowL.step_call rfl (args := #[.slice (some ⟨g, 0, none⟩) row.length c2]) (Gy.FlowL.wanted_some (g := 8) (b := false) rfl (hD.at 8 (by kernel_rfl))) Tryd.func11 (by kernel_rfl) (by kernel_rfl) rfl (by simp only [List.map_toArray, List.map_cons, List.map_nil, e100]) ?_
        have hJ := hD.J
        exact (rcrc_calls _ c2 row w5 (Gy.reads_below HK.out.2.2 (HWb.out.trans (hJ.mono HWb.out.size))) HK.out.2.1 HBr.out HLr.out).mono fun e w6 h => ⟨_, h.1, rfl, hJ.trans (h.2.mono hJ.size), trivial⟩
      · intro L a w5 hD
        have e10 : a.eval (.tmp 10) = .pointer (some ⟨xb, 0, none⟩) := hD.same.at_other 10 (by kernel_rfl)
        have f10 := e10; simp only [Act.eval, Array.getD_eq_getD_getElem?] at f10
        refine Gy.FlowL.step_value rfl (Gy.FlowL.wanted_some (g := 8) (b := false) rfl (hD.at 8 (by kernel_rfl))) (v := .pointer (some ⟨xb, 1, none⟩)) (w1 := w5) ?_ rfl hD.J trivial
        first | (simp only [execOp]; go_simp; done) | (simp only [execOp, e10]; go_simp)
      · intro L a w5 hD
        have e102 : a.eval (.tmp 102) = .pointer (some ⟨xb, 1, none⟩) := hD.at 14 (by kernel_rfl)
        have hcell : w5.cell? ⟨xb, 1, none⟩ = some (.int .u32 ((Gy.crc row : Nat) : Int)) := (HBx.out.1.below hD.J).cell rfl
        have f102 := e102; simp only [Act.eval, Array.getD_eq_getD_getElem?] at f102
        refine Gy.FlowL.step_value rfl (Gy.FlowL.wanted_some (g := 8) (b := false) rfl (hD.at 8 (by kernel_rfl))) (v := .int .u32 ((Gy.crc row : Nat) : Int)) (w1 := w5) ?_ rfl hD.J trivial
        first | (simp only [execOp]; go_simp; done) | (simp only [execOp, e102]; go_simp)
      · intro L a w5 hD
        have e101 : a.eval (.tmp 101) = .int .u32 ((Gy.crc row : Nat) : Int) := hD.at 13 (by kernel_rfl)
        have e103 : a.eval (.tmp 103) = .int .u32 ((Gy.crc row : Nat) : Int) := hD.at 15 (by kernel_rfl)
        have f101 := e101; simp only [Act.eval, Array.getD_eq_getD_getElem?] at f101
        have f103 := e103; simp only [Act.eval, Array.getD_eq_getD_getElem?] at f103
        refine Gy.FlowL.step_value rfl (Gy.FlowL.wanted_some (g := 8) (b := false) rfl (hD.at 8 (by kernel_rfl))) (v := .bool false) (w1 := w5) ?_ rfl hD.J trivial
        first | (simp only [execOp]; go_simp; done) | (simp only [execOp, e101, e103]; go_simp)
      · intro L a w5 hD
        have e96 : a.eval (.tmp 96) = .bool false := hD.at 8 (by kernel_rfl)
        have e104 : a.eval (.tmp 104) = .bool false := hD.at 16 (by kernel_rfl)
        exact Gy.FlowL.step_pick (b := false) rfl rfl (Gy.FlowL.wanted_none rfl) e96 e104 hD.J trivial
      · intro L a w5 hD
        have e105 : a.eval (.tmp 105) = .bool false := hD.at 17 (by kernel_rfl)
        exact Gy.FlowL.step_move rfl rfl (Gy.FlowL.wanted_none rfl) e105 hD.J trivial
      · intro L a w5 hD
        have e6 : a.eval (.tmp 6) = .slice (some ⟨rb, 0, none⟩) m rc := hD.same.at_other 6 (by kernel_rfl)
        exact Gy.FlowL.step_move rfl rfl (Gy.FlowL.wanted_some (g := 18) (b := false) rfl (hD.at 18 (by kernel_rfl))) e6 hD.J trivial
      · intro L a w5 hD
        have e9 : a.eval (.tmp 9) = .int .i64 (i : Int) := hD.same.at_other 9 (by kernel_rfl)
        exact Gy.FlowL.step_move rfl rfl (Gy.FlowL.wanted_some (g := 18) (b := false) rfl (hD.at 18 (by kernel_rfl))) e9 hD.J trivial
      · intro L a w5 hD
        have e107 : a.eval (.tmp 107) = .slice (some ⟨rb, 0, none⟩) m rc := hD.at 19 (by kernel_rfl)
        have e108 : a.eval (.tmp 108) = .int .i64 (i : Int) := hD.at 20 (by kernel_rfl)
        have f107 := e107; simp only [Act.eval, Array.getD_eq_getD_getElem?] at f107
        have f108 := e108; simp only [Act.eval, Array.getD_eq_getD_getElem?] at f108
        refine Gy.FlowL.step_value rfl (Gy.FlowL.wanted_some (g := 18) (b := false) rfl (hD.at 18 (by kernel_rfl))) (v := .pointer (some ⟨rb, i, none⟩)) (w1 := w5) ?_ rfl hD.J trivial
        first | (simp only [execOp]; go_simp; done) | (simp only [execOp, e107, e108]; go_simp)
      · intro L a w5 hD
        have e109 : a.eval (.tmp 109) = .pointer (some ⟨rb, i, none⟩) := hD.at 21 (by kernel_rfl)
        have hcell : w5.cell? ⟨rb, i, none⟩ = some (.slice (some ⟨g, 0, none⟩) row.length c2) := cell_kept (HWb.out.trans (hD.J.mono HWb.out.size)) HK.out.1
        have f109 := e109; simp only [Act.eval, Array.getD_eq_getD_getElem?] at f109
        refine Gy.FlowL.step_value rfl (Gy.FlowL.wanted_some (g := 18) (b := false) rfl (hD.at 18 (by kernel_rfl))) (v := .slice (some ⟨g, 0, none⟩) row.length c2) (w1 := w5) ?_ rfl hD.J trivial
        first | (simp only [execOp]; go_simp; done) | (simp only [execOp, e109]; go_simp)
      · intro L a w5 hD
        have e110 : a.eval (.tmp 110) = .slice (some ⟨g, 0, none⟩) row.length c2 := hD.at 22 (by kernel_rfl)
        refine Gy.FlowL.step_call rfl (args := #[.slice (some ⟨g, 0, none⟩) row.length c2]) (Gy.FlowL.wanted_some (g := 18) (b := false) rfl (hD.at 18 (by kernel_rfl))) Tryd.func12 (by kernel_rfl) (by kernel_rfl) rfl (by simp only [List.map_toArray, List.map_cons, List.map_nil, e110]) ?_
        have hJ := hD.J
        exact (Dig.ref_calls _ _ c2 row w5 (Gy.reads_below HK.out.2.2 (HWb.out.trans (hJ.mono HWb.out.size))) HBr.out HLr.out).mono fun e w6 h => ⟨_, h.1, rfl, hJ.trans (h.2.mono hJ.size), trivial⟩
      · intro L a w5 hD
        have e10 : a.eval (.tmp 10) = .pointer (some ⟨xb, 0, none⟩) := hD.same.at_other 10 (by kernel_rfl)
        have f10 := e10; simp only [Act.eval, Array.getD_eq_getD_getElem?] at f10
        refine Gy.FlowL.step_value rfl (Gy.FlowL.wanted_some (g := 18) (b := false) rfl (hD.at 18 (by kernel_rfl))) (v := .pointer (some ⟨xb, 2, none⟩)) (w1 := w5) ?_ rfl hD.J trivial
        first | (simp only [execOp]; go_simp; done) | (simp only [execOp, e10]; go_simp)
      · intro L a w5 hD
        have e112 : a.eval (.tmp 112) = .pointer (some ⟨xb, 2, none⟩) := hD.at 24 (by kernel_rfl)
        have hl := run_loadAt_mid (P := Tryd.prog) w5 xb 2 36 (nums .u8 (sha row)) _ (slice_range (HBx.out.1.below hD.J)) Tryd.underlying36 rfl (by rw [Gy.nums_len, Gy.sha_length]; exact info_d32)
        refine Gy.FlowL.step_value rfl (Gy.FlowL.wanted_some (g := 18) (b := false) rfl (hD.at 18 (by kernel_rfl))) (v := .agg ((nums .u8 (sha row))).toArray) (w1 := w5) ?_ rfl hD.J trivial
        simp only [execOp, e112, Sem.run_bind, hl, Result.andThen_ok]
        rfl
      · intro L a w5 hD
        have e111 : a.eval (.tmp 111) = .agg (nums .u8 (sha row)).toArray := hD.at 23 (by kernel_rfl)
        have e113 : a.eval (.tmp 113) = .agg (nums .u8 (sha row)).toArray := hD.at 25 (by kernel_rfl)
        have hq := fun w => neq_arr w (sha row) (Gy.sha_length _)
        refine Gy.FlowL.step_value rfl (Gy.FlowL.wanted_some (g := 18) (b := false) rfl (hD.at 18 (by kernel_rfl))) (v := .bool false) (w1 := w5) ?_ rfl hD.J trivial
        simp only [execOp, e111, e113, Sem.run_bind, hq]
        rfl
      · intro L a w5 hD
        have e106 : a.eval (.tmp 106) = .bool false := hD.at 18 (by kernel_rfl)
        have e114 : a.eval (.tmp 114) = .bool false := hD.at 26 (by kernel_rfl)
        exact Gy.FlowL.step_pick (b := false) rfl rfl (Gy.FlowL.wanted_none rfl) e106 e114 hD.J trivial
      · intro L a w5 hs hJ hL hv
        have h115 : Gy.FlowL.At _ a 27 = .bool false := hv 27 (by decide)
        have hp := Gy.FlowL.same_puts (by kernel_rfl) hs
        generalize Gy.FlowL.At _ a = vs at hp h115
        clear hv hs hL
        subst hp
        simp only [Gy.FlowL.puts, Act.put, List.setIfInBounds_toArray, List.set_cons_zero, List.set_cons_succ]
        rw [h115]
        have HBn := Lib.hid (HWb.out.trans (hJ.mono HWb.out.size))
        clear hJ
        go_wp2
        refine ⟨⟨i + 1, by omega, by norm_cast, Lib.hid (HBl.out.trans (HBn.out.mono HBl.out.size)), Lib.hid (HXl.out.below HBn.out), Lib.hid (HRl.out.below HBn.out)⟩, ?_⟩
        simp only [intOf]; omega
    · obtain rfl : i = m := by omega
      have ti : decide ((i : Int) < (i : Int)) = false := by simp
      go_wp2
      have HB6 := HBl
      have HX6 := HXl
      have HR6 := HRl
      clear HBl HXl HRl
      generalize wr = w7 at HB6 HX6 HR6 ⊢
      go_loopw [119] (fun v119 w' => ∃ j : Nat, j ≤ l.length ∧ v119 = .int .i64 (j : Int) ∧ Hid (Below w.heap.size w w') ∧ Hid (Gy.Arr w' sb [.int .i64 (s : Int), .slice (some ⟨fb, 0, none⟩) l.length fc, .slice Al i lc]) ∧ Hid (SetRd w' fb Al Ar (filesFrom s 0 l) (src.map sliceOf) src)) (fun v119 _ => l.length - (intOf v119).toNat)
      case atStart => exact ⟨0, by omega, rfl, HB6, HX6, HR6⟩
      case round =>
        clear HB6 HX6 HR6
        obtain ⟨j, hj, rfl, HBm, HXm, HRm⟩ := hrel
        by_cases hjl : j < l.length
        · obtain ⟨x, hx⟩ : ∃ x, l[j]? = some x := ⟨l[j], List.getElem?_eq_getElem hjl⟩
          have hf : (filesFrom s 0 l)[j]? = some ⟨x.name, x.b.length, sha x.b, ((cntAll s (l.take j) : Nat) : Int)⟩ := by
            obtain ⟨y, hy, e⟩ : ∃ x', l[j]? = some x' ∧ (filesFrom s 0 l)[j]? = some ⟨x'.name, x'.b.length, sha x'.b, ((0 + cntAll s (l.take j) : Nat) : Int)⟩ := by
              obtain ⟨f, hf⟩ : ∃ f, (filesFrom s 0 l)[j]? = some f := ⟨_, List.getElem?_eq_getElem (by rw [filesFrom_length]; exact hjl)⟩
              obtain ⟨y, hy, e⟩ := filesFrom_at s l 0 j f hf
              exact ⟨y, hy, by rw [hf, e]⟩
            rw [hx] at hy
            injection hy with hy
            rw [e, ← hy, Nat.zero_add]
          have hmem := List.mem_of_getElem? hx
          have HMem := Lib.hid hmem
          have hxl : x.b.length ≤ 30000 := Nat.le_trans (lensOf_at hx) HN.out.1
          have HXX := Lib.hid (lensOf_at hx)
          have s1 := HXm.out.cell (i := 1) (v := .slice (some ⟨fb, 0, none⟩) l.length fc) rfl
          have tj : decide ((j : Int) < (l.length : Int)) = true := decide_eq_true (by omega)
          obtain ⟨f, hfe⟩ : ∃ f : FileR, f = ⟨x.name, x.b.length, sha x.b, ((cntAll s (l.take j) : Nat) : Int)⟩ := ⟨_, rfl⟩
          rw [← hfe] at hf
          have HFE := Lib.hid hfe
          have hfd : f.dig.length = 32 := by rw [hfe]; exact Gy.sha_length _
          have HFD := Lib.hid hfd
          have HRf : Hid (wr.rangeAt fb (j * 35) f.cells) := Lib.hid (by
            have h := range_at (m := 35) (fun y hy => by obtain ⟨k, hk⟩ := List.getElem?_of_mem hy; obtain ⟨z, _, rfl⟩ := filesFrom_at s l 0 k y hk; exact FileR.len (Gy.sha_length _)) HRm.out.f hf
            rwa [Nat.zero_add] at h)
          have HBx := Lib.hid (box_file (w := wr) (f := f) hfd 43)
          obtain ⟨nx, hnx⟩ : ∃ nx, nx = cntAll s (l.take j) := ⟨_, rfl⟩
          obtain ⟨n, hn⟩ : ∃ n, n = cnt s x.b.length := ⟨_, rfl⟩
          have HNX := Lib.hid (And.intro hnx (And.intro hn hx))
          have hnn : nx + n ≤ i := by
            have hle := cntAll_drop (s := s) hx
            have : cntAll s l = cntAll s (l.take (j + 1)) + cntAll s (l.drop (j + 1)) := by
              unfold cntAll
              rw [← List.sum_append, ← List.map_append, List.take_append_drop]
            have h3 := HMm.out
            omega
          rw [← hnx] at hfe
          clear hf hmem hx hn hnx hfd
          have HZf := Lib.hid hfe
          clear hfe
          go_wp2_with (first
            | (with_reducible refine wpList_load_mid rfl 43 (.tmp 125) rfl fb (j * 35) rfl f.cells _ HRf.out Tryd.underlying43 rfl (by rw [FileR.len HFD.out]; exact info_file1) ?_)
            | ((with_reducible refine wpList_store_mid rfl 43 (.tmp 12) (.tmp 126) rfl wr.heap.size 0 f.cells.toArray rfl rfl ((zero_box wr _).there2 _ ((FileR.len HFD.out).trans zlen.symm)) (by rw [List.size_toArray, FileR.len HFD.out]; exact info_file1) (all_oneCell_toArray (FileR.one f)) ?_); generalize World.setCells _ wr.heap.size 0 _ = wb at HBx ⊢; obtain ⟨xb, hxb⟩ : ∃ xb, xb = wr.heap.size := ⟨_, rfl⟩; rw [← hxb] at HBx ⊢; have HWb := Lib.hid (show Below wr.heap.size wr wb by rw [← hxb]; exact HBx.out.2); have HXF : Hid (FBox wb xb x.name x.b.length (sha x.b) nx) := Lib.hid ⟨by have h := HBx.out.1; rw [HZf.out] at h; exact h, Gy.sha_length _⟩; have x1 := HXF.out.size; clear hxb s1)
            | (go_at_call 13; refine (rcount_calls HS.out.1 HS.out.2.1 (Nat.le_trans hxl (by decide)) _).mono ?_; rw [← HNX.out.2.1]; rintro e w8 ⟨rfl, hd⟩; have HWc := Lib.hid (HWb.out.trans (hd.mono HWb.out.size)); have HXF := Lib.hid (HXF.out.below hd); clear hd x1))
          have HB8 := Lib.hid (HBm.out.trans (HWc.out.mono HBm.out.size))
          have HX8 := Lib.hid (HXm.out.below HWc.out)
          have HR8 := Lib.hid (HRm.out.below HWc.out)
          have HF8 := HXF
          clear HBm HXm HRm HXF HWb HWc HBx HRf
          have hfl := chunks_flat HS.out.1 x.b.length x.b (Nat.le_refl _)
          have HFl := Lib.hid hfl
          have HLn : Hid ((chunks s x.b).length = n) := Lib.hid (by rw [chunks_length HS.out.1 _ _ (Nat.le_refl _)]; exact HNX.out.2.1.symm)
          clear hfl
          generalize w8 = w9 at HB8 HX8 HR8 HF8 ⊢
          go_loopw [131, 13] (fun v131 v13 w' => ∃ k : Nat, k ≤ n ∧ v131 = .int .i64 (k : Int) ∧ v13 = .string (strOfNums ((chunks s x.b).take k).flatten) ∧ Hid (Below w.heap.size w w') ∧ Hid (Gy.Arr w' sb [.int .i64 (s : Int), .slice (some ⟨fb, 0, none⟩) l.length fc, .slice Al i lc]) ∧ Hid (SetRd w' fb Al Ar (filesFrom s 0 l) (src.map sliceOf) src) ∧ Hid (FBox w' xb x.name x.b.length (sha x.b) nx)) (fun v131 _ _ => n - (intOf v131).toNat)
          case atStart => exact ⟨0, by omega, rfl, rfl, HB8, HX8, HR8, HF8⟩
          case round =>
            clear HB8 HX8 HR8 HF8
            obtain ⟨k, hkn, rfl, rfl, HBk, HXk, HRk, HFk⟩ := hrel
            by_cases hkl : k < n
            · obtain ⟨row, hrw⟩ : ∃ row, row = (x.b.drop (k * s)).take s := ⟨_, rfl⟩
              have hck : (chunks s x.b)[k]? = some row := by rw [hrw]; exact chunks_at HS.out.1 k x.b (by rw [← HNX.out.2.1]; exact hkl)
              have hsr : src[nx + k]? = some row := by rw [HSr.out, HNX.out.1, srcOf_at HS.out.1 l j x HNX.out.2.2 k (by rw [← HNX.out.2.1]; exact hkl)]; exact hck
              obtain ⟨rb, g, c2, rfl, hk, -, hkr⟩ := HRk.out.r (nx + k) row hsr
              have htk : ((chunks s x.b).take (k + 1)).flatten = ((chunks s x.b).take k).flatten ++ row := by
                obtain ⟨h1, h2⟩ := List.getElem?_eq_some_iff.1 hck
                rw [List.take_succ_eq_append_getElem h1, h2]; simp
              have HTK : Hid (strOfNums ((chunks s x.b).take (k + 1)).flatten = strOfNums ((chunks s x.b).take k).flatten ++ strOfNums row) := Lib.hid (by rw [htk, str_app])
              have hz1 : (strOfNums ((chunks s x.b).take k).flatten).size ≤ 30000 := by
                rw [strOfNums_size]
                have h1 : (chunks s x.b).flatten = ((chunks s x.b).take k).flatten ++ ((chunks s x.b).drop k).flatten := by rw [← List.flatten_append, List.take_append_drop]
                have h2 := congrArg List.length h1
                rw [HFl.out, List.length_append] at h2
                omega
              have hz2 : (strOfNums row).size ≤ 256 := by rw [strOfNums_size, hrw, List.length_take]; have := HS.out.2.1; omega
              have hcv := conv_of (c := c2) hkr
              have x34 := HFk.out.first
              have tk : decide ((k : Int) < (n : Int)) = true := decide_eq_true (by omega)
              generalize strOfNums ((chunks s x.b).take k).flatten = S1 at hz1 HTK ⊢
              generalize strOfNums row = S2 at hz2 HTK hcv
              clear hrw hck hsr hkr htk
              go_wp2
              refine ⟨⟨k + 1, by omega, by norm_cast, by rw [HTK.out], HBk, HXk, HRk, HFk⟩, ?_⟩
              simp only [intOf]; omega
            · obtain rfl : k = n := by omega
              have tk : decide ((k : Int) < (k : Int)) = false := by simp
              rw [List.take_of_length_le (by rw [HLn.out]; exact Nat.le_refl _), HFl.out]
              go_wp2
              obtain ⟨A, c, b1, b2, b3, b4⟩ := (HIW.out wr HBk.out).b j x HNX.out.2.2
              have HCx := Lib.hid (And.intro ((HIW.out wr HBk.out).name j x HNX.out.2.2) (And.intro b1 (And.intro b2 (And.intro b3 b4))))
              have HLx := Lib.hid (show x.b.length ≤ 1000000 by omega)
              clear b1 b2 b3 b4
              refine Gy.FlowL.flow (by kernel_rfl) (fun i_ => List.getD [(fun v _ => v = .pointer (some ⟨xb, 0, none⟩)), (fun v _ => v = .string x.name), (fun v _ => v = .slice (some ⟨LB, lo, none⟩) l.length cl), (fun v _ => v = .int .i64 (j : Int)), (fun v _ => v = .pointer (some ⟨LB, lo + j * 2, none⟩)), (fun v _ => v = .pointer (some ⟨LB, lo + j * 2, none⟩)), (fun v _ => v = .string x.name), (fun v _ => v = .bool false), (fun v _ => v = .bool false), (fun v _ => v = .pointer (some ⟨xb, 1, none⟩)), (fun v _ => v = .int .i64 (x.b.length : Int)), (fun v _ => v = .slice (some ⟨LB, lo, none⟩) l.length cl), (fun v _ => v = .int .i64 (j : Int)), (fun v _ => v = .pointer (some ⟨LB, lo + j * 2, none⟩)), (fun v _ => v = .pointer (some ⟨LB, lo + j * 2 + 1, none⟩)), (fun v _ => v = .slice A x.b.length c), (fun v _ => v = .int .i64 (x.b.length : Int)), (fun v _ => v = .bool false), (fun v _ => v = .bool false), (fun v _ => v = .bool false), (fun v _ => v = .string (strOfNums x.b)), (fun v _ => v = .slice (some ⟨LB, lo, none⟩) l.length cl), (fun v _ => v = .int .i64 (j : Int)), (fun v _ => v = .pointer (some ⟨LB, lo + j * 2, none⟩)), (fun v _ => v = .pointer (some ⟨LB, lo + j * 2 + 1, none⟩)), (fun v _ => v = .slice A x.b.length c), (fun v _ => v = .string (strOfNums x.b)), (fun v _ => v = .bool false), (fun v _ => v = .bool false), (fun v _ => v = .bool false), (fun v _ => v = .pointer (some ⟨xb, 2, none⟩)), (fun v _ => v = .agg (nums .u8 (sha x.b)).toArray), (fun v _ => v = .slice (some ⟨LB, lo, none⟩) l.length cl), (fun v _ => v = .int .i64 (j : Int)), (fun v _ => v = .pointer (some ⟨LB, lo + j * 2, none⟩)), (fun v _ => v = .pointer (some ⟨LB, lo + j * 2 + 1, none⟩)), (fun v _ => v = .slice A x.b.length c), (fun v _ => v = .agg (nums .u8 (sha x.b)).toArray), (fun v _ => v = .bool false), (fun v _ => v = .bool false)] i_ (fun _ _ => True)) (fun _ w5 => Below wr.heap.size wr w5) (fun _ _ => True) (by kernel_rfl) (Gy.drew_below _) (Gy.FlowL.mono_list [(fun v _ => v = .pointer (some ⟨xb, 0, none⟩)), (fun v _ => v = .string x.name), (fun v _ => v = .slice (some ⟨LB, lo, none⟩) l.length cl), (fun v _ => v = .int .i64 (j : Int)), (fun v _ => v = .pointer (some ⟨LB, lo + j * 2, none⟩)), (fun v _ => v = .pointer (some ⟨LB, lo + j * 2, none⟩)), (fun v _ => v = .string x.name), (fun v _ => v = .bool false), (fun v _ => v = .bool false), (fun v _ => v = .pointer (some ⟨xb, 1, none⟩)), (fun v _ => v = .int .i64 (x.b.length : Int)), (fun v _ => v = .slice (some ⟨LB, lo, none⟩) l.length cl), (fun v _ => v = .int .i64 (j : Int)), (fun v _ => v = .pointer (some ⟨LB, lo + j * 2, none⟩)), (fun v _ => v = .pointer (some ⟨LB, lo + j * 2 + 1, none⟩)), (fun v _ => v = .slice A x.b.length c), (fun v _ => v = .int .i64 (x.b.length : Int)), (fun v _ => v = .bool false), (fun v _ => v = .bool false), (fun v _ => v = .bool false), (fun v _ => v = .string (strOfNums x.b)), (fun v _ => v = .slice (some ⟨LB, lo, none⟩) l.length cl), (fun v _ => v = .int .i64 (j : Int)), (fun v _ => v = .pointer (some ⟨LB, lo + j * 2, none⟩)), (fun v _ => v = .pointer (some ⟨LB, lo + j * 2 + 1, none⟩)), (fun v _ => v = .slice A x.b.length c), (fun v _ => v = .string (strOfNums x.b)), (fun v _ => v = .bool false), (fun v _ => v = .bool false), (fun v _ => v = .bool false), (fun v _ => v = .pointer (some ⟨xb, 2, none⟩)), (fun v _ => v = .agg (nums .u8 (sha x.b)).toArray), (fun v _ => v = .slice (some ⟨LB, lo, none⟩) l.length cl), (fun v _ => v = .int .i64 (j : Int)), (fun v _ => v = .pointer (some ⟨LB, lo + j * 2, none⟩)), (fun v _ => v = .pointer (some ⟨LB, lo + j * 2 + 1, none⟩)), (fun v _ => v = .slice A x.b.length c), (fun v _ => v = .agg (nums .u8 (sha x.b)).toArray), (fun v _ => v = .bool false), (fun v _ => v = .bool false)] ?_) (Gy.FlowL.of_allFrom ⟨?_, ?_, ?_, ?_, ?_, ?_, ?_, ?_, ?_, ?_, ?_, ?_, ?_, ?_, ?_, ?_, ?_, ?_, ?_, ?_, ?_, ?_, ?_, ?_, ?_, ?_, ?_, ?_, ?_, ?_, ?_, ?_, ?_, ?_, ?_, ?_, ?_, ?_, ?_, ?_, trivial⟩) ?_
              · exact ⟨fun v w w' h hb => h, fun v w w' h hb => h, fun v w w' h hb => h, fun v w w' h hb => h, fun v w w' h hb => h, fun v w w' h hb => h, fun v w w' h hb => h, fun v w w' h hb => h, fun v w w' h hb => h, fun v w w' h hb => h, fun v w w' h hb => h, fun v w w' h hb => h, fun v w w' h hb => h, fun v w w' h hb => h, fun v w w' h hb => h, fun v w w' h hb => h, fun v w w' h hb => h, fun v w w' h hb => h, fun v w w' h hb => h, fun v w w' h hb => h, fun v w w' h hb => h, fun v w w' h hb => h, fun v w w' h hb => h, fun v w w' h hb => h, fun v w w' h hb => h, fun v w w' h hb => h, fun v w w' h hb => h, fun v w w' h hb => h, fun v w w' h hb => h, fun v w w' h hb => h, fun v w w' h hb => h, fun v w w' h hb => h, fun v w w' h hb => h, fun v w w' h hb => h, fun v w w' h hb => h, fun v w w' h hb => h, fun v w w' h hb => h, fun v w w' h hb => h, fun v w w' h hb => h, fun v w w' h hb => h, trivial⟩
              · intro L a w5 hD
                have e12 : a.eval (.tmp 12) = .pointer (some ⟨xb, 0, none⟩) := hD.same.at_other 12 (by kernel_rfl)
                have f12 := e12; simp only [Act.eval, Array.getD_eq_getD_getElem?] at f12
                refine Gy.FlowL.step_value rfl (Gy.FlowL.wanted_none rfl) (v := .pointer (some ⟨xb, 0, none⟩)) (w1 := w5) ?_ rfl hD.J trivial
                first | (simp only [execOp]; go_simp; done) | (simp only [execOp, e12]; go_simp)
              · intro L a w5 hD
                have e145 : a.eval (.tmp 145) = .pointer (some ⟨xb, 0, none⟩) := hD.at 0 (by kernel_rfl)
                have hcell : w5.cell? ⟨xb, 0, none⟩ = some (.string x.name) := (HFk.out.below hD.J).name
                have f145 := e145; simp only [Act.eval, Array.getD_eq_getD_getElem?] at f145
                refine Gy.FlowL.step_value rfl (Gy.FlowL.wanted_none rfl) (v := .string x.name) (w1 := w5) ?_ rfl hD.J trivial
                first | (simp only [execOp]; go_simp; done) | (simp only [execOp, e145]; go_simp)
              · intro L a w5 hD
                have e0 : a.eval (.tmp 0) = .slice (some ⟨LB, lo, none⟩) l.length cl := hD.same.at_other 0 (by kernel_rfl)
                exact Gy.FlowL.step_move rfl rfl (Gy.FlowL.wanted_none rfl) e0 hD.J trivial
              · intro L a w5 hD
                have e11 : a.eval (.tmp 11) = .int .i64 (j : Int) := hD.same.at_other 11 (by kernel_rfl)
                exact Gy.FlowL.step_move rfl rfl (Gy.FlowL.wanted_none rfl) e11 hD.J trivial
              · intro L a w5 hD
                have e147 : a.eval (.tmp 147) = .slice (some ⟨LB, lo, none⟩) l.length cl := hD.at 2 (by kernel_rfl)
                have e148 : a.eval (.tmp 148) = .int .i64 (j : Int) := hD.at 3 (by kernel_rfl)
                have f147 := e147; simp only [Act.eval, Array.getD_eq_getD_getElem?] at f147
                have f148 := e148; simp only [Act.eval, Array.getD_eq_getD_getElem?] at f148
                refine Gy.FlowL.step_value rfl (Gy.FlowL.wanted_none rfl) (v := .pointer (some ⟨LB, lo + j * 2, none⟩)) (w1 := w5) ?_ rfl hD.J trivial
                first | (simp only [execOp]; go_simp; done) | (simp only [execOp, e147, e148]; go_simp)
              · intro L a w5 hD
                have e149 : a.eval (.tmp 149) = .pointer (some ⟨LB, lo + j * 2, none⟩) := hD.at 4 (by kernel_rfl)
                have f149 := e149; simp only [Act.eval, Array.getD_eq_getD_getElem?] at f149
                refine Gy.FlowL.step_value rfl (Gy.FlowL.wanted_none rfl) (v := .pointer (some ⟨LB, lo + j * 2, none⟩)) (w1 := w5) ?_ rfl hD.J trivial
                first | (simp only [execOp]; go_simp; done) | (simp only [execOp, e149]; go_simp)
              · intro L a w5 hD
                have e150 : a.eval (.tmp 150) = .pointer (some ⟨LB, lo + j * 2, none⟩) := hD.at 5 (by kernel_rfl)
                have hcell : w5.cell? ⟨LB, lo + j * 2, none⟩ = some (.string x.name) := cell_kept hD.J HCx.out.1
                have f150 := e150; simp only [Act.eval, Array.getD_eq_getD_getElem?] at f150
                refine Gy.FlowL.step_value rfl (Gy.FlowL.wanted_none rfl) (v := .string x.name) (w1 := w5) ?_ rfl hD.J trivial
                first | (simp only [execOp]; go_simp; done) | (simp only [execOp, e150]; go_simp)
              · intro L a w5 hD
                have e146 : a.eval (.tmp 146) = .string x.name := hD.at 1 (by kernel_rfl)
                have e151 : a.eval (.tmp 151) = .string x.name := hD.at 6 (by kernel_rfl)
                have f146 := e146; simp only [Act.eval, Array.getD_eq_getD_getElem?] at f146
                have f151 := e151; simp only [Act.eval, Array.getD_eq_getD_getElem?] at f151
                refine Gy.FlowL.step_value rfl (Gy.FlowL.wanted_none rfl) (v := .bool false) (w1 := w5) ?_ rfl hD.J trivial
                first | (simp only [execOp]; go_simp; done) | (simp only [execOp, e146, e151]; go_simp)
              · intro L a w5 hD
                have e152 : a.eval (.tmp 152) = .bool false := hD.at 7 (by kernel_rfl)
                exact Gy.FlowL.step_move rfl rfl (Gy.FlowL.wanted_none rfl) e152 hD.J trivial
              · intro L a w5 hD
                have e12 : a.eval (.tmp 12) = .pointer (some ⟨xb, 0, none⟩) := hD.same.at_other 12 (by kernel_rfl)
                have f12 := e12; simp only [Act.eval, Array.getD_eq_getD_getElem?] at f12
                refine Gy.FlowL.step_value rfl (Gy.FlowL.wanted_some (g := 8) (b := false) rfl (hD.at 8 (by kernel_rfl))) (v := .pointer (some ⟨xb, 1, none⟩)) (w1 := w5) ?_ rfl hD.J trivial
                first | (simp only [execOp]; go_simp; done) | (simp only [execOp, e12]; go_simp)
              · intro L a w5 hD
                have e154 : a.eval (.tmp 154) = .pointer (some ⟨xb, 1, none⟩) := hD.at 9 (by kernel_rfl)
                have hcell : w5.cell? ⟨xb, 1, none⟩ = some (.int .i64 (x.b.length : Int)) := (HFk.out.below hD.J).size
                have f154 := e154; simp only [Act.eval, Array.getD_eq_getD_getElem?] at f154
                refine Gy.FlowL.step_value rfl (Gy.FlowL.wanted_some (g := 8) (b := false) rfl (hD.at 8 (by kernel_rfl))) (v := .int .i64 (x.b.length : Int)) (w1 := w5) ?_ rfl hD.J trivial
                first | (simp only [execOp]; go_simp; done) | (simp only [execOp, e154]; go_simp)
              · intro L a w5 hD
                have e0 : a.eval (.tmp 0) = .slice (some ⟨LB, lo, none⟩) l.length cl := hD.same.at_other 0 (by kernel_rfl)
                exact Gy.FlowL.step_move rfl rfl (Gy.FlowL.wanted_some (g := 8) (b := false) rfl (hD.at 8 (by kernel_rfl))) e0 hD.J trivial
              · intro L a w5 hD
                have e11 : a.eval (.tmp 11) = .int .i64 (j : Int) := hD.same.at_other 11 (by kernel_rfl)
                exact Gy.FlowL.step_move rfl rfl (Gy.FlowL.wanted_some (g := 8) (b := false) rfl (hD.at 8 (by kernel_rfl))) e11 hD.J trivial
              · intro L a w5 hD
                have e156 : a.eval (.tmp 156) = .slice (some ⟨LB, lo, none⟩) l.length cl := hD.at 11 (by kernel_rfl)
                have e157 : a.eval (.tmp 157) = .int .i64 (j : Int) := hD.at 12 (by kernel_rfl)
                have f156 := e156; simp only [Act.eval, Array.getD_eq_getD_getElem?] at f156
                have f157 := e157; simp only [Act.eval, Array.getD_eq_getD_getElem?] at f157
                refine Gy.FlowL.step_value rfl (Gy.FlowL.wanted_some (g := 8) (b := false) rfl (hD.at 8 (by kernel_rfl))) (v := .pointer (some ⟨LB, lo + j * 2, none⟩)) (w1 := w5) ?_ rfl hD.J trivial
                first | (simp only [execOp]; go_simp; done) | (simp only [execOp, e156, e157]; go_simp)
              · intro L a w5 hD
                have e158 : a.eval (.tmp 158) = .pointer (some ⟨LB, lo + j * 2, none⟩) := hD.at 13 (by kernel_rfl)
                have f158 := e158; simp only [Act.eval, Array.getD_eq_getD_getElem?] at f158
                refine Gy.FlowL.step_value rfl (Gy.FlowL.wanted_some (g := 8) (b := false) rfl (hD.at 8 (by kernel_rfl))) (v := .pointer (some ⟨LB, lo + j * 2 + 1, none⟩)) (w1 := w5) ?_ rfl hD.J trivial
                first | (simp only [execOp]; go_simp; done) | (simp only [execOp, e158]; go_simp)
              · intro L a w5 hD
                have e159 : a.eval (.tmp 159) = .pointer (some ⟨LB, lo + j * 2 + 1, none⟩) := hD.at 14 (by kernel_rfl)
                have hcell : w5.cell? ⟨LB, lo + j * 2 + 1, none⟩ = some (.slice A x.b.length c) := cell_kept hD.J HCx.out.2.1
                have f159 := e159; simp only [Act.eval, Array.getD_eq_getD_getElem?] at f159
                refine Gy.FlowL.step_value rfl (Gy.FlowL.wanted_some (g := 8) (b := false) rfl (hD.at 8 (by kernel_rfl))) (v := .slice A x.b.length c) (w1 := w5) ?_ rfl hD.J trivial
                first | (simp only [execOp]; go_simp; done) | (simp only [execOp, e159]; go_simp)
              · intro L a w5 hD
                have e160 : a.eval (.tmp 160) = .slice A x.b.length c := hD.at 15 (by kernel_rfl)
                have f160 := e160; simp only [Act.eval, Array.getD_eq_getD_getElem?] at f160
                refine Gy.FlowL.step_value rfl (Gy.FlowL.wanted_some (g := 8) (b := false) rfl (hD.at 8 (by kernel_rfl))) (v := .int .i64 (x.b.length : Int)) (w1 := w5) ?_ rfl hD.J trivial
                first | (simp only [execOp]; go_simp; done) | (simp only [execOp, e160]; go_simp)
              · intro L a w5 hD
                have e155 : a.eval (.tmp 155) = .int .i64 (x.b.length : Int) := hD.at 10 (by kernel_rfl)
                have e161 : a.eval (.tmp 161) = .int .i64 (x.b.length : Int) := hD.at 16 (by kernel_rfl)
                have f155 := e155; simp only [Act.eval, Array.getD_eq_getD_getElem?] at f155
                have f161 := e161; simp only [Act.eval, Array.getD_eq_getD_getElem?] at f161
                refine Gy.FlowL.step_value rfl (Gy.FlowL.wanted_some (g := 8) (b := false) rfl (hD.at 8 (by kernel_rfl))) (v := .bool false) (w1 := w5) ?_ rfl hD.J trivial
                first | (simp only [execOp]; go_simp; done) | (simp only [execOp, e155, e161]; go_simp)
              · intro L a w5 hD
                have e153 : a.eval (.tmp 153) = .bool false := hD.at 8 (by kernel_rfl)
                have e162 : a.eval (.tmp 162) = .bool false := hD.at 17 (by kernel_rfl)
                exact Gy.FlowL.step_pick (b := false) rfl rfl (Gy.FlowL.wanted_none rfl) e153 e162 hD.J trivial
              · intro L a w5 hD
                have e163 : a.eval (.tmp 163) = .bool false := hD.at 18 (by kernel_rfl)
                exact Gy.FlowL.step_move rfl rfl (Gy.FlowL.wanted_none rfl) e163 hD.J trivial
              · intro L a w5 hD
                have e13 : a.eval (.tmp 13) = .string (strOfNums x.b) := hD.same.at_other 13 (by kernel_rfl)
                exact Gy.FlowL.step_move rfl rfl (Gy.FlowL.wanted_some (g := 19) (b := false) rfl (hD.at 19 (by kernel_rfl))) e13 hD.J trivial
              · intro L a w5 hD
                have e0 : a.eval (.tmp 0) = .slice (some ⟨LB, lo, none⟩) l.length cl := hD.same.at_other 0 (by kernel_rfl)
                exact Gy.FlowL.step_move rfl rfl (Gy.FlowL.wanted_some (g := 19) (b := false) rfl (hD.at 19 (by kernel_rfl))) e0 hD.J trivial
              · intro L a w5 hD
                have e11 : a.eval (.tmp 11) = .int .i64 (j : Int) := hD.same.at_other 11 (by kernel_rfl)
                exact Gy.FlowL.step_move rfl rfl (Gy.FlowL.wanted_some (g := 19) (b := false) rfl (hD.at 19 (by kernel_rfl))) e11 hD.J trivial
              · intro L a w5 hD
                have e166 : a.eval (.tmp 166) = .slice (some ⟨LB, lo, none⟩) l.length cl := hD.at 21 (by kernel_rfl)
                have e167 : a.eval (.tmp 167) = .int .i64 (j : Int) := hD.at 22 (by kernel_rfl)
                have f166 := e166; simp only [Act.eval, Array.getD_eq_getD_getElem?] at f166
                have f167 := e167; simp only [Act.eval, Array.getD_eq_getD_getElem?] at f167
                refine Gy.FlowL.step_value rfl (Gy.FlowL.wanted_some (g := 19) (b := false) rfl (hD.at 19 (by kernel_rfl))) (v := .pointer (some ⟨LB, lo + j * 2, none⟩)) (w1 := w5) ?_ rfl hD.J trivial
                first | (simp only [execOp]; go_simp; done) | (simp only [execOp, e166, e167]; go_simp)
              · intro L a w5 hD
                have e168 : a.eval (.tmp 168) = .pointer (some ⟨LB, lo + j * 2, none⟩) := hD.at 23 (by kernel_rfl)
                have f168 := e168; simp only [Act.eval, Array.getD_eq_getD_getElem?] at f168
                refine Gy.FlowL.step_value rfl (Gy.FlowL.wanted_some (g := 19) (b := false) rfl (hD.at 19 (by kernel_rfl))) (v := .pointer (some ⟨LB, lo + j * 2 + 1, none⟩)) (w1 := w5) ?_ rfl hD.J trivial
                first | (simp only [execOp]; go_simp; done) | (simp only [execOp, e168]; go_simp)
              · intro L a w5 hD
                have e169 : a.eval (.tmp 169) = .pointer (some ⟨LB, lo + j * 2 + 1, none⟩) := hD.at 24 (by kernel_rfl)
                have hcell : w5.cell? ⟨LB, lo + j * 2 + 1, none⟩ = some (.slice A x.b.length c) := cell_kept hD.J HCx.out.2.1
                have f169 := e169; simp only [Act.eval, Array.getD_eq_getD_getElem?] at f169
                refine Gy.FlowL.step_value rfl (Gy.FlowL.wanted_some (g := 19) (b := false) rfl (hD.at 19 (by kernel_rfl))) (v := .slice A x.b.length c) (w1 := w5) ?_ rfl hD.J trivial
                first | (simp only [execOp]; go_simp; done) | (simp only [execOp, e169]; go_simp)
              · intro L a w5 hD
                have e170 : a.eval (.tmp 170) = .slice A x.b.length c := hD.at 25 (by kernel_rfl)
                have hcv := conv_of (c := c) (Gy.reads_below HCx.out.2.2.2.1 hD.J)
                have f170 := e170; simp only [Act.eval, Array.getD_eq_getD_getElem?] at f170
                refine Gy.FlowL.step_value rfl (Gy.FlowL.wanted_some (g := 19) (b := false) rfl (hD.at 19 (by kernel_rfl))) (v := .string (strOfNums x.b)) (w1 := w5) ?_ rfl hD.J trivial
                first | (simp only [execOp]; go_simp; done) | (simp only [execOp, e170]; go_simp)
              · intro L a w5 hD
                have e165 : a.eval (.tmp 165) = .string (strOfNums x.b) := hD.at 20 (by kernel_rfl)
                have e171 : a.eval (.tmp 171) = .string (strOfNums x.b) := hD.at 26 (by kernel_rfl)
                have f165 := e165; simp only [Act.eval, Array.getD_eq_getD_getElem?] at f165
                have f171 := e171; simp only [Act.eval, Array.getD_eq_getD_getElem?] at f171
                refine Gy.FlowL.step_value rfl (Gy.FlowL.wanted_some (g := 19) (b := false) rfl (hD.at 19 (by kernel_rfl))) (v := .bool false) (w1 := w5) ?_ rfl hD.J trivial
                first | (simp only [execOp]; go_simp; done) | (simp only [execOp, e165, e171]; go_simp)
              · intro L a w5 hD
                have e164 : a.eval (.tmp 164) = .bool false := hD.at 19 (by kernel_rfl)
                have e172 : a.eval (.tmp 172) = .bool false := hD.at 27 (by kernel_rfl)
                exact Gy.FlowL.step_pick (b := false) rfl rfl (Gy.FlowL.wanted_none rfl) e164 e172 hD.J trivial
              · intro L a w5 hD
                have e173 : a.eval (.tmp 173) = .bool false := hD.at 28 (by kernel_rfl)
                exact Gy.FlowL.step_move rfl rfl (Gy.FlowL.wanted_none rfl) e173 hD.J trivial
              · intro L a w5 hD
                have e12 : a.eval (.tmp 12) = .pointer (some ⟨xb, 0, none⟩) := hD.same.at_other 12 (by kernel_rfl)
                have f12 := e12; simp only [Act.eval, Array.getD_eq_getD_getElem?] at f12
                refine Gy.FlowL.step_value rfl (Gy.FlowL.wanted_some (g := 29) (b := false) rfl (hD.at 29 (by kernel_rfl))) (v := .pointer (some ⟨xb, 2, none⟩)) (w1 := w5) ?_ rfl hD.J trivial
                first | (simp only [execOp]; go_simp; done) | (simp only [execOp, e12]; go_simp)
              · intro L a w5 hD
                have e175 : a.eval (.tmp 175) = .pointer (some ⟨xb, 2, none⟩) := hD.at 30 (by kernel_rfl)
                have hl := run_loadAt_mid (P := Tryd.prog) w5 xb 2 36 (nums .u8 (sha x.b)) _ ((HFk.out.below hD.J).dig) Tryd.underlying36 rfl (by rw [Gy.nums_len, Gy.sha_length]; exact info_d32)
                refine Gy.FlowL.step_value rfl (Gy.FlowL.wanted_some (g := 29) (b := false) rfl (hD.at 29 (by kernel_rfl))) (v := .agg ((nums .u8 (sha x.b))).toArray) (w1 := w5) ?_ rfl hD.J trivial
                simp only [execOp, e175, Sem.run_bind, hl, Result.andThen_ok]
                rfl
              · intro L a w5 hD
                have e0 : a.eval (.tmp 0) = .slice (some ⟨LB, lo, none⟩) l.length cl := hD.same.at_other 0 (by kernel_rfl)
                exact Gy.FlowL.step_move rfl rfl (Gy.FlowL.wanted_some (g := 29) (b := false) rfl (hD.at 29 (by kernel_rfl))) e0 hD.J trivial
              · intro L a w5 hD
                have e11 : a.eval (.tmp 11) = .int .i64 (j : Int) := hD.same.at_other 11 (by kernel_rfl)
                exact Gy.FlowL.step_move rfl rfl (Gy.FlowL.wanted_some (g := 29) (b := false) rfl (hD.at 29 (by kernel_rfl))) e11 hD.J trivial
              · intro L a w5 hD
                have e177 : a.eval (.tmp 177) = .slice (some ⟨LB, lo, none⟩) l.length cl := hD.at 32 (by kernel_rfl)
                have e178 : a.eval (.tmp 178) = .int .i64 (j : Int) := hD.at 33 (by kernel_rfl)
                have f177 := e177; simp only [Act.eval, Array.getD_eq_getD_getElem?] at f177
                have f178 := e178; simp only [Act.eval, Array.getD_eq_getD_getElem?] at f178
                refine Gy.FlowL.step_value rfl (Gy.FlowL.wanted_some (g := 29) (b := false) rfl (hD.at 29 (by kernel_rfl))) (v := .pointer (some ⟨LB, lo + j * 2, none⟩)) (w1 := w5) ?_ rfl hD.J trivial
                first | (simp only [execOp]; go_simp; done) | (simp only [execOp, e177, e178]; go_simp)
              · intro L a w5 hD
                have e179 : a.eval (.tmp 179) = .pointer (some ⟨LB, lo + j * 2, none⟩) := hD.at 34 (by kernel_rfl)
                have f179 := e179; simp only [Act.eval, Array.getD_eq_getD_getElem?] at f179
                refine Gy.FlowL.step_value rfl (Gy.FlowL.wanted_some (g := 29) (b := false) rfl (hD.at 29 (by kernel_rfl))) (v := .pointer (some ⟨LB, lo + j * 2 + 1, none⟩)) (w1 := w5) ?_ rfl hD.J trivial
                first | (simp only [execOp]; go_simp; done) | (simp only [execOp, e179]; go_simp)
              · intro L a w5 hD
                have e180 : a.eval (.tmp 180) = .pointer (some ⟨LB, lo + j * 2 + 1, none⟩) := hD.at 35 (by kernel_rfl)
                have hcell : w5.cell? ⟨LB, lo + j * 2 + 1, none⟩ = some (.slice A x.b.length c) := cell_kept hD.J HCx.out.2.1
                have f180 := e180; simp only [Act.eval, Array.getD_eq_getD_getElem?] at f180
                refine Gy.FlowL.step_value rfl (Gy.FlowL.wanted_some (g := 29) (b := false) rfl (hD.at 29 (by kernel_rfl))) (v := .slice A x.b.length c) (w1 := w5) ?_ rfl hD.J trivial
                first | (simp only [execOp]; go_simp; done) | (simp only [execOp, e180]; go_simp)
              · intro L a w5 hD
                have e181 : a.eval (.tmp 181) = .slice A x.b.length c := hD.at 36 (by kernel_rfl)
                refine Gy.FlowL.step_call rfl (args := #[.slice A x.b.length c]) (Gy.FlowL.wanted_some (g := 29) (b := false) rfl (hD.at 29 (by kernel_rfl))) Tryd.func12 (by kernel_rfl) (by kernel_rfl) rfl (by simp only [List.map_toArray, List.map_cons, List.map_nil, e181]) ?_
                have hJ := hD.J
                exact (Dig.ref_calls _ _ c x.b w5 (Gy.reads_below HCx.out.2.2.2.1 hJ) HCx.out.2.2.2.2 HLx.out).mono fun e w6 h => ⟨_, h.1, rfl, hJ.trans (h.2.mono hJ.size), trivial⟩
              · intro L a w5 hD
                have e176 : a.eval (.tmp 176) = .agg (nums .u8 (sha x.b)).toArray := hD.at 31 (by kernel_rfl)
                have e182 : a.eval (.tmp 182) = .agg (nums .u8 (sha x.b)).toArray := hD.at 37 (by kernel_rfl)
                have hq := fun w => neq_arr w (sha x.b) (Gy.sha_length _)
                refine Gy.FlowL.step_value rfl (Gy.FlowL.wanted_some (g := 29) (b := false) rfl (hD.at 29 (by kernel_rfl))) (v := .bool false) (w1 := w5) ?_ rfl hD.J trivial
                simp only [execOp, e176, e182, Sem.run_bind, hq]
                rfl
              · intro L a w5 hD
                have e174 : a.eval (.tmp 174) = .bool false := hD.at 29 (by kernel_rfl)
                have e183 : a.eval (.tmp 183) = .bool false := hD.at 38 (by kernel_rfl)
                exact Gy.FlowL.step_pick (b := false) rfl rfl (Gy.FlowL.wanted_none rfl) e174 e183 hD.J trivial
              · intro L a w5 hs hJ hL hv
                have h184 : Gy.FlowL.At _ a 39 = .bool false := hv 39 (by decide)
                have hp := Gy.FlowL.same_puts (by kernel_rfl) hs
                generalize Gy.FlowL.At _ a = vs at hp h184
                clear hv hs hL
                subst hp
                simp only [Gy.FlowL.puts, Act.put, List.setIfInBounds_toArray, List.set_cons_zero, List.set_cons_succ]
                rw [h184]
                have HBn := Lib.hid hJ
                clear hJ
                go_wp2
                refine ⟨⟨j + 1, by omega, by norm_cast, Lib.hid (HBk.out.trans (HBn.out.mono HBk.out.size)), Lib.hid (HXk.out.below HBn.out), Lib.hid (HRk.out.below HBn.out)⟩, ?_⟩
                simp only [intOf]; omega
        · obtain rfl : j = l.length := by omega
          have tj : decide ((l.length : Int) < (l.length : Int)) = false := by simp
          go_wp2
          go_ret
          exact ⟨rfl, HBm.out⟩
theorem cutmakes (A : Option Addr) (c : Nat) (xs : List (ByteArray × List Int)) (slice : Int) (w : World) (hC : kinp.C w A xs.length xs) (_hc : xs.length ≤ c) (hg : xs.length * 40 ≤ reachBytes ∧ xs.length ≤ 9223372036854775807 ∧ ∀ p ∈ xs, p.1.size ≤ reachBytes ∧ p.2.length * 1 ≤ reachBytes ∧ p.2.length ≤ 9223372036854775807 ∧ ∀ x ∈ p.2, (Lit.int .u8 x).wf = true) (_hs : (Lit.int .i64 slice).wf = true) (G : Path.Good w) :
    Calls Tryd.prog 3 #[.slice A xs.length c, .int .i64 slice] w fun e w' => e = .returned (.bool true) ∧ Below w.heap.size w w' := by
  have hr : reachBytes = 140737488351232 := by decide
  have hby : ∀ p ∈ xs, Bytes p.2 := fun p hp x hx => by obtain ⟨n, rfl, h⟩ := Gy.wf_u8 ((hg.2.2 p hp).2.2.2 x hx); omega
  by_cases h0 : xs.length = 0
  · rw [h0]
    exact cm_fail A 0 c slice 1 (by decide) w (fun W _ => few_empty A c W) (fun W _ => make_fail A 0 c slice 1 (by decide) W fun W' _ => (chk_bad A 0 c slice (.inr (.inr rfl)) W').mono fun _ _ h => ⟨h.1, by rw [h.2]; exact Below.refl _ _⟩) fun W _ => (wrong_bad A 0 c slice (.inr (.inr rfl)) W).mono fun _ _ h => ⟨h.1, by rw [h.2]; exact Below.refl _ _⟩
  · obtain ⟨LB, lo, rfl, hI⟩ := inps_at hC (by omega) hby
    obtain ⟨l, hl⟩ : ∃ l, l = xs.map inpOf := ⟨_, rfl⟩
    have hlen : xs.length = l.length := by rw [hl, List.length_map]
    have hb2 : ∀ x ∈ l, x.b.length ≤ 140737488355328 ∧ x.name.size ≤ 140737488355328 := fun x hx => by
      rw [hl] at hx
      obtain ⟨p, hp, rfl⟩ := List.mem_map.1 hx
      have := hg.2.2 p hp
      exact ⟨by show p.2.length ≤ _; omega, by show p.1.size ≤ _; omega⟩
    have hbb : ∀ x ∈ l, Bytes x.b := fun x hx => by
      rw [hl] at hx
      obtain ⟨p, hp, rfl⟩ := List.mem_map.1 hx
      exact hby p hp
    rw [← hl] at hI
    rw [hlen] at h0 hg ⊢
    have hkeep : ∀ W, Below w.heap.size w W → InAt W LB lo l := fun W hW => ⟨fun i x hx => cell_kept hW (hI.name i x hx), fun i x hx => by obtain ⟨A, c, g1, g2, g3, g4⟩ := hI.b i x hx; exact ⟨A, c, cell_kept hW g1, g2, Gy.reads_below g3 hW, g4⟩⟩
    by_cases hfew : fewB l = true
    · have hf2 := hfew
      unfold fewB at hf2
      rw [Bool.and_eq_true, decide_eq_true_eq, decide_eq_true_eq] at hf2
      have hsum : lensOf l ≤ tot l := by
        unfold lensOf tot
        clear hI hkeep hb2 hbb hfew hf2 hlen h0 hg hl
        induction l with
        | nil => exact Nat.le_refl _
        | cons x l ih => simp only [List.map_cons, List.sum_cons]; omega
      have hnm : ∀ x ∈ l, x.name.size ≤ 30000 := fun x hx => by
        obtain ⟨i, hi⟩ := List.getElem?_of_mem hx
        have h1 := tot_take hi
        have h2 := tot_le l (i + 1)
        omega
      have hsz : lensOf l ≤ 30000 := by omega
      have hfw : ∀ W, Below w.heap.size w W → Calls Tryd.prog 7 #[.slice (some ⟨LB, lo, none⟩) l.length c] W fun e w' => e = .returned (.bool true) ∧ Below W.heap.size W w' := fun W hW => by
        rw [← hfew]
        exact few_calls hb2 (by omega) W (hkeep W hW)
      by_cases hbad : slice < 1 ∨ 256 < slice
      · have hb3 : slice < 1 ∨ 256 < slice ∨ l.length = 0 := by omega
        exact cm_fail _ _ c slice 1 (by decide) w hfw (fun W _ => make_fail _ _ c slice 1 (by decide) W fun W' _ => (chk_bad _ _ c slice hb3 W').mono fun _ _ h => ⟨h.1, by rw [h.2]; exact Below.refl _ _⟩) fun W _ => (wrong_bad _ _ c slice hb3 W).mono fun _ _ h => ⟨h.1, by rw [h.2]; exact Below.refl _ _⟩
      · by_cases hmany : 8 < l.length
        · exact cm_fail _ _ c slice 5 (by decide) w hfw (fun W _ => make_fail _ _ c slice 5 (by decide) W fun W' _ => (chk_many _ _ c slice (by omega) (by omega) hmany W').mono fun _ _ h => ⟨h.1, by rw [h.2]; exact Below.refl _ _⟩) fun W _ => (wrong_many _ _ c slice (by omega) (by omega) hmany W).mono fun _ _ h => ⟨h.1, by rw [h.2]; exact Below.refl _ _⟩
        · obtain ⟨s, rfl⟩ : ∃ s : Nat, slice = (s : Int) := ⟨slice.toNat, by omega⟩
          by_cases hk : chk2 s l = 0
          · exact cm_main (by omega) (by omega) (by omega) (by omega) hsz hnm hbb w G hI hfew hk
          · exact cm_fail _ _ c s (chk2 s l) hk w hfw (fun W hW => make_fail _ _ c s (chk2 s l) hk W fun W' hW' => chk_main (by omega) (by omega) (by omega) (by omega) hsz hnm W' (G.below (hW.trans (hW'.mono hW.size))) (hkeep W' (hW.trans (hW'.mono hW.size)))) fun W hW => wrong_main (by omega) (by omega) (by omega) (by omega) hsz hnm W (hkeep W hW)
    · have hfew2 : fewB l = false := by simpa using hfew
      refine cm_long _ _ c slice w fun W hW => ?_
      rw [← hfew2]
      exact few_calls hb2 (by omega) W (hkeep W hW)
end Go.Proofs.YtlmgikhgmbjfdaaDoor.Cuts
/- What a row hands to the walks of package path that read internal/bytealg.MaxLen alone; and the wrap that hands on both the list and the world's shape. -/
namespace Go.Proofs.YtlmgikhgmbjfdaaDoor.Path
open Go Go.RowKit Go.Shelf

theorem good_of {p : Prop} {W : World} (_ : p) (hsh : W.ShapedOpen Tryd.prog) : Good W := ⟨Tryd.splitLay.s1_3 W hsh⟩

/-- the wrap: the row's further condition and the world's shape -/
theorem and_shaped {H : Type} {enc : TypeId × Value → H} {a : Assume} {C : Checked} {os : Os} {f : FuncId} {fn : Func} {s : ChangeSpec} {conds : List PathCond} {X : World → Array Value → Prop}
    (hX : ∀ (w w' : World) (args : Array Value), w.heap = w'.heap → X w args → X w' args)
    (own : ownKnob C.prog.godebug = none) (started : os.Started) (noInit : C.prog.inits.idxOf? f = none) (hfn : C.prog.funcs[f]? = some fn)
    (witness : ∃ (w : World) (tape : Tape) (i : Input), w.os = os ∧ (w.forCall tape i).Shaped C.prog ∧ i.vars = [] ∧ Input.okWide C.prog (w.forCall tape i) .any w.heap.size f i ∧
      ((s.pre enc C.prog fn conds false (w.forCall tape i).memory i.args ∧ X (w.forCall tape i).memory i.args) ∧ sizedMet enc C.prog fn (OpenSpec.ofChange s) false (w.forCall tape i).memory i.args) ∧ a.holds C.prog (lone (Frame.enter C.prog f i.args .normal) [] (w.forCall tape i)))
    (contract : ∀ (W : World) (base : Nat) (args : Array Value) (ds gs : List (DataW H)) (before : List MemPlace),
      (∀ (j : Nat) t v, fn.params[j]? = some t → args[j]? = some v → Value.okWide C.prog W .any base t v) →
      DataW.Whole enc C.prog fn.params.toList s.vars false W args.toList ds gs before → X W args → W.ShapedOpen C.prog →
      Calls C.prog f args W fun e W' => ∃ v, e = .returned v ∧ s.post enc C.prog fn false true false false W args v W') :
    ReturnsInHanded a C os f .any (fun w args => (s.pre enc C.prog fn conds false w args ∧ X w args) ∧ sizedMet enc C.prog fn (OpenSpec.ofChange s) false w args) (s.post enc C.prog fn false true false false) := by
  refine returnsInHanded_of_calls own started noInit witness ?_
  intro w tape i _ hsh _ hok hpre _
  obtain ⟨_, _, _, fn', hfn', _, _, _, _, hval⟩ := hok
  obtain rfl : fn' = fn := Option.some.inj (hfn'.symm.trans hfn)
  obtain ⟨⟨⟨ds, gs, before, hw, hc⟩, hx⟩, hz⟩ := hpre
  refine (contract (w.forCall tape i) w.heap.size i.args ds gs before hval (DataW.Whole.of_heap (w' := w.forCall tape i) (by rfl) hw) (hX _ _ _ (by rfl) hx) hsh).mono fun e W' ⟨v, he, hp⟩ => ?_
  subst he
  exact ChangeSpec.post_blind hp
/-- the same, with the bounds of memory -/
theorem and_shaped_sized {H : Type} {enc : TypeId × Value → H} {a : Assume} {C : Checked} {os : Os} {f : FuncId} {fn : Func} {s : ChangeSpec} {conds : List PathCond} {X : World → Array Value → Prop}
    (hX : ∀ (w w' : World) (args : Array Value), w.heap = w'.heap → X w args → X w' args)
    (own : ownKnob C.prog.godebug = none) (started : os.Started) (noInit : C.prog.inits.idxOf? f = none) (hfn : C.prog.funcs[f]? = some fn)
    (witness : ∃ (w : World) (tape : Tape) (i : Input), w.os = os ∧ (w.forCall tape i).Shaped C.prog ∧ i.vars = [] ∧ Input.okWide C.prog (w.forCall tape i) .any w.heap.size f i ∧
      ((s.pre enc C.prog fn conds false (w.forCall tape i).memory i.args ∧ X (w.forCall tape i).memory i.args) ∧ sizedMet enc C.prog fn (OpenSpec.ofChange s) false (w.forCall tape i).memory i.args) ∧ a.holds C.prog (lone (Frame.enter C.prog f i.args .normal) [] (w.forCall tape i)))
    (contract : ∀ (W : World) (base : Nat) (args : Array Value) (ds gs : List (DataW H)) (before : List MemPlace),
      (∀ (j : Nat) t v, fn.params[j]? = some t → args[j]? = some v → Value.okWide C.prog W .any base t v) →
      DataW.Whole enc C.prog fn.params.toList s.vars false W args.toList ds gs before → X W args → W.ShapedOpen C.prog → (DataW.weightsEach C.prog (fn.params.toList ++ s.plain.varTypes C.prog) (ds ++ gs)).all (· ≤ reachBytes) = true →
      Calls C.prog f args W fun e W' => ∃ v, e = .returned v ∧ s.post enc C.prog fn false true false false W args v W') :
    ReturnsInHanded a C os f .any (fun w args => (s.pre enc C.prog fn conds false w args ∧ X w args) ∧ sizedMet enc C.prog fn (OpenSpec.ofChange s) false w args) (s.post enc C.prog fn false true false false) := by
  refine returnsInHanded_of_calls own started noInit witness ?_
  intro w tape i _ hsh _ hok hpre _
  obtain ⟨_, _, _, fn', hfn', _, _, _, _, hval⟩ := hok
  obtain rfl : fn' = fn := Option.some.inj (hfn'.symm.trans hfn)
  obtain ⟨⟨⟨ds, gs, before, hw, hc⟩, hx⟩, hz⟩ := hpre
  refine (contract (w.forCall tape i) w.heap.size i.args ds gs before hval (DataW.Whole.of_heap (w' := w.forCall tape i) (by rfl) hw) (hX _ _ _ (by rfl) hx) hsh (hz.weights hw)).mono fun e W' ⟨v, he, hp⟩ => ?_
  subst he
  exact ChangeSpec.post_blind hp
end Go.Proofs.YtlmgikhgmbjfdaaDoor.Path

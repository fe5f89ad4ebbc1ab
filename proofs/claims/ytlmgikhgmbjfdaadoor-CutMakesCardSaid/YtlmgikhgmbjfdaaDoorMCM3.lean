/- Package cut, the walk in pieces: the outer loop of Make: one file after the other. -/
import Derived.Test.YtlmgikhgmbjfdaaDoorMCM2
import Derived.Test.YtlmgikhgmbjfdaaDoorProg
import Derived.Maps.Own
import Derived.Maps.Keyed
import Derived.Maps.Views
import Derived.RowKit
import Derived.Below
import Derived.Shelf.Strings.SplitShaped
import Derived.Ground.NamesProg
import Derived.Deep.Draws
import Derived.Deep.AppendLies
import Derived.Maps.AppendAt
import Derived.OwnWalk
import Derived.Laws.BytesArg
import Derived.Laws.MakeOwn
import Derived.Laws.OwnMore
import Derived.Deep.OwnRows
import Derived.Tactics
import Derived.Lib.ConvBytes
import Derived.Laws.Slices
import Derived.WalkKit
import Derived.KernelRfl
import Derived.RowKit3
import Derived.Deep.LoopGhost
import Derived.Deep.QuietTactic
import Derived.BigQuiet
import Derived.WideLaws
import Derived.Deep.DeepCutAuto
import Derived.Deep.CutBlock
import Derived.Deep.RegionHeld3
import Derived.Laws.Rows
import Derived.Lib.AppendStr
import Derived.ArgAppend
import Derived.Laws.IdiomCopy
import Derived.OrdersHeld
import Derived.Laws.BitsLemmas
import Derived.Test.YtlmgikhgmbjfdaaDoorWWords
import Derived.Test.YtlmgikhgmbjfdaaDoorWLast
import Derived.Test.YtlmgikhgmbjfdaaDoorWTab
import Derived.Test.YtlmgikhgmbjfdaaDoorWFour
import Derived.Test.YtlmgikhgmbjfdaaDoorWQPut
import Derived.Test.YtlmgikhgmbjfdaaDoorWApart
import Derived.Test.YtlmgikhgmbjfdaaDoorWArr
import Derived.Test.YtlmgikhgmbjfdaaDoorWZeros
import Derived.Test.YtlmgikhgmbjfdaaDoorWFoot
import Derived.Test.YtlmgikhgmbjfdaaDoorWKept
import Derived.Test.YtlmgikhgmbjfdaaDoorWShare
import Derived.Test.YtlmgikhgmbjfdaaDoorWN
import Derived.Test.YtlmgikhgmbjfdaaDoorWFootNe
import Derived.Test.YtlmgikhgmbjfdaaDoorWAt
import Derived.Test.YtlmgikhgmbjfdaaDoorWEqStruct
import Derived.Test.YtlmgikhgmbjfdaaDoorWRepsOne
import Derived.Test.YtlmgikhgmbjfdaaDoorWInv
import Derived.Test.YtlmgikhgmbjfdaaDoorWInvWords
import Derived.Test.YtlmgikhgmbjfdaaDoorWGuard
import Derived.Test.YtlmgikhgmbjfdaaDoorWNEv
import Derived.Test.YtlmgikhgmbjfdaaDoorWMore
import Derived.Lib.SmallJoins
import Derived.Lib.AppendIntMem
import Derived.Lib.AtoiErrMem
import Derived.Lib.SplitLaws
import Derived.Lib.Hide
import Derived.BigCall

namespace Go.Proofs.YtlmgikhgmbjfdaaDoor.Cuts
open Go Go.RowKit Go.Proofs.YtlmgikhgmbjfdaaDoorW.PrintWords Go.Proofs.YtlmgikhgmbjfdaaDoorW.PrintLast Go.Proofs.YtlmgikhgmbjfdaaDoorW.PrintMore Gy

theorem _root_.Gy.own_slice {w : World} {base : Nat} {e : TypeId} {size n : Nat} {v : Value} {xs : List Value} (h : w.ownsRow base e size v n xs) : ∃ A c, v = .slice A n c := by
  rcases h.2 with ⟨rfl, rfl⟩ | ⟨g, cap, _, rfl, _⟩
  · exact ⟨_, _, rfl⟩
  · exact ⟨_, _, rfl⟩
theorem cell_kept {w w' : World} {b o : Nat} {v : Value} (hb : Below w.heap.size w w') (h : w.cell? ⟨b, o, none⟩ = some v) : w'.cell? ⟨b, o, none⟩ = some v := by
  rw [World.cell?_of_block (a := ⟨b, o, none⟩) (hb.block b (Gy.cell_lt h))]
  exact h
/-- files in memory -/
structure InAt (w : World) (LB lo : Nat) (l : List Inp) : Prop where
  name : ∀ (i : Nat) (x : Inp), l[i]? = some x → w.cell? ⟨LB, lo + i * 2, none⟩ = some (.string x.name)
  b : ∀ (i : Nat) (x : Inp), l[i]? = some x → ∃ A c, w.cell? ⟨LB, lo + i * 2 + 1, none⟩ = some (.slice A x.b.length c) ∧ x.b.length ≤ c ∧ ReadsInt w .u8 A x.b.length x.b ∧ Bytes x.b
abbrev frO (w : World) (L0 : Value) (s SB n i : Nat) (rv : Value) : List (Nat × Value) :=
  [(0, L0), (1, .int .i64 (s : Int)), (4, .pointer (some ⟨w.heap.size, 0, none⟩)), (8, .pointer (some ⟨SB, 0, none⟩)), (9, rv), (23, L0), (24, .int .i64 (n : Int)), (25, .int .i64 (i : Int))]
set_option maxHeartbeats 4000000 in
set_option maxRecDepth 100000 in
theorem o_step {u2 u3 u5 u6 u7 u10 u11 u12 u13 u14 u15 u16 u17 u18 u19 u20 u21 u22 u26 u27 u28 u29 u30 u31 u32 u33 u34 u35 u36 u37 u38 u39 u40 u41 u42 u43 u44 u45 u46 u47 u48 u49 u50 u51 u52 u53 u54 u55 u56 u57 u58 u59 u60 u61 u62 u63 u64 u65 u66 u67 u68 u69 u70 u71 u72 u73 u74 u75 u76 u77 u78 u79 u80 u81 : Value} {w wr : World} {ρ0 : Nat → Nat} {SB LB lo cl n i : Nat} {fv0 lv rv : Value} {ks : List Value} {st0 : Cut} {s : Nat} {x : Inp} {A : Option Addr} {c : Nat} (Q : Exit → Act → World → Prop) (hs1 : 1 ≤ s) (hs2 : s ≤ 256) (hi : i < n) (hn : n ≤ 100)
    (h0 : w.cell? ⟨LB, lo + i * 2, none⟩ = some (.string x.name)) (h1 : w.cell? ⟨LB, lo + i * 2 + 1, none⟩ = some (.slice A x.b.length c)) (hb : Bytes x.b) (hl : x.b.length ≤ 30000) (hc : x.b.length ≤ c) (hR : ReadsInt w .u8 A x.b.length x.b)
    (hM : Mk w wr ρ0 SB [.int .i64 (s : Int), fv0, lv] fv0 lv rv ks st0) (hf : st0.src.length ≤ 40000) (hf2 : st0.slices.length ≤ 40000) (hf3 : st0.files.length ≤ 100)
    (hQ : ∀ a' w' ρ' fv' lv' rv' ks', Fr 82 (frO w (.slice (some ⟨LB, lo, none⟩) n cl) s SB n (i + 1) rv') a' → Mk w w' ρ' SB [.int .i64 (s : Int), fv', lv'] fv' lv' rv' ks' ((st0.addF x).addCs (chunks s x.b)) → Q .normal a' w') :
    Code.wp Tryd.prog (bodyOf 0) Q ⟨#[.slice (some ⟨LB, lo, none⟩) n cl, .int .i64 (s : Int), u2, u3, .pointer (some ⟨w.heap.size, 0, none⟩), u5, u6, u7, .pointer (some ⟨SB, 0, none⟩), rv, u10, u11, u12, u13, u14, u15, u16, u17, u18, u19, u20, u21, u22, .slice (some ⟨LB, lo, none⟩) n cl, .int .i64 (n : Int), .int .i64 (i : Int), u26, u27, u28, u29, u30, u31, u32, u33, u34, u35, u36, u37, u38, u39, u40, u41, u42, u43, u44, u45, u46, u47, u48, u49, u50, u51, u52, u53, u54, u55, u56, u57, u58, u59, u60, u61, u62, u63, u64, u65, u66, u67, u68, u69, u70, u71, u72, u73, u74, u75, u76, u77, u78, u79, u80, u81], []⟩ wr := by
  conv => arg 2; whnf
  have HQ := Lib.hid hQ
  have t26 : decide ((i : Int) < (n : Int)) = true := decide_eq_true (by omega)
  have b26 : i < n := hi
  have HM0 := Lib.hid hM
  have z0 := cell_kept hM.bel h0
  have z1 := cell_kept hM.bel h1
  clear hQ hM h0 h1
  have HR := Lib.hid hR
  have HX := Lib.hid hb
  have HL := Lib.hid (show x.b.length ≤ 1000000 by omega)
  have HL3 := Lib.hid hl
  have HC := Lib.hid hc
  have HF := Lib.hid (show st0.files.length ≤ 1000 by omega)
  have HF1 := Lib.hid hf
  have HF2 := Lib.hid hf2
  obtain ⟨Ar, cr, hrv⟩ := Gy.own_slice HM0.out.r.own
  subst hrv
  clear hR hb hl hc hf hf2 hf3
  go_wp2
  obtain ⟨xb, hxb⟩ : ∃ xb, xb = wr.heap.size := ⟨_, rfl⟩
  have HM := Lib.hid (HM0.out.turn (Turn.alloc wr (.cells #[.string x.name, .slice A x.b.length c] 46) ρ0 6 6) (by omega) (HM0.out.bel.alloc HM0.out.bel.size _))
  have HXB : Hid (RArr (wr.alloc (.cells #[.string x.name, .slice A x.b.length c] 46)) (asRole ρ0 wr.heap.size 6) 6 xb [.string x.name, .slice A x.b.length c]) := Lib.hid (by rw [hxb]; exact ⟨Gy.Arr.fresh wr _ _ rfl _, asRole_at _ _ _⟩)
  rw [← hxb]
  generalize wr.alloc (.cells #[.string x.name, .slice A x.b.length c] 46) = wv at HM HXB ⊢
  generalize asRole ρ0 wr.heap.size 6 = ρ at HM HXB
  clear hxb z0 z1 HM0
  refine Gy.FlowV.flow (by kernel_rfl) (fun i_ => List.getD [(fun v _ => v = .pointer (some ⟨SB, 1, none⟩)), (fun v _ => v = fv0), (fun v _ => v = .pointer (some ⟨xb, 0, none⟩)), (fun v _ => v = .string x.name), (fun v _ => v = .pointer (some ⟨xb, 1, none⟩)), (fun v _ => v = .slice A x.b.length c), (fun v _ => v = .int .i64 (x.b.length : Int)), (fun v _ => v = .pointer (some ⟨xb, 1, none⟩)), (fun v _ => v = .slice A x.b.length c), (fun v _ => v = .agg (nums .u8 (sha x.b)).toArray), (fun v _ => v = .slice Ar st0.src.length cr), (fun v _ => v = .int .i64 (st0.src.length : Int)), (fun v _ => v = .agg (fileL x.name (x.b.length : Int) (sha x.b) (st0.src.length : Int)).toArray), (fun v w => ∃ g, v = .slice (some ⟨g, 0, none⟩) 1 1 ∧ wv.heap.size ≤ g ∧ w.heap[g]? = some (.cells (fileL x.name (x.b.length : Int) (sha x.b) (st0.src.length : Int)).toArray 43 (0, 0))), (fun _ _ => True), (fun v _ => v = .pointer (some ⟨SB, 1, none⟩)), (fun _ _ => True)] i_ (fun _ _ => True)) (Gy.FlowV.AppJ 14 16 (fun w5 => Below wv.heap.size wv w5) (fun v w5 => ∃ ρ', Mk w w5 ρ' SB [.int .i64 (s : Int), fv0, lv] v lv (.slice Ar st0.src.length cr) ks ⟨st0.files ++ [⟨x.name, (x.b.length : Int), sha x.b, (st0.src.length : Int)⟩], st0.slices, st0.src⟩ ∧ RArr w5 ρ' 6 xb [.string x.name, .slice A x.b.length c]) (fun v w5 => ∃ ρ', Mk w w5 ρ' SB [.int .i64 (s : Int), v, lv] v lv (.slice Ar st0.src.length cr) ks ⟨st0.files ++ [⟨x.name, (x.b.length : Int), sha x.b, (st0.src.length : Int)⟩], st0.slices, st0.src⟩ ∧ RArr w5 ρ' 6 xb [.string x.name, .slice A x.b.length c])) (fun w w' => w.heap.size ≤ w'.heap.size ∧ ∀ k, wv.heap.size ≤ k → k < w.heap.size → w'.heap[k]? = w.heap[k]?) (by kernel_rfl) (fun f => .start (Gy.drew_below _)) (Gy.FlowL.mono_list [(fun v _ => v = .pointer (some ⟨SB, 1, none⟩)), (fun v _ => v = fv0), (fun v _ => v = .pointer (some ⟨xb, 0, none⟩)), (fun v _ => v = .string x.name), (fun v _ => v = .pointer (some ⟨xb, 1, none⟩)), (fun v _ => v = .slice A x.b.length c), (fun v _ => v = .int .i64 (x.b.length : Int)), (fun v _ => v = .pointer (some ⟨xb, 1, none⟩)), (fun v _ => v = .slice A x.b.length c), (fun v _ => v = .agg (nums .u8 (sha x.b)).toArray), (fun v _ => v = .slice Ar st0.src.length cr), (fun v _ => v = .int .i64 (st0.src.length : Int)), (fun v _ => v = .agg (fileL x.name (x.b.length : Int) (sha x.b) (st0.src.length : Int)).toArray), (fun v w => ∃ g, v = .slice (some ⟨g, 0, none⟩) 1 1 ∧ wv.heap.size ≤ g ∧ w.heap[g]? = some (.cells (fileL x.name (x.b.length : Int) (sha x.b) (st0.src.length : Int)).toArray 43 (0, 0))), (fun _ _ => True), (fun v _ => v = .pointer (some ⟨SB, 1, none⟩)), (fun _ _ => True)] ?_) (Gy.FlowL.of_allFrom ⟨?_, ?_, ?_, ?_, ?_, ?_, ?_, ?_, ?_, ?_, ?_, ?_, ?_, ?_, ?_, ?_, ?_, trivial⟩) ?_
  · exact ⟨fun v w w' h hb => h, fun v w w' h hb => h, fun v w w' h hb => h, fun v w w' h hb => h, fun v w w' h hb => h, fun v w w' h hb => h, fun v w w' h hb => h, fun v w w' h hb => h, fun v w w' h hb => h, fun v w w' h hb => h, fun v w w' h hb => h, fun v w w' h hb => h, fun v w w' h hb => h, fun v w w' ⟨g, e, h1, h2⟩ hb => ⟨g, e, h1, (hb.2 g h1 (Array.getElem?_eq_some_iff.1 h2).1).trans h2⟩, fun v w w' h hb => h, fun v w w' h hb => h, fun v w w' h hb => h, trivial⟩
  · intro L a w5 hD
    have e8 : a.eval (.tmp 8) = .pointer (some ⟨SB, 0, none⟩) := hD.same.at_other 8 (by kernel_rfl)
    have f8 := e8; simp only [Act.eval, Array.getD_eq_getD_getElem?] at f8
    refine Gy.FlowV.step_value rfl (Gy.FlowL.wanted_none rfl) (v := .pointer (some ⟨SB, 1, none⟩)) (w1 := w5) ?_ rfl (hD.J.keep 0 _ (by decide) (by decide)) ⟨Nat.le_refl _, fun _ _ _ => rfl⟩
    first | (simp only [execOp]; go_simp; done) | (simp only [execOp, e8]; go_simp)
  · intro L a w5 hD
    have e29 : a.eval (.tmp 29) = .pointer (some ⟨SB, 1, none⟩) := hD.at 0 (by kernel_rfl)
    have n14 := hD.later 14 (by kernel_rfl)
    have hs0 := hD.not_yet n14 16 (by kernel_rfl)
    have hB := hD.J.early n14
    have hcell : w5.cell? ⟨SB, 1, none⟩ = some fv0 := (HM.out.below hB).s.arr.cell rfl
    have f29 := e29; simp only [Act.eval, Array.getD_eq_getD_getElem?] at f29
    refine Gy.FlowV.step_value rfl (Gy.FlowL.wanted_none rfl) (v := fv0) (w1 := w5) ?_ rfl (hD.J.keep 1 _ (by decide) (by decide)) ⟨Nat.le_refl _, fun _ _ _ => rfl⟩
    first | (simp only [execOp]; go_simp; done) | (simp only [execOp, e29]; go_simp)
  · intro L a w5 hD
    have e11 : a.eval (.tmp 11) = .pointer (some ⟨xb, 0, none⟩) := hD.same.at_other 11 (by kernel_rfl)
    have f11 := e11; simp only [Act.eval, Array.getD_eq_getD_getElem?] at f11
    refine Gy.FlowV.step_value rfl (Gy.FlowL.wanted_none rfl) (v := .pointer (some ⟨xb, 0, none⟩)) (w1 := w5) ?_ rfl (hD.J.keep 2 _ (by decide) (by decide)) ⟨Nat.le_refl _, fun _ _ _ => rfl⟩
    first | (simp only [execOp]; go_simp; done) | (simp only [execOp, e11]; go_simp)
  · intro L a w5 hD
    have e31 : a.eval (.tmp 31) = .pointer (some ⟨xb, 0, none⟩) := hD.at 2 (by kernel_rfl)
    have n12 := hD.later 12 (by kernel_rfl)
    have n13 := hD.not_yet n12 13 (by kernel_rfl)
    have n14 := hD.not_yet n13 14 (by kernel_rfl)
    have hs0 := hD.not_yet n14 16 (by kernel_rfl)
    have hB := hD.J.early n14
    have hcell : w5.cell? ⟨xb, 0, none⟩ = some (.string x.name) := (HXB.out.below hB).arr.cell rfl
    have f31 := e31; simp only [Act.eval, Array.getD_eq_getD_getElem?] at f31
    refine Gy.FlowV.step_value rfl (Gy.FlowL.wanted_none rfl) (v := .string x.name) (w1 := w5) ?_ rfl (hD.J.keep 3 _ (by decide) (by decide)) ⟨Nat.le_refl _, fun _ _ _ => rfl⟩
    first | (simp only [execOp]; go_simp; done) | (simp only [execOp, e31]; go_simp)
  · intro L a w5 hD
    have e11 : a.eval (.tmp 11) = .pointer (some ⟨xb, 0, none⟩) := hD.same.at_other 11 (by kernel_rfl)
    have f11 := e11; simp only [Act.eval, Array.getD_eq_getD_getElem?] at f11
    refine Gy.FlowV.step_value rfl (Gy.FlowL.wanted_none rfl) (v := .pointer (some ⟨xb, 1, none⟩)) (w1 := w5) ?_ rfl (hD.J.keep 4 _ (by decide) (by decide)) ⟨Nat.le_refl _, fun _ _ _ => rfl⟩
    first | (simp only [execOp]; go_simp; done) | (simp only [execOp, e11]; go_simp)
  · intro L a w5 hD
    have e33 : a.eval (.tmp 33) = .pointer (some ⟨xb, 1, none⟩) := hD.at 4 (by kernel_rfl)
    have n6 := hD.later 6 (by kernel_rfl)
    have n12 := hD.not_yet n6 12 (by kernel_rfl)
    have n13 := hD.not_yet n12 13 (by kernel_rfl)
    have n14 := hD.not_yet n13 14 (by kernel_rfl)
    have hs0 := hD.not_yet n14 16 (by kernel_rfl)
    have hB := hD.J.early n14
    have hcell : w5.cell? ⟨xb, 1, none⟩ = some (.slice A x.b.length c) := (HXB.out.below hB).arr.cell rfl
    have f33 := e33; simp only [Act.eval, Array.getD_eq_getD_getElem?] at f33
    refine Gy.FlowV.step_value rfl (Gy.FlowL.wanted_none rfl) (v := .slice A x.b.length c) (w1 := w5) ?_ rfl (hD.J.keep 5 _ (by decide) (by decide)) ⟨Nat.le_refl _, fun _ _ _ => rfl⟩
    first | (simp only [execOp]; go_simp; done) | (simp only [execOp, e33]; go_simp)
  · intro L a w5 hD
    have e34 : a.eval (.tmp 34) = .slice A x.b.length c := hD.at 5 (by kernel_rfl)
    have f34 := e34; simp only [Act.eval, Array.getD_eq_getD_getElem?] at f34
    refine Gy.FlowV.step_value rfl (Gy.FlowL.wanted_none rfl) (v := .int .i64 (x.b.length : Int)) (w1 := w5) ?_ rfl (hD.J.keep 6 _ (by decide) (by decide)) ⟨Nat.le_refl _, fun _ _ _ => rfl⟩
    first | (simp only [execOp]; go_simp; done) | (simp only [execOp, e34]; go_simp)
  · intro L a w5 hD
    have e11 : a.eval (.tmp 11) = .pointer (some ⟨xb, 0, none⟩) := hD.same.at_other 11 (by kernel_rfl)
    have f11 := e11; simp only [Act.eval, Array.getD_eq_getD_getElem?] at f11
    refine Gy.FlowV.step_value rfl (Gy.FlowL.wanted_none rfl) (v := .pointer (some ⟨xb, 1, none⟩)) (w1 := w5) ?_ rfl (hD.J.keep 7 _ (by decide) (by decide)) ⟨Nat.le_refl _, fun _ _ _ => rfl⟩
    first | (simp only [execOp]; go_simp; done) | (simp only [execOp, e11]; go_simp)
  · intro L a w5 hD
    have e36 : a.eval (.tmp 36) = .pointer (some ⟨xb, 1, none⟩) := hD.at 7 (by kernel_rfl)
    have n9 := hD.later 9 (by kernel_rfl)
    have n12 := hD.not_yet n9 12 (by kernel_rfl)
    have n13 := hD.not_yet n12 13 (by kernel_rfl)
    have n14 := hD.not_yet n13 14 (by kernel_rfl)
    have hs0 := hD.not_yet n14 16 (by kernel_rfl)
    have hB := hD.J.early n14
    have hcell : w5.cell? ⟨xb, 1, none⟩ = some (.slice A x.b.length c) := (HXB.out.below hB).arr.cell rfl
    have f36 := e36; simp only [Act.eval, Array.getD_eq_getD_getElem?] at f36
    refine Gy.FlowV.step_value rfl (Gy.FlowL.wanted_none rfl) (v := .slice A x.b.length c) (w1 := w5) ?_ rfl (hD.J.keep 8 _ (by decide) (by decide)) ⟨Nat.le_refl _, fun _ _ _ => rfl⟩
    first | (simp only [execOp]; go_simp; done) | (simp only [execOp, e36]; go_simp)
  · intro L a w5 hD
    have e37 : a.eval (.tmp 37) = .slice A x.b.length c := hD.at 8 (by kernel_rfl)
    have n12 := hD.later 12 (by kernel_rfl)
    have n13 := hD.not_yet n12 13 (by kernel_rfl)
    have n14 := hD.not_yet n13 14 (by kernel_rfl)
    have hs0 := hD.not_yet n14 16 (by kernel_rfl)
    have hB := hD.J.early n14
    refine Gy.FlowV.step_call rfl (args := #[.slice A x.b.length c]) (Gy.FlowL.wanted_none rfl) Tryd.func27 (by kernel_rfl) (by kernel_rfl) rfl (by simp only [List.map_toArray, List.map_cons, List.map_nil, e37]) ?_
    exact (Go.Proofs.YtlmgikhgmbjfdaaDoor.Dig.digest_calls _ _ c x.b w5 (Gy.reads_below HR.out (HM.out.bel.trans (hB.mono HM.out.bel.size))) HX.out HL.out).mono fun e w6 h => ⟨_, h.1, rfl, (Gy.FlowV.AppJ.go n14 hs0 (hB.trans (h.2.mono hB.size)) 9 _ (by decide) (by decide)), h.2.size, fun k _ hk => h.2.block k hk⟩
  · intro L a w5 hD
    have e9 : a.eval (.tmp 9) = .slice Ar st0.src.length cr := hD.same.at_other 9 (by kernel_rfl)
    exact Gy.FlowV.step_move rfl rfl (Gy.FlowL.wanted_none rfl) e9 (hD.J.keep 10 _ (by decide) (by decide)) ⟨Nat.le_refl _, fun _ _ _ => rfl⟩
  · intro L a w5 hD
    have e39 : a.eval (.tmp 39) = .slice Ar st0.src.length cr := hD.at 10 (by kernel_rfl)
    have f39 := e39; simp only [Act.eval, Array.getD_eq_getD_getElem?] at f39
    refine Gy.FlowV.step_value rfl (Gy.FlowL.wanted_none rfl) (v := .int .i64 (st0.src.length : Int)) (w1 := w5) ?_ rfl (hD.J.keep 11 _ (by decide) (by decide)) ⟨Nat.le_refl _, fun _ _ _ => rfl⟩
    first | (simp only [execOp]; go_simp; done) | (simp only [execOp, e39]; go_simp)
  · intro L a w5 hD
    have e32 : a.eval (.tmp 32) = .string x.name := hD.at 3 (by kernel_rfl)
    have e35 : a.eval (.tmp 35) = .int .i64 (x.b.length : Int) := hD.at 6 (by kernel_rfl)
    have e38 : a.eval (.tmp 38) = .agg (nums .u8 (sha x.b)).toArray := hD.at 9 (by kernel_rfl)
    have e40 : a.eval (.tmp 40) = .int .i64 (st0.src.length : Int) := hD.at 11 (by kernel_rfl)
    refine Gy.FlowV.step_value rfl (Gy.FlowL.wanted_none rfl) (v := .agg (fileL x.name (x.b.length : Int) (sha x.b) (st0.src.length : Int)).toArray) (w1 := w5) ?_ rfl (hD.J.keep 12 _ (by decide) (by decide)) ⟨Nat.le_refl _, fun _ _ _ => rfl⟩
    have hb := build_file x.name (x.b.length : Int) (st0.src.length : Int) (sha x.b) (Gy.sha_length _) w5
    simp only [execOp, List.map_toArray, List.map_cons, List.map_nil, e32, e35, e38, e40, Sem.run_bind, hb, Result.andThen_ok]
    rfl
  · intro L a w5 hD
    have e41 : a.eval (.tmp 41) = .agg (fileL x.name (x.b.length : Int) (sha x.b) (st0.src.length : Int)).toArray := hD.at 12 (by kernel_rfl)
    have n14 := hD.later 14 (by kernel_rfl)
    have hs0 := hD.not_yet n14 16 (by kernel_rfl)
    have hB := hD.J.early n14
    have hb := lay_file x.name (x.b.length : Int) (st0.src.length : Int) (sha x.b) (Gy.sha_length _) w5
    refine Gy.FlowV.step_value rfl (Gy.FlowL.wanted_none rfl) (v := .slice (some ⟨w5.heap.size, 0, none⟩) 1 1) (w1 := w5.alloc (.cells (fileL x.name (x.b.length : Int) (sha x.b) (st0.src.length : Int)).toArray 43)) ?_ ⟨_, rfl, hB.size, Gy.alloc_at _ _⟩ (Gy.FlowV.AppJ.go n14 hs0 (hB.alloc hB.size _) 13 _ (by decide) (by decide)) ⟨(Gy.alloc_below _ _).size, fun k _ hk => (Gy.alloc_below _ _).block k hk⟩
    simp only [execOp, List.map_toArray, List.map_cons, List.map_nil, e41, Sem.run_bind, hb, Result.andThen_ok]
    rfl
  · intro L a w5 hD
    have e30 : a.eval (.tmp 30) = fv0 := hD.at 1 (by kernel_rfl)
    have q42 : (fun v w => ∃ g, v = .slice (some ⟨g, 0, none⟩) 1 1 ∧ wv.heap.size ≤ g ∧ w.heap[g]? = some (.cells (fileL x.name (x.b.length : Int) (sha x.b) (st0.src.length : Int)).toArray 43 (0, 0))) (a.eval (.tmp 42)) w5 := hD.at 13 (by kernel_rfl)
    obtain ⟨g42, e42, h42, c42⟩ := q42
    have hB := hD.J.early hD.not
    obtain ⟨v6, w6, hr, hM6, hgr⟩ := (HM.out.below hB).addFile (HXB.out.below hB) ⟨x.name, (x.b.length : Int), sha x.b, (st0.src.length : Int)⟩ (Gy.sha_length _) c42 HF.out 25
    refine Gy.FlowV.step_value rfl (Gy.FlowL.wanted_none rfl) (v := v6) (w1 := w6) (exec_append rfl e30 e42 hr) trivial (Gy.FlowV.AppJ.app (by decide) (hD.later 16 (by kernel_rfl)) hM6) ⟨hgr.size, fun k h1 h2 => hgr.block k h2 fun hk => ?_⟩
    have := (HM.out.f.own.lt k hk.symm).2
    omega
  · intro L a w5 hD
    have e8 : a.eval (.tmp 8) = .pointer (some ⟨SB, 0, none⟩) := hD.same.at_other 8 (by kernel_rfl)
    have f8 := e8; simp only [Act.eval, Array.getD_eq_getD_getElem?] at f8
    refine Gy.FlowV.step_value rfl (Gy.FlowL.wanted_none rfl) (v := .pointer (some ⟨SB, 1, none⟩)) (w1 := w5) ?_ rfl (hD.J.keep 15 _ (by decide) (by decide)) ⟨Nat.le_refl _, fun _ _ _ => rfl⟩
    first | (simp only [execOp]; go_simp; done) | (simp only [execOp, e8]; go_simp)
  · intro L a w5 hD
    have e44 : a.eval (.tmp 44) = .pointer (some ⟨SB, 1, none⟩) := hD.at 15 (by kernel_rfl)
    have hL := hD.waits 14 (by kernel_rfl)
    obtain ⟨ρ6, hM6, hX6⟩ := hD.J.2.1 hL hD.not
    obtain ⟨g7, cap7, e7, -, -⟩ := hM6.f.own.form (by simp)
    have e43 : a.eval (.tmp 43) = .slice (some ⟨g7, 0, none⟩) (st0.files ++ [(⟨x.name, (x.b.length : Int), sha x.b, (st0.src.length : Int)⟩ : FileR)]).length cap7 := e7
    have c43 : w5.cell? ⟨SB, 1, none⟩ = some fv0 := hM6.s.arr.cell rfl
    have z43 := hM6.s.arr.fr 1
    have f43 := e43; simp only [Act.eval, Array.getD_eq_getD_getElem?] at f43
    have f44 := e44; simp only [Act.eval, Array.getD_eq_getD_getElem?] at f44
    have hE := Gy.FlowV.AppJ.store (ia := 14) (is := 16) (B := (fun w5 => Below wv.heap.size wv w5)) (M := (fun v w5 => ∃ ρ', Mk w w5 ρ' SB [.int .i64 (s : Int), fv0, lv] v lv (.slice Ar st0.src.length cr) ks ⟨st0.files ++ [⟨x.name, (x.b.length : Int), sha x.b, (st0.src.length : Int)⟩], st0.slices, st0.src⟩ ∧ RArr w5 ρ' 6 xb [.string x.name, .slice A x.b.length c])) (E := (fun v w5 => ∃ ρ', Mk w w5 ρ' SB [.int .i64 (s : Int), v, lv] v lv (.slice Ar st0.src.length cr) ks ⟨st0.files ++ [⟨x.name, (x.b.length : Int), sha x.b, (st0.src.length : Int)⟩], st0.slices, st0.src⟩ ∧ RArr w5 ρ' 6 xb [.string x.name, .slice A x.b.length c])) (v := undef) (L := L) (f := Gy.FlowL.At _ a) (by decide) hL ⟨ρ6, hM6.put (i := 1) (by simp) _, hX6.turn (.set 1 _ hM6.s.role) (by omega)⟩
    refine Gy.FlowV.step_skip (w1 := w5.setCell ⟨SB, 1, none⟩ (.slice (some ⟨g7, 0, none⟩) (st0.files ++ [(⟨x.name, (x.b.length : Int), sha x.b, (st0.src.length : Int)⟩ : FileR)]).length cap7)) rfl (Gy.FlowL.wanted_none rfl) ?_ trivial (by rw [e7] at hE; exact hE) ⟨by rw [Gy.set_size]; exact Nat.le_refl _, fun k h1 _ => Below.heap_setCell w5 _ _ k (fun hk => ?_)⟩
    · first | (simp only [execOp]; go_simp; done) | (simp only [execOp, e44, e43]; go_simp)
    · have h3 : k = SB := hk
      have := HM.out.s.arr.lt
      omega
  · intro L a w5 hs hJ hL hv
    obtain ⟨ρ7, hM7, hX7⟩ := hJ.2.2 (hL 16 (by decide))
    have hp := Gy.FlowL.same_puts (by kernel_rfl) hs
    generalize Gy.FlowL.At _ a = vs at hp hM7
    clear hv hs hJ hL
    subst hp
    simp only [Gy.FlowL.puts, Act.put, List.setIfInBounds_toArray, List.set_cons_zero, List.set_cons_succ]
    have HM7 := Lib.hid hM7
    have HX7 := Lib.hid hX7
    have k1 := hX7.arr.cell (i := 1) (v := .slice A x.b.length c) rfl
    clear hM7 hX7
    go_wp2
    refine i_loop (b := x.b) (i := i) (n := n) (A := A) (c := c) _ hs1 hs2 HX.out HL3.out HC.out HR.out ⟨rfl, rfl, rfl, rfl, rfl, rfl, rfl, rfl, rfl, rfl, rfl, rfl, trivial⟩ HM7.out HX7.out HF1.out HF2.out ?_
    intro a' w' ρ' lv' rv' ks' A' c' g1 g2 g3
    obtain ⟨u, e⟩ := g1.out
    have e2 : a' = ⟨#[.slice (some ⟨LB, lo, none⟩) n cl, .int .i64 (s : Int), u 2, u 3, .pointer (some ⟨w.heap.size, 0, none⟩), u 5, u 6, u 7, .pointer (some ⟨SB, 0, none⟩), rv', u 10, .pointer (some ⟨xb, 0, none⟩), .slice A' 0 c', u 13, u 14, u 15, u 16, u 17, u 18, u 19, u 20, u 21, u 22, .slice (some ⟨LB, lo, none⟩) n cl, .int .i64 (n : Int), .int .i64 (i : Int), u 26, u 27, u 28, u 29, u 30, u 31, u 32, u 33, u 34, u 35, u 36, u 37, u 38, u 39, u 40, u 41, u 42, u 43, u 44, u 45, u 46, u 47, u 48, u 49, u 50, u 51, u 52, u 53, u 54, u 55, u 56, u 57, u 58, u 59, u 60, u 61, u 62, u 63, u 64, u 65, u 66, u 67, u 68, u 69, u 70, u 71, u 72, u 73, u 74, u 75, u 76, u 77, u 78, u 79, u 80, u 81], []⟩ := e
    rw [e2]
    clear e e2 g1 g3 k1 HM7 HX7
    have HM9 := Lib.hid g2
    clear g2
    go_wp2
    exact HQ.out _ _ ρ' _ lv' rv' ks' ⟨rfl, rfl, rfl, rfl, rfl, rfl, rfl, rfl, rfl, rfl, trivial⟩ HM9.out
set_option maxHeartbeats 2000000 in
set_option maxRecDepth 100000 in
theorem o_last {u2 u3 u5 u6 u7 u10 u11 u12 u13 u14 u15 u16 u17 u18 u19 u20 u21 u22 u26 u27 u28 u29 u30 u31 u32 u33 u34 u35 u36 u37 u38 u39 u40 u41 u42 u43 u44 u45 u46 u47 u48 u49 u50 u51 u52 u53 u54 u55 u56 u57 u58 u59 u60 u61 u62 u63 u64 u65 u66 u67 u68 u69 u70 u71 u72 u73 u74 u75 u76 u77 u78 u79 u80 u81 : Value} {w wr : World} {SB n : Nat} {rv L0 : Value} {s : Nat} (Q : Exit → Act → World → Prop)
    (hQ : ∀ a', Fr 82 (frO w L0 s SB n n rv) a' → Q (.exit 0) a' wr) :
    Code.wp Tryd.prog (bodyOf 0) Q ⟨#[L0, .int .i64 (s : Int), u2, u3, .pointer (some ⟨w.heap.size, 0, none⟩), u5, u6, u7, .pointer (some ⟨SB, 0, none⟩), rv, u10, u11, u12, u13, u14, u15, u16, u17, u18, u19, u20, u21, u22, L0, .int .i64 (n : Int), .int .i64 (n : Int), u26, u27, u28, u29, u30, u31, u32, u33, u34, u35, u36, u37, u38, u39, u40, u41, u42, u43, u44, u45, u46, u47, u48, u49, u50, u51, u52, u53, u54, u55, u56, u57, u58, u59, u60, u61, u62, u63, u64, u65, u66, u67, u68, u69, u70, u71, u72, u73, u74, u75, u76, u77, u78, u79, u80, u81], []⟩ wr := by
  conv => arg 2; whnf
  have HQ := Lib.hid hQ
  have t26 : decide ((n : Int) < (n : Int)) = false := by simp
  clear hQ
  go_wp2
  exact HQ.out _ ⟨rfl, rfl, rfl, rfl, rfl, rfl, rfl, rfl, rfl, rfl, trivial⟩
def lensOf (l : List Inp) : Nat := (l.map fun x => x.b.length).sum
theorem lensOf_drop {l : List Inp} {i : Nat} {x : Inp} (h : l[i]? = some x) : lensOf (l.drop i) = x.b.length + lensOf (l.drop (i + 1)) := by
  obtain ⟨hi, e⟩ := List.getElem?_eq_some_iff.1 h
  rw [List.drop_eq_getElem_cons hi, e]
  simp [lensOf]
theorem intOf_int (k : IntKind) (x : Int) : intOf (.int k x) = x := rfl
set_option maxHeartbeats 1000000 in
set_option maxRecDepth 100000 in
/-- all files -/
theorem o_loop {w wr : World} {ρ : Nat → Nat} {SB LB lo cl : Nat} {fv lv rv : Value} {ks : List Value} {st : Cut} {s : Nat} {l : List Inp} {a : Act} (Q : Exit → Act → World → Prop) (hs1 : 1 ≤ s) (hs2 : s ≤ 256) (hI : InAt w LB lo l) (hln : l.length ≤ 50) (hsz : lensOf l ≤ 30000)
    (hF : Fr 82 (frO w (.slice (some ⟨LB, lo, none⟩) l.length cl) s SB l.length 0 rv) a) (hM : Mk w wr ρ SB [.int .i64 (s : Int), fv, lv] fv lv rv ks st) (hf : st.src.length = 0) (hf2 : st.slices.length = 0) (hf3 : st.files.length = 0)
    (hQ : ∀ a' w' ρ' fv' lv' rv' ks', Fr 82 (frO w (.slice (some ⟨LB, lo, none⟩) l.length cl) s SB l.length l.length rv') a' → Mk w w' ρ' SB [.int .i64 (s : Int), fv', lv'] fv' lv' rv' ks' (Cut.addAll s st l) → Q (.exit 0) a' w') :
    Code.wp Tryd.prog (Code.loop (bodyOf 0)) Q a wr := by
  refine wp_loop (fun a w' => ∃ (i : Nat) (ρ' : Nat → Nat) (fv' lv' rv' : Value) (ks' : List Value) (st' : Cut), i ≤ l.length ∧ Fr 82 (frO w (.slice (some ⟨LB, lo, none⟩) l.length cl) s SB l.length i rv') a ∧ Mk w w' ρ' SB [.int .i64 (s : Int), fv', lv'] fv' lv' rv' ks' st' ∧ st'.src.length + lensOf (l.drop i) ≤ 30000 ∧ st'.slices.length = st'.src.length ∧ st'.files.length = i ∧ Cut.addAll s st' (l.drop i) = Cut.addAll s st l) (fun a _ => l.length - (intOf (a.tmps.getD 25 undef)).toNat)
    ⟨0, ρ, fv, lv, rv, ks, st, by omega, hF, hM, by rw [hf]; simpa using hsz, by omega, hf3, rfl⟩ ?_
  rintro a w' ⟨i, ρ', fv', lv', rv', ks', st', h1, hF', h5, h6, h7, h8, h9⟩
  have h25 := hF'.at 25 _ rfl
  obtain ⟨u, e⟩ := hF'.out
  rw [e]
  by_cases h0 : i < l.length
  · obtain ⟨x, hx⟩ : ∃ x, l[i]? = some x := ⟨l[i], List.getElem?_eq_getElem h0⟩
    have hd := lensOf_drop hx
    obtain ⟨A, c, g1, g2, g3, g4⟩ := hI.b i x hx
    refine o_step (x := x) _ hs1 hs2 h0 (by omega) (hI.name i x hx) g1 g4 (by omega) g2 g3 h5 (by omega) (by omega) (by omega) ?_
    intro a2 w2 ρ2 fv2 lv2 rv2 ks2 k1 k2
    have hch := chunks_length_le hs1 x.b.length x.b (Nat.le_refl _)
    have hform := Cut.addCs_form (chunks s x.b) (st'.addF x)
    refine ⟨⟨i + 1, ρ2, fv2, lv2, rv2, ks2, _, h0, k1, k2, ?_, ?_, ?_, ?_⟩, ?_⟩
    · rw [hform]; simp only [Cut.addF, List.length_append]; omega
    · rw [hform]; simp only [Cut.addF, List.length_append, List.length_map]; omega
    · rw [hform]; simp only [Cut.addF, List.length_append, List.length_singleton]; omega
    · rw [← h9]
      obtain ⟨hi, ex⟩ := List.getElem?_eq_some_iff.1 hx
      rw [List.drop_eq_getElem_cons hi, ex]
      rfl
    · rw [k1.at 25 _ rfl, ← e, h25, intOf_int, intOf_int]
      omega
  · obtain rfl : i = l.length := by omega
    refine o_last _ fun a2 hF2 => ?_
    rw [List.drop_of_length_le (Nat.le_refl _)] at h9
    exact hQ a2 w' ρ' fv' lv' rv' ks' hF2 (by rw [← h9]; exact h5)
end Go.Proofs.YtlmgikhgmbjfdaaDoor.Cuts
/- A map[string]bool of names that are known. -/
namespace Gy
open Go Go.Proofs Go.RowKit

def memB (s : ByteArray) (L : List ByteArray) : Bool := L.any fun t => decide (t = s)
theorem memB_iff {s : ByteArray} {L : List ByteArray} : memB s L = true ↔ s ∈ L := by
  unfold memB
  rw [List.any_eq_true]
  constructor
  · rintro ⟨t, h, e⟩
    rw [← of_decide_eq_true e]; exact h
  · intro h
    exact ⟨s, h, decide_eq_true rfl⟩
theorem data_inj {s t : ByteArray} (h : s.data.toList = t.data.toList) : s = t := by
  have h1 : s.data = t.data := Array.toList_inj.1 h
  cases s; cases t; simp only at h1; rw [h1]
set_option maxRecDepth 100000 in
theorem key_string (s : ByteArray) (hs : s.size ≤ 1000000) : keyOf Tryd.prog 9 (.string s) = some (.string s.data.toList) := by
  simp [keyOf, mapKey, Tryd.underlying9]
  unfold maxLen
  omega
def Known (W : World) (b n : Nat) (L : List ByteArray) : Prop :=
  ∃ D : DataW Unit, W.ownsMap Tryd.prog 9 (plainElem Tryd.prog 4) b n D ∧ Maps.IsMap D ∧ ∀ s : ByteArray, D.atKey (.string s.data.toList) (.lit (.bool false)) = .lit (.bool (memB s L))
theorem Known.made (W : World) : Known (W.alloc (.map #[] 0)) W.heap.size 0 [] := ⟨.map [], World.ownsMap_made _ _ _ _, Maps.isMap_empty, fun _ => rfl⟩
theorem Known.alloc {W : World} {b n : Nat} {L : List ByteArray} (h : Known W b n L) (o : Obj) : Known (W.alloc o) b n L := let ⟨D, h1, h2⟩ := h; ⟨D, h1.alloc o, h2⟩
theorem Known.kept {W W' : World} {b n : Nat} {L : List ByteArray} (h : Known W b n L) {row : Option Nat} (hg : W.grownBy W' row) (hne : some b ≠ row) : Known W' b n L := let ⟨D, h1, h2⟩ := h; ⟨D, h1.kept hg hne, h2⟩
theorem Known.keptB {W W' : World} {b n : Nat} {L : List ByteArray} (h : Known W b n L) (hb : Below W.heap.size W W') : Known W' b n L := by
  obtain ⟨D, ⟨es, clock, h1, h3⟩, h2⟩ := h
  exact ⟨D, ⟨es, clock, by rw [hb.block b (Array.getElem?_eq_some_iff.1 h1).1]; exact h1, h3⟩, h2⟩
theorem Known.lt {W : World} {b n : Nat} {L : List ByteArray} (h : Known W b n L) : b < W.heap.size := let ⟨_, h1, _⟩ := h; h1.lt
set_option maxRecDepth 100000 in
theorem Known.look {W : World} {b n : Nat} {L : List ByteArray} (h : Known W b n L) (s : ByteArray) (hs : s.size ≤ 1000000) : (Instr.lookup 84 (.map (some b)) (.string s) false).run Tryd.prog W = .ok (.bool (memB s L)) W := by
  obtain ⟨D, h1, h2, h3⟩ := h
  obtain ⟨v, ps, hr, hv⟩ := h1.lookup (Maps.string_keyed Tryd.underlying9) Tryd.underlying84 (Tryd.zeroValue4 W) (zd := .lit (.bool false)) (zp := []) (by unfold plainElem; rw [Tryd.underlying4]) (key_string s hs)
  rw [hr]
  rw [h3] at hv
  unfold plainElem at hv
  rw [Tryd.underlying4] at hv
  cases v <;> simp at hv
  rw [hv.1]
set_option maxRecDepth 100000 in
theorem Known.put {W : World} {b n : Nat} {L : List ByteArray} (h : Known W b n L) (hn : n ≤ 1000000) (s : ByteArray) (hs : s.size ≤ 1000000) : ∃ W', (Instr.mapUpdate 84 (.map (some b)) (.string s) (.bool true)).run Tryd.prog W = .ok () W' ∧ Known W' b (n + 1) (s :: L) ∧ W.grownBy W' (some b) := by
  obtain ⟨D, h1, h2, h3⟩ := h
  obtain ⟨W', g1, g2, g3⟩ := h1.update (Maps.string_keyed Tryd.underlying9) Tryd.underlying84 (by unfold maxLen; omega) (key_string s hs) (val := .bool true) (d := .lit (.bool true)) (ps := []) (by unfold plainElem; rw [Tryd.underlying4])
  refine ⟨W', g1, ⟨_, g2, h2.put _ _, fun t => ?_⟩, g3⟩
  by_cases e : t = s
  · subst e
    rw [Maps.atKey_put_same h2 (by simp [WideAt.IsKeyLit])]
    simp [memB]
  · rw [Maps.atKey_put_other (fun h => e (data_inj (Lit.string.inj h))), h3]
    have e2 : ¬ s = t := fun h => e h.symm
    simp [memB, e2]
end Gy
/-
  DERIVED: THE SHELF's CONTRACTS AT THIS DUMP, IN PLAIN WORDS (tools/lay-plain.mjs out of 'YtlmgikhgmbjfdaaDoorShelfSplit.lean', which tools/lay-shelf.mjs wrote): THE SAME DECLARATIONS UNDER THE SAME NAMES: 'import', 'namespace', 'open', 'def', 'theorem' AND NOTHING ELSE: no command of the shelf's: FOR A HAND-IN. Each laying: the table of numbers ('.._ren') and one theorem, a field a fact of the dump's own or the kernel's comparison; each contract: ONE APPLICATION.
-/
namespace Go.Proofs
open Go.Shelf
def Tryd.splitLay_ren : Go.Shelf.Ren := ⟨fun | 146 => 63 | 221 => 78 | 268 => 84 | 138 => 85 | 143 => 86 | 195 => 88 | 197 => 89 | 218 => 90 | 219 => 91 | 260 => 92 | 217 => 93 | 225 => 94 | 224 => 95 | 267 => 96 | 266 => 97 | 314 => 98 | n => n, fun | 9 => 9 | 31 => 112 | 3 => 3 | 4 => 4 | 0 => 0 | 105 => 134 | 21 => 21 | 5 => 5 | 46 => 69 | 119 => 138 | 139 => 141 | 138 => 140 | 146 => 142 | 51 => 35 | n => n, fun | 1 => 0 | 3 => 1 | 4 => 2 | n => n⟩
theorem Tryd.splitLay : Go.Proofs.LaysM.n146 Tryd.prog Tryd.splitLay_ren := {
  mixed := by kernel_rfl
  f138 := Tryd.func85.trans (congrArg some (by kernel_rfl))
  f143 := Tryd.func86.trans (congrArg some (by kernel_rfl))
  f146 := Tryd.func63.trans (congrArg some (by kernel_rfl))
  f195 := Tryd.func88.trans (congrArg some (by kernel_rfl))
  f197 := Tryd.func89.trans (congrArg some (by kernel_rfl))
  f217 := Tryd.func93.trans (congrArg some (by kernel_rfl))
  f218 := Tryd.func90.trans (congrArg some (by kernel_rfl))
  f219 := Tryd.func91.trans (congrArg some (by kernel_rfl))
  f221 := Tryd.func78.trans (congrArg some (by kernel_rfl))
  f224 := Tryd.func95.trans (congrArg some (by kernel_rfl))
  f225 := Tryd.func94.trans (congrArg some (by kernel_rfl))
  f260 := Tryd.func92.trans (congrArg some (by kernel_rfl))
  f266 := Tryd.func97.trans (congrArg some (by kernel_rfl))
  f267 := Tryd.func96.trans (congrArg some (by kernel_rfl))
  f268 := Tryd.func84.trans (congrArg some (by kernel_rfl))
  f314 := Tryd.func98.trans (congrArg some (by kernel_rfl))
  t0 := Tryd.underlying0
  a0 := Tryd.isAgg0
  z0 := Tryd.sizeOf0
  v0 := Tryd.zeroValue0
  t3 := Tryd.underlying3
  a3 := Tryd.isAgg3
  z3 := Tryd.sizeOf3
  v3 := Tryd.zeroValue3
  t4 := Tryd.underlying4
  a4 := Tryd.isAgg4
  z4 := Tryd.sizeOf4
  v4 := Tryd.zeroValue4
  t5 := Tryd.underlying5
  a5 := Tryd.isAgg5
  z5 := Tryd.sizeOf5
  v5 := Tryd.zeroValue5
  t9 := Tryd.underlying9
  a9 := Tryd.isAgg9
  z9 := Tryd.sizeOf9
  v9 := Tryd.zeroValue9
  t21 := Tryd.underlying21
  a21 := Tryd.isAgg21
  z21 := Tryd.sizeOf21
  v21 := Tryd.zeroValue21
  t31 := Tryd.underlying112
  a31 := Tryd.isAgg112
  z31 := Tryd.sizeOf112
  v31 := Tryd.zeroValue112
  t46 := Tryd.underlying69
  a46 := Tryd.isAgg69
  z46 := Tryd.sizeOf69
  v46 := Tryd.zeroValue69
  t51 := Tryd.underlying35
  a51 := Tryd.isAgg35
  z51 := Tryd.sizeOf35
  v51 := Tryd.zeroValue35
  t105 := Tryd.underlying134
  a105 := Tryd.isAgg134
  z105 := Tryd.sizeOf134
  v105 := Tryd.zeroValue134
  t119 := Tryd.underlying138
  a119 := Tryd.isAgg138
  z119 := Tryd.sizeOf138
  t138 := Tryd.underlying140
  a138 := Tryd.isAgg140
  z138 := Tryd.sizeOf140
  v138 := Tryd.zeroValue140
  t139 := Tryd.underlying141
  a139 := Tryd.isAgg141
  z139 := Tryd.sizeOf141
  v139 := Tryd.zeroValue141
  t146 := Tryd.underlying142
  a146 := Tryd.isAgg142
  z146 := Tryd.sizeOf142
  v146 := Tryd.zeroValue142
  g1 := by kernel_rfl
  g3 := by kernel_rfl
  g4 := by kernel_rfl
  i0 := by kernel_rfl
  i3 := by kernel_rfl
  i4 := by kernel_rfl
  i5 := by kernel_rfl
  i9 := by kernel_rfl
  i21 := by kernel_rfl
  i31 := by kernel_rfl
  i46 := by kernel_rfl
  i51 := by kernel_rfl
  i105 := by kernel_rfl
  i138 := by kernel_rfl
  i139 := by kernel_rfl
  i146 := by kernel_rfl
  m1 := by kernel_rfl
  s1_3 := fun w h => Go.Proofs.cell_of_shapedOpen_int (zero := #[.int .i64 0]) (t := 3) h (of_decide_eq_true (by kernel_rfl)) (by kernel_rfl) rfl (by kernel_rfl) (by kernel_rfl) Tryd.underlying3
  m3 := by kernel_rfl
  m4 := by kernel_rfl }
end Go.Proofs
/- Machine-made by a program of this claim: functions of the Go program as Lean functions, and that its calls do what these say. Lean checks it. -/
namespace Go.Proofs.YtlmgikhgmbjfdaaDoor.QPart
open Go.RowKit Go.Proofs.YtlmgikhgmbjfdaaDoorW.PrintWords Go.Proofs.YtlmgikhgmbjfdaaDoorW.PrintLast Go.Proofs.YtlmgikhgmbjfdaaDoorW.PrintMore
attribute [local go_sem] max2_int min2_int max_two min_two max_three min_three max_four min_four   -- for this text's walks alone
set_option linter.unusedVariables false
set_option linter.unusedSimpArgs false



def errW : Option Int → Value
  | none => .nilIface
  | some c => .iface 0 (.int .i64 c)
theorem errW_none : errW none = .nilIface := rfl
theorem errW_some (c : Int) : errW (some c) = .iface 0 (.int .i64 c) := rfl

-- the values' own types

end Go.Proofs.YtlmgikhgmbjfdaaDoor.QPart
/- Machine-made by a program of this claim: functions of the Go program as Lean functions, and that its calls do what these say. Lean checks it. -/
namespace Go.Proofs.YtlmgikhgmbjfdaaDoor.QPart
open Go.RowKit Go.Proofs.YtlmgikhgmbjfdaaDoorW.PrintWords Go.Proofs.YtlmgikhgmbjfdaaDoorW.PrintLast Go.Proofs.YtlmgikhgmbjfdaaDoorW.PrintMore
attribute [local go_sem] max2_int min2_int max_two min_two max_three min_three max_four min_four   -- for this text's walks alone
set_option linter.unusedVariables false
set_option linter.unusedSimpArgs false

/-! ### path_plain: function 79 -/
def path_plain.f (a0 : Int) : Option (Bool) := if a0 ≥ 97 then (if a0 ≤ 122 then (some true) else (if a0 ≥ 48 then (if a0 ≤ 57 then (some true) else (if a0 = 46 then (some true) else (if a0 = 95 then (some true) else (some (a0 == 45))))) else (if a0 = 46 then (some true) else (if a0 = 95 then (some true) else (some (a0 == 45)))))) else (if a0 ≥ 48 then (if a0 ≤ 57 then (some true) else (if a0 = 46 then (some true) else (if a0 = 95 then (some true) else (some (a0 == 45))))) else (if a0 = 46 then (some true) else (if a0 = 95 then (some true) else (some (a0 == 45)))))
set_option maxHeartbeats 8000000 in
set_option maxRecDepth 100000 in
theorem path_plain.calls (a0 : Int) (r : Bool) (w : World) (h : path_plain.f a0 = some r) :
    Calls Tryd.prog 79 #[.int .u8 a0] w fun e w' => e = .returned (.bool r) ∧ Drawn0 w w' := by
  have H : (if a0 ≥ 97 then (if a0 ≤ 122 then (some true) else (if a0 ≥ 48 then (if a0 ≤ 57 then (some true) else (if a0 = 46 then (some true) else (if a0 = 95 then (some true) else (some (a0 == 45))))) else (if a0 = 46 then (some true) else (if a0 = 95 then (some true) else (some (a0 == 45)))))) else (if a0 ≥ 48 then (if a0 ≤ 57 then (some true) else (if a0 = 46 then (some true) else (if a0 = 95 then (some true) else (some (a0 == 45))))) else (if a0 = 46 then (some true) else (if a0 = 95 then (some true) else (some (a0 == 45)))))) = some r := h
  clear h
  by_cases c2 : a0 ≥ 97
  · rw [if_pos c2] at H
    have c2b0 : decide (97 ≤ a0) = true := decide_eq_true c2
    clear c2
    by_cases c3 : a0 ≤ 122
    · rw [if_pos c3] at H
      have c3b0 : decide (a0 ≤ 122) = true := decide_eq_true c3
      clear c3
      obtain rfl := Option.some.inj H
      go_enter Tryd.func79, Tryd.ntmps79
      go_wp2
      go_ret
      exact ⟨by first | rfl | (simp; done) | (simp [*]; done), by repeat (first | exact Drawn0.refl _ | apply Drawn0.step)⟩
    · rw [if_neg c3] at H
      have c3b0 : decide (a0 ≤ 122) = false := decide_eq_false c3
      clear c3
      by_cases c4 : a0 ≥ 48
      · rw [if_pos c4] at H
        have c4b0 : decide (48 ≤ a0) = true := decide_eq_true c4
        clear c4
        by_cases c5 : a0 ≤ 57
        · rw [if_pos c5] at H
          have c5b0 : decide (a0 ≤ 57) = true := decide_eq_true c5
          clear c5
          obtain rfl := Option.some.inj H
          go_enter Tryd.func79, Tryd.ntmps79
          go_wp2
          go_ret
          exact ⟨by first | rfl | (simp; done) | (simp [*]; done), by repeat (first | exact Drawn0.refl _ | apply Drawn0.step)⟩
        · rw [if_neg c5] at H
          have c5b0 : decide (a0 ≤ 57) = false := decide_eq_false c5
          clear c5
          by_cases c6 : a0 = 46
          · rw [if_pos c6] at H
            have c6b0 : (a0 == 46) = true := beq_iff_eq.mpr c6
            have c6b1 : (a0 != 46) = false := bne_eq_false_iff_eq.mpr c6
            clear c6
            obtain rfl := Option.some.inj H
            go_enter Tryd.func79, Tryd.ntmps79
            go_wp2
            go_ret
            exact ⟨by first | rfl | (simp; done) | (simp [*]; done), by repeat (first | exact Drawn0.refl _ | apply Drawn0.step)⟩
          · rw [if_neg c6] at H
            have c6b0 : (a0 == 46) = false := beq_eq_false_iff_ne.mpr c6
            have c6b1 : (a0 != 46) = true := bne_iff_ne.mpr c6
            by_cases c7 : a0 = 95
            · rw [if_pos c7] at H
              have c7b0 : (a0 == 95) = true := beq_iff_eq.mpr c7
              have c7b1 : (a0 != 95) = false := bne_eq_false_iff_eq.mpr c7
              clear c7
              obtain rfl := Option.some.inj H
              go_enter Tryd.func79, Tryd.ntmps79
              go_wp2
              go_ret
              exact ⟨by first | rfl | (simp; done) | (simp [*]; done), by repeat (first | exact Drawn0.refl _ | apply Drawn0.step)⟩
            · rw [if_neg c7] at H
              have c7b0 : (a0 == 95) = false := beq_eq_false_iff_ne.mpr c7
              have c7b1 : (a0 != 95) = true := bne_iff_ne.mpr c7
              obtain rfl := Option.some.inj H
              go_enter Tryd.func79, Tryd.ntmps79
              go_wp2
              go_ret
              exact ⟨by first | rfl | (simp; done) | (simp [*]; done), by repeat (first | exact Drawn0.refl _ | apply Drawn0.step)⟩
      · rw [if_neg c4] at H
        have c4b0 : decide (48 ≤ a0) = false := decide_eq_false c4
        clear c4
        by_cases c8 : a0 = 46
        · rw [if_pos c8] at H
          have c8b0 : (a0 == 46) = true := beq_iff_eq.mpr c8
          have c8b1 : (a0 != 46) = false := bne_eq_false_iff_eq.mpr c8
          clear c8
          obtain rfl := Option.some.inj H
          go_enter Tryd.func79, Tryd.ntmps79
          go_wp2
          go_ret
          exact ⟨by first | rfl | (simp; done) | (simp [*]; done), by repeat (first | exact Drawn0.refl _ | apply Drawn0.step)⟩
        · rw [if_neg c8] at H
          have c8b0 : (a0 == 46) = false := beq_eq_false_iff_ne.mpr c8
          have c8b1 : (a0 != 46) = true := bne_iff_ne.mpr c8
          by_cases c9 : a0 = 95
          · rw [if_pos c9] at H
            have c9b0 : (a0 == 95) = true := beq_iff_eq.mpr c9
            have c9b1 : (a0 != 95) = false := bne_eq_false_iff_eq.mpr c9
            clear c9
            obtain rfl := Option.some.inj H
            go_enter Tryd.func79, Tryd.ntmps79
            go_wp2
            go_ret
            exact ⟨by first | rfl | (simp; done) | (simp [*]; done), by repeat (first | exact Drawn0.refl _ | apply Drawn0.step)⟩
          · rw [if_neg c9] at H
            have c9b0 : (a0 == 95) = false := beq_eq_false_iff_ne.mpr c9
            have c9b1 : (a0 != 95) = true := bne_iff_ne.mpr c9
            obtain rfl := Option.some.inj H
            go_enter Tryd.func79, Tryd.ntmps79
            go_wp2
            go_ret
            exact ⟨by first | rfl | (simp; done) | (simp [*]; done), by repeat (first | exact Drawn0.refl _ | apply Drawn0.step)⟩
  · rw [if_neg c2] at H
    have c2b0 : decide (97 ≤ a0) = false := decide_eq_false c2
    clear c2
    by_cases c10 : a0 ≥ 48
    · rw [if_pos c10] at H
      have c10b0 : decide (48 ≤ a0) = true := decide_eq_true c10
      clear c10
      by_cases c11 : a0 ≤ 57
      · rw [if_pos c11] at H
        have c11b0 : decide (a0 ≤ 57) = true := decide_eq_true c11
        clear c11
        obtain rfl := Option.some.inj H
        go_enter Tryd.func79, Tryd.ntmps79
        go_wp2
        go_ret
        exact ⟨by first | rfl | (simp; done) | (simp [*]; done), by repeat (first | exact Drawn0.refl _ | apply Drawn0.step)⟩
      · rw [if_neg c11] at H
        have c11b0 : decide (a0 ≤ 57) = false := decide_eq_false c11
        clear c11
        by_cases c12 : a0 = 46
        · rw [if_pos c12] at H
          have c12b0 : (a0 == 46) = true := beq_iff_eq.mpr c12
          have c12b1 : (a0 != 46) = false := bne_eq_false_iff_eq.mpr c12
          clear c12
          obtain rfl := Option.some.inj H
          go_enter Tryd.func79, Tryd.ntmps79
          go_wp2
          go_ret
          exact ⟨by first | rfl | (simp; done) | (simp [*]; done), by repeat (first | exact Drawn0.refl _ | apply Drawn0.step)⟩
        · rw [if_neg c12] at H
          have c12b0 : (a0 == 46) = false := beq_eq_false_iff_ne.mpr c12
          have c12b1 : (a0 != 46) = true := bne_iff_ne.mpr c12
          by_cases c13 : a0 = 95
          · rw [if_pos c13] at H
            have c13b0 : (a0 == 95) = true := beq_iff_eq.mpr c13
            have c13b1 : (a0 != 95) = false := bne_eq_false_iff_eq.mpr c13
            clear c13
            obtain rfl := Option.some.inj H
            go_enter Tryd.func79, Tryd.ntmps79
            go_wp2
            go_ret
            exact ⟨by first | rfl | (simp; done) | (simp [*]; done), by repeat (first | exact Drawn0.refl _ | apply Drawn0.step)⟩
          · rw [if_neg c13] at H
            have c13b0 : (a0 == 95) = false := beq_eq_false_iff_ne.mpr c13
            have c13b1 : (a0 != 95) = true := bne_iff_ne.mpr c13
            obtain rfl := Option.some.inj H
            go_enter Tryd.func79, Tryd.ntmps79
            go_wp2
            go_ret
            exact ⟨by first | rfl | (simp; done) | (simp [*]; done), by repeat (first | exact Drawn0.refl _ | apply Drawn0.step)⟩
    · rw [if_neg c10] at H
      have c10b0 : decide (48 ≤ a0) = false := decide_eq_false c10
      clear c10
      by_cases c14 : a0 = 46
      · rw [if_pos c14] at H
        have c14b0 : (a0 == 46) = true := beq_iff_eq.mpr c14
        have c14b1 : (a0 != 46) = false := bne_eq_false_iff_eq.mpr c14
        clear c14
        obtain rfl := Option.some.inj H
        go_enter Tryd.func79, Tryd.ntmps79
        go_wp2
        go_ret
        exact ⟨by first | rfl | (simp; done) | (simp [*]; done), by repeat (first | exact Drawn0.refl _ | apply Drawn0.step)⟩
      · rw [if_neg c14] at H
        have c14b0 : (a0 == 46) = false := beq_eq_false_iff_ne.mpr c14
        have c14b1 : (a0 != 46) = true := bne_iff_ne.mpr c14
        by_cases c15 : a0 = 95
        · rw [if_pos c15] at H
          have c15b0 : (a0 == 95) = true := beq_iff_eq.mpr c15
          have c15b1 : (a0 != 95) = false := bne_eq_false_iff_eq.mpr c15
          clear c15
          obtain rfl := Option.some.inj H
          go_enter Tryd.func79, Tryd.ntmps79
          go_wp2
          go_ret
          exact ⟨by first | rfl | (simp; done) | (simp [*]; done), by repeat (first | exact Drawn0.refl _ | apply Drawn0.step)⟩
        · rw [if_neg c15] at H
          have c15b0 : (a0 == 95) = false := beq_eq_false_iff_ne.mpr c15
          have c15b1 : (a0 != 95) = true := bne_iff_ne.mpr c15
          obtain rfl := Option.some.inj H
          go_enter Tryd.func79, Tryd.ntmps79
          go_wp2
          go_ret
          exact ⟨by first | rfl | (simp; done) | (simp [*]; done), by repeat (first | exact Drawn0.refl _ | apply Drawn0.step)⟩

/-! ### path_part: function 64 -/
def path_part.l0 : Nat → ByteArray → Int → Int → Option (Bool)
  | 0, _, _, _ => none
  | k + 1, x0, x5, x6 => if x6 < x5 then (if 0 ≤ x6 then (if x6 < (x0.size : Int) then ((path_plain.f (bt x0 x6)).bind fun t101 => (if t101 = true then (path_part.l0 k x0 x5 (wrap64 (x6 + 1))) else (some false))) else (none)) else (none)) else (if x0.toList = ([] : List UInt8) then (some false) else (if x0.toList = ([46] : List UInt8) then (some false) else (some (x0.toList != ([46, 46] : List UInt8)))))
def path_part.f (k : Nat) (a0 : ByteArray) : Option (Bool) := path_part.l0 k a0 (a0.size : Int) 0
theorem path_part.mono_l : ∀ k, (∀ y0 y1 y2, LeO (path_part.l0 k y0 y1 y2) (path_part.l0 (k + 1) y0 y1 y2))
  | 0 => fun _ _ _ r h => by simp [path_part.l0] at h
  | k + 1 => by
    have ih0 := path_part.mono_l k
    · intro y0 y1 y2
      unfold path_part.l0
      repeat' first
      | (with_reducible exact ih0 _ _ _)
      | (with_reducible exact LeO.refl _)
      | (with_reducible exact LeO.none _)
      | (with_reducible refine LeO.ite ?_ ?_)
      | (with_reducible refine LeO.bind ?_ (fun _ => ?_))
      | exact ih0 _ _ _
      | exact LeO.none _
      | refine LeO.ite ?_ ?_
      | refine LeO.bind ?_ (fun _ => ?_)
theorem path_part.mono : ∀ a0 k, LeO (path_part.f k a0) (path_part.f (k + 1) a0) := by
  intro a0 k
  have ih0 := path_part.mono_l k
  unfold path_part.f
  repeat' first
      | (with_reducible exact ih0 _ _ _)
      | (with_reducible exact LeO.refl _)
      | (with_reducible exact LeO.none _)
      | (with_reducible refine LeO.ite ?_ ?_)
      | (with_reducible refine LeO.bind ?_ (fun _ => ?_))
      | exact ih0 _ _ _
      | exact LeO.none _
      | refine LeO.ite ?_ ?_
      | refine LeO.bind ?_ (fun _ => ?_)
set_option maxHeartbeats 8000000 in
set_option maxRecDepth 100000 in
theorem path_part.calls (k : Nat) (a0 : ByteArray) (r : Bool) (w : World) (h : path_part.f k a0 = some r) :
    Calls Tryd.prog 64 #[.string a0] w fun e w' => e = .returned (.bool r) ∧ Drawn0 w w' := by
  have H : (path_part.l0 k a0 (a0.size : Int) 0) = some r := h
  clear h
  have H' := Aside0.mk H
  clear H
  go_enter Tryd.func64, Tryd.ntmps64
  go_wp2
  go_loopg [6] k (fun kq v6 w' => ∃ (x6_1 : Int), v6 = .int .i64 x6_1 ∧ Aside0 (path_part.l0 kq a0 (a0.size : Int) x6_1 = some r) ∧ Aside0 (kq ≤ k) ∧ Drawn0 w w')
  case atStart => exact ⟨(0), (by first | rfl | (simp; done) | (simp [*]; done)), H', ⟨Nat.le_refl _⟩, by repeat (first | exact Drawn0.refl _ | apply Drawn0.step)⟩
  case round =>
    clear H'
    obtain ⟨x6_1, rfl, HA, HK1, ⟨m1, rfl⟩⟩ := hrel
    cases gk with
    | zero => exact absurd HA.out (by simp [path_part.l0])
    | succ k1 =>
      have H := HA.out
      clear HA
      simp only [path_part.l0] at H
      by_cases c2 : x6_1 < (a0.size : Int)
      · rw [if_pos c2] at H
        have c2b0 : decide (x6_1 < (a0.size : Int)) = true := decide_eq_true c2
        clear c2
        by_cases c3 : 0 ≤ x6_1
        · rw [if_pos c3] at H
          have c3b0 : decide (0 ≤ x6_1) = true := decide_eq_true c3
          clear c3
          by_cases c4 : x6_1 < (a0.size : Int)
          · rw [if_pos c4] at H
            have c4b0 : decide (x6_1 < (a0.size : Int)) = true := decide_eq_true c4
            clear c4
            replace H := Option.bind_eq_some_iff.mp H
            obtain ⟨t101, A60, H⟩ := H
            replace H : (if t101 = true then (path_part.l0 k1 a0 (a0.size : Int) (wrap64 (x6_1 + 1))) else (some false)) = some r := H
            have A6 := Aside0.mk A60
            clear A60
            by_cases c7 : t101 = true
            · subst c7
              have H1 : (path_part.l0 k1 a0 (a0.size : Int) (wrap64 (x6_1 + 1))) = some r := by rw [if_pos rfl] at H; exact H
              clear H
              have H := H1
              clear H1
              have H' := Aside0.mk H
              clear H
              have p5 : 0 ≤ (x6_1 : Int) := of_decide_eq_true (by first | (with_reducible assumption) | assumption)
              have q5 : x6_1 < (a0.size : Int) := of_decide_eq_true (by first | (with_reducible assumption) | assumption)
              have hx5 := bt_at a0 x6_1
              replace p5 := eq_true p5
              replace q5 := eq_true q5
              go_wp2_with (first | ((with_reducible refine gate_callee (f := 79) rfl ?_); refine goesL_ (some 12) rfl rfl Tryd.func79 (by kernel_rfl) rfl #[.int .u8 (bt a0 x6_1)] rfl (by (try simp only [List.map_toArray, List.map_cons, List.map_nil]); first | done | rfl | (simp only [List.length_drop, List.length_take]; rfl)) ?_; (with_reducible refine (path_plain.calls (bt a0 x6_1) true _ A6.out).mono ?_); rintro e w' ⟨rfl, ⟨nd, rfl⟩⟩; refine ⟨_, rfl, ?_⟩))
              go_roundg k1
              case measure => have := HK1.out; omega
              case rel => exact ⟨(wrap64 (x6_1 + 1)), (by first | rfl | (simp; done) | (simp [*]; done)), H', ⟨by have := HK1.out; omega⟩, by repeat (first | exact Drawn0.refl _ | apply Drawn0.step)⟩
            · replace c7 := Bool.eq_false_iff.mpr c7
              subst c7
              have H1 : (some false) = some r := by rw [if_neg (show ¬ (false = true) by decide)] at H; exact H
              clear H
              have H := H1
              clear H1
              obtain rfl := Option.some.inj H
              have p5 : 0 ≤ (x6_1 : Int) := of_decide_eq_true (by first | (with_reducible assumption) | assumption)
              have q5 : x6_1 < (a0.size : Int) := of_decide_eq_true (by first | (with_reducible assumption) | assumption)
              have hx5 := bt_at a0 x6_1
              replace p5 := eq_true p5
              replace q5 := eq_true q5
              go_wp2_with (first | ((with_reducible refine gate_callee (f := 79) rfl ?_); refine goesL_ (some 12) rfl rfl Tryd.func79 (by kernel_rfl) rfl #[.int .u8 (bt a0 x6_1)] rfl (by (try simp only [List.map_toArray, List.map_cons, List.map_nil]); first | done | rfl | (simp only [List.length_drop, List.length_take]; rfl)) ?_; (with_reducible refine (path_plain.calls (bt a0 x6_1) false _ A6.out).mono ?_); rintro e w' ⟨rfl, ⟨nd, rfl⟩⟩; refine ⟨_, rfl, ?_⟩))
              go_ret
              exact ⟨by first | rfl | (simp; done) | (simp [*]; done), by repeat (first | exact Drawn0.refl _ | apply Drawn0.step)⟩
          · rw [if_neg c4] at H
            exact absurd H (by simp)
        · rw [if_neg c3] at H
          exact absurd H (by simp)
      · rw [if_neg c2] at H
        have c2b0 : decide (x6_1 < (a0.size : Int)) = false := decide_eq_false c2
        clear c2
        by_cases c8 : a0.toList = ([] : List UInt8)
        · rw [if_pos c8] at H
          have c8b0 : (a0.toList == ([] : List UInt8)) = true := beq_iff_eq.mpr c8
          have c8b1 : (a0.toList != ([] : List UInt8)) = false := bne_eq_false_iff_eq.mpr c8
          clear c8
          obtain rfl := Option.some.inj H
          go_wp2
          go_ret
          exact ⟨by first | rfl | (simp; done) | (simp [*]; done), by repeat (first | exact Drawn0.refl _ | apply Drawn0.step)⟩
        · rw [if_neg c8] at H
          have c8b0 : (a0.toList == ([] : List UInt8)) = false := beq_eq_false_iff_ne.mpr c8
          have c8b1 : (a0.toList != ([] : List UInt8)) = true := bne_iff_ne.mpr c8
          by_cases c9 : a0.toList = ([46] : List UInt8)
          · rw [if_pos c9] at H
            have c9b0 : (a0.toList == ([46] : List UInt8)) = true := beq_iff_eq.mpr c9
            have c9b1 : (a0.toList != ([46] : List UInt8)) = false := bne_eq_false_iff_eq.mpr c9
            clear c9
            obtain rfl := Option.some.inj H
            go_wp2
            go_ret
            exact ⟨by first | rfl | (simp; done) | (simp [*]; done), by repeat (first | exact Drawn0.refl _ | apply Drawn0.step)⟩
          · rw [if_neg c9] at H
            have c9b0 : (a0.toList == ([46] : List UInt8)) = false := beq_eq_false_iff_ne.mpr c9
            have c9b1 : (a0.toList != ([46] : List UInt8)) = true := bne_iff_ne.mpr c9
            obtain rfl := Option.some.inj H
            go_wp2
            go_ret
            exact ⟨by first | rfl | (simp; done) | (simp [*]; done), by repeat (first | exact Drawn0.refl _ | apply Drawn0.step)⟩

/-! ### stringslite_HasSuffix: function 80 -/
def stringslite_HasSuffix.f (a0 : ByteArray) (a1 : ByteArray) : Option (Bool) := if (a0.size : Int) ≥ (a1.size : Int) then (if 0 ≤ (wrap64 ((a0.size : Int) - (a1.size : Int))) then (if (wrap64 ((a0.size : Int) - (a1.size : Int))) ≤ (a0.size : Int) then (some ((a0.extract ((wrap64 ((a0.size : Int) - (a1.size : Int))) : Int).toNat a0.size).toList == a1.toList)) else (none)) else (none)) else (some false)
set_option maxHeartbeats 8000000 in
set_option maxRecDepth 100000 in
theorem stringslite_HasSuffix.calls (a0 : ByteArray) (a1 : ByteArray) (r : Bool) (w : World) (h : stringslite_HasSuffix.f a0 a1 = some r) :
    Calls Tryd.prog 80 #[.string a0, .string a1] w fun e w' => e = .returned (.bool r) ∧ Drawn0 w w' := by
  have H : (if (a0.size : Int) ≥ (a1.size : Int) then (if 0 ≤ (wrap64 ((a0.size : Int) - (a1.size : Int))) then (if (wrap64 ((a0.size : Int) - (a1.size : Int))) ≤ (a0.size : Int) then (some ((a0.extract ((wrap64 ((a0.size : Int) - (a1.size : Int))) : Int).toNat a0.size).toList == a1.toList)) else (none)) else (none)) else (some false)) = some r := h
  clear h
  by_cases c3 : (a0.size : Int) ≥ (a1.size : Int)
  · rw [if_pos c3] at H
    have c3b0 : decide ((a1.size : Int) ≤ (a0.size : Int)) = true := decide_eq_true c3
    have c3b1 : decide (a1.size ≤ a0.size) = true := decide_eq_true (Int.ofNat_le.mp c3)
    clear c3
    obtain ⟨ji4, hji4⟩ : ∃ j_ : Int, (wrap64 ((a0.size : Int) - (a1.size : Int))) = j_ := ⟨_, rfl⟩
    replace H : (if 0 ≤ (ji4) then (if (ji4) ≤ (a0.size : Int) then (some ((a0.extract ((ji4) : Int).toNat a0.size).toList == a1.toList)) else (none)) else (none)) = some r := by first | (rw [hji4] at H; exact H) | (simp only [hji4] at H ⊢; exact H)
    have hji4w : (IntKind.i64.wrap ((a0.size : Int) - (a1.size : Int))) = ji4 := (i64_w _).trans hji4
    by_cases c5 : 0 ≤ (ji4)
    · rw [if_pos c5] at H
      have c5b0 := eq_true c5
      have c5b1 : decide (0 ≤ (ji4)) = true := decide_eq_true c5
      clear c5
      by_cases c6 : (ji4) ≤ (a0.size : Int)
      · rw [if_pos c6] at H
        have c6b0 := eq_true c6
        have c6b1 : decide ((ji4) ≤ (a0.size : Int)) = true := decide_eq_true c6
        clear c6
        obtain rfl := Option.some.inj H
        go_enter Tryd.func80, Tryd.ntmps80
        go_wp2
        go_ret
        exact ⟨by first | rfl | (simp; done) | (simp only [← hji4] <;> (first | rfl | simp)) | (simp [*]; done), by repeat (first | exact Drawn0.refl _ | apply Drawn0.step)⟩
      · rw [if_neg c6] at H
        exact absurd H (by simp)
    · rw [if_neg c5] at H
      exact absurd H (by simp)
  · rw [if_neg c3] at H
    have c3b0 : decide ((a1.size : Int) ≤ (a0.size : Int)) = false := decide_eq_false c3
    have c3b1 : decide (a1.size ≤ a0.size) = false := decide_eq_false (fun h => c3 (Int.ofNat_le.mpr h))
    clear c3
    obtain rfl := Option.some.inj H
    go_enter Tryd.func80, Tryd.ntmps80
    go_wp2
    go_ret
    exact ⟨by first | rfl | (simp; done) | (simp [*]; done), by repeat (first | exact Drawn0.refl _ | apply Drawn0.step)⟩

/-! ### strings_HasSuffix: function 65 -/
def strings_HasSuffix.f (a0 : ByteArray) (a1 : ByteArray) : Option (Bool) := (stringslite_HasSuffix.f a0 a1).bind fun t102 => (some t102)
set_option maxHeartbeats 8000000 in
set_option maxRecDepth 100000 in
theorem strings_HasSuffix.calls (a0 : ByteArray) (a1 : ByteArray) (r : Bool) (w : World) (h : strings_HasSuffix.f a0 a1 = some r) :
    Calls Tryd.prog 65 #[.string a0, .string a1] w fun e w' => e = .returned (.bool r) ∧ Drawn0 w w' := by
  have H : ((stringslite_HasSuffix.f a0 a1).bind fun t102 => (some t102)) = some r := h
  clear h
  replace H := Option.bind_eq_some_iff.mp H
  obtain ⟨t102, A30, H⟩ := H
  replace H : (some t102) = some r := H
  have A3 := Aside0.mk A30
  clear A30
  obtain rfl := Option.some.inj H
  go_enter Tryd.func65, Tryd.ntmps65
  go_wp2_with (first | ((with_reducible refine gate_callee (f := 80) rfl ?_); refine goesL_ (some 7) rfl rfl Tryd.func80 (by kernel_rfl) rfl #[.string a0, .string a1] rfl (by (try simp only [List.map_toArray, List.map_cons, List.map_nil]); first | done | rfl | (simp only [List.length_drop, List.length_take]; rfl)) ?_; (with_reducible refine (stringslite_HasSuffix.calls a0 a1 t102 _ A3.out).mono ?_); rintro e w' ⟨rfl, ⟨nd, rfl⟩⟩; refine ⟨_, rfl, ?_⟩))
  go_ret
  exact ⟨by first | rfl | (simp; done) | (simp [*]; done), by repeat (first | exact Drawn0.refl _ | apply Drawn0.step)⟩

/-! ### packet_Count: function 42 -/
def packet_Count.f (a0 : Int) (a1 : Int) : Option (Int) := if a0 < 1 then (some 0) else (if a1 < 1 then (some 0) else (if a1 > 256 then (some 0) else (if a1 = 0 then (none) else (some (wrap64 ((wrap64 (Int.tdiv (wrap64 (a0 - 1)) a1)) + 1))))))
set_option maxHeartbeats 8000000 in
set_option maxRecDepth 100000 in
theorem packet_Count.calls (a0 : Int) (a1 : Int) (r : Int) (w : World) (h : packet_Count.f a0 a1 = some r) :
    Calls Tryd.prog 42 #[.int .i64 a0, .int .i64 a1] w fun e w' => e = .returned (.int .i64 r) ∧ Drawn0 w w' := by
  have H : (if a0 < 1 then (some 0) else (if a1 < 1 then (some 0) else (if a1 > 256 then (some 0) else (if a1 = 0 then (none) else (some (wrap64 ((wrap64 (Int.tdiv (wrap64 (a0 - 1)) a1)) + 1))))))) = some r := h
  clear h
  by_cases c3 : a0 < 1
  · rw [if_pos c3] at H
    have c3b0 : decide (a0 < 1) = true := decide_eq_true c3
    clear c3
    obtain rfl := Option.some.inj H
    go_enter Tryd.func42, Tryd.ntmps42
    go_wp2
    go_ret
    exact ⟨by first | rfl | (simp; done) | (simp [*]; done), by repeat (first | exact Drawn0.refl _ | apply Drawn0.step)⟩
  · rw [if_neg c3] at H
    have c3b0 : decide (a0 < 1) = false := decide_eq_false c3
    clear c3
    by_cases c4 : a1 < 1
    · rw [if_pos c4] at H
      have c4b0 : decide (a1 < 1) = true := decide_eq_true c4
      clear c4
      obtain rfl := Option.some.inj H
      go_enter Tryd.func42, Tryd.ntmps42
      go_wp2
      go_ret
      exact ⟨by first | rfl | (simp; done) | (simp [*]; done), by repeat (first | exact Drawn0.refl _ | apply Drawn0.step)⟩
    · rw [if_neg c4] at H
      have c4b0 : decide (a1 < 1) = false := decide_eq_false c4
      clear c4
      by_cases c5 : a1 > 256
      · rw [if_pos c5] at H
        have c5b0 : decide (256 < a1) = true := decide_eq_true c5
        clear c5
        obtain rfl := Option.some.inj H
        go_enter Tryd.func42, Tryd.ntmps42
        go_wp2
        go_ret
        exact ⟨by first | rfl | (simp; done) | (simp [*]; done), by repeat (first | exact Drawn0.refl _ | apply Drawn0.step)⟩
      · rw [if_neg c5] at H
        have c5b0 : decide (256 < a1) = false := decide_eq_false c5
        clear c5
        by_cases c6 : a1 = 0
        · rw [if_pos c6] at H
          exact absurd H (by simp)
        · rw [if_neg c6] at H
          have c6b0 : (a1 == 0) = false := beq_eq_false_iff_ne.mpr c6
          have c6b1 : (a1 != 0) = true := bne_iff_ne.mpr c6
          obtain rfl := Option.some.inj H
          go_enter Tryd.func42, Tryd.ntmps42
          go_wp2
          go_ret
          exact ⟨by first | rfl | (simp; done) | (simp [*]; done), by repeat (first | exact Drawn0.refl _ | apply Drawn0.step)⟩

/-! ### cut_Count: function 25 -/
def cut_Count.f (a0 : Int) (a1 : Int) : Option (Int) := (packet_Count.f a0 a1).bind fun t103 => (some t103)
set_option maxHeartbeats 8000000 in
set_option maxRecDepth 100000 in
theorem cut_Count.calls (a0 : Int) (a1 : Int) (r : Int) (w : World) (h : cut_Count.f a0 a1 = some r) :
    Calls Tryd.prog 25 #[.int .i64 a0, .int .i64 a1] w fun e w' => e = .returned (.int .i64 r) ∧ Drawn0 w w' := by
  have H : ((packet_Count.f a0 a1).bind fun t103 => (some t103)) = some r := h
  clear h
  replace H := Option.bind_eq_some_iff.mp H
  obtain ⟨t103, A30, H⟩ := H
  replace H : (some t103) = some r := H
  have A3 := Aside0.mk A30
  clear A30
  obtain rfl := Option.some.inj H
  go_enter Tryd.func25, Tryd.ntmps25
  go_wp2_with (first | ((with_reducible refine gate_callee (f := 42) rfl ?_); refine goesL_ (some 7) rfl rfl Tryd.func42 (by kernel_rfl) rfl #[.int .i64 a0, .int .i64 a1] rfl (by (try simp only [List.map_toArray, List.map_cons, List.map_nil]); first | done | rfl | (simp only [List.length_drop, List.length_take]; rfl)) ?_; (with_reducible refine (packet_Count.calls a0 a1 t103 _ A3.out).mono ?_); rintro e w' ⟨rfl, ⟨nd, rfl⟩⟩; refine ⟨_, rfl, ?_⟩))
  go_ret
  exact ⟨by first | rfl | (simp; done) | (simp [*]; done), by repeat (first | exact Drawn0.refl _ | apply Drawn0.step)⟩

end Go.Proofs.YtlmgikhgmbjfdaaDoor.QPart
/- Machine-made by a program of this claim: functions of the Go program as Lean functions, and that its calls do what these say. Lean checks it. -/
namespace Go.Proofs.YtlmgikhgmbjfdaaDoor.QPart
open Go.RowKit Go.Proofs.YtlmgikhgmbjfdaaDoorW.PrintWords Go.Proofs.YtlmgikhgmbjfdaaDoorW.PrintLast Go.Proofs.YtlmgikhgmbjfdaaDoorW.PrintMore
attribute [local go_sem] max2_int min2_int max_two min_two max_three min_three max_four min_four   -- for this text's walks alone
set_option linter.unusedVariables false
set_option linter.unusedSimpArgs false

/-! ### geyserref14_Path: function 30 -/
mutual
def geyserref14_Path.j0 : Nat → ByteArray → Bool → Option (Bool)
  | 0, _, _ => none
  | k + 1, x0, x22 => if x22 = true then (some false) else (geyserref14_Path.l0 k x0 0 0)
def geyserref14_Path.l0 : Nat → ByteArray → Int → Int → Option (Bool)
  | 0, _, _, _ => none
  | k + 1, x0, x3, x4 => if x4 ≤ (x0.size : Int) then (if x4 < (x0.size : Int) then (if 0 ≤ x4 then (geyserref14_Path.j2 k x0 x3 x4 ((bt x0 x4) != 47)) else (none)) else (geyserref14_Path.j2 k x0 x3 x4 false)) else (some true)
def geyserref14_Path.j2 : Nat → ByteArray → Int → Int → Bool → Option (Bool)
  | 0, _, _, _, _ => none
  | k + 1, x0, x3, x4, x38 => if x38 = true then (if 0 ≤ x4 then (if x4 < (x0.size : Int) then (if (bt x0 x4) ≥ 97 then (if (bt x0 x4) ≤ 122 then (geyserref14_Path.j3 k x0 x3 x4 (!true)) else (if (bt x0 x4) ≥ 48 then (if (bt x0 x4) ≤ 57 then (geyserref14_Path.j3 k x0 x3 x4 (!true)) else (if (bt x0 x4) = 46 then (geyserref14_Path.j3 k x0 x3 x4 (!true)) else (if (bt x0 x4) = 95 then (geyserref14_Path.j3 k x0 x3 x4 (!true)) else (geyserref14_Path.j3 k x0 x3 x4 (!((bt x0 x4) == 45)))))) else (if (bt x0 x4) = 46 then (geyserref14_Path.j3 k x0 x3 x4 (!true)) else (if (bt x0 x4) = 95 then (geyserref14_Path.j3 k x0 x3 x4 (!true)) else (geyserref14_Path.j3 k x0 x3 x4 (!((bt x0 x4) == 45))))))) else (if (bt x0 x4) ≥ 48 then (if (bt x0 x4) ≤ 57 then (geyserref14_Path.j3 k x0 x3 x4 (!true)) else (if (bt x0 x4) = 46 then (geyserref14_Path.j3 k x0 x3 x4 (!true)) else (if (bt x0 x4) = 95 then (geyserref14_Path.j3 k x0 x3 x4 (!true)) else (geyserref14_Path.j3 k x0 x3 x4 (!((bt x0 x4) == 45)))))) else (if (bt x0 x4) = 46 then (geyserref14_Path.j3 k x0 x3 x4 (!true)) else (if (bt x0 x4) = 95 then (geyserref14_Path.j3 k x0 x3 x4 (!true)) else (geyserref14_Path.j3 k x0 x3 x4 (!((bt x0 x4) == 45))))))) else (none)) else (none)) else (if 0 ≤ x3 then (if x3 ≤ x4 then (if x4 ≤ (x0.size : Int) then (if (x0.extract (x3 : Int).toNat (x4 : Int).toNat).toList = ([] : List UInt8) then (some false) else (if (x0.extract (x3 : Int).toNat (x4 : Int).toNat).toList = ([46] : List UInt8) then (some false) else (if (x0.extract (x3 : Int).toNat (x4 : Int).toNat).toList = ([46, 46] : List UInt8) then (some false) else (if x3 = 0 then (if (x0.extract (x3 : Int).toNat (x4 : Int).toNat).toList = ([111, 108, 100] : List UInt8) then (some false) else (if (x0.extract (x3 : Int).toNat (x4 : Int).toNat).toList = ([116, 109, 112] : List UInt8) then (some false) else (geyserref14_Path.l0 k x0 (wrap64 (x4 + 1)) (wrap64 (x4 + 1))))) else (geyserref14_Path.l0 k x0 (wrap64 (x4 + 1)) (wrap64 (x4 + 1))))))) else (none)) else (none)) else (none))
def geyserref14_Path.j3 : Nat → ByteArray → Int → Int → Bool → Option (Bool)
  | 0, _, _, _, _ => none
  | k + 1, x0, x3, x4, x68 => if x68 = true then (some false) else (geyserref14_Path.l0 k x0 x3 (wrap64 (x4 + 1)))
end
def geyserref14_Path.f (k : Nat) (a0 : ByteArray) : Option (Bool) := if (a0.size : Int) > 40 then (geyserref14_Path.j0 k a0 true) else (if (a0.size : Int) ≥ 4 then (if 0 ≤ (wrap64 ((a0.size : Int) - 4)) then (if (wrap64 ((a0.size : Int) - 4)) ≤ (a0.size : Int) then (geyserref14_Path.j0 k a0 ((a0.extract ((wrap64 ((a0.size : Int) - 4)) : Int).toNat a0.size).toList == ([46, 103, 121, 115] : List UInt8))) else (none)) else (none)) else (geyserref14_Path.j0 k a0 false))
theorem geyserref14_Path.mono_l : ∀ k, (∀ y0 y1, LeO (geyserref14_Path.j0 k y0 y1) (geyserref14_Path.j0 (k + 1) y0 y1)) ∧ (∀ y0 y1 y2, LeO (geyserref14_Path.l0 k y0 y1 y2) (geyserref14_Path.l0 (k + 1) y0 y1 y2)) ∧ (∀ y0 y1 y2 y3, LeO (geyserref14_Path.j2 k y0 y1 y2 y3) (geyserref14_Path.j2 (k + 1) y0 y1 y2 y3)) ∧ (∀ y0 y1 y2 y3, LeO (geyserref14_Path.j3 k y0 y1 y2 y3) (geyserref14_Path.j3 (k + 1) y0 y1 y2 y3))
  | 0 => ⟨fun _ _ r h => by simp [geyserref14_Path.j0] at h, fun _ _ _ r h => by simp [geyserref14_Path.l0] at h, fun _ _ _ _ r h => by simp [geyserref14_Path.j2] at h, fun _ _ _ _ r h => by simp [geyserref14_Path.j3] at h⟩
  | k + 1 => by
    obtain ⟨ih0, ih1, ih2, ih3⟩ := geyserref14_Path.mono_l k
    refine ⟨?_, ?_, ?_, ?_⟩
    · intro y0 y1
      unfold geyserref14_Path.j0
      repeat' first
      | (with_reducible exact ih0 _ _)
      | (with_reducible exact ih1 _ _ _)
      | (with_reducible exact ih2 _ _ _ _)
      | (with_reducible exact ih3 _ _ _ _)
      | (with_reducible exact LeO.refl _)
      | (with_reducible exact LeO.none _)
      | (with_reducible refine LeO.ite ?_ ?_)
      | (with_reducible refine LeO.bind ?_ (fun _ => ?_))
      | exact ih0 _ _
      | exact ih1 _ _ _
      | exact ih2 _ _ _ _
      | exact ih3 _ _ _ _
      | exact LeO.none _
      | refine LeO.ite ?_ ?_
      | refine LeO.bind ?_ (fun _ => ?_)
    · intro y0 y1 y2
      unfold geyserref14_Path.l0
      repeat' first
      | (with_reducible exact ih0 _ _)
      | (with_reducible exact ih1 _ _ _)
      | (with_reducible exact ih2 _ _ _ _)
      | (with_reducible exact ih3 _ _ _ _)
      | (with_reducible exact LeO.refl _)
      | (with_reducible exact LeO.none _)
      | (with_reducible refine LeO.ite ?_ ?_)
      | (with_reducible refine LeO.bind ?_ (fun _ => ?_))
      | exact ih0 _ _
      | exact ih1 _ _ _
      | exact ih2 _ _ _ _
      | exact ih3 _ _ _ _
      | exact LeO.none _
      | refine LeO.ite ?_ ?_
      | refine LeO.bind ?_ (fun _ => ?_)
    · intro y0 y1 y2 y3
      unfold geyserref14_Path.j2
      repeat' first
      | (with_reducible exact ih0 _ _)
      | (with_reducible exact ih1 _ _ _)
      | (with_reducible exact ih2 _ _ _ _)
      | (with_reducible exact ih3 _ _ _ _)
      | (with_reducible exact LeO.refl _)
      | (with_reducible exact LeO.none _)
      | (with_reducible refine LeO.ite ?_ ?_)
      | (with_reducible refine LeO.bind ?_ (fun _ => ?_))
      | exact ih0 _ _
      | exact ih1 _ _ _
      | exact ih2 _ _ _ _
      | exact ih3 _ _ _ _
      | exact LeO.none _
      | refine LeO.ite ?_ ?_
      | refine LeO.bind ?_ (fun _ => ?_)
    · intro y0 y1 y2 y3
      unfold geyserref14_Path.j3
      repeat' first
      | (with_reducible exact ih0 _ _)
      | (with_reducible exact ih1 _ _ _)
      | (with_reducible exact ih2 _ _ _ _)
      | (with_reducible exact ih3 _ _ _ _)
      | (with_reducible exact LeO.refl _)
      | (with_reducible exact LeO.none _)
      | (with_reducible refine LeO.ite ?_ ?_)
      | (with_reducible refine LeO.bind ?_ (fun _ => ?_))
      | exact ih0 _ _
      | exact ih1 _ _ _
      | exact ih2 _ _ _ _
      | exact ih3 _ _ _ _
      | exact LeO.none _
      | refine LeO.ite ?_ ?_
      | refine LeO.bind ?_ (fun _ => ?_)
theorem geyserref14_Path.mono : ∀ a0 k, LeO (geyserref14_Path.f k a0) (geyserref14_Path.f (k + 1) a0) := by
  intro a0 k
  obtain ⟨ih0, ih1, ih2, ih3⟩ := geyserref14_Path.mono_l k
  unfold geyserref14_Path.f
  repeat' first
      | (with_reducible exact ih0 _ _)
      | (with_reducible exact ih1 _ _ _)
      | (with_reducible exact ih2 _ _ _ _)
      | (with_reducible exact ih3 _ _ _ _)
      | (with_reducible exact LeO.refl _)
      | (with_reducible exact LeO.none _)
      | (with_reducible refine LeO.ite ?_ ?_)
      | (with_reducible refine LeO.bind ?_ (fun _ => ?_))
      | exact ih0 _ _
      | exact ih1 _ _ _
      | exact ih2 _ _ _ _
      | exact ih3 _ _ _ _
      | exact LeO.none _
      | refine LeO.ite ?_ ?_
      | refine LeO.bind ?_ (fun _ => ?_)
set_option maxHeartbeats 8000000 in
set_option maxRecDepth 100000 in
theorem geyserref14_Path.calls (k : Nat) (a0 : ByteArray) (r : Bool) (w : World) (h : geyserref14_Path.f k a0 = some r) :
    Calls Tryd.prog 30 #[.string a0] w fun e w' => e = .returned (.bool r) ∧ Drawn0 w w' := by
  have H : (if (a0.size : Int) > 40 then (geyserref14_Path.j0 k a0 true) else (if (a0.size : Int) ≥ 4 then (if 0 ≤ (wrap64 ((a0.size : Int) - 4)) then (if (wrap64 ((a0.size : Int) - 4)) ≤ (a0.size : Int) then (geyserref14_Path.j0 k a0 ((a0.extract ((wrap64 ((a0.size : Int) - 4)) : Int).toNat a0.size).toList == ([46, 103, 121, 115] : List UInt8))) else (none)) else (none)) else (geyserref14_Path.j0 k a0 false))) = some r := h
  clear h
  have HC2 := Aside0.mk H
  clear H
  go_enter Tryd.func30, Tryd.ntmps30
  go_upto_region 1 with (fail)
  go_cut [22] (fun v22 wc => ∃ (kq : Nat) (x22_1 : Bool), v22 = .bool x22_1 ∧ Aside0 (geyserref14_Path.j0 kq a0 x22_1 = some r) ∧ Aside0 (kq ≤ k) ∧ Drawn0 w wc)
  case first =>
    have H := HC2.out
    clear HC2
    by_cases c3 : (a0.size : Int) > 40
    · rw [if_pos c3] at H
      have c3b0 : decide (40 < (a0.size : Int)) = true := decide_eq_true c3
      have c3b1 : decide (40 < a0.size) = true := decide_eq_true (by omega)
      clear c3
      (first | rw [c3b0] | (simp only [i64_w, i32_w]; rw [c3b0]) | skip)
      have H' := Aside0.mk H
      clear H
      go_wp2
      go_meet
      case rel => exact ⟨_, (true), (by first | rfl | (simp; done) | (simp [*]; done)), H', ⟨by first | omega | exact Nat.le_refl _⟩, by repeat (first | exact Drawn0.refl _ | apply Drawn0.step)⟩
    · rw [if_neg c3] at H
      have c3b0 : decide (40 < (a0.size : Int)) = false := decide_eq_false c3
      have c3b1 : decide (40 < a0.size) = false := decide_eq_false (by omega)
      clear c3
      (first | rw [c3b0] | (simp only [i64_w, i32_w]; rw [c3b0]) | skip)
      by_cases c4 : (a0.size : Int) ≥ 4
      · rw [if_pos c4] at H
        have c4b0 : decide (4 ≤ (a0.size : Int)) = true := decide_eq_true c4
        have c4b1 : decide (4 ≤ a0.size) = true := decide_eq_true (by omega)
        clear c4
        obtain ⟨ji5, hji5⟩ : ∃ j_ : Int, (wrap64 ((a0.size : Int) - 4)) = j_ := ⟨_, rfl⟩
        replace H : (if 0 ≤ (ji5) then (if (ji5) ≤ (a0.size : Int) then (geyserref14_Path.j0 k a0 ((a0.extract ((ji5) : Int).toNat a0.size).toList == ([46, 103, 121, 115] : List UInt8))) else (none)) else (none)) = some r := by first | (rw [hji5] at H; exact H) | (simp only [hji5] at H ⊢; exact H)
        have hji5w : (IntKind.i64.wrap ((a0.size : Int) - 4)) = ji5 := (i64_w _).trans hji5
        by_cases c6 : 0 ≤ (ji5)
        · rw [if_pos c6] at H
          have c6b0 := eq_true c6
          have c6b1 : decide (0 ≤ (ji5)) = true := decide_eq_true c6
          clear c6
          by_cases c7 : (ji5) ≤ (a0.size : Int)
          · rw [if_pos c7] at H
            have c7b0 := eq_true c7
            have c7b1 : decide ((ji5) ≤ (a0.size : Int)) = true := decide_eq_true c7
            clear c7
            have H' := Aside0.mk H
            clear H
            go_wp2
            go_meet
            case rel => exact ⟨_, (((a0.extract ((ji5) : Int).toNat a0.size).toList == ([46, 103, 121, 115] : List UInt8))), (by first | rfl | (simp; done) | (simp only [← hji5] <;> (first | rfl | simp)) | (simp [*]; done)), H', ⟨by first | omega | exact Nat.le_refl _⟩, by repeat (first | exact Drawn0.refl _ | apply Drawn0.step)⟩
          · rw [if_neg c7] at H
            exact absurd H (by simp)
        · rw [if_neg c6] at H
          exact absurd H (by simp)
      · rw [if_neg c4] at H
        have c4b0 : decide (4 ≤ (a0.size : Int)) = false := decide_eq_false c4
        have c4b1 : decide (4 ≤ a0.size) = false := decide_eq_false (by omega)
        clear c4
        have H' := Aside0.mk H
        clear H
        go_wp2
        go_meet
        case rel => exact ⟨_, (false), (by first | rfl | (simp; done) | (simp [*]; done)), H', ⟨by first | omega | exact Nat.le_refl _⟩, by repeat (first | exact Drawn0.refl _ | apply Drawn0.step)⟩
  case rest =>
    clear HC2
    try clear p2
    try clear c3
    try clear c3b0
    try clear c3b1
    try clear c4
    try clear c4b0
    try clear c4b1
    try clear c6
    try clear c6b0
    try clear c6b1
    try clear p6
    try clear c7
    try clear c7b0
    try clear c7b1
    obtain ⟨kq, x22_1, rfl, HA, HJ1, ⟨mc1, rfl⟩⟩ := hcut
    cases kq with
    | zero => exact absurd HA.out (by simp [geyserref14_Path.j0])
    | succ kj1 =>
      have H := HA.out
      clear HA
      simp only [geyserref14_Path.j0] at H
      by_cases c8 : x22_1 = true
      · subst c8
        have H1 : (some false) = some r := by rw [if_pos rfl] at H; exact H
        clear H
        have H := H1
        clear H1
        obtain rfl := Option.some.inj H
        go_wp2
        go_ret
        exact ⟨by first | rfl | (simp; done) | (simp [*]; done), by repeat (first | exact Drawn0.refl _ | apply Drawn0.step)⟩
      · replace c8 := Bool.eq_false_iff.mpr c8
        subst c8
        have H1 : (geyserref14_Path.l0 kj1 a0 0 0) = some r := by rw [if_neg (show ¬ (false = true) by decide)] at H; exact H
        clear H
        have H := H1
        clear H1
        have H' := Aside0.mk H
        clear H
        go_wp2
        go_loopg [3, 4] kj1 (fun kq v3 v4 w' => ∃ (x3_2 : Int) (x4_2 : Int), v3 = .int .i64 x3_2 ∧ v4 = .int .i64 x4_2 ∧ Aside0 (geyserref14_Path.l0 kq a0 x3_2 x4_2 = some r) ∧ Aside0 (kq ≤ kj1) ∧ Drawn0 w w')
        case atStart => exact ⟨(0), (0), (by first | rfl | (simp; done) | (simp [*]; done)), (by first | rfl | (simp; done) | (simp [*]; done)), H', ⟨Nat.le_refl _⟩, by repeat (first | exact Drawn0.refl _ | apply Drawn0.step)⟩
        case round =>
          clear H'
          try clear c1
          try clear p2
          try clear c3
          try clear c3b0
          try clear c3b1
          try clear c4
          try clear c4b0
          try clear c4b1
          try clear c6
          try clear c6b0
          try clear c6b1
          try clear p6
          try clear c7
          try clear c7b0
          try clear c7b1
          try clear c8
          try clear p2
          try clear p6
          obtain ⟨x3_2, x4_2, rfl, rfl, HA, HK2, ⟨m2, rfl⟩⟩ := hrel
          cases gk with
          | zero => exact absurd HA.out (by simp [geyserref14_Path.l0])
          | succ k2 =>
            have H := HA.out
            clear HA
            simp only [geyserref14_Path.l0] at H
            by_cases c9 : x4_2 ≤ (a0.size : Int)
            · rw [if_pos c9] at H
              have c9b0 : decide (x4_2 ≤ (a0.size : Int)) = true := decide_eq_true c9
              clear c9
              have HC10 := Aside0.mk H
              clear H
              go_upto_region 7 with (fail)
              go_cut [38] (fun v38 wc => ∃ (kq : Nat) (x38_9 : Bool), v38 = .bool x38_9 ∧ Aside0 (geyserref14_Path.j2 kq a0 x3_2 x4_2 x38_9 = some r) ∧ Aside0 (kq ≤ k2) ∧ Drawn0 w wc)
              case first =>
                have H := HC10.out
                clear HC10
                by_cases c11 : x4_2 < (a0.size : Int)
                · rw [if_pos c11] at H
                  have c11b0 : decide (x4_2 < (a0.size : Int)) = true := decide_eq_true c11
                  clear c11
                  (first | rw [c11b0] | (simp only [i64_w, i32_w]; rw [c11b0]) | skip)
                  by_cases c12 : 0 ≤ x4_2
                  · rw [if_pos c12] at H
                    have c12b0 : decide (0 ≤ x4_2) = true := decide_eq_true c12
                    clear c12
                    have H' := Aside0.mk H
                    clear H
                    have p13 : 0 ≤ (x4_2 : Int) := of_decide_eq_true (by first | (with_reducible assumption) | assumption)
                    have q13 : x4_2 < (a0.size : Int) := of_decide_eq_true (by first | (with_reducible assumption) | assumption)
                    have hx13 := bt_at a0 x4_2
                    replace p13 := eq_true p13
                    replace q13 := eq_true q13
                    go_wp2
                    go_meet
                    case rel => exact ⟨_, (((bt a0 x4_2) != 47)), (by first | rfl | (simp; done) | (simp [*]; done)), H', ⟨by have := HJ1.out; have := HK2.out; first | omega | exact Nat.le_refl _⟩, by repeat (first | exact Drawn0.refl _ | apply Drawn0.step)⟩
                  · rw [if_neg c12] at H
                    exact absurd H (by simp)
                · rw [if_neg c11] at H
                  have c11b0 : decide (x4_2 < (a0.size : Int)) = false := decide_eq_false c11
                  clear c11
                  (first | rw [c11b0] | (simp only [i64_w, i32_w]; rw [c11b0]) | skip)
                  have H' := Aside0.mk H
                  clear H
                  go_wp2
                  go_meet
                  case rel => exact ⟨_, (false), (by first | rfl | (simp; done) | (simp [*]; done)), H', ⟨by have := HJ1.out; have := HK2.out; first | omega | exact Nat.le_refl _⟩, by repeat (first | exact Drawn0.refl _ | apply Drawn0.step)⟩
              case rest =>
                clear HC10
                try clear c1
                try clear p1
                try clear q1
                try clear hx1
                try clear p2
                try clear c3
                try clear c3b0
                try clear c3b1
                try clear c4
                try clear c4b0
                try clear c4b1
                try clear c6
                try clear c6b0
                try clear c6b1
                try clear p6
                try clear c7
                try clear c7b0
                try clear c7b1
                try clear c8
                try clear c9
                try clear c9b0
                try clear c11
                try clear c11b0
                try clear c12
                try clear c12b0
                try clear p13
                try clear q13
                try clear hx13
                try clear p13
                try clear p2
                try clear p6
                try clear q13
                obtain ⟨kq, x38_9, rfl, HA, HJ9, ⟨mc9, rfl⟩⟩ := hcut
                cases kq with
                | zero => exact absurd HA.out (by simp [geyserref14_Path.j2])
                | succ kj9 =>
                  have H := HA.out
                  clear HA
                  simp only [geyserref14_Path.j2] at H
                  by_cases c14 : x38_9 = true
                  · subst c14
                    have H1 : (if 0 ≤ x4_2 then (if x4_2 < (a0.size : Int) then (if (bt a0 x4_2) ≥ 97 then (if (bt a0 x4_2) ≤ 122 then (geyserref14_Path.j3 kj9 a0 x3_2 x4_2 (!true)) else (if (bt a0 x4_2) ≥ 48 then (if (bt a0 x4_2) ≤ 57 then (geyserref14_Path.j3 kj9 a0 x3_2 x4_2 (!true)) else (if (bt a0 x4_2) = 46 then (geyserref14_Path.j3 kj9 a0 x3_2 x4_2 (!true)) else (if (bt a0 x4_2) = 95 then (geyserref14_Path.j3 kj9 a0 x3_2 x4_2 (!true)) else (geyserref14_Path.j3 kj9 a0 x3_2 x4_2 (!((bt a0 x4_2) == 45)))))) else (if (bt a0 x4_2) = 46 then (geyserref14_Path.j3 kj9 a0 x3_2 x4_2 (!true)) else (if (bt a0 x4_2) = 95 then (geyserref14_Path.j3 kj9 a0 x3_2 x4_2 (!true)) else (geyserref14_Path.j3 kj9 a0 x3_2 x4_2 (!((bt a0 x4_2) == 45))))))) else (if (bt a0 x4_2) ≥ 48 then (if (bt a0 x4_2) ≤ 57 then (geyserref14_Path.j3 kj9 a0 x3_2 x4_2 (!true)) else (if (bt a0 x4_2) = 46 then (geyserref14_Path.j3 kj9 a0 x3_2 x4_2 (!true)) else (if (bt a0 x4_2) = 95 then (geyserref14_Path.j3 kj9 a0 x3_2 x4_2 (!true)) else (geyserref14_Path.j3 kj9 a0 x3_2 x4_2 (!((bt a0 x4_2) == 45)))))) else (if (bt a0 x4_2) = 46 then (geyserref14_Path.j3 kj9 a0 x3_2 x4_2 (!true)) else (if (bt a0 x4_2) = 95 then (geyserref14_Path.j3 kj9 a0 x3_2 x4_2 (!true)) else (geyserref14_Path.j3 kj9 a0 x3_2 x4_2 (!((bt a0 x4_2) == 45))))))) else (none)) else (none)) = some r := by rw [if_pos rfl] at H; exact H
                    clear H
                    have H := H1
                    clear H1
                    by_cases c15 : 0 ≤ x4_2
                    · rw [if_pos c15] at H
                      have c15b0 : decide (0 ≤ x4_2) = true := decide_eq_true c15
                      clear c15
                      by_cases c16 : x4_2 < (a0.size : Int)
                      · rw [if_pos c16] at H
                        have c16b0 : decide (x4_2 < (a0.size : Int)) = true := decide_eq_true c16
                        clear c16
                        have HC18 := Aside0.mk H
                        clear H
                        have p17 : 0 ≤ (x4_2 : Int) := of_decide_eq_true (by first | (with_reducible assumption) | assumption)
                        have q17 : x4_2 < (a0.size : Int) := of_decide_eq_true (by first | (with_reducible assumption) | assumption)
                        have hx17 := bt_at a0 x4_2
                        replace p17 := eq_true p17
                        replace q17 := eq_true q17
                        go_upto_region 9 with (fail)
                        go_cut [68] (fun v68 wc => ∃ (kq : Nat) (x68_17 : Bool), v68 = .bool x68_17 ∧ Aside0 (geyserref14_Path.j3 kq a0 x3_2 x4_2 x68_17 = some r) ∧ Aside0 (kq ≤ kj9) ∧ Drawn0 w wc)
                        case first =>
                          have H := HC18.out
                          clear HC18
                          by_cases c19 : (bt a0 x4_2) ≥ 97
                          · rw [if_pos c19] at H
                            have c19b0 : decide (97 ≤ (bt a0 x4_2)) = true := decide_eq_true c19
                            clear c19
                            (first | rw [c19b0] | (simp only [i64_w, i32_w]; rw [c19b0]) | skip)
                            by_cases c20 : (bt a0 x4_2) ≤ 122
                            · rw [if_pos c20] at H
                              have c20b0 : decide ((bt a0 x4_2) ≤ 122) = true := decide_eq_true c20
                              clear c20
                              have H' := Aside0.mk H
                              clear H
                              go_wp2
                              go_meet
                              case rel => exact ⟨_, (!true), (by first | rfl | (simp; done) | (simp [*]; done)), H', ⟨by have := HJ1.out; have := HK2.out; have := HJ9.out; first | omega | exact Nat.le_refl _⟩, by repeat (first | exact Drawn0.refl _ | apply Drawn0.step)⟩
                            · rw [if_neg c20] at H
                              have c20b0 : decide ((bt a0 x4_2) ≤ 122) = false := decide_eq_false c20
                              clear c20
                              by_cases c21 : (bt a0 x4_2) ≥ 48
                              · rw [if_pos c21] at H
                                have c21b0 : decide (48 ≤ (bt a0 x4_2)) = true := decide_eq_true c21
                                clear c21
                                by_cases c22 : (bt a0 x4_2) ≤ 57
                                · rw [if_pos c22] at H
                                  have c22b0 : decide ((bt a0 x4_2) ≤ 57) = true := decide_eq_true c22
                                  clear c22
                                  have H' := Aside0.mk H
                                  clear H
                                  go_wp2
                                  go_meet
                                  case rel => exact ⟨_, (!true), (by first | rfl | (simp; done) | (simp [*]; done)), H', ⟨by have := HJ1.out; have := HK2.out; have := HJ9.out; first | omega | exact Nat.le_refl _⟩, by repeat (first | exact Drawn0.refl _ | apply Drawn0.step)⟩
                                · rw [if_neg c22] at H
                                  have c22b0 : decide ((bt a0 x4_2) ≤ 57) = false := decide_eq_false c22
                                  clear c22
                                  by_cases c23 : (bt a0 x4_2) = 46
                                  · rw [if_pos c23] at H
                                    have c23b0 : ((bt a0 x4_2) == 46) = true := beq_iff_eq.mpr c23
                                    have c23b1 : ((bt a0 x4_2) != 46) = false := bne_eq_false_iff_eq.mpr c23
                                    clear c23
                                    have H' := Aside0.mk H
                                    clear H
                                    go_wp2
                                    go_meet
                                    case rel => exact ⟨_, (!true), (by first | rfl | (simp; done) | (simp [*]; done)), H', ⟨by have := HJ1.out; have := HK2.out; have := HJ9.out; first | omega | exact Nat.le_refl _⟩, by repeat (first | exact Drawn0.refl _ | apply Drawn0.step)⟩
                                  · rw [if_neg c23] at H
                                    have c23b0 : ((bt a0 x4_2) == 46) = false := beq_eq_false_iff_ne.mpr c23
                                    have c23b1 : ((bt a0 x4_2) != 46) = true := bne_iff_ne.mpr c23
                                    by_cases c24 : (bt a0 x4_2) = 95
                                    · rw [if_pos c24] at H
                                      have c24b0 : ((bt a0 x4_2) == 95) = true := beq_iff_eq.mpr c24
                                      have c24b1 : ((bt a0 x4_2) != 95) = false := bne_eq_false_iff_eq.mpr c24
                                      clear c24
                                      have H' := Aside0.mk H
                                      clear H
                                      go_wp2
                                      go_meet
                                      case rel => exact ⟨_, (!true), (by first | rfl | (simp; done) | (simp [*]; done)), H', ⟨by have := HJ1.out; have := HK2.out; have := HJ9.out; first | omega | exact Nat.le_refl _⟩, by repeat (first | exact Drawn0.refl _ | apply Drawn0.step)⟩
                                    · rw [if_neg c24] at H
                                      have c24b0 : ((bt a0 x4_2) == 95) = false := beq_eq_false_iff_ne.mpr c24
                                      have c24b1 : ((bt a0 x4_2) != 95) = true := bne_iff_ne.mpr c24
                                      have H' := Aside0.mk H
                                      clear H
                                      go_wp2
                                      go_meet
                                      case rel => exact ⟨_, (!((bt a0 x4_2) == 45)), (by first | rfl | (simp; done) | (simp [*]; done)), H', ⟨by have := HJ1.out; have := HK2.out; have := HJ9.out; first | omega | exact Nat.le_refl _⟩, by repeat (first | exact Drawn0.refl _ | apply Drawn0.step)⟩
                              · rw [if_neg c21] at H
                                have c21b0 : decide (48 ≤ (bt a0 x4_2)) = false := decide_eq_false c21
                                clear c21
                                by_cases c25 : (bt a0 x4_2) = 46
                                · rw [if_pos c25] at H
                                  have c25b0 : ((bt a0 x4_2) == 46) = true := beq_iff_eq.mpr c25
                                  have c25b1 : ((bt a0 x4_2) != 46) = false := bne_eq_false_iff_eq.mpr c25
                                  clear c25
                                  have H' := Aside0.mk H
                                  clear H
                                  go_wp2
                                  go_meet
                                  case rel => exact ⟨_, (!true), (by first | rfl | (simp; done) | (simp [*]; done)), H', ⟨by have := HJ1.out; have := HK2.out; have := HJ9.out; first | omega | exact Nat.le_refl _⟩, by repeat (first | exact Drawn0.refl _ | apply Drawn0.step)⟩
                                · rw [if_neg c25] at H
                                  have c25b0 : ((bt a0 x4_2) == 46) = false := beq_eq_false_iff_ne.mpr c25
                                  have c25b1 : ((bt a0 x4_2) != 46) = true := bne_iff_ne.mpr c25
                                  by_cases c26 : (bt a0 x4_2) = 95
                                  · rw [if_pos c26] at H
                                    have c26b0 : ((bt a0 x4_2) == 95) = true := beq_iff_eq.mpr c26
                                    have c26b1 : ((bt a0 x4_2) != 95) = false := bne_eq_false_iff_eq.mpr c26
                                    clear c26
                                    have H' := Aside0.mk H
                                    clear H
                                    go_wp2
                                    go_meet
                                    case rel => exact ⟨_, (!true), (by first | rfl | (simp; done) | (simp [*]; done)), H', ⟨by have := HJ1.out; have := HK2.out; have := HJ9.out; first | omega | exact Nat.le_refl _⟩, by repeat (first | exact Drawn0.refl _ | apply Drawn0.step)⟩
                                  · rw [if_neg c26] at H
                                    have c26b0 : ((bt a0 x4_2) == 95) = false := beq_eq_false_iff_ne.mpr c26
                                    have c26b1 : ((bt a0 x4_2) != 95) = true := bne_iff_ne.mpr c26
                                    have H' := Aside0.mk H
                                    clear H
                                    go_wp2
                                    go_meet
                                    case rel => exact ⟨_, (!((bt a0 x4_2) == 45)), (by first | rfl | (simp; done) | (simp [*]; done)), H', ⟨by have := HJ1.out; have := HK2.out; have := HJ9.out; first | omega | exact Nat.le_refl _⟩, by repeat (first | exact Drawn0.refl _ | apply Drawn0.step)⟩
                          · rw [if_neg c19] at H
                            have c19b0 : decide (97 ≤ (bt a0 x4_2)) = false := decide_eq_false c19
                            clear c19
                            (first | rw [c19b0] | (simp only [i64_w, i32_w]; rw [c19b0]) | skip)
                            by_cases c27 : (bt a0 x4_2) ≥ 48
                            · rw [if_pos c27] at H
                              have c27b0 : decide (48 ≤ (bt a0 x4_2)) = true := decide_eq_true c27
                              clear c27
                              by_cases c28 : (bt a0 x4_2) ≤ 57
                              · rw [if_pos c28] at H
                                have c28b0 : decide ((bt a0 x4_2) ≤ 57) = true := decide_eq_true c28
                                clear c28
                                have H' := Aside0.mk H
                                clear H
                                go_wp2
                                go_meet
                                case rel => exact ⟨_, (!true), (by first | rfl | (simp; done) | (simp [*]; done)), H', ⟨by have := HJ1.out; have := HK2.out; have := HJ9.out; first | omega | exact Nat.le_refl _⟩, by repeat (first | exact Drawn0.refl _ | apply Drawn0.step)⟩
                              · rw [if_neg c28] at H
                                have c28b0 : decide ((bt a0 x4_2) ≤ 57) = false := decide_eq_false c28
                                clear c28
                                by_cases c29 : (bt a0 x4_2) = 46
                                · rw [if_pos c29] at H
                                  have c29b0 : ((bt a0 x4_2) == 46) = true := beq_iff_eq.mpr c29
                                  have c29b1 : ((bt a0 x4_2) != 46) = false := bne_eq_false_iff_eq.mpr c29
                                  clear c29
                                  have H' := Aside0.mk H
                                  clear H
                                  go_wp2
                                  go_meet
                                  case rel => exact ⟨_, (!true), (by first | rfl | (simp; done) | (simp [*]; done)), H', ⟨by have := HJ1.out; have := HK2.out; have := HJ9.out; first | omega | exact Nat.le_refl _⟩, by repeat (first | exact Drawn0.refl _ | apply Drawn0.step)⟩
                                · rw [if_neg c29] at H
                                  have c29b0 : ((bt a0 x4_2) == 46) = false := beq_eq_false_iff_ne.mpr c29
                                  have c29b1 : ((bt a0 x4_2) != 46) = true := bne_iff_ne.mpr c29
                                  by_cases c30 : (bt a0 x4_2) = 95
                                  · rw [if_pos c30] at H
                                    have c30b0 : ((bt a0 x4_2) == 95) = true := beq_iff_eq.mpr c30
                                    have c30b1 : ((bt a0 x4_2) != 95) = false := bne_eq_false_iff_eq.mpr c30
                                    clear c30
                                    have H' := Aside0.mk H
                                    clear H
                                    go_wp2
                                    go_meet
                                    case rel => exact ⟨_, (!true), (by first | rfl | (simp; done) | (simp [*]; done)), H', ⟨by have := HJ1.out; have := HK2.out; have := HJ9.out; first | omega | exact Nat.le_refl _⟩, by repeat (first | exact Drawn0.refl _ | apply Drawn0.step)⟩
                                  · rw [if_neg c30] at H
                                    have c30b0 : ((bt a0 x4_2) == 95) = false := beq_eq_false_iff_ne.mpr c30
                                    have c30b1 : ((bt a0 x4_2) != 95) = true := bne_iff_ne.mpr c30
                                    have H' := Aside0.mk H
                                    clear H
                                    go_wp2
                                    go_meet
                                    case rel => exact ⟨_, (!((bt a0 x4_2) == 45)), (by first | rfl | (simp; done) | (simp [*]; done)), H', ⟨by have := HJ1.out; have := HK2.out; have := HJ9.out; first | omega | exact Nat.le_refl _⟩, by repeat (first | exact Drawn0.refl _ | apply Drawn0.step)⟩
                            · rw [if_neg c27] at H
                              have c27b0 : decide (48 ≤ (bt a0 x4_2)) = false := decide_eq_false c27
                              clear c27
                              by_cases c31 : (bt a0 x4_2) = 46
                              · rw [if_pos c31] at H
                                have c31b0 : ((bt a0 x4_2) == 46) = true := beq_iff_eq.mpr c31
                                have c31b1 : ((bt a0 x4_2) != 46) = false := bne_eq_false_iff_eq.mpr c31
                                clear c31
                                have H' := Aside0.mk H
                                clear H
                                go_wp2
                                go_meet
                                case rel => exact ⟨_, (!true), (by first | rfl | (simp; done) | (simp [*]; done)), H', ⟨by have := HJ1.out; have := HK2.out; have := HJ9.out; first | omega | exact Nat.le_refl _⟩, by repeat (first | exact Drawn0.refl _ | apply Drawn0.step)⟩
                              · rw [if_neg c31] at H
                                have c31b0 : ((bt a0 x4_2) == 46) = false := beq_eq_false_iff_ne.mpr c31
                                have c31b1 : ((bt a0 x4_2) != 46) = true := bne_iff_ne.mpr c31
                                by_cases c32 : (bt a0 x4_2) = 95
                                · rw [if_pos c32] at H
                                  have c32b0 : ((bt a0 x4_2) == 95) = true := beq_iff_eq.mpr c32
                                  have c32b1 : ((bt a0 x4_2) != 95) = false := bne_eq_false_iff_eq.mpr c32
                                  clear c32
                                  have H' := Aside0.mk H
                                  clear H
                                  go_wp2
                                  go_meet
                                  case rel => exact ⟨_, (!true), (by first | rfl | (simp; done) | (simp [*]; done)), H', ⟨by have := HJ1.out; have := HK2.out; have := HJ9.out; first | omega | exact Nat.le_refl _⟩, by repeat (first | exact Drawn0.refl _ | apply Drawn0.step)⟩
                                · rw [if_neg c32] at H
                                  have c32b0 : ((bt a0 x4_2) == 95) = false := beq_eq_false_iff_ne.mpr c32
                                  have c32b1 : ((bt a0 x4_2) != 95) = true := bne_iff_ne.mpr c32
                                  have H' := Aside0.mk H
                                  clear H
                                  go_wp2
                                  go_meet
                                  case rel => exact ⟨_, (!((bt a0 x4_2) == 45)), (by first | rfl | (simp; done) | (simp [*]; done)), H', ⟨by have := HJ1.out; have := HK2.out; have := HJ9.out; first | omega | exact Nat.le_refl _⟩, by repeat (first | exact Drawn0.refl _ | apply Drawn0.step)⟩
                        case rest =>
                          clear HC18
                          try clear c1
                          try clear p1
                          try clear q1
                          try clear hx1
                          try clear c2
                          try clear p2
                          try clear c3
                          try clear c3b0
                          try clear c3b1
                          try clear c4
                          try clear c4b0
                          try clear c4b1
                          try clear c6
                          try clear c6b0
                          try clear c6b1
                          try clear p6
                          try clear c7
                          try clear c7b0
                          try clear c7b1
                          try clear c8
                          try clear c9
                          try clear c9b0
                          try clear c11
                          try clear c11b0
                          try clear c12
                          try clear c12b0
                          try clear p13
                          try clear q13
                          try clear hx13
                          try clear c14
                          try clear c15
                          try clear c15b0
                          try clear c16
                          try clear c16b0
                          try clear p17
                          try clear q17
                          try clear hx17
                          try clear c19
                          try clear c19b0
                          try clear c20
                          try clear c20b0
                          try clear c21
                          try clear c21b0
                          try clear c22
                          try clear c22b0
                          try clear c23
                          try clear c23b0
                          try clear c23b1
                          try clear c24
                          try clear c24b0
                          try clear c24b1
                          try clear c25
                          try clear c25b0
                          try clear c25b1
                          try clear c26
                          try clear c26b0
                          try clear c26b1
                          try clear c27
                          try clear c27b0
                          try clear c28
                          try clear c28b0
                          try clear c29
                          try clear c29b0
                          try clear c29b1
                          try clear c30
                          try clear c30b0
                          try clear c30b1
                          try clear c31
                          try clear c31b0
                          try clear c31b1
                          try clear c32
                          try clear c32b0
                          try clear c32b1
                          try clear p1
                          try clear p13
                          try clear p17
                          try clear p2
                          try clear p6
                          try clear q1
                          try clear q13
                          try clear q17
                          obtain ⟨kq, x68_17, rfl, HA, HJ17, ⟨mc17, rfl⟩⟩ := hcut
                          cases kq with
                          | zero => exact absurd HA.out (by simp [geyserref14_Path.j3])
                          | succ kj17 =>
                            have H := HA.out
                            clear HA
                            simp only [geyserref14_Path.j3] at H
                            by_cases c33 : x68_17 = true
                            · subst c33
                              have H1 : (some false) = some r := by rw [if_pos rfl] at H; exact H
                              clear H
                              have H := H1
                              clear H1
                              obtain rfl := Option.some.inj H
                              go_wp2
                              go_ret
                              exact ⟨by first | rfl | (simp; done) | (simp [*]; done), by repeat (first | exact Drawn0.refl _ | apply Drawn0.step)⟩
                            · replace c33 := Bool.eq_false_iff.mpr c33
                              subst c33
                              have H1 : (geyserref14_Path.l0 kj17 a0 x3_2 (wrap64 (x4_2 + 1))) = some r := by rw [if_neg (show ¬ (false = true) by decide)] at H; exact H
                              clear H
                              have H := H1
                              clear H1
                              have H' := Aside0.mk H
                              clear H
                              go_wp2
                              go_roundg kj17
                              case measure => have := HJ1.out; have := HK2.out; have := HJ9.out; have := HJ17.out; omega
                              case rel => exact ⟨(x3_2), (wrap64 (x4_2 + 1)), (by first | rfl | (simp; done) | (simp [*]; done)), (by first | rfl | (simp; done) | (simp [*]; done)), H', ⟨by have := HJ1.out; have := HK2.out; have := HJ9.out; have := HJ17.out; omega⟩, by repeat (first | exact Drawn0.refl _ | apply Drawn0.step)⟩
                      · rw [if_neg c16] at H
                        exact absurd H (by simp)
                    · rw [if_neg c15] at H
                      exact absurd H (by simp)
                  · replace c14 := Bool.eq_false_iff.mpr c14
                    subst c14
                    have H1 : (if 0 ≤ x3_2 then (if x3_2 ≤ x4_2 then (if x4_2 ≤ (a0.size : Int) then (if (a0.extract (x3_2 : Int).toNat (x4_2 : Int).toNat).toList = ([] : List UInt8) then (some false) else (if (a0.extract (x3_2 : Int).toNat (x4_2 : Int).toNat).toList = ([46] : List UInt8) then (some false) else (if (a0.extract (x3_2 : Int).toNat (x4_2 : Int).toNat).toList = ([46, 46] : List UInt8) then (some false) else (if x3_2 = 0 then (if (a0.extract (x3_2 : Int).toNat (x4_2 : Int).toNat).toList = ([111, 108, 100] : List UInt8) then (some false) else (if (a0.extract (x3_2 : Int).toNat (x4_2 : Int).toNat).toList = ([116, 109, 112] : List UInt8) then (some false) else (geyserref14_Path.l0 kj9 a0 (wrap64 (x4_2 + 1)) (wrap64 (x4_2 + 1))))) else (geyserref14_Path.l0 kj9 a0 (wrap64 (x4_2 + 1)) (wrap64 (x4_2 + 1))))))) else (none)) else (none)) else (none)) = some r := by rw [if_neg (show ¬ (false = true) by decide)] at H; exact H
                    clear H
                    have H := H1
                    clear H1
                    by_cases c34 : 0 ≤ x3_2
                    · rw [if_pos c34] at H
                      have c34b0 := eq_true c34
                      have c34b1 : decide (0 ≤ x3_2) = true := decide_eq_true c34
                      clear c34
                      by_cases c35 : x3_2 ≤ x4_2
                      · rw [if_pos c35] at H
                        have c35b0 := eq_true c35
                        have c35b1 : decide (x3_2 ≤ x4_2) = true := decide_eq_true c35
                        clear c35
                        by_cases c36 : x4_2 ≤ (a0.size : Int)
                        · rw [if_pos c36] at H
                          have c36b0 := eq_true c36
                          have c36b1 : decide (x4_2 ≤ (a0.size : Int)) = true := decide_eq_true c36
                          clear c36
                          by_cases c37 : (a0.extract (x3_2 : Int).toNat (x4_2 : Int).toNat).toList = ([] : List UInt8)
                          · rw [if_pos c37] at H
                            have c37b0 : ((a0.extract (x3_2 : Int).toNat (x4_2 : Int).toNat).toList == ([] : List UInt8)) = true := beq_iff_eq.mpr c37
                            have c37b1 : ((a0.extract (x3_2 : Int).toNat (x4_2 : Int).toNat).toList != ([] : List UInt8)) = false := bne_eq_false_iff_eq.mpr c37
                            clear c37
                            obtain rfl := Option.some.inj H
                            go_wp2
                            go_ret
                            exact ⟨by first | rfl | (simp; done) | (simp [*]; done), by repeat (first | exact Drawn0.refl _ | apply Drawn0.step)⟩
                          · rw [if_neg c37] at H
                            have c37b0 : ((a0.extract (x3_2 : Int).toNat (x4_2 : Int).toNat).toList == ([] : List UInt8)) = false := beq_eq_false_iff_ne.mpr c37
                            have c37b1 : ((a0.extract (x3_2 : Int).toNat (x4_2 : Int).toNat).toList != ([] : List UInt8)) = true := bne_iff_ne.mpr c37
                            by_cases c38 : (a0.extract (x3_2 : Int).toNat (x4_2 : Int).toNat).toList = ([46] : List UInt8)
                            · rw [if_pos c38] at H
                              have c38b0 : ((a0.extract (x3_2 : Int).toNat (x4_2 : Int).toNat).toList == ([46] : List UInt8)) = true := beq_iff_eq.mpr c38
                              have c38b1 : ((a0.extract (x3_2 : Int).toNat (x4_2 : Int).toNat).toList != ([46] : List UInt8)) = false := bne_eq_false_iff_eq.mpr c38
                              clear c38
                              obtain rfl := Option.some.inj H
                              go_wp2
                              go_ret
                              exact ⟨by first | rfl | (simp; done) | (simp [*]; done), by repeat (first | exact Drawn0.refl _ | apply Drawn0.step)⟩
                            · rw [if_neg c38] at H
                              have c38b0 : ((a0.extract (x3_2 : Int).toNat (x4_2 : Int).toNat).toList == ([46] : List UInt8)) = false := beq_eq_false_iff_ne.mpr c38
                              have c38b1 : ((a0.extract (x3_2 : Int).toNat (x4_2 : Int).toNat).toList != ([46] : List UInt8)) = true := bne_iff_ne.mpr c38
                              by_cases c39 : (a0.extract (x3_2 : Int).toNat (x4_2 : Int).toNat).toList = ([46, 46] : List UInt8)
                              · rw [if_pos c39] at H
                                have c39b0 : ((a0.extract (x3_2 : Int).toNat (x4_2 : Int).toNat).toList == ([46, 46] : List UInt8)) = true := beq_iff_eq.mpr c39
                                have c39b1 : ((a0.extract (x3_2 : Int).toNat (x4_2 : Int).toNat).toList != ([46, 46] : List UInt8)) = false := bne_eq_false_iff_eq.mpr c39
                                clear c39
                                obtain rfl := Option.some.inj H
                                go_wp2
                                go_ret
                                exact ⟨by first | rfl | (simp; done) | (simp [*]; done), by repeat (first | exact Drawn0.refl _ | apply Drawn0.step)⟩
                              · rw [if_neg c39] at H
                                have c39b0 : ((a0.extract (x3_2 : Int).toNat (x4_2 : Int).toNat).toList == ([46, 46] : List UInt8)) = false := beq_eq_false_iff_ne.mpr c39
                                have c39b1 : ((a0.extract (x3_2 : Int).toNat (x4_2 : Int).toNat).toList != ([46, 46] : List UInt8)) = true := bne_iff_ne.mpr c39
                                by_cases c40 : x3_2 = 0
                                · rw [if_pos c40] at H
                                  have c40b0 : (x3_2 == 0) = true := beq_iff_eq.mpr c40
                                  have c40b1 : (x3_2 != 0) = false := bne_eq_false_iff_eq.mpr c40
                                  clear c40
                                  by_cases c41 : (a0.extract (x3_2 : Int).toNat (x4_2 : Int).toNat).toList = ([111, 108, 100] : List UInt8)
                                  · rw [if_pos c41] at H
                                    have c41b0 : ((a0.extract (x3_2 : Int).toNat (x4_2 : Int).toNat).toList == ([111, 108, 100] : List UInt8)) = true := beq_iff_eq.mpr c41
                                    have c41b1 : ((a0.extract (x3_2 : Int).toNat (x4_2 : Int).toNat).toList != ([111, 108, 100] : List UInt8)) = false := bne_eq_false_iff_eq.mpr c41
                                    clear c41
                                    obtain rfl := Option.some.inj H
                                    go_wp2
                                    go_ret
                                    exact ⟨by first | rfl | (simp; done) | (simp [*]; done), by repeat (first | exact Drawn0.refl _ | apply Drawn0.step)⟩
                                  · rw [if_neg c41] at H
                                    have c41b0 : ((a0.extract (x3_2 : Int).toNat (x4_2 : Int).toNat).toList == ([111, 108, 100] : List UInt8)) = false := beq_eq_false_iff_ne.mpr c41
                                    have c41b1 : ((a0.extract (x3_2 : Int).toNat (x4_2 : Int).toNat).toList != ([111, 108, 100] : List UInt8)) = true := bne_iff_ne.mpr c41
                                    by_cases c42 : (a0.extract (x3_2 : Int).toNat (x4_2 : Int).toNat).toList = ([116, 109, 112] : List UInt8)
                                    · rw [if_pos c42] at H
                                      have c42b0 : ((a0.extract (x3_2 : Int).toNat (x4_2 : Int).toNat).toList == ([116, 109, 112] : List UInt8)) = true := beq_iff_eq.mpr c42
                                      have c42b1 : ((a0.extract (x3_2 : Int).toNat (x4_2 : Int).toNat).toList != ([116, 109, 112] : List UInt8)) = false := bne_eq_false_iff_eq.mpr c42
                                      clear c42
                                      obtain rfl := Option.some.inj H
                                      go_wp2
                                      go_ret
                                      exact ⟨by first | rfl | (simp; done) | (simp [*]; done), by repeat (first | exact Drawn0.refl _ | apply Drawn0.step)⟩
                                    · rw [if_neg c42] at H
                                      have c42b0 : ((a0.extract (x3_2 : Int).toNat (x4_2 : Int).toNat).toList == ([116, 109, 112] : List UInt8)) = false := beq_eq_false_iff_ne.mpr c42
                                      have c42b1 : ((a0.extract (x3_2 : Int).toNat (x4_2 : Int).toNat).toList != ([116, 109, 112] : List UInt8)) = true := bne_iff_ne.mpr c42
                                      have H' := Aside0.mk H
                                      clear H
                                      go_wp2
                                      go_roundg kj9
                                      case measure => have := HJ1.out; have := HK2.out; have := HJ9.out; omega
                                      case rel => exact ⟨(wrap64 (x4_2 + 1)), (wrap64 (x4_2 + 1)), (by first | rfl | (simp; done) | (simp [*]; done)), (by first | rfl | (simp; done) | (simp [*]; done)), H', ⟨by have := HJ1.out; have := HK2.out; have := HJ9.out; omega⟩, by repeat (first | exact Drawn0.refl _ | apply Drawn0.step)⟩
                                · rw [if_neg c40] at H
                                  have c40b0 : (x3_2 == 0) = false := beq_eq_false_iff_ne.mpr c40
                                  have c40b1 : (x3_2 != 0) = true := bne_iff_ne.mpr c40
                                  have H' := Aside0.mk H
                                  clear H
                                  go_wp2
                                  go_roundg kj9
                                  case measure => have := HJ1.out; have := HK2.out; have := HJ9.out; omega
                                  case rel => exact ⟨(wrap64 (x4_2 + 1)), (wrap64 (x4_2 + 1)), (by first | rfl | (simp; done) | (simp [*]; done)), (by first | rfl | (simp; done) | (simp [*]; done)), H', ⟨by have := HJ1.out; have := HK2.out; have := HJ9.out; omega⟩, by repeat (first | exact Drawn0.refl _ | apply Drawn0.step)⟩
                        · rw [if_neg c36] at H
                          exact absurd H (by simp)
                      · rw [if_neg c35] at H
                        exact absurd H (by simp)
                    · rw [if_neg c34] at H
                      exact absurd H (by simp)
            · rw [if_neg c9] at H
              have c9b0 : decide (x4_2 ≤ (a0.size : Int)) = false := decide_eq_false c9
              clear c9
              obtain rfl := Option.some.inj H
              go_wp2
              go_ret
              exact ⟨by first | rfl | (simp; done) | (simp [*]; done), by repeat (first | exact Drawn0.refl _ | apply Drawn0.step)⟩

end Go.Proofs.YtlmgikhgmbjfdaaDoor.QPart
/- Machine-made by a program of this claim: functions of the Go program as Lean functions, and that its calls do what these say. Lean checks it. -/
namespace Go.Proofs.YtlmgikhgmbjfdaaDoor.QPart
open Go.RowKit Go.Proofs.YtlmgikhgmbjfdaaDoorW.PrintWords Go.Proofs.YtlmgikhgmbjfdaaDoorW.PrintLast Go.Proofs.YtlmgikhgmbjfdaaDoorW.PrintMore
attribute [local go_sem] max2_int min2_int max_two min_two max_three min_three max_four min_four   -- for this text's walks alone
set_option linter.unusedVariables false
set_option linter.unusedSimpArgs false

/-! ### geyserref14_Count: function 13 -/
def geyserref14_Count.j0 : Nat → Int → Int → Bool → Option (Int)
  | 0, _, _, _ => none
  | k + 1, x0, x1, x15 => if x15 = true then (some 0) else (if x1 = 0 then (none) else (if (Int.tmod x0 x1) > 0 then (some (wrap64 ((wrap64 (Int.tdiv x0 x1)) + 1))) else (some (wrap64 (Int.tdiv x0 x1)))))
def geyserref14_Count.f (k : Nat) (a0 : Int) (a1 : Int) : Option (Int) := if a0 < 1 then (geyserref14_Count.j0 k a0 a1 true) else (if a1 < 1 then (geyserref14_Count.j0 k a0 a1 true) else (geyserref14_Count.j0 k a0 a1 (decide (a1 > 256))))
theorem geyserref14_Count.mono_l : ∀ k, (∀ y0 y1 y2, LeO (geyserref14_Count.j0 k y0 y1 y2) (geyserref14_Count.j0 (k + 1) y0 y1 y2))
  | 0 => fun _ _ _ r h => by simp [geyserref14_Count.j0] at h
  | k + 1 => by
    have ih0 := geyserref14_Count.mono_l k
    · intro y0 y1 y2
      unfold geyserref14_Count.j0
      repeat' first
      | (with_reducible exact ih0 _ _ _)
      | (with_reducible exact LeO.refl _)
      | (with_reducible exact LeO.none _)
      | (with_reducible refine LeO.ite ?_ ?_)
      | (with_reducible refine LeO.bind ?_ (fun _ => ?_))
      | exact ih0 _ _ _
      | exact LeO.none _
      | refine LeO.ite ?_ ?_
      | refine LeO.bind ?_ (fun _ => ?_)
theorem geyserref14_Count.mono : ∀ a0 a1 k, LeO (geyserref14_Count.f k a0 a1) (geyserref14_Count.f (k + 1) a0 a1) := by
  intro a0 a1 k
  have ih0 := geyserref14_Count.mono_l k
  unfold geyserref14_Count.f
  repeat' first
      | (with_reducible exact ih0 _ _ _)
      | (with_reducible exact LeO.refl _)
      | (with_reducible exact LeO.none _)
      | (with_reducible refine LeO.ite ?_ ?_)
      | (with_reducible refine LeO.bind ?_ (fun _ => ?_))
      | exact ih0 _ _ _
      | exact LeO.none _
      | refine LeO.ite ?_ ?_
      | refine LeO.bind ?_ (fun _ => ?_)
set_option maxHeartbeats 8000000 in
set_option maxRecDepth 100000 in
theorem geyserref14_Count.calls (k : Nat) (a0 : Int) (a1 : Int) (r : Int) (w : World) (h : geyserref14_Count.f k a0 a1 = some r) :
    Calls Tryd.prog 13 #[.int .i64 a0, .int .i64 a1] w fun e w' => e = .returned (.int .i64 r) ∧ Drawn0 w w' := by
  have H : (if a0 < 1 then (geyserref14_Count.j0 k a0 a1 true) else (if a1 < 1 then (geyserref14_Count.j0 k a0 a1 true) else (geyserref14_Count.j0 k a0 a1 (decide (a1 > 256))))) = some r := h
  clear h
  have HC3 := Aside0.mk H
  clear H
  go_enter Tryd.func13, Tryd.ntmps13
  go_upto_region 1 with (fail)
  go_cut [15] (fun v15 wc => ∃ (kq : Nat) (x15_2 : Bool), v15 = .bool x15_2 ∧ Aside0 (geyserref14_Count.j0 kq a0 a1 x15_2 = some r) ∧ Aside0 (kq ≤ k) ∧ Drawn0 w wc)
  case first =>
    have H := HC3.out
    clear HC3
    by_cases c4 : a0 < 1
    · rw [if_pos c4] at H
      have c4b0 : decide (a0 < 1) = true := decide_eq_true c4
      clear c4
      (first | rw [c4b0] | (simp only [i64_w, i32_w]; rw [c4b0]) | skip)
      have H' := Aside0.mk H
      clear H
      go_wp2
      go_meet
      case rel => exact ⟨_, (true), (by first | rfl | (simp; done) | (simp [*]; done)), H', ⟨by first | omega | exact Nat.le_refl _⟩, by repeat (first | exact Drawn0.refl _ | apply Drawn0.step)⟩
    · rw [if_neg c4] at H
      have c4b0 : decide (a0 < 1) = false := decide_eq_false c4
      clear c4
      (first | rw [c4b0] | (simp only [i64_w, i32_w]; rw [c4b0]) | skip)
      by_cases c5 : a1 < 1
      · rw [if_pos c5] at H
        have c5b0 : decide (a1 < 1) = true := decide_eq_true c5
        clear c5
        have H' := Aside0.mk H
        clear H
        go_wp2
        go_meet
        case rel => exact ⟨_, (true), (by first | rfl | (simp; done) | (simp [*]; done)), H', ⟨by first | omega | exact Nat.le_refl _⟩, by repeat (first | exact Drawn0.refl _ | apply Drawn0.step)⟩
      · rw [if_neg c5] at H
        have c5b0 : decide (a1 < 1) = false := decide_eq_false c5
        clear c5
        have H' := Aside0.mk H
        clear H
        go_wp2
        go_meet
        case rel => exact ⟨_, (decide (a1 > 256)), (by first | rfl | (simp; done) | (simp [*]; done)), H', ⟨by first | omega | exact Nat.le_refl _⟩, by repeat (first | exact Drawn0.refl _ | apply Drawn0.step)⟩
  case rest =>
    clear HC3
    try clear c1
    try clear p2
    try clear c4
    try clear c4b0
    try clear c5
    try clear c5b0
    obtain ⟨kq, x15_2, rfl, HA, HJ2, ⟨mc2, rfl⟩⟩ := hcut
    cases kq with
    | zero => exact absurd HA.out (by simp [geyserref14_Count.j0])
    | succ kj2 =>
      have H := HA.out
      clear HA
      simp only [geyserref14_Count.j0] at H
      by_cases c6 : x15_2 = true
      · subst c6
        have H1 : (some 0) = some r := by rw [if_pos rfl] at H; exact H
        clear H
        have H := H1
        clear H1
        obtain rfl := Option.some.inj H
        go_wp2
        go_ret
        exact ⟨by first | rfl | (simp; done) | (simp [*]; done), by repeat (first | exact Drawn0.refl _ | apply Drawn0.step)⟩
      · replace c6 := Bool.eq_false_iff.mpr c6
        subst c6
        have H1 : (if a1 = 0 then (none) else (if (Int.tmod a0 a1) > 0 then (some (wrap64 ((wrap64 (Int.tdiv a0 a1)) + 1))) else (some (wrap64 (Int.tdiv a0 a1))))) = some r := by rw [if_neg (show ¬ (false = true) by decide)] at H; exact H
        clear H
        have H := H1
        clear H1
        by_cases c7 : a1 = 0
        · rw [if_pos c7] at H
          exact absurd H (by simp)
        · rw [if_neg c7] at H
          have c7b0 : (a1 == 0) = false := beq_eq_false_iff_ne.mpr c7
          have c7b1 : (a1 != 0) = true := bne_iff_ne.mpr c7
          by_cases c8 : (Int.tmod a0 a1) > 0
          · rw [if_pos c8] at H
            have c8b0 : decide (0 < (Int.tmod a0 a1)) = true := decide_eq_true c8
            clear c8
            obtain rfl := Option.some.inj H
            go_wp2
            go_ret
            exact ⟨by first | rfl | (simp; done) | (simp [*]; done), by repeat (first | exact Drawn0.refl _ | apply Drawn0.step)⟩
          · rw [if_neg c8] at H
            have c8b0 : decide (0 < (Int.tmod a0 a1)) = false := decide_eq_false c8
            clear c8
            obtain rfl := Option.some.inj H
            go_wp2
            go_ret
            exact ⟨by first | rfl | (simp; done) | (simp [*]; done), by repeat (first | exact Drawn0.refl _ | apply Drawn0.step)⟩

end Go.Proofs.YtlmgikhgmbjfdaaDoor.QPart
/- Machine-made by a program of this claim: functions of the Go program as Lean functions, and that its calls do what these say. Lean checks it. -/
namespace Go.Proofs.YtlmgikhgmbjfdaaDoor.QPart
open Go.RowKit Go.Proofs.YtlmgikhgmbjfdaaDoorW.PrintWords Go.Proofs.YtlmgikhgmbjfdaaDoorW.PrintLast Go.Proofs.YtlmgikhgmbjfdaaDoorW.PrintMore
attribute [local go_sem] max2_int min2_int max_two min_two max_three min_three max_four min_four   -- for this text's walks alone
set_option linter.unusedVariables false
set_option linter.unusedSimpArgs false

end Go.Proofs.YtlmgikhgmbjfdaaDoor.QPart
/- Package path, where nothing but its Right is reached: which names are right. -/
namespace Go.Proofs.YtlmgikhgmbjfdaaDoor.Path
open Go Go.RowKit Go.Shelf Go.Proofs.YtlmgikhgmbjfdaaDoor.QPart Go.Proofs.YtlmgikhgmbjfdaaDoorW.PrintWords Go.Proofs.YtlmgikhgmbjfdaaDoorW.PrintLast Go.Proofs.YtlmgikhgmbjfdaaDoorW.PrintMore

/-- what the package's functions read of the library's variables -/
structure Good (w : World) : Prop where
  ml : ∃ m, w.cell? ⟨0, 0, none⟩ = some (.int .i64 m)
theorem cell_below {w w' : World} {a : Addr} {u : Value} (hb : Below w.heap.size w w') (h : w.cell? a = some u) : w'.cell? a = some u := by
  have hlt : a.block < w.heap.size := by
    rcases Nat.lt_or_ge a.block w.heap.size with h' | h'
    · exact h'
    · simp [World.cell?, Array.getElem?_eq_none h'] at h
  rw [hb.cell hlt]; exact h
theorem Good.below {w w' : World} (h : Good w) (hb : Below w.heap.size w w') : Good w' := by
  obtain ⟨m, h4⟩ := h.ml
  exact ⟨⟨m, cell_below hb h4⟩⟩

/-- the volumes' ending -/
def gys : ByteArray := ⟨#[46, 103, 121, 115]⟩
def suf (s : ByteArray) : Bool := decide (4 ≤ s.size) && ((s.extract (s.size - 4) s.size).toList == gys.toList)
theorem wrap_small (x : Int) (h0 : -9223372036854775808 ≤ x) (h1 : x ≤ 9223372036854775807) : wrap64 x = x := by
  unfold wrap64; omega
theorem suf_in (s : ByteArray) (hs : s.size ≤ 9223372036854775807) : stringslite_HasSuffix.f s gys = some (suf s) := by
  have e4 : gys.size = 4 := rfl
  unfold stringslite_HasSuffix.f suf
  rw [e4]
  by_cases h : 4 ≤ s.size
  · rw [if_pos (by omega), wrap_small _ (by omega) (by omega), if_pos (by omega), if_pos (by omega)]
    have e : (((s.size : Int) - ((4 : Nat) : Int)).toNat) = s.size - 4 := by omega
    rw [e]
    simp [h]
  · rw [if_neg (by omega)]
    simp [h]
theorem suf_says (s : ByteArray) (hs : s.size ≤ 9223372036854775807) : strings_HasSuffix.f s gys = some (suf s) := by
  unfold strings_HasSuffix.f
  rw [suf_in s hs]; rfl
theorem bytes_below {w w' : World} {T : TypeId} (h : w' = w ∨ ∃ t, w' = Lib.bytesWorld w T t) : Below w.heap.size w w' := by
  rcases h with rfl | ⟨t, rfl⟩
  · exact Below.refl _ _
  · exact Lib.bytesWorld_below _ _ _
theorem beq_bytes (d c : ByteArray) : (d.toList == c.toList) = decide (d = c) := by
  rw [Lib.toList_data, Lib.toList_data]
  by_cases h : d = c
  · subst h; simp
  · have h' : d.data.toList ≠ c.data.toList := fun e => h (by
      obtain ⟨⟨d⟩⟩ := d
      obtain ⟨⟨c⟩⟩ := c
      simp only at e
      rw [e])
    rw [decide_eq_false h]
    exact beq_eq_false_iff_ne.2 h'

/-- bytes of parts -/
def plainI (c : Int) : Bool := decide (97 ≤ c ∧ c ≤ 122) || decide (48 ≤ c ∧ c ≤ 57) || decide (c = 46) || decide (c = 95) || decide (c = 45)
theorem plain_says (c : Int) : path_plain.f c = some (plainI c) := by
  have e : ∀ b : Bool, (b = true ↔ plainI c = true) → some b = some (plainI c) := fun b h => by
    congr 1
    cases b <;> cases hp : plainI c <;> simp_all
  have ep : plainI c = true ↔ ((97 ≤ c ∧ c ≤ 122) ∨ (48 ≤ c ∧ c ≤ 57) ∨ c = 46 ∨ c = 95 ∨ c = 45) := by
    unfold plainI
    simp only [Bool.or_eq_true, decide_eq_true_eq]
    omega
  unfold path_plain.f
  repeat' split
  all_goals (apply e; rw [ep]; simp only [beq_iff_eq, true_iff]; omega)
def plains (l : List UInt8) : Bool := l.all fun b => plainI (b.toNat : Int)
/-- parts that may be -/
def partB (p : ByteArray) : Bool := plains p.data.toList && (decide (p.data.toList ≠ []) && (decide (p.data.toList ≠ [46]) && decide (p.data.toList ≠ [46, 46])))
theorem bt_data (p : ByteArray) (i : Nat) (h : i < p.data.toList.length) : bt p i = ((p.data.toList[i]).toNat : Int) := by
  have h' : i < p.size := h
  have e : ((i : Int)).toNat = i := by omega
  rw [← bt_at p i (by rw [e]; exact h')]
  simp only [e]
  rfl
theorem part_l0 (p : ByteArray) (hp : p.size ≤ 4611686018427387904) : ∀ (k i : Nat), i ≤ p.size → p.size - i < k →
    path_part.l0 k p (p.size : Int) (i : Int) = some (plains (p.data.toList.drop i) && (decide (p.data.toList ≠ []) && (decide (p.data.toList ≠ [46]) && decide (p.data.toList ≠ [46, 46]))))
  | 0, _, _, h => by omega
  | k + 1, i, h1, h2 => by
    simp only [path_part.l0]
    by_cases hi : i < p.size
    · have hl : i < p.data.toList.length := hi
      rw [if_pos (by omega), if_pos (by omega), if_pos (by omega), plain_says, Option.bind_some, bt_data p i hl, wrap_small _ (by omega) (by omega)]
      have ed : p.data.toList.drop i = p.data.toList[i] :: p.data.toList.drop (i + 1) := by rw [List.drop_eq_getElem_cons hl]
      have ep : plains (p.data.toList.drop i) = (plainI ((p.data.toList[i]).toNat : Int) && plains (p.data.toList.drop (i + 1))) := by
        rw [ed]; rfl
      rw [ep]
      cases hc : plainI ((p.data.toList[i]).toNat : Int) with
      | false => rw [if_neg (by decide)]; rfl
      | true =>
        rw [if_pos rfl]
        have := part_l0 p hp k (i + 1) (by omega) (by omega)
        rw [show ((i : Int) + 1) = ((i + 1 : Nat) : Int) by omega, this]
        rfl
    · have hl : p.data.toList.length ≤ i := by have : ¬ i < p.data.toList.length := hi; omega
      rw [if_neg (by omega), List.drop_eq_nil_of_le hl, Lib.toList_data]
      have ep : plains [] = true := rfl
      rw [ep, Bool.true_and]
      by_cases a : p.data.toList = []
      · rw [if_pos a]; simp [a]
      · rw [if_neg a]
        by_cases b : p.data.toList = [46]
        · rw [if_pos b]; simp [b]
        · rw [if_neg b]
          by_cases c : p.data.toList = [46, 46]
          · simp [c]
          · have : (p.data.toList != [46, 46]) = true := bne_iff_ne.2 c
            rw [this]; simp [a, b, c]
theorem part_calls (p : ByteArray) (hp : p.size ≤ 4611686018427387904) (w : World) :
    Calls Tryd.prog 64 #[.string p] w fun e w' => e = .returned (.bool (partB p)) ∧ Drawn0 w w' := by
  refine path_part.calls (p.size + 1) p (partB p) w ?_
  have h := part_l0 p hp (p.size + 1) 0 (by omega) (by omega)
  exact h

/-- what lies between the slashes -/
def sl : ByteArray := ⟨#[47]⟩
def pcs (s : ByteArray) : List ByteArray := Lib.splitB sl 0 (Lib.countB s sl) s
theorem pcs_len (s : ByteArray) : (pcs s).length = Lib.countB s sl + 1 := Lib.splitB_all sl (by decide) 0 _ s rfl
theorem splitB_small (sep : ByteArray) : ∀ (k : Nat) (s p : ByteArray), p ∈ Lib.splitB sep 0 k s → p.size ≤ s.size
  | 0, s, p, h => by simp [Lib.splitB] at h; subst h; exact Nat.le_refl _
  | k + 1, s, p, h => by
    unfold Lib.splitB at h
    split at h
    · simp at h; subst h; exact Nat.le_refl _
    · rcases List.mem_cons.1 h with rfl | h
      · rw [ByteArray.size_extract]; omega
      · have := splitB_small sep k _ p h
        rw [ByteArray.size_extract] at this; omega
/-- names that files of a set may have -/
def right (s : ByteArray) : Bool := (pcs s).all partB && (decide (s.size ≤ 40) && (((pcs s).headD ⟨#[]⟩).toList != ([111, 108, 100] : List UInt8) && (((pcs s).headD ⟨#[]⟩).toList != ([116, 109, 112] : List UInt8) && !suf s)))
structure Held (s : ByteArray) (w w' : World) : Prop where
  cells : ∀ j, j < (pcs s).length → w'.cell? ⟨w.heap.size, j, none⟩ = some (.string ((pcs s).getD j ⟨#[]⟩))
  below : Below w.heap.size w w'
  there : w.heap.size < w'.heap.size
theorem Held.step {s : ByteArray} {w w1 w2 : World} (h : Held s w w1) (hd : Drawn0 w1 w2) : Held s w w2 := by
  have hb := hd.below
  exact ⟨fun j hj => cell_below hb (h.cells j hj), h.below.trans (hb.mono h.below.size), Nat.lt_of_lt_of_le h.there hb.size⟩
theorem held_first (s : ByteArray) (w : World) (T : TypeId) : Held s w (w.alloc (.cells ((pcs s).map Value.string).toArray T)) := by
  refine ⟨fun j hj => ?_, (Below.refl _ _).alloc (Nat.le_refl _) _, by simp⟩
  simp [List.getD, hj]
theorem split_calls (s : ByteArray) (hs : s.size ≤ 1000000000) (w : World) (G : Good w) :
    Calls Tryd.prog 63 #[.string s, .string sl] w fun e w' => e = .returned (.slice (some ⟨w.heap.size, 0, none⟩) (pcs s).length (pcs s).length) ∧ Held s w w' := by
  obtain ⟨m, hm⟩ := G.ml
  refine (Any.strings_Split { Tryd.splitLay with } Tryd.splitLay.i9 s sl m w (by omega) hm (by decide)).mono ?_
  rintro e w' ⟨rfl, rfl⟩
  rw [pcs_len]
  exact ⟨rfl, held_first s w _⟩
set_option maxHeartbeats 8000000 in
set_option maxRecDepth 100000 in
theorem right_calls (s : ByteArray) (hs : s.size ≤ 1000000000) (w : World) (G : Good w) :
    Calls Tryd.prog 40 #[.string s] w fun e w' => e = .returned (.bool (right s)) ∧ Below w.heap.size w w' := by
  have G' := Lib.hid G
  clear G
  have hL1 : 1 ≤ (pcs s).length := by rw [pcs_len]; omega
  have hL2 : (pcs s).length ≤ 2000000000 := by
    rw [pcs_len]
    have := Lib.countB_le sl (by decide) s.size s (Nat.le_refl _)
    omega
  have hsm := Lib.hid (splitB_small sl (Lib.countB s sl) s)
  generalize hL : (pcs s).length = L at *
  have HL := Lib.hid hL
  clear hL
  go_enter Tryd.func40, Tryd.ntmps40
  go_wp2_with (go_at_call 63; refine (split_calls s hs _ G'.out).mono ?_; rw [HL.out]; rintro e w1 ⟨rfl, hd⟩; have hb1 := Lib.hid hd; clear hd)
  go_loopg [10] (L + 1) (fun kq v10 w' => ∃ i : Nat, v10 = .int .i64 (i : Int) ∧ Hid (i + kq = L + 1 ∧ i ≤ L ∧ ((pcs s).take i).all partB = true) ∧ Hid (Held s w w'))
  case atStart => exact ⟨0, rfl, Lib.hid ⟨by omega, by omega, by simp⟩, hb1⟩
  case round =>
    clear hb1
    obtain ⟨i, rfl, hi, hw⟩ := hrel
    cases gk with
    | zero => exact absurd hi.out.1 (by have := hi.out.2.1; omega)
    | succ k1 =>
      by_cases hlt : i < L
      · obtain ⟨p, hp⟩ : ∃ p, (pcs s).getD i ⟨#[]⟩ = p := ⟨_, rfl⟩
        have hc := hw.out.cells i (by rw [HL.out]; exact hlt)
        rw [hp] at hc
        have hil : i < (pcs s).length := by rw [HL.out]; exact hlt
        have hpi : (pcs s)[i]? = some p := by rw [← hp, List.getD, List.getElem?_eq_getElem hil]; rfl
        have hpm : p ∈ pcs s := List.mem_of_getElem? hpi
        have hps : p.size ≤ 4611686018427387904 := by
          have := hsm.out p hpm
          omega
        have hpi' := Lib.hid hpi
        have hpm' := Lib.hid hpm
        clear hp hpi hil hpm
        have g1 : (i : Int) < (L : Int) := by omega
        cases hpb : partB p with
        | false =>
          have hq := Lib.hid hpb
          clear hpb
          have hr : Hid (right s = false) := Lib.hid (by
            have : (pcs s).all partB = false := by
              rw [List.all_eq_false]
              exact ⟨p, hpm'.out, by rw [hq.out]; decide⟩
            unfold right
            rw [this, Bool.false_and])
          go_wp2_with (go_at_call 64; refine (part_calls p hps _).mono ?_; rw [hq.out]; rintro e w2 ⟨rfl, hd⟩; have hb2 := Lib.hid hd; clear hd)
          go_ret
          exact ⟨congrArg (fun b => Ending.returned (Value.bool b)) hr.out.symm, (hw.out.step hb2.out).below⟩
        | true =>
          have hq := Lib.hid hpb
          clear hpb
          go_wp2_with (go_at_call 64; refine (part_calls p hps _).mono ?_; rw [hq.out]; rintro e w2 ⟨rfl, hd⟩; have hb2 := Lib.hid hd; clear hd)
          go_roundg k1
          case measure => omega
          case rel => exact ⟨i + 1, congrArg _ (by omega), Lib.hid ⟨by have := hi.out.1; omega, by omega, by
            rw [List.take_add_one, List.all_append, hi.out.2.2, hpi'.out]; simp [hq.out]⟩, Lib.hid (hw.out.step hb2.out)⟩
      · have hiL : i = L := by have := hi.out.2.1; omega
        have hall : Hid ((pcs s).all partB = true) := Lib.hid (by
          have := hi.out.2.2
          rw [hiL, ← HL.out, List.take_length] at this
          exact this)
        subst hiL
        obtain ⟨p, hp⟩ : ∃ p, (pcs s).getD 0 ⟨#[]⟩ = p := ⟨_, rfl⟩
        have hc := hw.out.cells 0 (by rw [HL.out]; omega)
        rw [hp] at hc
        have hr0 : right s = (decide (s.size ≤ 40) && ((p.toList != ([111, 108, 100] : List UInt8)) && ((p.toList != ([116, 109, 112] : List UInt8)) && !suf s))) := by
          unfold right
          rw [hall.out, Bool.true_and, List.headD_eq_head?_getD, List.head?_eq_getElem?, ← List.getD_eq_getElem?_getD, hp]
        have hr := Lib.hid hr0
        have HS := Lib.hid (suf_says s (by omega))
        have g1 : ¬ ((i : Int) < (i : Int)) := by omega
        clear hp hr0 hlt
        have fin : ∀ {b : Bool}, (decide (s.size ≤ 40) && ((p.toList != ([111, 108, 100] : List UInt8)) && ((p.toList != ([116, 109, 112] : List UInt8)) && !suf s))) = b → Hid (right s = b) := fun h => Lib.hid (hr.out.trans h)
        by_cases c1 : s.size ≤ 40
        · have d1 : (s.size : Int) ≤ 40 := by omega
          cases e1 : (p.toList == ([111, 108, 100] : List UInt8)) with
          | true =>
            have R := fin (b := false) (by simp only [bne, e1]; simp)
            go_wp2
            go_ret
            exact ⟨congrArg (fun b => Ending.returned (Value.bool b)) R.out.symm, hw.out.below⟩
          | false =>
            cases e2 : (p.toList == ([116, 109, 112] : List UInt8)) with
            | true =>
              have R := fin (b := false) (by simp only [bne, e2]; simp)
              go_wp2
              go_ret
              exact ⟨congrArg (fun b => Ending.returned (Value.bool b)) R.out.symm, hw.out.below⟩
            | false =>
              have R := fin (b := !suf s) (by simp only [bne, e1, e2]; simp [c1])
              go_wp2_with (go_at_call 65; refine (strings_HasSuffix.calls _ _ _ _ HS.out).mono ?_; rintro e w2 ⟨rfl, hd⟩; have hb2 := Lib.hid hd; clear hd)
              go_ret
              exact ⟨congrArg (fun b => Ending.returned (Value.bool b)) R.out.symm, (hw.out.step hb2.out).below⟩
        · have d1 : ¬ (s.size : Int) ≤ 40 := by omega
          have R := fin (b := false) (by simp [c1])
          go_wp2
          go_ret
          exact ⟨congrArg (fun b => Ending.returned (Value.bool b)) R.out.symm, hw.out.below⟩
end Go.Proofs.YtlmgikhgmbjfdaaDoor.Path

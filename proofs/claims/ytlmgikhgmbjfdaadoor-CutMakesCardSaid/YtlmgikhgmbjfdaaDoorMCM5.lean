/- The walk over the reference's digest in pieces: the words of a chunk, from the seventeenth on. -/
import Derived.Test.YtlmgikhgmbjfdaaDoorMCM4
import Derived.ChangeKeysEq
import Derived.Test.YtlmgikhgmbjfdaaDoorWWords
import Derived.ChangeArms
import Derived.DataReads
import Derived.SizedLaws

namespace Go.Proofs.YtlmgikhgmbjfdaaDoor.Dig
open Go Go.RowKit Go.Proofs.YtlmgikhgmbjfdaaDoor.QDig Go.Proofs.YtlmgikhgmbjfdaaDoorW.PrintWords Go.Proofs.YtlmgikhgmbjfdaaDoorW.PrintLast Go.Proofs.YtlmgikhgmbjfdaaDoorW.PrintMore Gy

set_option maxHeartbeats 2000000 in
set_option maxRecDepth 100000 in
theorem l4_step {u0 u1 u8 u10 u11 u12 u13 u14 u15 u16 u17 u18 u19 u20 u21 u22 u23 u24 u25 u26 u27 u28 u29 u30 u31 u32 u33 u34 u35 u36 u37 u38 u39 u40 u41 u42 u43 u44 u45 u46 u47 u48 u49 u50 u51 u52 u53 u54 u55 u56 u57 u58 u59 u60 u61 u62 u63 u64 u65 u66 u67 u68 u69 u70 u71 u72 u73 u74 u75 u76 u77 u78 u79 u80 u81 u82 u83 u84 u85 u86 u87 u88 u89 u90 u91 u92 u93 u94 u95 u96 u97 u98 u99 u100 u101 u102 u103 u104 u105 u106 u107 u108 u109 u110 u111 u112 u113 u114 u115 u116 u117 u118 u119 u120 u121 u122 u123 u124 u125 u126 u127 u128 u129 u130 u131 u132 u133 u134 u135 u136 u137 u138 u139 u140 u141 u142 u143 u144 u145 u146 u147 u148 u149 u150 u151 u152 u153 u154 u155 u156 u157 u158 u159 u160 u161 u162 u163 u164 u165 u166 u167 u168 u169 u170 u171 u172 u173 u174 u175 u176 u177 u178 u179 u180 u181 u182 u183 u184 u185 u186 u187 u188 u189 u190 u191 u192 u193 u194 u195 u196 u197 u198 u199 u200 u201 u202 u203 u204 u205 u206 u207 u208 u209 u210 u211 u212 u213 u214 u215 u216 u217 u218 u219 u220 u221 u222 u223 u224 u225 u226 u227 u228 u229 u230 u231 u232 u233 u234 u235 u236 u237 u238 u239 u240 u241 : Value} {w wr : World} {g gw c5 j i : Nat} {al : List Int} {s : St} (Q : Exit → Act → World → Prop) (hb : Bytes al) (hi16 : 16 ≤ i) (hi64 : i < 64) (hM : RefW w wr g gw al s.nats (wL (al.drop (64 * j)) i))
    (hQ : ∀ a' w', FrW w g gw c5 al j a' → a'.tmps.getD 9 undef = .int .i64 ((i : Int) + 1) → RefW w w' g gw al s.nats (wL (al.drop (64 * j)) (i + 1)) → Q .normal a' w') :
    Code.wp Tryd.prog (bodyOf 3) Q ⟨#[u0, u1, .pointer (some ⟨w.heap.size, 0, none⟩), .pointer (some ⟨w.heap.size + 1, 0, none⟩), .pointer (some ⟨w.heap.size + 1 + 1, 0, none⟩), .slice (some ⟨g, 0, none⟩) al.length c5, .int .i64 (64 * (j : Int)), .pointer (some ⟨gw, 0, none⟩), u8, .int .i64 (i : Int), u10, u11, u12, u13, u14, u15, u16, u17, u18, u19, u20, u21, u22, u23, u24, u25, u26, u27, u28, u29, u30, u31, u32, u33, u34, u35, u36, u37, u38, u39, u40, u41, u42, u43, u44, u45, u46, u47, u48, u49, u50, u51, u52, u53, u54, u55, u56, u57, u58, u59, u60, u61, u62, u63, u64, u65, u66, u67, u68, u69, u70, u71, u72, u73, u74, u75, u76, u77, u78, u79, u80, u81, u82, u83, u84, u85, u86, u87, u88, u89, u90, u91, u92, u93, u94, u95, u96, u97, u98, u99, u100, u101, u102, u103, u104, u105, u106, u107, u108, u109, u110, u111, u112, u113, u114, u115, u116, u117, u118, u119, u120, u121, u122, u123, u124, u125, u126, u127, u128, u129, u130, u131, u132, u133, u134, u135, u136, u137, u138, u139, u140, u141, u142, u143, u144, u145, u146, u147, u148, u149, u150, u151, u152, u153, u154, u155, u156, u157, u158, u159, u160, u161, u162, u163, u164, u165, u166, u167, u168, u169, u170, u171, u172, u173, u174, u175, u176, u177, u178, u179, u180, u181, u182, u183, u184, u185, u186, u187, u188, u189, u190, u191, u192, u193, u194, u195, u196, u197, u198, u199, u200, u201, u202, u203, u204, u205, u206, u207, u208, u209, u210, u211, u212, u213, u214, u215, u216, u217, u218, u219, u220, u221, u222, u223, u224, u225, u226, u227, u228, u229, u230, u231, u232, u233, u234, u235, u236, u237, u238, u239, u240, u241], []⟩ wr := by
  conv => arg 2; whnf
  have HQ := Lib.hid hQ
  have t5 : decide ((i : Int) < 64) = true := by simp; omega
  clear hQ
  have HI := Lib.hid (And.intro hi16 hi64)
  have HI17 := Lib.hid (show 16 ≤ i + 1 by omega)
  have HWA := Lib.hid (wAt_high (al.drop (64 * j)) (show ¬ i < 16 by omega))
  have c15 := hM.cell (by omega) (i - 15) (by omega)
  have c2 := hM.cell (by omega) (i - 2) (by omega)
  have c16 := hM.cell (by omega) (i - 16) (by omega)
  have c7 := hM.cell (by omega) (i - 7) (by omega)
  have HBT := Lib.hid (hb.drop (64 * j))
  have l16 := wAt_lt HBT.out (i - 16)
  have l15 := wAt_lt HBT.out (i - 15)
  have l7 := wAt_lt HBT.out (i - 7)
  have l2 := wAt_lt HBT.out (i - 2)
  obtain ⟨⟨u0, cw⟩, fw⟩ := hM.there (i := i) (by rw [wL_length _ _ (by omega)]; omega)
  obtain ⟨e15, e2, l15s, l2s⟩ := sig_forms l15 l2
  
  generalize wAt (al.drop (64 * j)) (i - 16) = x16 at c16 l16 HWA
  generalize wAt (al.drop (64 * j)) (i - 15) = x15 at c15 l15 HWA e15 l15s
  generalize wAt (al.drop (64 * j)) (i - 7) = x7 at c7 l7 HWA
  generalize wAt (al.drop (64 * j)) (i - 2) = x2 at c2 l2 HWA e2 l2s
  have L15 := Lib.hid l15
  have L2 := Lib.hid l2
  have z15 : (15 : Int) ≤ (i : Int) := by have := HI.out.1; omega
  have z2 : (2 : Int) ≤ (i : Int) := by have := HI.out.1; omega
  have b15 : (i : Int) - 15 < 64 := by have := HI.out.2; omega
  have b2 : (i : Int) - 2 < 64 := by have := HI.out.2; omega
  have bi : (i : Int) < 64 := by have := HI.out.2; omega
  have ti : decide ((i : Int) < 64) = true := t5
  go_wp2
  go_quiet ((go_at_call 33; exact Calls.quiet_of_same (turned_lit _ _ _ (by assumption) (by decide))))
  have M1 := Lib.hid (And.intro (hM.below (pw_below_drewN (Below.refl _ _) nq)) (Sched.drewN nq ⟨c2, c16, c7, cw, fw⟩))
  generalize wr.drewN nq = wq at M1 ⊢
  clear c15 b15 z15 e15 c2 c16 c7 cw fw
  obtain ⟨c2, c16, c7, cw, fw⟩ := M1.out.2
  go_wp2
  go_quiet ((go_at_call 33; exact Calls.quiet_of_same (turned_lit _ _ _ (by assumption) (by decide))))
  have M2 := Lib.hid (And.intro (M1.out.1.below (pw_below_drewN (Below.refl _ _) nq)) (Sched.drewN nq ⟨c2, c16, c7, cw, fw⟩))
  generalize wq.drewN nq = wv at M2 ⊢
  clear b2 z2 e2 c2 c16 c7 cw fw M1
  obtain ⟨_, c16, c7, cw, fw⟩ := M2.out.2
  obtain ⟨s1, s2, s3, s4⟩ := sum_forms l16 l15s l7 l2s
  obtain ⟨p16, q16, r16⟩ := sub_facts i 16 16 rfl (by have := HI.out.1; omega) (by have := HI.out.2; omega)
  obtain ⟨p7, q7, r7⟩ := sub_facts i 7 7 rfl (by have := HI.out.1; omega) (by have := HI.out.2; omega)
  have b16 : (i : Int) - 16 < 64 := by have := HI.out.2; omega
  have b7 : (i : Int) - 7 < 64 := by have := HI.out.2; omega
  have z16 : (16 : Int) ≤ (i : Int) := by have := HI.out.1; omega
  have z7 : (7 : Int) ≤ (i : Int) := by have := HI.out.1; omega
  go_wp2
  refine Gy.FlowL.flow (by kernel_rfl) (fun i_ => List.getD [(fun v _ => v = .int .i64 (i : Int)), (fun v _ => v = .int .i64 (i : Int)), (fun v _ => v = .int .i64 ((i : Int) - 16)), (fun v _ => v = .pointer (some ⟨gw, i - 16, none⟩)), (fun v _ => v = .int .u64 (x16 : Int)), (fun v _ => v = .int .u64 ((ss0 x15 : Nat) : Int)), (fun v _ => v = .int .u64 ((x16 : Int) + ((ss0 x15 : Nat) : Int))), (fun v _ => v = .int .i64 (i : Int)), (fun v _ => v = .int .i64 ((i : Int) - 7)), (fun v _ => v = .pointer (some ⟨gw, i - 7, none⟩)), (fun v _ => v = .int .u64 (x7 : Int)), (fun v _ => v = .int .u64 ((x16 : Int) + ((ss0 x15 : Nat) : Int) + (x7 : Int))), (fun v _ => v = .int .u64 ((ss1 x2 : Nat) : Int)), (fun v _ => v = .int .u64 ((x16 : Int) + ((ss0 x15 : Nat) : Int) + (x7 : Int) + ((ss1 x2 : Nat) : Int))), (fun v _ => v = .int .u64 (((x16 + ss0 x15 + x7 + ss1 x2) % 4294967296 : Nat) : Int)), (fun v _ => v = .pointer (some ⟨gw, i, none⟩)), (fun _ _ => True)] i_ (fun _ _ => True)) (fun L w => (L 16 = false → w = wv.drew) ∧ (L 16 = true → w = wv.drew.setCell ⟨gw, i, none⟩ (.int .u64 (((x16 + ss0 x15 + x7 + ss1 x2) % 4294967296 : Nat) : Int)))) (fun _ _ => True) (by kernel_rfl) ⟨fun _ => rfl, fun h => by cases h⟩ (Gy.FlowL.mono_list [(fun v _ => v = .int .i64 (i : Int)), (fun v _ => v = .int .i64 (i : Int)), (fun v _ => v = .int .i64 ((i : Int) - 16)), (fun v _ => v = .pointer (some ⟨gw, i - 16, none⟩)), (fun v _ => v = .int .u64 (x16 : Int)), (fun v _ => v = .int .u64 ((ss0 x15 : Nat) : Int)), (fun v _ => v = .int .u64 ((x16 : Int) + ((ss0 x15 : Nat) : Int))), (fun v _ => v = .int .i64 (i : Int)), (fun v _ => v = .int .i64 ((i : Int) - 7)), (fun v _ => v = .pointer (some ⟨gw, i - 7, none⟩)), (fun v _ => v = .int .u64 (x7 : Int)), (fun v _ => v = .int .u64 ((x16 : Int) + ((ss0 x15 : Nat) : Int) + (x7 : Int))), (fun v _ => v = .int .u64 ((ss1 x2 : Nat) : Int)), (fun v _ => v = .int .u64 ((x16 : Int) + ((ss0 x15 : Nat) : Int) + (x7 : Int) + ((ss1 x2 : Nat) : Int))), (fun v _ => v = .int .u64 (((x16 + ss0 x15 + x7 + ss1 x2) % 4294967296 : Nat) : Int)), (fun v _ => v = .pointer (some ⟨gw, i, none⟩)), (fun _ _ => True)] ?_) (Gy.FlowL.of_allFrom ⟨?_, ?_, ?_, ?_, ?_, ?_, ?_, ?_, ?_, ?_, ?_, ?_, ?_, ?_, ?_, ?_, ?_, trivial⟩) ?_
  · exact ⟨fun v w w' h hb => h, fun v w w' h hb => h, fun v w w' h hb => h, fun v w w' h hb => h, fun v w w' h hb => h, fun v w w' h hb => h, fun v w w' h hb => h, fun v w w' h hb => h, fun v w w' h hb => h, fun v w w' h hb => h, fun v w w' h hb => h, fun v w w' h hb => h, fun v w w' h hb => h, fun v w w' h hb => h, fun v w w' h hb => h, fun v w w' h hb => h, fun v w w' h hb => h, trivial⟩
  · intro L a w hD
    have e9 : a.eval (.tmp 9) = .int .i64 (i : Int) := hD.same.at_other 9 (by kernel_rfl)
    exact Gy.FlowL.step_move rfl rfl (Gy.FlowL.wanted_none rfl) e9 hD.J trivial
  · intro L a w hD
    have e9 : a.eval (.tmp 9) = .int .i64 (i : Int) := hD.same.at_other 9 (by kernel_rfl)
    exact Gy.FlowL.step_move rfl rfl (Gy.FlowL.wanted_none rfl) e9 hD.J trivial
  · intro L a w hD
    have e104 : a.eval (.tmp 104) = .int .i64 (i : Int) := hD.at 1 (by kernel_rfl)
    have f104 := e104; simp only [Act.eval, Array.getD_eq_getD_getElem?] at f104
    refine Gy.FlowL.step_value rfl (Gy.FlowL.wanted_none rfl) (v := .int .i64 ((i : Int) - 16)) (w1 := w) ?_ rfl hD.J trivial
    first | (simp only [execOp]; go_simp; done) | (simp only [execOp, e104]; go_simp)
  · intro L a w hD
    have e7 : a.eval (.tmp 7) = .pointer (some ⟨gw, 0, none⟩) := hD.same.at_other 7 (by kernel_rfl)
    have e105 : a.eval (.tmp 105) = .int .i64 ((i : Int) - 16) := hD.at 2 (by kernel_rfl)
    have f7 := e7; simp only [Act.eval, Array.getD_eq_getD_getElem?] at f7
    have f105 := e105; simp only [Act.eval, Array.getD_eq_getD_getElem?] at f105
    refine Gy.FlowL.step_value rfl (Gy.FlowL.wanted_none rfl) (v := .pointer (some ⟨gw, i - 16, none⟩)) (w1 := w) ?_ rfl hD.J trivial
    first | (simp only [execOp]; go_simp; done) | (simp only [execOp, e7, e105]; go_simp)
  · intro L a w hD
    have e106 : a.eval (.tmp 106) = .pointer (some ⟨gw, i - 16, none⟩) := hD.at 3 (by kernel_rfl)
    have hw := hD.J.1 (hD.later 16 (by kernel_rfl))
    have f106 := e106; simp only [Act.eval, Array.getD_eq_getD_getElem?] at f106
    have hJ := hD.J
    clear hD
    subst hw
    refine Gy.FlowL.step_value rfl (Gy.FlowL.wanted_none rfl) (v := .int .u64 (x16 : Int)) (w1 := wv.drew) ?_ rfl hJ trivial
    simp only [execOp, e106]; go_simp
  · intro L a w hD
    have e10 : a.eval (.tmp 10) = .int .u64 ((ss0 x15 : Nat) : Int) := hD.same.at_other 10 (by kernel_rfl)
    exact Gy.FlowL.step_move rfl rfl (Gy.FlowL.wanted_none rfl) e10 hD.J trivial
  · intro L a w hD
    have e107 : a.eval (.tmp 107) = .int .u64 (x16 : Int) := hD.at 4 (by kernel_rfl)
    have e108 : a.eval (.tmp 108) = .int .u64 ((ss0 x15 : Nat) : Int) := hD.at 5 (by kernel_rfl)
    have f107 := e107; simp only [Act.eval, Array.getD_eq_getD_getElem?] at f107
    have f108 := e108; simp only [Act.eval, Array.getD_eq_getD_getElem?] at f108
    refine Gy.FlowL.step_value rfl (Gy.FlowL.wanted_none rfl) (v := .int .u64 ((x16 : Int) + ((ss0 x15 : Nat) : Int))) (w1 := w) ?_ rfl hD.J trivial
    first | (simp only [execOp]; go_simp; done) | (simp only [execOp, e107, e108]; go_simp)
  · intro L a w hD
    have e9 : a.eval (.tmp 9) = .int .i64 (i : Int) := hD.same.at_other 9 (by kernel_rfl)
    exact Gy.FlowL.step_move rfl rfl (Gy.FlowL.wanted_none rfl) e9 hD.J trivial
  · intro L a w hD
    have e110 : a.eval (.tmp 110) = .int .i64 (i : Int) := hD.at 7 (by kernel_rfl)
    have f110 := e110; simp only [Act.eval, Array.getD_eq_getD_getElem?] at f110
    refine Gy.FlowL.step_value rfl (Gy.FlowL.wanted_none rfl) (v := .int .i64 ((i : Int) - 7)) (w1 := w) ?_ rfl hD.J trivial
    first | (simp only [execOp]; go_simp; done) | (simp only [execOp, e110]; go_simp)
  · intro L a w hD
    have e7 : a.eval (.tmp 7) = .pointer (some ⟨gw, 0, none⟩) := hD.same.at_other 7 (by kernel_rfl)
    have e111 : a.eval (.tmp 111) = .int .i64 ((i : Int) - 7) := hD.at 8 (by kernel_rfl)
    have f7 := e7; simp only [Act.eval, Array.getD_eq_getD_getElem?] at f7
    have f111 := e111; simp only [Act.eval, Array.getD_eq_getD_getElem?] at f111
    refine Gy.FlowL.step_value rfl (Gy.FlowL.wanted_none rfl) (v := .pointer (some ⟨gw, i - 7, none⟩)) (w1 := w) ?_ rfl hD.J trivial
    first | (simp only [execOp]; go_simp; done) | (simp only [execOp, e7, e111]; go_simp)
  · intro L a w hD
    have e112 : a.eval (.tmp 112) = .pointer (some ⟨gw, i - 7, none⟩) := hD.at 9 (by kernel_rfl)
    have hw := hD.J.1 (hD.later 16 (by kernel_rfl))
    have f112 := e112; simp only [Act.eval, Array.getD_eq_getD_getElem?] at f112
    have hJ := hD.J
    clear hD
    subst hw
    refine Gy.FlowL.step_value rfl (Gy.FlowL.wanted_none rfl) (v := .int .u64 (x7 : Int)) (w1 := wv.drew) ?_ rfl hJ trivial
    simp only [execOp, e112]; go_simp
  · intro L a w hD
    have e109 : a.eval (.tmp 109) = .int .u64 ((x16 : Int) + ((ss0 x15 : Nat) : Int)) := hD.at 6 (by kernel_rfl)
    have e113 : a.eval (.tmp 113) = .int .u64 (x7 : Int) := hD.at 10 (by kernel_rfl)
    have f109 := e109; simp only [Act.eval, Array.getD_eq_getD_getElem?] at f109
    have f113 := e113; simp only [Act.eval, Array.getD_eq_getD_getElem?] at f113
    refine Gy.FlowL.step_value rfl (Gy.FlowL.wanted_none rfl) (v := .int .u64 ((x16 : Int) + ((ss0 x15 : Nat) : Int) + (x7 : Int))) (w1 := w) ?_ rfl hD.J trivial
    first | (simp only [execOp]; go_simp; done) | (simp only [execOp, e109, e113]; go_simp)
  · intro L a w hD
    have e11 : a.eval (.tmp 11) = .int .u64 ((ss1 x2 : Nat) : Int) := hD.same.at_other 11 (by kernel_rfl)
    exact Gy.FlowL.step_move rfl rfl (Gy.FlowL.wanted_none rfl) e11 hD.J trivial
  · intro L a w hD
    have e114 : a.eval (.tmp 114) = .int .u64 ((x16 : Int) + ((ss0 x15 : Nat) : Int) + (x7 : Int)) := hD.at 11 (by kernel_rfl)
    have e115 : a.eval (.tmp 115) = .int .u64 ((ss1 x2 : Nat) : Int) := hD.at 12 (by kernel_rfl)
    have f114 := e114; simp only [Act.eval, Array.getD_eq_getD_getElem?] at f114
    have f115 := e115; simp only [Act.eval, Array.getD_eq_getD_getElem?] at f115
    refine Gy.FlowL.step_value rfl (Gy.FlowL.wanted_none rfl) (v := .int .u64 ((x16 : Int) + ((ss0 x15 : Nat) : Int) + (x7 : Int) + ((ss1 x2 : Nat) : Int))) (w1 := w) ?_ rfl hD.J trivial
    first | (simp only [execOp]; go_simp; done) | (simp only [execOp, e114, e115]; go_simp)
  · intro L a w hD
    have e116 : a.eval (.tmp 116) = .int .u64 ((x16 : Int) + ((ss0 x15 : Nat) : Int) + (x7 : Int) + ((ss1 x2 : Nat) : Int)) := hD.at 13 (by kernel_rfl)
    have f116 := e116; simp only [Act.eval, Array.getD_eq_getD_getElem?] at f116
    refine Gy.FlowL.step_value rfl (Gy.FlowL.wanted_none rfl) (v := .int .u64 (((x16 + ss0 x15 + x7 + ss1 x2) % 4294967296 : Nat) : Int)) (w1 := w) ?_ rfl hD.J trivial
    first | (simp only [execOp]; go_simp; done) | (simp only [execOp, e116]; go_simp)
  · intro L a w hD
    have e7 : a.eval (.tmp 7) = .pointer (some ⟨gw, 0, none⟩) := hD.same.at_other 7 (by kernel_rfl)
    have e103 : a.eval (.tmp 103) = .int .i64 (i : Int) := hD.at 0 (by kernel_rfl)
    have f7 := e7; simp only [Act.eval, Array.getD_eq_getD_getElem?] at f7
    have f103 := e103; simp only [Act.eval, Array.getD_eq_getD_getElem?] at f103
    refine Gy.FlowL.step_value rfl (Gy.FlowL.wanted_none rfl) (v := .pointer (some ⟨gw, i, none⟩)) (w1 := w) ?_ rfl hD.J trivial
    first | (simp only [execOp]; go_simp; done) | (simp only [execOp, e7, e103]; go_simp)
  · intro L a w hD
    have e118 : a.eval (.tmp 118) = .pointer (some ⟨gw, i, none⟩) := hD.at 15 (by kernel_rfl)
    have e117 : a.eval (.tmp 117) = .int .u64 (((x16 + ss0 x15 + x7 + ss1 x2) % 4294967296 : Nat) : Int) := hD.at 14 (by kernel_rfl)
    have hw := hD.J.1 hD.not
    have f118 := e118; simp only [Act.eval, Array.getD_eq_getD_getElem?] at f118
    have f117 := e117; simp only [Act.eval, Array.getD_eq_getD_getElem?] at f117
    clear hD
    subst hw
    refine Gy.FlowL.step_skip (w1 := wv.drew.setCell ⟨gw, i, none⟩ (.int .u64 (((x16 + ss0 x15 + x7 + ss1 x2) % 4294967296 : Nat) : Int))) rfl (Gy.FlowL.wanted_none rfl) ?_ trivial ⟨fun h => absurd h (by simp [Gy.FlowL.add]), fun _ => rfl⟩ trivial
    simp only [execOp, e118, e117]; go_simp
  · intro L a w hs hJ hL hv
    have hw := hJ.2 (hL 16 (by decide))
    have hp := Gy.FlowL.same_puts (by kernel_rfl) hs
    generalize Gy.FlowL.At _ a = vs at hp
    clear hv hs hJ hL
    subst hp hw
    simp only [Gy.FlowL.puts, Act.put, List.setIfInBounds_toArray, List.set_cons_zero, List.set_cons_succ]
    have M3 := Lib.hid (M2.out.1.below (Gy.drew_below _))
    clear c16 c7 cw fw M2 p16 q16 r16 p7 q7 r7 b16 b7 z16 z7 s1 s2 s3 s4
    have M4 := Lib.hid (M3.out.step HI.out.2)
    rw [HWA.out] at M4
    generalize wv.drew.setCell ⟨gw, i, none⟩ (.int .u64 (((x16 + ss0 x15 + x7 + ss1 x2) % 4294967296 : Nat) : Int)) = wx at M4 ⊢
    clear M3
    have hwi : wrap64 ((i : Int) + 1) = (i : Int) + 1 := up_64 HI.out.2
    clear HWA
    go_wp2
    exact HQ.out _ _ ⟨⟨rfl, rfl, rfl, rfl, rfl, rfl, rfl⟩, rfl⟩ rfl M4.out
set_option maxHeartbeats 2000000 in
set_option maxRecDepth 100000 in
theorem l4_last {u0 u1 u8 u10 u11 u12 u13 u14 u15 u16 u17 u18 u19 u20 u21 u22 u23 u24 u25 u26 u27 u28 u29 u30 u31 u32 u33 u34 u35 u36 u37 u38 u39 u40 u41 u42 u43 u44 u45 u46 u47 u48 u49 u50 u51 u52 u53 u54 u55 u56 u57 u58 u59 u60 u61 u62 u63 u64 u65 u66 u67 u68 u69 u70 u71 u72 u73 u74 u75 u76 u77 u78 u79 u80 u81 u82 u83 u84 u85 u86 u87 u88 u89 u90 u91 u92 u93 u94 u95 u96 u97 u98 u99 u100 u101 u102 u103 u104 u105 u106 u107 u108 u109 u110 u111 u112 u113 u114 u115 u116 u117 u118 u119 u120 u121 u122 u123 u124 u125 u126 u127 u128 u129 u130 u131 u132 u133 u134 u135 u136 u137 u138 u139 u140 u141 u142 u143 u144 u145 u146 u147 u148 u149 u150 u151 u152 u153 u154 u155 u156 u157 u158 u159 u160 u161 u162 u163 u164 u165 u166 u167 u168 u169 u170 u171 u172 u173 u174 u175 u176 u177 u178 u179 u180 u181 u182 u183 u184 u185 u186 u187 u188 u189 u190 u191 u192 u193 u194 u195 u196 u197 u198 u199 u200 u201 u202 u203 u204 u205 u206 u207 u208 u209 u210 u211 u212 u213 u214 u215 u216 u217 u218 u219 u220 u221 u222 u223 u224 u225 u226 u227 u228 u229 u230 u231 u232 u233 u234 u235 u236 u237 u238 u239 u240 u241 : Value} {w wr : World} {g gw c5 j i : Nat} {al : List Int} (Q : Exit → Act → World → Prop) (hi64 : ¬ i < 64)
    (hQ : ∀ a', FrW w g gw c5 al j a' → Q (.exit 6) a' wr) :
    Code.wp Tryd.prog (bodyOf 3) Q ⟨#[u0, u1, .pointer (some ⟨w.heap.size, 0, none⟩), .pointer (some ⟨w.heap.size + 1, 0, none⟩), .pointer (some ⟨w.heap.size + 1 + 1, 0, none⟩), .slice (some ⟨g, 0, none⟩) al.length c5, .int .i64 (64 * (j : Int)), .pointer (some ⟨gw, 0, none⟩), u8, .int .i64 (i : Int), u10, u11, u12, u13, u14, u15, u16, u17, u18, u19, u20, u21, u22, u23, u24, u25, u26, u27, u28, u29, u30, u31, u32, u33, u34, u35, u36, u37, u38, u39, u40, u41, u42, u43, u44, u45, u46, u47, u48, u49, u50, u51, u52, u53, u54, u55, u56, u57, u58, u59, u60, u61, u62, u63, u64, u65, u66, u67, u68, u69, u70, u71, u72, u73, u74, u75, u76, u77, u78, u79, u80, u81, u82, u83, u84, u85, u86, u87, u88, u89, u90, u91, u92, u93, u94, u95, u96, u97, u98, u99, u100, u101, u102, u103, u104, u105, u106, u107, u108, u109, u110, u111, u112, u113, u114, u115, u116, u117, u118, u119, u120, u121, u122, u123, u124, u125, u126, u127, u128, u129, u130, u131, u132, u133, u134, u135, u136, u137, u138, u139, u140, u141, u142, u143, u144, u145, u146, u147, u148, u149, u150, u151, u152, u153, u154, u155, u156, u157, u158, u159, u160, u161, u162, u163, u164, u165, u166, u167, u168, u169, u170, u171, u172, u173, u174, u175, u176, u177, u178, u179, u180, u181, u182, u183, u184, u185, u186, u187, u188, u189, u190, u191, u192, u193, u194, u195, u196, u197, u198, u199, u200, u201, u202, u203, u204, u205, u206, u207, u208, u209, u210, u211, u212, u213, u214, u215, u216, u217, u218, u219, u220, u221, u222, u223, u224, u225, u226, u227, u228, u229, u230, u231, u232, u233, u234, u235, u236, u237, u238, u239, u240, u241], []⟩ wr := by
  conv => arg 2; whnf
  have HQ := Lib.hid hQ
  have t5 : decide ((i : Int) < 64) = false := by simp; omega
  clear hQ
  go_wp2
  exact HQ.out _ ⟨⟨rfl, rfl, rfl, rfl, rfl, rfl, rfl⟩, rfl⟩
theorem mu_9 {a a' : Act} {i : Nat} (n : Nat) (h : a.tmps.getD 9 undef = .int .i64 (i : Int)) (h' : a'.tmps.getD 9 undef = .int .i64 ((i : Int) + 1)) (hi : i < n) : n - (intOf (a'.tmps.getD 9 undef)).toNat < n - (intOf (a.tmps.getD 9 undef)).toNat := by
  rw [h, h']
  show n - ((i : Int) + 1).toNat < n - ((i : Int)).toNat
  omega
set_option maxRecDepth 100000 in
theorem l4_loop {w wr : World} {g gw c5 j : Nat} {al : List Int} {s : St} {a : Act} (Q : Exit → Act → World → Prop) (hb : Bytes al) (hF : FrW w g gw c5 al j a) (h9 : a.tmps.getD 9 undef = .int .i64 16) (hM : RefW w wr g gw al s.nats (wL (al.drop (64 * j)) 16))
    (hX : ∀ a' w', FrW w g gw c5 al j a' → RefW w w' g gw al s.nats (wL (al.drop (64 * j)) 64) → Q (.exit 6) a' w') : Code.wp Tryd.prog (Code.loop (bodyOf 3)) Q a wr := by
  refine wp_loop (fun a w' => ∃ i : Nat, 16 ≤ i ∧ i ≤ 64 ∧ FrW w g gw c5 al j a ∧ a.tmps.getD 9 undef = .int .i64 (i : Int) ∧ RefW w w' g gw al s.nats (wL (al.drop (64 * j)) i)) (fun a _ => 64 - (intOf (a.tmps.getD 9 undef)).toNat) ⟨16, by omega, by omega, hF, h9, hM⟩ ?_
  rintro a w' ⟨i, h1, h2, hF, h9, hM⟩
  have e := frame_out a hF.A.size hF.A.defers
  rw [hF.A.t2, hF.A.t3, hF.A.t4, hF.A.t5, hF.A.t6, hF.t7, h9] at e
  by_cases hi : i < 64
  · have hQ : ∀ a' w'', FrW w g gw c5 al j a' → a'.tmps.getD 9 undef = .int .i64 ((i : Int) + 1) → RefW w w'' g gw al s.nats (wL (al.drop (64 * j)) (i + 1)) → Exit.then (fun a' w' => (∃ i : Nat, 16 ≤ i ∧ i ≤ 64 ∧ FrW w g gw c5 al j a' ∧ a'.tmps.getD 9 undef = .int .i64 (i : Int) ∧ RefW w w' g gw al s.nats (wL (al.drop (64 * j)) i)) ∧ 64 - (intOf (a'.tmps.getD 9 undef)).toNat < 64 - (intOf (a.tmps.getD 9 undef)).toNat) Q .normal a' w'' :=
      fun a' w'' f1 f2 f3 => ⟨⟨i + 1, by omega, hi, f1, f2, f3⟩, mu_9 64 h9 f2 hi⟩
    generalize Exit.then (fun a' w' => (∃ i : Nat, 16 ≤ i ∧ i ≤ 64 ∧ FrW w g gw c5 al j a' ∧ a'.tmps.getD 9 undef = .int .i64 (i : Int) ∧ RefW w w' g gw al s.nats (wL (al.drop (64 * j)) i)) ∧ 64 - (intOf (a'.tmps.getD 9 undef)).toNat < 64 - (intOf (a.tmps.getD 9 undef)).toNat) Q = Q2 at hQ ⊢
    rw [e]
    exact l4_step Q2 hb h1 hi hM hQ
  · obtain rfl : i = 64 := by omega
    rw [e]
    exact l4_last _ hi (fun a' f => hX a' w' f hM)

end Go.Proofs.YtlmgikhgmbjfdaaDoor.Dig
/- The walk over the reference's digest in pieces: the first sixteen words of a chunk. -/
namespace Go.Proofs.YtlmgikhgmbjfdaaDoor.Dig
open Go Go.RowKit Go.Proofs.YtlmgikhgmbjfdaaDoor.QDig Go.Proofs.YtlmgikhgmbjfdaaDoorW.PrintWords Go.Proofs.YtlmgikhgmbjfdaaDoorW.PrintLast Go.Proofs.YtlmgikhgmbjfdaaDoorW.PrintMore Gy

set_option maxHeartbeats 2000000 in
set_option maxRecDepth 100000 in
theorem l3_step {u0 u1 u8 u9 u10 u11 u12 u13 u14 u15 u16 u17 u18 u19 u20 u21 u22 u23 u24 u25 u26 u27 u28 u29 u30 u31 u32 u33 u34 u35 u36 u37 u38 u39 u40 u41 u42 u43 u44 u45 u46 u48 u49 u50 u51 u52 u53 u54 u55 u56 u57 u58 u59 u60 u61 u62 u63 u64 u65 u66 u67 u68 u69 u70 u71 u72 u73 u74 u75 u76 u77 u78 u79 u80 u81 u82 u83 u84 u85 u86 u87 u88 u89 u90 u91 u92 u93 u94 u95 u96 u97 u98 u99 u100 u101 u102 u103 u104 u105 u106 u107 u108 u109 u110 u111 u112 u113 u114 u115 u116 u117 u118 u119 u120 u121 u122 u123 u124 u125 u126 u127 u128 u129 u130 u131 u132 u133 u134 u135 u136 u137 u138 u139 u140 u141 u142 u143 u144 u145 u146 u147 u148 u149 u150 u151 u152 u153 u154 u155 u156 u157 u158 u159 u160 u161 u162 u163 u164 u165 u166 u167 u168 u169 u170 u171 u172 u173 u174 u175 u176 u177 u178 u179 u180 u181 u182 u183 u184 u185 u186 u187 u188 u189 u190 u191 u192 u193 u194 u195 u196 u197 u198 u199 u200 u201 u202 u203 u204 u205 u206 u207 u208 u209 u210 u211 u212 u213 u214 u215 u216 u217 u218 u219 u220 u221 u222 u223 u224 u225 u226 u227 u228 u229 u230 u231 u232 u233 u234 u235 u236 u237 u238 u239 u240 u241 : Value} {w wr : World} {g gw c5 j i : Nat} {al : List Int} {s : St} (Q : Exit → Act → World → Prop) (hb : Bytes al) (hcap : al.length ≤ c5) (h64 : 64 * j + 64 ≤ al.length) (hal : al.length ≤ 1000072) (hi16 : i < 16) (hM : RefW w wr g gw al s.nats (wL (al.drop (64 * j)) i))
    (hQ : ∀ a' w', FrW w g gw c5 al j a' → a'.tmps.getD 47 undef = .int .i64 ((i : Int) + 1) → RefW w w' g gw al s.nats (wL (al.drop (64 * j)) (i + 1)) → Q .normal a' w') :
    Code.wp Tryd.prog (bodyOf 2) Q ⟨#[u0, u1, .pointer (some ⟨w.heap.size, 0, none⟩), .pointer (some ⟨w.heap.size + 1, 0, none⟩), .pointer (some ⟨w.heap.size + 1 + 1, 0, none⟩), .slice (some ⟨g, 0, none⟩) al.length c5, .int .i64 (64 * (j : Int)), .pointer (some ⟨gw, 0, none⟩), u8, u9, u10, u11, u12, u13, u14, u15, u16, u17, u18, u19, u20, u21, u22, u23, u24, u25, u26, u27, u28, u29, u30, u31, u32, u33, u34, u35, u36, u37, u38, u39, u40, u41, u42, u43, u44, u45, u46, .int .i64 (i : Int), u48, u49, u50, u51, u52, u53, u54, u55, u56, u57, u58, u59, u60, u61, u62, u63, u64, u65, u66, u67, u68, u69, u70, u71, u72, u73, u74, u75, u76, u77, u78, u79, u80, u81, u82, u83, u84, u85, u86, u87, u88, u89, u90, u91, u92, u93, u94, u95, u96, u97, u98, u99, u100, u101, u102, u103, u104, u105, u106, u107, u108, u109, u110, u111, u112, u113, u114, u115, u116, u117, u118, u119, u120, u121, u122, u123, u124, u125, u126, u127, u128, u129, u130, u131, u132, u133, u134, u135, u136, u137, u138, u139, u140, u141, u142, u143, u144, u145, u146, u147, u148, u149, u150, u151, u152, u153, u154, u155, u156, u157, u158, u159, u160, u161, u162, u163, u164, u165, u166, u167, u168, u169, u170, u171, u172, u173, u174, u175, u176, u177, u178, u179, u180, u181, u182, u183, u184, u185, u186, u187, u188, u189, u190, u191, u192, u193, u194, u195, u196, u197, u198, u199, u200, u201, u202, u203, u204, u205, u206, u207, u208, u209, u210, u211, u212, u213, u214, u215, u216, u217, u218, u219, u220, u221, u222, u223, u224, u225, u226, u227, u228, u229, u230, u231, u232, u233, u234, u235, u236, u237, u238, u239, u240, u241], []⟩ wr := by
  conv => arg 2; whnf
  have HQ := Lib.hid hQ
  have t4 : decide ((i : Int) < 16) = true := by simp; omega
  have HI := Lib.hid (show i < 64 by omega)
  have hjb : j ≤ 15626 := by omega
  obtain ⟨A6, c6, m1, m2, m3⟩ := mid_ref (some ⟨g, 0, none⟩) c5 al j i hi16 h64 hcap
  have HN := Lib.hid (And.intro (m2 wr hM.C.A) m3)
  have HWL := Lib.hid (wAt_take (al.drop (64 * j)) hi16)
  have HBY := Lib.hid (((hb.drop (64 * j)).drop (4 * i)).take 4)
  have HM := Lib.hid hM
  clear m2 m3 hQ hM hb hcap h64 hal
  go_wp2_with (first
    | (go_at_call 32; (with_reducible refine (Number_calls A6 4 c6 _ _ HN.out.1 HN.out.2 HBY.out rfl).mono ?_); rw [HWL.out]; rintro e w6 ⟨rfl, e1⟩; have E6 := Lib.hid (HM.out.below e1.below); clear e1; obtain ⟨⟨v0, cw⟩, fw⟩ := E6.out.there (i := i) (by rw [wL_length _ _ (Nat.le_of_lt HI.out)]; exact HI.out)))
  exact HQ.out _ _ ⟨⟨rfl, rfl, rfl, rfl, rfl, rfl, rfl⟩, rfl⟩ rfl (E6.out.step HI.out)
set_option maxHeartbeats 2000000 in
set_option maxRecDepth 100000 in
theorem l3_last {u0 u1 u8 u9 u10 u11 u12 u13 u14 u15 u16 u17 u18 u19 u20 u21 u22 u23 u24 u25 u26 u27 u28 u29 u30 u31 u32 u33 u34 u35 u36 u37 u38 u39 u40 u41 u42 u43 u44 u45 u46 u48 u49 u50 u51 u52 u53 u54 u55 u56 u57 u58 u59 u60 u61 u62 u63 u64 u65 u66 u67 u68 u69 u70 u71 u72 u73 u74 u75 u76 u77 u78 u79 u80 u81 u82 u83 u84 u85 u86 u87 u88 u89 u90 u91 u92 u93 u94 u95 u96 u97 u98 u99 u100 u101 u102 u103 u104 u105 u106 u107 u108 u109 u110 u111 u112 u113 u114 u115 u116 u117 u118 u119 u120 u121 u122 u123 u124 u125 u126 u127 u128 u129 u130 u131 u132 u133 u134 u135 u136 u137 u138 u139 u140 u141 u142 u143 u144 u145 u146 u147 u148 u149 u150 u151 u152 u153 u154 u155 u156 u157 u158 u159 u160 u161 u162 u163 u164 u165 u166 u167 u168 u169 u170 u171 u172 u173 u174 u175 u176 u177 u178 u179 u180 u181 u182 u183 u184 u185 u186 u187 u188 u189 u190 u191 u192 u193 u194 u195 u196 u197 u198 u199 u200 u201 u202 u203 u204 u205 u206 u207 u208 u209 u210 u211 u212 u213 u214 u215 u216 u217 u218 u219 u220 u221 u222 u223 u224 u225 u226 u227 u228 u229 u230 u231 u232 u233 u234 u235 u236 u237 u238 u239 u240 u241 : Value} {w wr : World} {g gw c5 j i : Nat} {al : List Int} (Q : Exit → Act → World → Prop) (hi16 : ¬ i < 16)
    (hQ : ∀ a', FrW w g gw c5 al j a' → Q (.exit 4) a' wr) :
    Code.wp Tryd.prog (bodyOf 2) Q ⟨#[u0, u1, .pointer (some ⟨w.heap.size, 0, none⟩), .pointer (some ⟨w.heap.size + 1, 0, none⟩), .pointer (some ⟨w.heap.size + 1 + 1, 0, none⟩), .slice (some ⟨g, 0, none⟩) al.length c5, .int .i64 (64 * (j : Int)), .pointer (some ⟨gw, 0, none⟩), u8, u9, u10, u11, u12, u13, u14, u15, u16, u17, u18, u19, u20, u21, u22, u23, u24, u25, u26, u27, u28, u29, u30, u31, u32, u33, u34, u35, u36, u37, u38, u39, u40, u41, u42, u43, u44, u45, u46, .int .i64 (i : Int), u48, u49, u50, u51, u52, u53, u54, u55, u56, u57, u58, u59, u60, u61, u62, u63, u64, u65, u66, u67, u68, u69, u70, u71, u72, u73, u74, u75, u76, u77, u78, u79, u80, u81, u82, u83, u84, u85, u86, u87, u88, u89, u90, u91, u92, u93, u94, u95, u96, u97, u98, u99, u100, u101, u102, u103, u104, u105, u106, u107, u108, u109, u110, u111, u112, u113, u114, u115, u116, u117, u118, u119, u120, u121, u122, u123, u124, u125, u126, u127, u128, u129, u130, u131, u132, u133, u134, u135, u136, u137, u138, u139, u140, u141, u142, u143, u144, u145, u146, u147, u148, u149, u150, u151, u152, u153, u154, u155, u156, u157, u158, u159, u160, u161, u162, u163, u164, u165, u166, u167, u168, u169, u170, u171, u172, u173, u174, u175, u176, u177, u178, u179, u180, u181, u182, u183, u184, u185, u186, u187, u188, u189, u190, u191, u192, u193, u194, u195, u196, u197, u198, u199, u200, u201, u202, u203, u204, u205, u206, u207, u208, u209, u210, u211, u212, u213, u214, u215, u216, u217, u218, u219, u220, u221, u222, u223, u224, u225, u226, u227, u228, u229, u230, u231, u232, u233, u234, u235, u236, u237, u238, u239, u240, u241], []⟩ wr := by
  conv => arg 2; whnf
  have HQ := Lib.hid hQ
  have t5 : decide ((i : Int) < 16) = false := by simp; omega
  clear hQ
  go_wp2
  exact HQ.out _ ⟨⟨rfl, rfl, rfl, rfl, rfl, rfl, rfl⟩, rfl⟩
theorem mu_at {a a' : Act} {i : Nat} (t n : Nat) (h : a.tmps.getD t undef = .int .i64 (i : Int)) (h' : a'.tmps.getD t undef = .int .i64 ((i : Int) + 1)) (hi : i < n) : n - (intOf (a'.tmps.getD t undef)).toNat < n - (intOf (a.tmps.getD t undef)).toNat := by
  rw [h, h']
  show n - ((i : Int) + 1).toNat < n - ((i : Int)).toNat
  omega
set_option maxRecDepth 100000 in
theorem l3_loop {w wr : World} {g gw c5 j : Nat} {al : List Int} {s : St} {a : Act} (Q : Exit → Act → World → Prop) (hb : Bytes al) (hcap : al.length ≤ c5) (h64 : 64 * j + 64 ≤ al.length) (hal : al.length ≤ 1000072) (hF : FrW w g gw c5 al j a) (h47 : a.tmps.getD 47 undef = .int .i64 0) (hM : RefW w wr g gw al s.nats (wL (al.drop (64 * j)) 0))
    (hX : ∀ a' w', FrW w g gw c5 al j a' → RefW w w' g gw al s.nats (wL (al.drop (64 * j)) 16) → Q (.exit 4) a' w') : Code.wp Tryd.prog (Code.loop (bodyOf 2)) Q a wr := by
  refine wp_loop (fun a w' => ∃ i : Nat, i ≤ 16 ∧ FrW w g gw c5 al j a ∧ a.tmps.getD 47 undef = .int .i64 (i : Int) ∧ RefW w w' g gw al s.nats (wL (al.drop (64 * j)) i)) (fun a _ => 16 - (intOf (a.tmps.getD 47 undef)).toNat) ⟨0, by omega, hF, h47, hM⟩ ?_
  rintro a w' ⟨i, h2, hF, h9, hM⟩
  have e := frame_out a hF.A.size hF.A.defers
  rw [hF.A.t2, hF.A.t3, hF.A.t4, hF.A.t5, hF.A.t6, hF.t7, h9] at e
  by_cases hi : i < 16
  · have hQ : ∀ a' w'', FrW w g gw c5 al j a' → a'.tmps.getD 47 undef = .int .i64 ((i : Int) + 1) → RefW w w'' g gw al s.nats (wL (al.drop (64 * j)) (i + 1)) → Exit.then (fun a' w' => (∃ i : Nat, i ≤ 16 ∧ FrW w g gw c5 al j a' ∧ a'.tmps.getD 47 undef = .int .i64 (i : Int) ∧ RefW w w' g gw al s.nats (wL (al.drop (64 * j)) i)) ∧ 16 - (intOf (a'.tmps.getD 47 undef)).toNat < 16 - (intOf (a.tmps.getD 47 undef)).toNat) Q .normal a' w'' :=
      fun a' w'' f1 f2 f3 => ⟨⟨i + 1, hi, f1, f2, f3⟩, mu_at 47 16 h9 f2 hi⟩
    generalize Exit.then (fun a' w' => (∃ i : Nat, i ≤ 16 ∧ FrW w g gw c5 al j a' ∧ a'.tmps.getD 47 undef = .int .i64 (i : Int) ∧ RefW w w' g gw al s.nats (wL (al.drop (64 * j)) i)) ∧ 16 - (intOf (a'.tmps.getD 47 undef)).toNat < 16 - (intOf (a.tmps.getD 47 undef)).toNat) Q = Q2 at hQ ⊢
    rw [e]
    exact l3_step Q2 hb hcap h64 hal hi hM hQ
  · obtain rfl : i = 16 := by omega
    rw [e]
    exact l3_last _ hi (fun a' f => hX a' w' f hM)
end Go.Proofs.YtlmgikhgmbjfdaaDoor.Dig
/- The walk over the reference's digest in pieces: a row moved up by one place. -/
namespace Go.Proofs.YtlmgikhgmbjfdaaDoor.Dig
open Go Go.RowKit Go.Proofs.YtlmgikhgmbjfdaaDoor.QDig Go.Proofs.YtlmgikhgmbjfdaaDoorW.PrintWords Go.Proofs.YtlmgikhgmbjfdaaDoorW.PrintLast Go.Proofs.YtlmgikhgmbjfdaaDoorW.PrintMore Gy

structure Fr6 (w : World) (g gw gx c5 : Nat) (al : List Int) (j i O T : Nat) (a : Act) : Prop where
  X : FrX w g gw gx c5 al j a
  t14 : a.tmps.getD 14 undef = .int .u64 (O : Int)
  t15 : a.tmps.getD 15 undef = .int .u64 (T : Int)
  t120 : a.tmps.getD 120 undef = .int .i64 (i : Int)
theorem minus_one (q : Nat) : ((q : Int) + 1 - 1) = (q : Int) := by omega
set_option maxHeartbeats 2000000 in
set_option maxRecDepth 100000 in
theorem l6_step {u0 u1 u8 u9 u10 u11 u13 u17 u18 u19 u20 u21 u22 u23 u24 u25 u26 u27 u28 u29 u30 u31 u32 u33 u34 u35 u36 u37 u38 u39 u40 u41 u42 u43 u44 u45 u46 u47 u48 u49 u50 u51 u52 u53 u54 u55 u56 u57 u58 u59 u60 u61 u62 u63 u64 u65 u66 u67 u68 u69 u70 u71 u72 u73 u74 u75 u76 u77 u78 u79 u80 u81 u82 u83 u84 u85 u86 u87 u88 u89 u90 u91 u92 u93 u94 u95 u96 u97 u98 u99 u100 u101 u102 u103 u104 u105 u106 u107 u108 u109 u110 u111 u112 u113 u114 u115 u116 u117 u118 u119 u121 u122 u123 u124 u125 u126 u127 u128 u129 u130 u131 u132 u133 u134 u135 u136 u137 u138 u139 u140 u141 u142 u143 u144 u145 u146 u147 u148 u149 u150 u151 u152 u153 u154 u155 u156 u157 u158 u159 u160 u161 u162 u163 u164 u165 u166 u167 u168 u169 u170 u171 u172 u173 u174 u175 u176 u177 u178 u179 u180 u181 u182 u183 u184 u185 u186 u187 u188 u189 u190 u191 u192 u193 u194 u195 u196 u197 u198 u199 u200 u201 u202 u203 u204 u205 u206 u207 u208 u209 u210 u211 u212 u213 u214 u215 u216 u217 u218 u219 u220 u221 u222 u223 u224 u225 u226 u227 u228 u229 u230 u231 u232 u233 u234 u235 u236 u237 u238 u239 u240 u241 : Value} {w wr : World} {g gw gx c5 j i O T q : Nat} {al : List Int} {s t : St} {ws : List Nat} (Q : Exit → Act → World → Prop) (hq : q < 7) (hM : RefX w wr g gw gx al s.nats ws (shf t.nats (q + 1)))
    (hQ : ∀ a' w', Fr6 w g gw gx c5 al j i O T a' → a'.tmps.getD 16 undef = .int .i64 (q : Int) → RefX w w' g gw gx al s.nats ws (shf t.nats q) → Q .normal a' w') :
    Code.wp Tryd.prog (bodyOf 5) Q ⟨#[u0, u1, .pointer (some ⟨w.heap.size, 0, none⟩), .pointer (some ⟨w.heap.size + 1, 0, none⟩), .pointer (some ⟨w.heap.size + 1 + 1, 0, none⟩), .slice (some ⟨g, 0, none⟩) al.length c5, .int .i64 (64 * (j : Int)), .pointer (some ⟨gw, 0, none⟩), u8, u9, u10, u11, .pointer (some ⟨gx, 0, none⟩), u13, .int .u64 (O : Int), .int .u64 (T : Int), .int .i64 ((q : Int) + 1), u17, u18, u19, u20, u21, u22, u23, u24, u25, u26, u27, u28, u29, u30, u31, u32, u33, u34, u35, u36, u37, u38, u39, u40, u41, u42, u43, u44, u45, u46, u47, u48, u49, u50, u51, u52, u53, u54, u55, u56, u57, u58, u59, u60, u61, u62, u63, u64, u65, u66, u67, u68, u69, u70, u71, u72, u73, u74, u75, u76, u77, u78, u79, u80, u81, u82, u83, u84, u85, u86, u87, u88, u89, u90, u91, u92, u93, u94, u95, u96, u97, u98, u99, u100, u101, u102, u103, u104, u105, u106, u107, u108, u109, u110, u111, u112, u113, u114, u115, u116, u117, u118, u119, .int .i64 (i : Int), u121, u122, u123, u124, u125, u126, u127, u128, u129, u130, u131, u132, u133, u134, u135, u136, u137, u138, u139, u140, u141, u142, u143, u144, u145, u146, u147, u148, u149, u150, u151, u152, u153, u154, u155, u156, u157, u158, u159, u160, u161, u162, u163, u164, u165, u166, u167, u168, u169, u170, u171, u172, u173, u174, u175, u176, u177, u178, u179, u180, u181, u182, u183, u184, u185, u186, u187, u188, u189, u190, u191, u192, u193, u194, u195, u196, u197, u198, u199, u200, u201, u202, u203, u204, u205, u206, u207, u208, u209, u210, u211, u212, u213, u214, u215, u216, u217, u218, u219, u220, u221, u222, u223, u224, u225, u226, u227, u228, u229, u230, u231, u232, u233, u234, u235, u236, u237, u238, u239, u240, u241], []⟩ wr := by
  conv => arg 2; whnf
  have HQ := Lib.hid hQ
  have hz := minus_one q
  have b1 : (q : Int) < 8 := by omega
  have b2 : (q : Int) + 1 < 8 := by omega
  have t5 : decide (0 < (q : Int) + 1) = true := decide_eq_true (by omega)
  have c1 := hM.cell (shf_at t q hq)
  have c2 := hM.X.cell (n64_at (l := shf t.nats (q + 1)) (i := q + 1) (by rw [shf_length t (q + 1) (by omega)]; omega))
  have f2 := hM.X.fr (q + 1)
  have hst := hM.set (i := q + 1) (x := t.nats.getD q 0) (by rw [shf_length t (q + 1) (by omega)]; omega)
  rw [shf_set t q hq] at hst
  have HST := Lib.hid hst
  generalize t.nats.getD q 0 = x at c1 HST
  clear hQ hM hst
  go_wp2
  exact HQ.out _ _ ⟨⟨⟨⟨rfl, rfl, rfl, rfl, rfl, rfl, rfl⟩, rfl⟩, rfl⟩, rfl, rfl, rfl⟩ rfl HST.out
set_option maxHeartbeats 2000000 in
set_option maxRecDepth 100000 in
theorem l6_last {u0 u1 u8 u9 u10 u11 u13 u17 u18 u19 u20 u21 u22 u23 u24 u25 u26 u27 u28 u29 u30 u31 u32 u33 u34 u35 u36 u37 u38 u39 u40 u41 u42 u43 u44 u45 u46 u47 u48 u49 u50 u51 u52 u53 u54 u55 u56 u57 u58 u59 u60 u61 u62 u63 u64 u65 u66 u67 u68 u69 u70 u71 u72 u73 u74 u75 u76 u77 u78 u79 u80 u81 u82 u83 u84 u85 u86 u87 u88 u89 u90 u91 u92 u93 u94 u95 u96 u97 u98 u99 u100 u101 u102 u103 u104 u105 u106 u107 u108 u109 u110 u111 u112 u113 u114 u115 u116 u117 u118 u119 u121 u122 u123 u124 u125 u126 u127 u128 u129 u130 u131 u132 u133 u134 u135 u136 u137 u138 u139 u140 u141 u142 u143 u144 u145 u146 u147 u148 u149 u150 u151 u152 u153 u154 u155 u156 u157 u158 u159 u160 u161 u162 u163 u164 u165 u166 u167 u168 u169 u170 u171 u172 u173 u174 u175 u176 u177 u178 u179 u180 u181 u182 u183 u184 u185 u186 u187 u188 u189 u190 u191 u192 u193 u194 u195 u196 u197 u198 u199 u200 u201 u202 u203 u204 u205 u206 u207 u208 u209 u210 u211 u212 u213 u214 u215 u216 u217 u218 u219 u220 u221 u222 u223 u224 u225 u226 u227 u228 u229 u230 u231 u232 u233 u234 u235 u236 u237 u238 u239 u240 u241 : Value} {w wr : World} {g gw gx c5 j i O T : Nat} {al : List Int} (Q : Exit → Act → World → Prop)
    (hQ : ∀ a', Fr6 w g gw gx c5 al j i O T a' → Q (.exit 10) a' wr) :
    Code.wp Tryd.prog (bodyOf 5) Q ⟨#[u0, u1, .pointer (some ⟨w.heap.size, 0, none⟩), .pointer (some ⟨w.heap.size + 1, 0, none⟩), .pointer (some ⟨w.heap.size + 1 + 1, 0, none⟩), .slice (some ⟨g, 0, none⟩) al.length c5, .int .i64 (64 * (j : Int)), .pointer (some ⟨gw, 0, none⟩), u8, u9, u10, u11, .pointer (some ⟨gx, 0, none⟩), u13, .int .u64 (O : Int), .int .u64 (T : Int), .int .i64 0, u17, u18, u19, u20, u21, u22, u23, u24, u25, u26, u27, u28, u29, u30, u31, u32, u33, u34, u35, u36, u37, u38, u39, u40, u41, u42, u43, u44, u45, u46, u47, u48, u49, u50, u51, u52, u53, u54, u55, u56, u57, u58, u59, u60, u61, u62, u63, u64, u65, u66, u67, u68, u69, u70, u71, u72, u73, u74, u75, u76, u77, u78, u79, u80, u81, u82, u83, u84, u85, u86, u87, u88, u89, u90, u91, u92, u93, u94, u95, u96, u97, u98, u99, u100, u101, u102, u103, u104, u105, u106, u107, u108, u109, u110, u111, u112, u113, u114, u115, u116, u117, u118, u119, .int .i64 (i : Int), u121, u122, u123, u124, u125, u126, u127, u128, u129, u130, u131, u132, u133, u134, u135, u136, u137, u138, u139, u140, u141, u142, u143, u144, u145, u146, u147, u148, u149, u150, u151, u152, u153, u154, u155, u156, u157, u158, u159, u160, u161, u162, u163, u164, u165, u166, u167, u168, u169, u170, u171, u172, u173, u174, u175, u176, u177, u178, u179, u180, u181, u182, u183, u184, u185, u186, u187, u188, u189, u190, u191, u192, u193, u194, u195, u196, u197, u198, u199, u200, u201, u202, u203, u204, u205, u206, u207, u208, u209, u210, u211, u212, u213, u214, u215, u216, u217, u218, u219, u220, u221, u222, u223, u224, u225, u226, u227, u228, u229, u230, u231, u232, u233, u234, u235, u236, u237, u238, u239, u240, u241], []⟩ wr := by
  conv => arg 2; whnf
  have HQ := Lib.hid hQ
  clear hQ
  go_wp2
  exact HQ.out _ ⟨⟨⟨⟨rfl, rfl, rfl, rfl, rfl, rfl, rfl⟩, rfl⟩, rfl⟩, rfl, rfl, rfl⟩
theorem mu_down {a a' : Act} {q : Nat} (t : Nat) (h : a.tmps.getD t undef = .int .i64 ((q + 1 : Nat) : Int)) (h' : a'.tmps.getD t undef = .int .i64 (q : Int)) : (intOf (a'.tmps.getD t undef)).toNat < (intOf (a.tmps.getD t undef)).toNat := by
  rw [h, h']
  show ((q : Int)).toNat < ((q + 1 : Nat) : Int).toNat
  omega
set_option maxRecDepth 100000 in
theorem l6_loop {w wr : World} {g gw gx c5 j i O T : Nat} {al : List Int} {s t : St} {ws : List Nat} {a : Act} (Q : Exit → Act → World → Prop) (hF : Fr6 w g gw gx c5 al j i O T a) (h16 : a.tmps.getD 16 undef = .int .i64 7) (hM : RefX w wr g gw gx al s.nats ws t.nats)
    (hX : ∀ a' w', Fr6 w g gw gx c5 al j i O T a' → RefX w w' g gw gx al s.nats ws [t.a, t.a, t.b, t.c, t.d, t.e, t.f, t.g] → Q (.exit 10) a' w') : Code.wp Tryd.prog (Code.loop (bodyOf 5)) Q a wr := by
  refine wp_loop (fun a w' => ∃ q : Nat, q ≤ 7 ∧ Fr6 w g gw gx c5 al j i O T a ∧ a.tmps.getD 16 undef = .int .i64 (q : Int) ∧ RefX w w' g gw gx al s.nats ws (shf t.nats q)) (fun a _ => (intOf (a.tmps.getD 16 undef)).toNat) ⟨7, by omega, hF, h16, hM⟩ ?_
  rintro a w' ⟨q, h2, hF, h9, hM⟩
  have e := frame_out a hF.X.W.A.size hF.X.W.A.defers
  rw [hF.X.W.A.t2, hF.X.W.A.t3, hF.X.W.A.t4, hF.X.W.A.t5, hF.X.W.A.t6, hF.X.W.t7, hF.X.t12, hF.t14, hF.t15, hF.t120, h9] at e
  cases q with
  | succ q =>
    have hQ : ∀ a' w'', Fr6 w g gw gx c5 al j i O T a' → a'.tmps.getD 16 undef = .int .i64 (q : Int) → RefX w w'' g gw gx al s.nats ws (shf t.nats q) → Exit.then (fun a' w' => (∃ q : Nat, q ≤ 7 ∧ Fr6 w g gw gx c5 al j i O T a' ∧ a'.tmps.getD 16 undef = .int .i64 (q : Int) ∧ RefX w w' g gw gx al s.nats ws (shf t.nats q)) ∧ (intOf (a'.tmps.getD 16 undef)).toNat < (intOf (a.tmps.getD 16 undef)).toNat) Q .normal a' w'' :=
      fun a' w'' f1 f2 f3 => ⟨⟨q, by omega, f1, f2, f3⟩, mu_down 16 h9 f2⟩
    generalize Exit.then (fun a' w' => (∃ q : Nat, q ≤ 7 ∧ Fr6 w g gw gx c5 al j i O T a' ∧ a'.tmps.getD 16 undef = .int .i64 (q : Int) ∧ RefX w w' g gw gx al s.nats ws (shf t.nats q)) ∧ (intOf (a'.tmps.getD 16 undef)).toNat < (intOf (a.tmps.getD 16 undef)).toNat) Q = Q2 at hQ ⊢
    rw [e]
    exact l6_step Q2 (by omega) hM hQ
  | zero =>
    rw [e]
    exact l6_last _ (fun a' f => hX a' w' f hM)
end Go.Proofs.YtlmgikhgmbjfdaaDoor.Dig
/- The walk over the reference's digest in pieces: one round of sixty-four. -/
namespace Go.Proofs.YtlmgikhgmbjfdaaDoor.Dig
open Go Go.RowKit Go.Proofs.YtlmgikhgmbjfdaaDoor.QDig Go.Proofs.YtlmgikhgmbjfdaaDoorW.PrintWords Go.Proofs.YtlmgikhgmbjfdaaDoorW.PrintLast Go.Proofs.YtlmgikhgmbjfdaaDoorW.PrintMore Gy

theorem and64 {a b : Nat} (ha : a < 4294967296) (hb : b < 4294967296) : Go.bits .and .u64 (a : Int) (b : Int) = ((a &&& b : Nat) : Int) := Go.bits_and_u64_nat a b (by omega) (by omega)
theorem or64 {a b : Nat} (ha : a < 4294967296) (hb : b < 4294967296) : Go.bits .or .u64 (a : Int) (b : Int) = ((a ||| b : Nat) : Int) := Go.bits_or_u64_nat a b (by omega) (by omega)
theorem bs1_form {e : Nat} (h : e < 4294967296) : Go.bits .xor .u64 (Go.bits .xor .u64 ((rorI 6 e : Nat) : Int) ((rorI 11 e : Nat) : Int)) ((rorI 25 e : Nat) : Int) = ((bs1 e : Nat) : Int) := by
  show Go.bits .xor .u64 (Go.bits .xor .u64 ((ror 6 e : Nat) : Int) ((ror 11 e : Nat) : Int)) ((ror 25 e : Nat) : Int) = _
  rw [xor64 (ror_lt h) (ror_lt h), xor64 (xor32 (ror_lt h) (ror_lt h)) (ror_lt h)]
  rfl
theorem bs0_form {e : Nat} (h : e < 4294967296) : Go.bits .xor .u64 (Go.bits .xor .u64 ((rorI 2 e : Nat) : Int) ((rorI 13 e : Nat) : Int)) ((rorI 22 e : Nat) : Int) = ((bs0 e : Nat) : Int) := by
  show Go.bits .xor .u64 (Go.bits .xor .u64 ((ror 2 e : Nat) : Int) ((ror 13 e : Nat) : Int)) ((ror 22 e : Nat) : Int) = _
  rw [xor64 (ror_lt h) (ror_lt h), xor64 (xor32 (ror_lt h) (ror_lt h)) (ror_lt h)]
  rfl
theorem chs_form {e f g : Nat} (he : e < 4294967296) (hf : f < 4294967296) (hg : g < 4294967296) :
    Go.bits .or .u64 (Go.bits .and .u64 (e : Int) (f : Int)) (Go.bits .and .u64 (Go.bits .xor .u64 4294967295 (e : Int)) (g : Int)) = ((chs e f g : Nat) : Int) := by
  have h1 : Go.bits .xor .u64 4294967295 (e : Int) = ((4294967295 ^^^ e : Nat) : Int) := xor64 (a := 4294967295) (by omega) he
  have hx : 4294967295 ^^^ e < 4294967296 := xor32 (by omega) he
  rw [h1, and64 he hf, and64 hx hg, or64 (and32 he) (and32 hx), chs_ref he hg]
theorem mjs_form {a b c : Nat} (ha : a < 4294967296) (hb : b < 4294967296) (hc : c < 4294967296) :
    Go.bits .or .u64 (Go.bits .or .u64 (Go.bits .and .u64 (a : Int) (b : Int)) (Go.bits .and .u64 (a : Int) (c : Int))) (Go.bits .and .u64 (b : Int) (c : Int)) = ((mjs a b c : Nat) : Int) := by
  rw [and64 ha hb, and64 ha hc, and64 hb hc, or64 (and32 ha) (and32 ha), or64 (or32 (and32 ha) (and32 ha)) (and32 hb), mjs_ref]
theorem add_form {d O : Nat} (hd : d < 68719476736) (hO : O < 68719476736) : IntKind.u64.wrap ((d : Int) + (O : Int)) = (d : Int) + (O : Int) ∧ Go.bits .and .u64 ((d : Int) + (O : Int)) 4294967295 = (((d + O) % 4294967296 : Nat) : Int) := by
  refine ⟨u64id (by omega) (by omega), ?_⟩
  have h := Go.bits_and_u64_nat (d + O) 4294967295 (by omega) (by omega)
  rw [mask32] at h
  exact h
theorem one0_cast (t : St) (k x : Nat) : (t.h : Int) + ((bs1 t.e : Nat) : Int) + ((chs t.e t.f t.g : Nat) : Int) + (k : Int) + (x : Int) = ((one0 t k x : Nat) : Int) := by unfold one0; omega
theorem two0_cast (t : St) : ((bs0 t.a : Nat) : Int) + ((mjs t.a t.b t.c : Nat) : Int) = ((two0 t : Nat) : Int) := by unfold two0; omega
/-- what a round reads -/
structure RoundAt (w wr : World) (gw gx : Nat) (t : St) (k x i : Nat) : Prop where
  c0 : wr.cell? ⟨gx, 0, none⟩ = some (.int .u64 (t.a : Int))
  c1 : wr.cell? ⟨gx, 1, none⟩ = some (.int .u64 (t.b : Int))
  c2 : wr.cell? ⟨gx, 2, none⟩ = some (.int .u64 (t.c : Int))
  c4 : wr.cell? ⟨gx, 4, none⟩ = some (.int .u64 (t.e : Int))
  c5 : wr.cell? ⟨gx, 5, none⟩ = some (.int .u64 (t.f : Int))
  c6 : wr.cell? ⟨gx, 6, none⟩ = some (.int .u64 (t.g : Int))
  c7 : wr.cell? ⟨gx, 7, none⟩ = some (.int .u64 (t.h : Int))
  ck : wr.cell? ⟨w.heap.size + 1, i, none⟩ = some (.int .u64 (k : Int))
  cx : wr.cell? ⟨gw, i, none⟩ = some (.int .u64 (x : Int))
theorem RefX.round {w wr : World} {g gw gx : Nat} {al : List Int} {hs : List Nat} {b : List Int} {t : St} {i : Nat} (h : RefX w wr g gw gx al hs (wL b 64) t.nats) (hi : i < 64) : RoundAt w wr gw gx t (kTab.getD i 0) (wAt b i) i :=
  ⟨h.cell rfl, h.cell rfl, h.cell rfl, h.cell rfl, h.cell rfl, h.cell rfl, h.cell rfl, h.W.C.K.cell (n64_at (by rw [kTab_length]; exact hi)), h.W.cell (Nat.le_refl _) i hi⟩
set_option maxHeartbeats 4000000 in
set_option maxRecDepth 100000 in
theorem l5_step {u0 u1 u8 u9 u10 u11 u13 u14 u15 u16 u17 u18 u19 u20 u21 u22 u23 u24 u25 u26 u27 u28 u29 u30 u31 u32 u33 u34 u35 u36 u37 u38 u39 u40 u41 u42 u43 u44 u45 u46 u47 u48 u49 u50 u51 u52 u53 u54 u55 u56 u57 u58 u59 u60 u61 u62 u63 u64 u65 u66 u67 u68 u69 u70 u71 u72 u73 u74 u75 u76 u77 u78 u79 u80 u81 u82 u83 u84 u85 u86 u87 u88 u89 u90 u91 u92 u93 u94 u95 u96 u97 u98 u99 u100 u101 u102 u103 u104 u105 u106 u107 u108 u109 u110 u111 u112 u113 u114 u115 u116 u117 u118 u119 u121 u122 u123 u124 u125 u126 u127 u128 u129 u130 u131 u132 u133 u134 u135 u136 u137 u138 u139 u140 u141 u142 u143 u144 u145 u146 u147 u148 u149 u150 u151 u152 u153 u154 u155 u156 u157 u158 u159 u160 u161 u162 u163 u164 u165 u166 u167 u168 u169 u170 u171 u172 u173 u174 u175 u176 u177 u178 u179 u180 u181 u182 u183 u184 u185 u186 u187 u188 u189 u190 u191 u192 u193 u194 u195 u196 u197 u198 u199 u200 u201 u202 u203 u204 u205 u206 u207 u208 u209 u210 u211 u212 u213 u214 u215 u216 u217 u218 u219 u220 u221 u222 u223 u224 u225 u226 u227 u228 u229 u230 u231 u232 u233 u234 u235 u236 u237 u238 u239 u240 u241 : Value} {w wr : World} {g gw gx c5 j i : Nat} {al b : List Int} {s t : St} (Q : Exit → Act → World → Prop) (hok : t.ok) (hb : Bytes b) (hi : i < 64) (hM : RefX w wr g gw gx al s.nats (wL b 64) t.nats)
    (hQ : ∀ a' w', FrX w g gw gx c5 al j a' → a'.tmps.getD 120 undef = .int .i64 ((i : Int) + 1) → RefX w w' g gw gx al s.nats (wL b 64) (rnd t ((kTab.getD i 0 + wAt b i) % 4294967296)).nats → Q .normal a' w') :
    Code.wp Tryd.prog (bodyOf 4) Q ⟨#[u0, u1, .pointer (some ⟨w.heap.size, 0, none⟩), .pointer (some ⟨w.heap.size + 1, 0, none⟩), .pointer (some ⟨w.heap.size + 1 + 1, 0, none⟩), .slice (some ⟨g, 0, none⟩) al.length c5, .int .i64 (64 * (j : Int)), .pointer (some ⟨gw, 0, none⟩), u8, u9, u10, u11, .pointer (some ⟨gx, 0, none⟩), u13, u14, u15, u16, u17, u18, u19, u20, u21, u22, u23, u24, u25, u26, u27, u28, u29, u30, u31, u32, u33, u34, u35, u36, u37, u38, u39, u40, u41, u42, u43, u44, u45, u46, u47, u48, u49, u50, u51, u52, u53, u54, u55, u56, u57, u58, u59, u60, u61, u62, u63, u64, u65, u66, u67, u68, u69, u70, u71, u72, u73, u74, u75, u76, u77, u78, u79, u80, u81, u82, u83, u84, u85, u86, u87, u88, u89, u90, u91, u92, u93, u94, u95, u96, u97, u98, u99, u100, u101, u102, u103, u104, u105, u106, u107, u108, u109, u110, u111, u112, u113, u114, u115, u116, u117, u118, u119, .int .i64 (i : Int), u121, u122, u123, u124, u125, u126, u127, u128, u129, u130, u131, u132, u133, u134, u135, u136, u137, u138, u139, u140, u141, u142, u143, u144, u145, u146, u147, u148, u149, u150, u151, u152, u153, u154, u155, u156, u157, u158, u159, u160, u161, u162, u163, u164, u165, u166, u167, u168, u169, u170, u171, u172, u173, u174, u175, u176, u177, u178, u179, u180, u181, u182, u183, u184, u185, u186, u187, u188, u189, u190, u191, u192, u193, u194, u195, u196, u197, u198, u199, u200, u201, u202, u203, u204, u205, u206, u207, u208, u209, u210, u211, u212, u213, u214, u215, u216, u217, u218, u219, u220, u221, u222, u223, u224, u225, u226, u227, u228, u229, u230, u231, u232, u233, u234, u235, u236, u237, u238, u239, u240, u241], []⟩ wr := by
  conv => arg 2; whnf
  have HQ := Lib.hid hQ
  have t5 : decide ((i : Int) < 64) = true := decide_eq_true (by omega)
  have bi : (i : Int) < 64 := by omega
  obtain ⟨c0, c1, c2, c4, c5', c6, c7, ck, cx⟩ := hM.round hi
  have lk := kTab_lt i
  have lx := wAt_lt hb i
  have HM := Lib.hid hM
  clear hQ hM hb
  generalize kTab.getD i 0 = k at ck lk HQ
  generalize wAt b i = x at cx lx HQ
  have la := hok.a
  have lb := hok.b
  have lc := hok.c
  have ld := hok.d
  have le := hok.e
  have lf := hok.f
  have lg := hok.g
  have lh := hok.h
  have l1 := bs1_lt le
  have l2 := chs_lt (f := t.f) le lg
  have l3 := bs0_lt la
  have l4 := mjs_lt (b := t.b) la lc
  have f1 := bs1_form le
  have f2 := chs_form le lf lg
  have f3 := bs0_form la
  have f4 := mjs_form la lb lc
  have HC1 := Lib.hid (one0_cast t k x)
  have HC2 := Lib.hid (two0_cast t)
  have LO := Lib.hid (show one0 t k x < 68719476736 by unfold one0; omega)
  have LT := Lib.hid (show two0 t < 68719476736 by unfold two0; omega)
  have LD := Lib.hid ld
  have HI := Lib.hid hi
  clear hok ld
  go_wp2
  go_quiet ((go_at_call 33; exact Calls.quiet_of_same (turned_lit _ _ _ (by assumption) (by decide))))
  have M1 := Lib.hid (HM.out.below (pw_below_drewN (Below.refl _ _) nq))
  obtain ⟨wq, hwq⟩ : ∃ wq, wq = wr.drewN nq := ⟨_, rfl⟩
  rw [← hwq] at M1 ⊢
  clear hwq c0 c1 c2 c4 c5' c6 c7 ck cx f1 f2 l1 l2 HM
  obtain ⟨c0, c1, c2, c4, c5', c6, c7, ck, cx⟩ := M1.out.round HI.out
  clear c4 c5' c6 c7 ck cx
  go_wp2
  go_quiet ((go_at_call 33; exact Calls.quiet_of_same (turned_lit _ _ _ (by assumption) (by decide))))
  have M2 := Lib.hid (M1.out.below (pw_below_drewN (Below.refl _ _) nq))
  obtain ⟨wv, hwv⟩ : ∃ wv, wv = wq.drewN nq := ⟨_, rfl⟩
  rw [← hwv] at M2 ⊢
  clear hwv c0 c1 c2 f3 f4 l3 l4 M1
  rw [HC1.out, HC2.out]
  clear HC1 HC2
  have HR := Lib.hid (round_ref t k x)
  generalize one0 t k x = O at LO HR ⊢
  generalize two0 t = T at LT HR ⊢
  go_wp2
  refine l6_loop (i := i) (O := O) (T := T) (t := t) (s := s) _ ⟨⟨⟨⟨rfl, rfl, rfl, rfl, rfl, rfl, rfl⟩, rfl⟩, rfl⟩, rfl, rfl, rfl⟩ rfl M2.out ?_
  intro a w' hF hM
  obtain ⟨v, hv, e⟩ := frame_fn a hF.X.W.A.size hF.X.W.A.defers
  rw [(hv 2).trans hF.X.W.A.t2, (hv 3).trans hF.X.W.A.t3, (hv 4).trans hF.X.W.A.t4, (hv 5).trans hF.X.W.A.t5, (hv 6).trans hF.X.W.A.t6, (hv 7).trans hF.X.W.t7, (hv 12).trans hF.X.t12, (hv 14).trans hF.t14, (hv 15).trans hF.t15, (hv 120).trans hF.t120] at e
  rw [e]
  clear e hF M2 hv
  have c4 := hM.cell (i := 4) rfl
  have c0 := hM.cell (i := 0) rfl
  have g4 := hM.X.fr 4
  have g0 := hM.X.fr 0
  have lO := LO.out
  have lT := LT.out
  have lD := LD.out
  have h2 := (hM.set (i := 4) (x := (t.d + O) % 4294967296) (show (4 : Nat) < 8 by omega)).set (i := 0) (x := (O + T) % 4294967296) (by rw [List.length_set]; show (0 : Nat) < 8; omega)
  rw [HR.out] at h2
  have H2 := Lib.hid h2
  clear h2 hM HR
  clear la lb lc le lf lg lh lk lx
  go_wp2
  rw [(add_form (d := t.d) (O := O) (by omega) lO).2, (add_form (d := O) (O := T) lO lT).2]
  exact HQ.out _ _ ⟨⟨⟨rfl, rfl, rfl, rfl, rfl, rfl, rfl⟩, rfl⟩, rfl⟩ rfl H2.out
set_option maxHeartbeats 2000000 in
set_option maxRecDepth 100000 in
theorem l5_last {u0 u1 u8 u9 u10 u11 u13 u14 u15 u16 u17 u18 u19 u20 u21 u22 u23 u24 u25 u26 u27 u28 u29 u30 u31 u32 u33 u34 u35 u36 u37 u38 u39 u40 u41 u42 u43 u44 u45 u46 u47 u48 u49 u50 u51 u52 u53 u54 u55 u56 u57 u58 u59 u60 u61 u62 u63 u64 u65 u66 u67 u68 u69 u70 u71 u72 u73 u74 u75 u76 u77 u78 u79 u80 u81 u82 u83 u84 u85 u86 u87 u88 u89 u90 u91 u92 u93 u94 u95 u96 u97 u98 u99 u100 u101 u102 u103 u104 u105 u106 u107 u108 u109 u110 u111 u112 u113 u114 u115 u116 u117 u118 u119 u121 u122 u123 u124 u125 u126 u127 u128 u129 u130 u131 u132 u133 u134 u135 u136 u137 u138 u139 u140 u141 u142 u143 u144 u145 u146 u147 u148 u149 u150 u151 u152 u153 u154 u155 u156 u157 u158 u159 u160 u161 u162 u163 u164 u165 u166 u167 u168 u169 u170 u171 u172 u173 u174 u175 u176 u177 u178 u179 u180 u181 u182 u183 u184 u185 u186 u187 u188 u189 u190 u191 u192 u193 u194 u195 u196 u197 u198 u199 u200 u201 u202 u203 u204 u205 u206 u207 u208 u209 u210 u211 u212 u213 u214 u215 u216 u217 u218 u219 u220 u221 u222 u223 u224 u225 u226 u227 u228 u229 u230 u231 u232 u233 u234 u235 u236 u237 u238 u239 u240 u241 : Value} {w wr : World} {g gw gx c5 j i : Nat} {al : List Int} (Q : Exit → Act → World → Prop) (hi : ¬ i < 64)
    (hQ : ∀ a', FrX w g gw gx c5 al j a' → Q (.exit 8) a' wr) :
    Code.wp Tryd.prog (bodyOf 4) Q ⟨#[u0, u1, .pointer (some ⟨w.heap.size, 0, none⟩), .pointer (some ⟨w.heap.size + 1, 0, none⟩), .pointer (some ⟨w.heap.size + 1 + 1, 0, none⟩), .slice (some ⟨g, 0, none⟩) al.length c5, .int .i64 (64 * (j : Int)), .pointer (some ⟨gw, 0, none⟩), u8, u9, u10, u11, .pointer (some ⟨gx, 0, none⟩), u13, u14, u15, u16, u17, u18, u19, u20, u21, u22, u23, u24, u25, u26, u27, u28, u29, u30, u31, u32, u33, u34, u35, u36, u37, u38, u39, u40, u41, u42, u43, u44, u45, u46, u47, u48, u49, u50, u51, u52, u53, u54, u55, u56, u57, u58, u59, u60, u61, u62, u63, u64, u65, u66, u67, u68, u69, u70, u71, u72, u73, u74, u75, u76, u77, u78, u79, u80, u81, u82, u83, u84, u85, u86, u87, u88, u89, u90, u91, u92, u93, u94, u95, u96, u97, u98, u99, u100, u101, u102, u103, u104, u105, u106, u107, u108, u109, u110, u111, u112, u113, u114, u115, u116, u117, u118, u119, .int .i64 (i : Int), u121, u122, u123, u124, u125, u126, u127, u128, u129, u130, u131, u132, u133, u134, u135, u136, u137, u138, u139, u140, u141, u142, u143, u144, u145, u146, u147, u148, u149, u150, u151, u152, u153, u154, u155, u156, u157, u158, u159, u160, u161, u162, u163, u164, u165, u166, u167, u168, u169, u170, u171, u172, u173, u174, u175, u176, u177, u178, u179, u180, u181, u182, u183, u184, u185, u186, u187, u188, u189, u190, u191, u192, u193, u194, u195, u196, u197, u198, u199, u200, u201, u202, u203, u204, u205, u206, u207, u208, u209, u210, u211, u212, u213, u214, u215, u216, u217, u218, u219, u220, u221, u222, u223, u224, u225, u226, u227, u228, u229, u230, u231, u232, u233, u234, u235, u236, u237, u238, u239, u240, u241], []⟩ wr := by
  conv => arg 2; whnf
  have HQ := Lib.hid hQ
  have t5 : decide ((i : Int) < 64) = false := by simp; omega
  clear hQ
  go_wp2
  exact HQ.out _ ⟨⟨⟨rfl, rfl, rfl, rfl, rfl, rfl, rfl⟩, rfl⟩, rfl⟩
theorem mixed_succ (b : List Int) (s : St) (i : Nat) : rnd (mixed kTab b s i) ((kTab.getD i 0 + wAt b i) % 4294967296) = mixed kTab b s (i + 1) := rfl
set_option maxRecDepth 100000 in
theorem l5_loop {w wr : World} {g gw gx c5 j : Nat} {al b : List Int} {s : St} {a : Act} (Q : Exit → Act → World → Prop) (hok : s.ok) (hb : Bytes b) (hF : FrX w g gw gx c5 al j a) (h120 : a.tmps.getD 120 undef = .int .i64 0) (hM : RefX w wr g gw gx al s.nats (wL b 64) s.nats)
    (hX : ∀ a' w', FrX w g gw gx c5 al j a' → RefX w w' g gw gx al s.nats (wL b 64) (mixed kTab b s 64).nats → Q (.exit 8) a' w') : Code.wp Tryd.prog (Code.loop (bodyOf 4)) Q a wr := by
  refine wp_loop (fun a w' => ∃ i : Nat, i ≤ 64 ∧ FrX w g gw gx c5 al j a ∧ a.tmps.getD 120 undef = .int .i64 (i : Int) ∧ ∃ t : St, t = mixed kTab b s i ∧ RefX w w' g gw gx al s.nats (wL b 64) t.nats) (fun a _ => 64 - (intOf (a.tmps.getD 120 undef)).toNat) ⟨0, by omega, hF, h120, s, rfl, hM⟩ ?_
  rintro a w' ⟨i, h2, hF, h9, t, ht, hM⟩
  have e := frame_out a hF.W.A.size hF.W.A.defers
  rw [hF.W.A.t2, hF.W.A.t3, hF.W.A.t4, hF.W.A.t5, hF.W.A.t6, hF.W.t7, hF.t12, h9] at e
  by_cases hi : i < 64
  · have hto : t.ok := by rw [ht]; exact mixed_ok hok i
    have hQ : ∀ a' w'', FrX w g gw gx c5 al j a' → a'.tmps.getD 120 undef = .int .i64 ((i : Int) + 1) → RefX w w'' g gw gx al s.nats (wL b 64) (rnd t ((kTab.getD i 0 + wAt b i) % 4294967296)).nats → Exit.then (fun a' w' => (∃ i : Nat, i ≤ 64 ∧ FrX w g gw gx c5 al j a' ∧ a'.tmps.getD 120 undef = .int .i64 (i : Int) ∧ ∃ t : St, t = mixed kTab b s i ∧ RefX w w' g gw gx al s.nats (wL b 64) t.nats) ∧ 64 - (intOf (a'.tmps.getD 120 undef)).toNat < 64 - (intOf (a.tmps.getD 120 undef)).toNat) Q .normal a' w'' :=
      fun a' w'' f1 f2 f3 => ⟨⟨i + 1, hi, f1, f2, _, by rw [ht]; exact mixed_succ b s i, f3⟩, mu_at 120 64 h9 f2 hi⟩
    generalize Exit.then (fun a' w' => (∃ i : Nat, i ≤ 64 ∧ FrX w g gw gx c5 al j a' ∧ a'.tmps.getD 120 undef = .int .i64 (i : Int) ∧ ∃ t : St, t = mixed kTab b s i ∧ RefX w w' g gw gx al s.nats (wL b 64) t.nats) ∧ 64 - (intOf (a'.tmps.getD 120 undef)).toNat < 64 - (intOf (a.tmps.getD 120 undef)).toNat) Q = Q2 at hQ ⊢
    rw [e]
    exact l5_step Q2 hto hb hi hM hQ
  · obtain rfl : i = 64 := by omega
    rw [ht] at hM
    rw [e]
    exact l5_last _ hi (fun a' f => hX a' w' f hM)
end Go.Proofs.YtlmgikhgmbjfdaaDoor.Dig
/- The walk over the reference's digest in pieces: what was mixed is added. -/
namespace Go.Proofs.YtlmgikhgmbjfdaaDoor.Dig
open Go Go.RowKit Go.Proofs.YtlmgikhgmbjfdaaDoor.QDig Go.Proofs.YtlmgikhgmbjfdaaDoorW.PrintWords Go.Proofs.YtlmgikhgmbjfdaaDoorW.PrintLast Go.Proofs.YtlmgikhgmbjfdaaDoorW.PrintMore Gy

set_option maxHeartbeats 4000000 in
set_option maxRecDepth 100000 in
theorem l7_step {u0 u1 u8 u9 u10 u11 u13 u14 u15 u16 u17 u18 u19 u20 u21 u22 u23 u24 u25 u26 u27 u28 u29 u30 u31 u32 u33 u34 u35 u36 u37 u38 u39 u40 u41 u42 u43 u44 u45 u46 u47 u48 u49 u50 u51 u52 u53 u54 u55 u56 u57 u58 u59 u60 u61 u62 u63 u64 u65 u66 u67 u68 u69 u70 u71 u72 u73 u74 u75 u76 u77 u78 u79 u80 u81 u82 u83 u84 u85 u86 u87 u88 u89 u90 u91 u92 u93 u94 u95 u96 u97 u98 u99 u100 u101 u102 u103 u104 u105 u106 u107 u108 u109 u110 u111 u112 u113 u114 u115 u116 u117 u118 u119 u120 u121 u122 u123 u124 u125 u126 u127 u128 u129 u130 u131 u132 u133 u134 u135 u136 u137 u138 u139 u140 u141 u142 u143 u144 u145 u146 u147 u148 u149 u150 u151 u152 u153 u154 u155 u156 u157 u158 u159 u160 u161 u162 u163 u164 u165 u166 u167 u168 u169 u170 u171 u172 u173 u174 u175 u176 u177 u178 u179 u180 u181 u182 u183 u184 u185 u186 u187 u188 u189 u190 u191 u192 u193 u194 u195 u196 u197 u198 u199 u200 u201 u202 u203 u204 u205 u206 u207 u208 u210 u211 u212 u213 u214 u215 u216 u217 u218 u219 u220 u221 u222 u223 u224 u225 u226 u227 u228 u229 u230 u231 u232 u233 u234 u235 u236 u237 u238 u239 u240 u241 : Value} {w wr : World} {g gw gx c5 j i : Nat} {al : List Int} {s t : St} {ws : List Nat} (Q : Exit → Act → World → Prop) (hs : s.ok) (ht : t.ok) (hi : i < 8) (hM : RefX w wr g gw gx al (addP s t i) ws t.nats)
    (hQ : ∀ a' w', FrX w g gw gx c5 al j a' → a'.tmps.getD 209 undef = .int .i64 ((i : Int) + 1) → RefX w w' g gw gx al (addP s t (i + 1)) ws t.nats → Q .normal a' w') :
    Code.wp Tryd.prog (bodyOf 6) Q ⟨#[u0, u1, .pointer (some ⟨w.heap.size, 0, none⟩), .pointer (some ⟨w.heap.size + 1, 0, none⟩), .pointer (some ⟨w.heap.size + 1 + 1, 0, none⟩), .slice (some ⟨g, 0, none⟩) al.length c5, .int .i64 (64 * (j : Int)), .pointer (some ⟨gw, 0, none⟩), u8, u9, u10, u11, .pointer (some ⟨gx, 0, none⟩), u13, u14, u15, u16, u17, u18, u19, u20, u21, u22, u23, u24, u25, u26, u27, u28, u29, u30, u31, u32, u33, u34, u35, u36, u37, u38, u39, u40, u41, u42, u43, u44, u45, u46, u47, u48, u49, u50, u51, u52, u53, u54, u55, u56, u57, u58, u59, u60, u61, u62, u63, u64, u65, u66, u67, u68, u69, u70, u71, u72, u73, u74, u75, u76, u77, u78, u79, u80, u81, u82, u83, u84, u85, u86, u87, u88, u89, u90, u91, u92, u93, u94, u95, u96, u97, u98, u99, u100, u101, u102, u103, u104, u105, u106, u107, u108, u109, u110, u111, u112, u113, u114, u115, u116, u117, u118, u119, u120, u121, u122, u123, u124, u125, u126, u127, u128, u129, u130, u131, u132, u133, u134, u135, u136, u137, u138, u139, u140, u141, u142, u143, u144, u145, u146, u147, u148, u149, u150, u151, u152, u153, u154, u155, u156, u157, u158, u159, u160, u161, u162, u163, u164, u165, u166, u167, u168, u169, u170, u171, u172, u173, u174, u175, u176, u177, u178, u179, u180, u181, u182, u183, u184, u185, u186, u187, u188, u189, u190, u191, u192, u193, u194, u195, u196, u197, u198, u199, u200, u201, u202, u203, u204, u205, u206, u207, u208, .int .i64 (i : Int), u210, u211, u212, u213, u214, u215, u216, u217, u218, u219, u220, u221, u222, u223, u224, u225, u226, u227, u228, u229, u230, u231, u232, u233, u234, u235, u236, u237, u238, u239, u240, u241], []⟩ wr := by
  conv => arg 2; whnf
  have HQ := Lib.hid hQ
  have t5 : decide ((i : Int) < 8) = true := decide_eq_true (by omega)
  have bi : (i : Int) < 8 := by omega
  have ck : wr.cell? ⟨w.heap.size + 1 + 1, i, none⟩ = some (.int .u64 ((s.nats.getD i 0 : Nat) : Int)) := by
    refine hM.W.C.H.cell ?_
    unfold n64
    rw [List.getElem?_map, addP_at s t i hi]
    rfl
  have cx := hM.cell (nats_at t hi)
  have fk := hM.W.C.H.fr i
  have ly := nats_lt hs i hi
  have lx := nats_lt ht i hi
  have hst := fun (wz : World) (hz : RefX w wz g gw gx al (addP s t i) ws t.nats) => hz.setH (i := i) (x := (s.nats.getD i 0 + t.nats.getD i 0) % 4294967296) (by rw [addP_length s t i (by omega)]; exact hi)
  rw [addP_set s t i hi] at hst
  obtain ⟨gh, hgh⟩ : ∃ gh, gh = w.heap.size + 1 + 1 := ⟨_, rfl⟩
  rw [← hgh] at ck fk hst ⊢
  have HG := Lib.hid hgh
  clear hgh
  have HST := Lib.hid hst
  have HM := Lib.hid hM
  clear hst hQ hM
  generalize s.nats.getD i 0 = y at ck ly HST
  generalize t.nats.getD i 0 = x at cx lx HST
  have HS := Lib.hid (add_form (d := y) (O := x) (by omega) (by omega))
  obtain ⟨wv, hwv⟩ : ∃ wv, wv = wr := ⟨_, rfl⟩
  rw [← hwv] at ck cx fk HM ⊢
  clear hwv
  go_wp2
  obtain ⟨s1, s2⟩ := HS.out
  refine Gy.FlowL.flow (by kernel_rfl) (fun i_ => List.getD [(fun v _ => v = .int .i64 (i : Int)), (fun v _ => v = .int .i64 (i : Int)), (fun v _ => v = .pointer (some ⟨gh, i, none⟩)), (fun v _ => v = .int .u64 (y : Int)), (fun v _ => v = .int .i64 (i : Int)), (fun v _ => v = .pointer (some ⟨gx, i, none⟩)), (fun v _ => v = .int .u64 (x : Int)), (fun v _ => v = .int .u64 ((y : Int) + (x : Int))), (fun v _ => v = .int .u64 (((y + x) % 4294967296 : Nat) : Int)), (fun v _ => v = .pointer (some ⟨gh, i, none⟩)), (fun _ _ => True)] i_ (fun _ _ => True)) (fun L w => (L 10 = false → w = wv.drew) ∧ (L 10 = true → w = wv.drew.setCell ⟨gh, i, none⟩ (.int .u64 (((y + x) % 4294967296 : Nat) : Int)))) (fun _ _ => True) (by kernel_rfl) ⟨fun _ => rfl, fun h => by cases h⟩ (Gy.FlowL.mono_list [(fun v _ => v = .int .i64 (i : Int)), (fun v _ => v = .int .i64 (i : Int)), (fun v _ => v = .pointer (some ⟨gh, i, none⟩)), (fun v _ => v = .int .u64 (y : Int)), (fun v _ => v = .int .i64 (i : Int)), (fun v _ => v = .pointer (some ⟨gx, i, none⟩)), (fun v _ => v = .int .u64 (x : Int)), (fun v _ => v = .int .u64 ((y : Int) + (x : Int))), (fun v _ => v = .int .u64 (((y + x) % 4294967296 : Nat) : Int)), (fun v _ => v = .pointer (some ⟨gh, i, none⟩)), (fun _ _ => True)] ?_) (Gy.FlowL.of_allFrom ⟨?_, ?_, ?_, ?_, ?_, ?_, ?_, ?_, ?_, ?_, ?_, trivial⟩) ?_
  · exact ⟨fun v w w' h hb => h, fun v w w' h hb => h, fun v w w' h hb => h, fun v w w' h hb => h, fun v w w' h hb => h, fun v w w' h hb => h, fun v w w' h hb => h, fun v w w' h hb => h, fun v w w' h hb => h, fun v w w' h hb => h, fun v w w' h hb => h, trivial⟩
  · intro L a w hD
    have e17 : a.eval (.tmp 17) = .int .i64 (i : Int) := hD.same.at_other 17 (by kernel_rfl)
    exact Gy.FlowL.step_move rfl rfl (Gy.FlowL.wanted_none rfl) e17 hD.J trivial
  · intro L a w hD
    have e17 : a.eval (.tmp 17) = .int .i64 (i : Int) := hD.same.at_other 17 (by kernel_rfl)
    exact Gy.FlowL.step_move rfl rfl (Gy.FlowL.wanted_none rfl) e17 hD.J trivial
  · intro L a w hD
    have e4 : a.eval (.tmp 4) = .pointer (some ⟨gh, 0, none⟩) := hD.same.at_other 4 (by kernel_rfl)
    have e213 : a.eval (.tmp 213) = .int .i64 (i : Int) := hD.at 1 (by kernel_rfl)
    have f4 := e4; simp only [Act.eval, Array.getD_eq_getD_getElem?] at f4
    have f213 := e213; simp only [Act.eval, Array.getD_eq_getD_getElem?] at f213
    refine Gy.FlowL.step_value rfl (Gy.FlowL.wanted_none rfl) (v := .pointer (some ⟨gh, i, none⟩)) (w1 := w) ?_ rfl hD.J trivial
    first | (simp only [execOp]; go_simp; done) | (simp only [execOp, e4, e213]; go_simp)
  · intro L a w hD
    have e214 : a.eval (.tmp 214) = .pointer (some ⟨gh, i, none⟩) := hD.at 2 (by kernel_rfl)
    have hw := hD.J.1 (hD.later 10 (by kernel_rfl))
    have f214 := e214; simp only [Act.eval, Array.getD_eq_getD_getElem?] at f214
    have hJ := hD.J
    clear hD
    subst hw
    refine Gy.FlowL.step_value rfl (Gy.FlowL.wanted_none rfl) (v := .int .u64 (y : Int)) (w1 := wv.drew) ?_ rfl hJ trivial
    simp only [execOp, e214]; go_simp
  · intro L a w hD
    have e17 : a.eval (.tmp 17) = .int .i64 (i : Int) := hD.same.at_other 17 (by kernel_rfl)
    exact Gy.FlowL.step_move rfl rfl (Gy.FlowL.wanted_none rfl) e17 hD.J trivial
  · intro L a w hD
    have e12 : a.eval (.tmp 12) = .pointer (some ⟨gx, 0, none⟩) := hD.same.at_other 12 (by kernel_rfl)
    have e216 : a.eval (.tmp 216) = .int .i64 (i : Int) := hD.at 4 (by kernel_rfl)
    have f12 := e12; simp only [Act.eval, Array.getD_eq_getD_getElem?] at f12
    have f216 := e216; simp only [Act.eval, Array.getD_eq_getD_getElem?] at f216
    refine Gy.FlowL.step_value rfl (Gy.FlowL.wanted_none rfl) (v := .pointer (some ⟨gx, i, none⟩)) (w1 := w) ?_ rfl hD.J trivial
    first | (simp only [execOp]; go_simp; done) | (simp only [execOp, e12, e216]; go_simp)
  · intro L a w hD
    have e217 : a.eval (.tmp 217) = .pointer (some ⟨gx, i, none⟩) := hD.at 5 (by kernel_rfl)
    have hw := hD.J.1 (hD.later 10 (by kernel_rfl))
    have f217 := e217; simp only [Act.eval, Array.getD_eq_getD_getElem?] at f217
    have hJ := hD.J
    clear hD
    subst hw
    refine Gy.FlowL.step_value rfl (Gy.FlowL.wanted_none rfl) (v := .int .u64 (x : Int)) (w1 := wv.drew) ?_ rfl hJ trivial
    simp only [execOp, e217]; go_simp
  · intro L a w hD
    have e215 : a.eval (.tmp 215) = .int .u64 (y : Int) := hD.at 3 (by kernel_rfl)
    have e218 : a.eval (.tmp 218) = .int .u64 (x : Int) := hD.at 6 (by kernel_rfl)
    have f215 := e215; simp only [Act.eval, Array.getD_eq_getD_getElem?] at f215
    have f218 := e218; simp only [Act.eval, Array.getD_eq_getD_getElem?] at f218
    refine Gy.FlowL.step_value rfl (Gy.FlowL.wanted_none rfl) (v := .int .u64 ((y : Int) + (x : Int))) (w1 := w) ?_ rfl hD.J trivial
    first | (simp only [execOp]; go_simp; done) | (simp only [execOp, e215, e218]; go_simp)
  · intro L a w hD
    have e219 : a.eval (.tmp 219) = .int .u64 ((y : Int) + (x : Int)) := hD.at 7 (by kernel_rfl)
    have f219 := e219; simp only [Act.eval, Array.getD_eq_getD_getElem?] at f219
    refine Gy.FlowL.step_value rfl (Gy.FlowL.wanted_none rfl) (v := .int .u64 (((y + x) % 4294967296 : Nat) : Int)) (w1 := w) ?_ rfl hD.J trivial
    first | (simp only [execOp]; go_simp; done) | (simp only [execOp, e219]; go_simp)
  · intro L a w hD
    have e4 : a.eval (.tmp 4) = .pointer (some ⟨gh, 0, none⟩) := hD.same.at_other 4 (by kernel_rfl)
    have e212 : a.eval (.tmp 212) = .int .i64 (i : Int) := hD.at 0 (by kernel_rfl)
    have f4 := e4; simp only [Act.eval, Array.getD_eq_getD_getElem?] at f4
    have f212 := e212; simp only [Act.eval, Array.getD_eq_getD_getElem?] at f212
    refine Gy.FlowL.step_value rfl (Gy.FlowL.wanted_none rfl) (v := .pointer (some ⟨gh, i, none⟩)) (w1 := w) ?_ rfl hD.J trivial
    first | (simp only [execOp]; go_simp; done) | (simp only [execOp, e4, e212]; go_simp)
  · intro L a w hD
    have e221 : a.eval (.tmp 221) = .pointer (some ⟨gh, i, none⟩) := hD.at 9 (by kernel_rfl)
    have e220 : a.eval (.tmp 220) = .int .u64 (((y + x) % 4294967296 : Nat) : Int) := hD.at 8 (by kernel_rfl)
    have hw := hD.J.1 hD.not
    have f221 := e221; simp only [Act.eval, Array.getD_eq_getD_getElem?] at f221
    have f220 := e220; simp only [Act.eval, Array.getD_eq_getD_getElem?] at f220
    clear hD
    subst hw
    refine Gy.FlowL.step_skip (w1 := wv.drew.setCell ⟨gh, i, none⟩ (.int .u64 (((y + x) % 4294967296 : Nat) : Int))) rfl (Gy.FlowL.wanted_none rfl) ?_ trivial ⟨fun h => absurd h (by simp [Gy.FlowL.add]), fun _ => rfl⟩ trivial
    simp only [execOp, e221, e220]; go_simp
  · intro L a w hs hJ hL hv
    have hw := hJ.2 (hL 10 (by decide))
    have hp := Gy.FlowL.same_puts (by kernel_rfl) hs
    generalize Gy.FlowL.At _ a = vs at hp
    clear hv hs hJ hL
    subst hp hw
    simp only [Gy.FlowL.puts, Act.put, List.setIfInBounds_toArray, List.set_cons_zero, List.set_cons_succ]
    have M3 := Lib.hid (HST.out _ (HM.out.below (Gy.drew_below _)))
    clear ck cx fk s1 s2
    generalize wv.drew.setCell ⟨gh, i, none⟩ (.int .u64 (((y + x) % 4294967296 : Nat) : Int)) = wx at M3 ⊢
    go_wp2
    rw [HG.out]
    exact HQ.out _ _ ⟨⟨⟨rfl, rfl, rfl, rfl, rfl, rfl, rfl⟩, rfl⟩, rfl⟩ rfl M3.out
set_option maxHeartbeats 2000000 in
set_option maxRecDepth 100000 in
theorem l7_last {u0 u1 u8 u9 u10 u11 u13 u14 u15 u16 u17 u18 u19 u20 u21 u22 u23 u24 u25 u26 u27 u28 u29 u30 u31 u32 u33 u34 u35 u36 u37 u38 u39 u40 u41 u42 u43 u44 u45 u46 u47 u48 u49 u50 u51 u52 u53 u54 u55 u56 u57 u58 u59 u60 u61 u62 u63 u64 u65 u66 u67 u68 u69 u70 u71 u72 u73 u74 u75 u76 u77 u78 u79 u80 u81 u82 u83 u84 u85 u86 u87 u88 u89 u90 u91 u92 u93 u94 u95 u96 u97 u98 u99 u100 u101 u102 u103 u104 u105 u106 u107 u108 u109 u110 u111 u112 u113 u114 u115 u116 u117 u118 u119 u120 u121 u122 u123 u124 u125 u126 u127 u128 u129 u130 u131 u132 u133 u134 u135 u136 u137 u138 u139 u140 u141 u142 u143 u144 u145 u146 u147 u148 u149 u150 u151 u152 u153 u154 u155 u156 u157 u158 u159 u160 u161 u162 u163 u164 u165 u166 u167 u168 u169 u170 u171 u172 u173 u174 u175 u176 u177 u178 u179 u180 u181 u182 u183 u184 u185 u186 u187 u188 u189 u190 u191 u192 u193 u194 u195 u196 u197 u198 u199 u200 u201 u202 u203 u204 u205 u206 u207 u208 u210 u211 u212 u213 u214 u215 u216 u217 u218 u219 u220 u221 u222 u223 u224 u225 u226 u227 u228 u229 u230 u231 u232 u233 u234 u235 u236 u237 u238 u239 u240 u241 : Value} {w wr : World} {g gw gx c5 j i : Nat} {al : List Int} (Q : Exit → Act → World → Prop) (hi : ¬ i < 8)
    (hQ : ∀ a', FrX w g gw gx c5 al j a' → Q (.exit 12) a' wr) :
    Code.wp Tryd.prog (bodyOf 6) Q ⟨#[u0, u1, .pointer (some ⟨w.heap.size, 0, none⟩), .pointer (some ⟨w.heap.size + 1, 0, none⟩), .pointer (some ⟨w.heap.size + 1 + 1, 0, none⟩), .slice (some ⟨g, 0, none⟩) al.length c5, .int .i64 (64 * (j : Int)), .pointer (some ⟨gw, 0, none⟩), u8, u9, u10, u11, .pointer (some ⟨gx, 0, none⟩), u13, u14, u15, u16, u17, u18, u19, u20, u21, u22, u23, u24, u25, u26, u27, u28, u29, u30, u31, u32, u33, u34, u35, u36, u37, u38, u39, u40, u41, u42, u43, u44, u45, u46, u47, u48, u49, u50, u51, u52, u53, u54, u55, u56, u57, u58, u59, u60, u61, u62, u63, u64, u65, u66, u67, u68, u69, u70, u71, u72, u73, u74, u75, u76, u77, u78, u79, u80, u81, u82, u83, u84, u85, u86, u87, u88, u89, u90, u91, u92, u93, u94, u95, u96, u97, u98, u99, u100, u101, u102, u103, u104, u105, u106, u107, u108, u109, u110, u111, u112, u113, u114, u115, u116, u117, u118, u119, u120, u121, u122, u123, u124, u125, u126, u127, u128, u129, u130, u131, u132, u133, u134, u135, u136, u137, u138, u139, u140, u141, u142, u143, u144, u145, u146, u147, u148, u149, u150, u151, u152, u153, u154, u155, u156, u157, u158, u159, u160, u161, u162, u163, u164, u165, u166, u167, u168, u169, u170, u171, u172, u173, u174, u175, u176, u177, u178, u179, u180, u181, u182, u183, u184, u185, u186, u187, u188, u189, u190, u191, u192, u193, u194, u195, u196, u197, u198, u199, u200, u201, u202, u203, u204, u205, u206, u207, u208, .int .i64 (i : Int), u210, u211, u212, u213, u214, u215, u216, u217, u218, u219, u220, u221, u222, u223, u224, u225, u226, u227, u228, u229, u230, u231, u232, u233, u234, u235, u236, u237, u238, u239, u240, u241], []⟩ wr := by
  conv => arg 2; whnf
  have HQ := Lib.hid hQ
  have t5 : decide ((i : Int) < 8) = false := by simp; omega
  clear hQ
  go_wp2
  exact HQ.out _ ⟨⟨⟨rfl, rfl, rfl, rfl, rfl, rfl, rfl⟩, rfl⟩, rfl⟩
set_option maxRecDepth 100000 in
theorem l7_loop {w wr : World} {g gw gx c5 j : Nat} {al : List Int} {s t : St} {ws : List Nat} {a : Act} (Q : Exit → Act → World → Prop) (hs : s.ok) (ht : t.ok) (hF : FrX w g gw gx c5 al j a) (h209 : a.tmps.getD 209 undef = .int .i64 0) (hM : RefX w wr g gw gx al s.nats ws t.nats)
    (hX : ∀ a' w', FrX w g gw gx c5 al j a' → RefX w w' g gw gx al (s.plus t).nats ws t.nats → Q (.exit 12) a' w') : Code.wp Tryd.prog (Code.loop (bodyOf 6)) Q a wr := by
  refine wp_loop (fun a w' => ∃ i : Nat, i ≤ 8 ∧ FrX w g gw gx c5 al j a ∧ a.tmps.getD 209 undef = .int .i64 (i : Int) ∧ RefX w w' g gw gx al (addP s t i) ws t.nats) (fun a _ => 8 - (intOf (a.tmps.getD 209 undef)).toNat) ⟨0, by omega, hF, h209, hM⟩ ?_
  rintro a w' ⟨i, h2, hF, h9, hM⟩
  have e := frame_out a hF.W.A.size hF.W.A.defers
  rw [hF.W.A.t2, hF.W.A.t3, hF.W.A.t4, hF.W.A.t5, hF.W.A.t6, hF.W.t7, hF.t12, h9] at e
  by_cases hi : i < 8
  · have hQ : ∀ a' w'', FrX w g gw gx c5 al j a' → a'.tmps.getD 209 undef = .int .i64 ((i : Int) + 1) → RefX w w'' g gw gx al (addP s t (i + 1)) ws t.nats → Exit.then (fun a' w' => (∃ i : Nat, i ≤ 8 ∧ FrX w g gw gx c5 al j a' ∧ a'.tmps.getD 209 undef = .int .i64 (i : Int) ∧ RefX w w' g gw gx al (addP s t i) ws t.nats) ∧ 8 - (intOf (a'.tmps.getD 209 undef)).toNat < 8 - (intOf (a.tmps.getD 209 undef)).toNat) Q .normal a' w'' :=
      fun a' w'' f1 f2 f3 => ⟨⟨i + 1, hi, f1, f2, f3⟩, mu_at 209 8 h9 f2 hi⟩
    generalize Exit.then (fun a' w' => (∃ i : Nat, i ≤ 8 ∧ FrX w g gw gx c5 al j a' ∧ a'.tmps.getD 209 undef = .int .i64 (i : Int) ∧ RefX w w' g gw gx al (addP s t i) ws t.nats) ∧ 8 - (intOf (a'.tmps.getD 209 undef)).toNat < 8 - (intOf (a.tmps.getD 209 undef)).toNat) Q = Q2 at hQ ⊢
    rw [e]
    exact l7_step Q2 hs ht hi hM hQ
  · obtain rfl : i = 8 := by omega
    rw [e]
    exact l7_last _ hi (fun a' f => hX a' w' f hM)
end Go.Proofs.YtlmgikhgmbjfdaaDoor.Dig
/- The walk over the reference's digest in pieces: a chunk. -/
namespace Go.Proofs.YtlmgikhgmbjfdaaDoor.Dig
open Go Go.RowKit Go.Proofs.YtlmgikhgmbjfdaaDoor.QDig Go.Proofs.YtlmgikhgmbjfdaaDoorW.PrintWords Go.Proofs.YtlmgikhgmbjfdaaDoorW.PrintLast Go.Proofs.YtlmgikhgmbjfdaaDoorW.PrintMore Gy

theorem ref_x {w wr : World} {g gw : Nat} {al : List Int} {s : St} {ws : List Nat} (h : RefW w wr g gw al s.nats ws) (zs : Array Value) (hz : zs = (n64 (List.replicate 8 0)).toArray) :
    (wr.alloc (.cells zs 71)).there wr.heap.size 0 (n64 s.nats).toArray.size ∧ RefX w ((wr.alloc (.cells zs 71)).setCells wr.heap.size 0 (n64 s.nats)) g gw wr.heap.size al s.nats ws s.nats := by
  have h1 := Arr.fresh wr _ zs hz 71
  have hl : (n64 s.nats).length = (n64 (List.replicate 8 0)).length := by rw [n64_length, n64_length]; rfl
  have hlt := h.W.lt
  have ho := h.o
  have hb := h.below (Gy.alloc_below wr (.cells zs 71))
  exact ⟨h1.there2 _ hl, ⟨hb.C.far_cells (by omega) _ _, hb.W.far_cells (by omega) _ _, ho⟩, h1.put _ hl, hlt⟩
theorem mixSt_eq (b : List Int) (s t : St) (h : t = mixed kTab b s 64) : s.plus t = mixSt kTab b s := by subst h; rfl
set_option maxHeartbeats 4000000 in
set_option maxRecDepth 100000 in
theorem l2_step {u0 u1 u7 u8 u9 u10 u11 u12 u13 u14 u15 u16 u17 u18 u19 u20 u21 u22 u23 u24 u25 u26 u27 u28 u29 u30 u31 u32 u33 u34 u35 u36 u37 u38 u39 u40 u41 u42 u43 u44 u45 u46 u47 u48 u49 u50 u51 u52 u53 u54 u55 u56 u57 u58 u59 u60 u61 u62 u63 u64 u65 u66 u67 u68 u69 u70 u71 u72 u73 u74 u75 u76 u77 u78 u79 u80 u81 u82 u83 u84 u85 u86 u87 u88 u89 u90 u91 u92 u93 u94 u95 u96 u97 u98 u99 u100 u101 u102 u103 u104 u105 u106 u107 u108 u109 u110 u111 u112 u113 u114 u115 u116 u117 u118 u119 u120 u121 u122 u123 u124 u125 u126 u127 u128 u129 u130 u131 u132 u133 u134 u135 u136 u137 u138 u139 u140 u141 u142 u143 u144 u145 u146 u147 u148 u149 u150 u151 u152 u153 u154 u155 u156 u157 u158 u159 u160 u161 u162 u163 u164 u165 u166 u167 u168 u169 u170 u171 u172 u173 u174 u175 u176 u177 u178 u179 u180 u181 u182 u183 u184 u185 u186 u187 u188 u189 u190 u191 u192 u193 u194 u195 u196 u197 u198 u199 u200 u201 u202 u203 u204 u205 u206 u207 u208 u209 u210 u211 u212 u213 u214 u215 u216 u217 u218 u219 u220 u221 u222 u223 u224 u225 u226 u227 u228 u229 u230 u231 u232 u233 u234 u235 u236 u237 u238 u239 u240 u241 : Value} {w wr : World} {g c5 j N : Nat} {al : List Int} {s : St} (Q : Exit → Act → World → Prop) (hb : Bytes al) (hcap : al.length ≤ c5) (hal : al.length ≤ 1000072) (hlen : al.length = 64 * N) (hok : s.ok) (hj : j < N) (hM : RefC w wr g al s.nats)
    (hQ : ∀ a' w', FrA w g c5 al (j + 1) a' → RefC w w' g al (mixSt kTab (al.drop (64 * j)) s).nats → Q .normal a' w') :
    Code.wp Tryd.prog (bodyOf 1) Q ⟨#[u0, u1, .pointer (some ⟨w.heap.size, 0, none⟩), .pointer (some ⟨w.heap.size + 1, 0, none⟩), .pointer (some ⟨w.heap.size + 1 + 1, 0, none⟩), .slice (some ⟨g, 0, none⟩) al.length c5, .int .i64 (64 * (j : Int)), u7, u8, u9, u10, u11, u12, u13, u14, u15, u16, u17, u18, u19, u20, u21, u22, u23, u24, u25, u26, u27, u28, u29, u30, u31, u32, u33, u34, u35, u36, u37, u38, u39, u40, u41, u42, u43, u44, u45, u46, u47, u48, u49, u50, u51, u52, u53, u54, u55, u56, u57, u58, u59, u60, u61, u62, u63, u64, u65, u66, u67, u68, u69, u70, u71, u72, u73, u74, u75, u76, u77, u78, u79, u80, u81, u82, u83, u84, u85, u86, u87, u88, u89, u90, u91, u92, u93, u94, u95, u96, u97, u98, u99, u100, u101, u102, u103, u104, u105, u106, u107, u108, u109, u110, u111, u112, u113, u114, u115, u116, u117, u118, u119, u120, u121, u122, u123, u124, u125, u126, u127, u128, u129, u130, u131, u132, u133, u134, u135, u136, u137, u138, u139, u140, u141, u142, u143, u144, u145, u146, u147, u148, u149, u150, u151, u152, u153, u154, u155, u156, u157, u158, u159, u160, u161, u162, u163, u164, u165, u166, u167, u168, u169, u170, u171, u172, u173, u174, u175, u176, u177, u178, u179, u180, u181, u182, u183, u184, u185, u186, u187, u188, u189, u190, u191, u192, u193, u194, u195, u196, u197, u198, u199, u200, u201, u202, u203, u204, u205, u206, u207, u208, u209, u210, u211, u212, u213, u214, u215, u216, u217, u218, u219, u220, u221, u222, u223, u224, u225, u226, u227, u228, u229, u230, u231, u232, u233, u234, u235, u236, u237, u238, u239, u240, u241], []⟩ wr := by
  conv => arg 2; whnf
  obtain ⟨zt, hzt, hz64⟩ := zero_64w
  obtain ⟨zs, hzs, hz8⟩ := zero_8w
  have HQ := Lib.hid hQ
  obtain ⟨t1, t2, t3⟩ := chunk_facts hj (show 64 * N ≤ 2000000 by omega)
  rw [← hlen] at t1
  have HT := Lib.hid (And.intro t2 t3)
  have HJ := Lib.hid (show 64 * j + 64 ≤ al.length by omega)
  have HW := Lib.hid (ref_w hM (show 0 < al.length by omega) zt hzt (al.drop (64 * j)))
  have HA := Lib.hid (And.intro hb (And.intro hcap (And.intro hal (And.intro hzs hok))))
  have hjb : j ≤ 15626 := by omega
  clear hQ t2 t3 hM hb hcap hal hzt hzs hok hj hlen
  go_wp2
  generalize wr.heap.size = gw at HW ⊢
  refine l3_loop (j := j) (s := s) (gw := gw) _ HA.out.1 HA.out.2.1 HJ.out HA.out.2.2.1 ⟨⟨rfl, rfl, rfl, rfl, rfl, rfl, rfl⟩, rfl⟩ rfl HW.out ?_
  intro a w1 hF hM
  obtain ⟨v, hv, e⟩ := frame_fn a hF.A.size hF.A.defers
  rw [(hv 2).trans hF.A.t2, (hv 3).trans hF.A.t3, (hv 4).trans hF.A.t4, (hv 5).trans hF.A.t5, (hv 6).trans hF.A.t6, (hv 7).trans hF.t7] at e
  rw [e]
  clear e hF hv HW
  have HM := Lib.hid hM
  clear hM
  go_wp2
  refine l4_loop (j := j) (s := s) (gw := gw) _ HA.out.1 ⟨⟨rfl, rfl, rfl, rfl, rfl, rfl, rfl⟩, rfl⟩ rfl HM.out ?_
  intro a w2 hF hM
  obtain ⟨v2, hv, e⟩ := frame_fn a hF.A.size hF.A.defers
  rw [(hv 2).trans hF.A.t2, (hv 3).trans hF.A.t3, (hv 4).trans hF.A.t4, (hv 5).trans hF.A.t5, (hv 6).trans hF.A.t6, (hv 7).trans hF.t7] at e
  rw [e]
  clear e hF hv HM
  have HX := Lib.hid (And.intro (ref_x hM zs HA.out.2.2.2.1) hM)
  clear hM
  go_wp2_with (first
    | (with_reducible refine wpList_load_mid rfl 71 (.tmp 4) rfl (w.heap.size + 1 + 1) 0 rfl (n64 s.nats) _ HX.out.2.C.H.at_ Tryd.underlying71 rfl (info_8a s) ?_)
    | (with_reducible refine store_row rfl 71 (.tmp 12) (.tmp 119) rfl rfl w2.heap.size (n64 s.nats) rfl rfl HX.out.1.1 (info_8b _) (n64_one _) ?_))
  have HX2 := Lib.hid HX.out.1.2
  clear HX
  generalize w2.heap.size = gx at HX2 ⊢
  refine l5_loop (j := j) (s := s) (gw := gw) (gx := gx) _ HA.out.2.2.2.2 (HA.out.1.drop (64 * j)) ⟨⟨⟨rfl, rfl, rfl, rfl, rfl, rfl, rfl⟩, rfl⟩, rfl⟩ rfl HX2.out ?_
  intro a w3 hF hM
  obtain ⟨t, ht⟩ : ∃ t, t = mixed kTab (al.drop (64 * j)) s 64 := ⟨_, rfl⟩
  rw [← ht] at hM
  have HT2 := Lib.hid (And.intro (mixSt_eq _ s t ht) (show t.ok by rw [ht]; exact mixed_ok HA.out.2.2.2.2 64))
  clear ht HX2
  obtain ⟨v3, hv, e⟩ := frame_fn a hF.W.A.size hF.W.A.defers
  rw [(hv 2).trans hF.W.A.t2, (hv 3).trans hF.W.A.t3, (hv 4).trans hF.W.A.t4, (hv 5).trans hF.W.A.t5, (hv 6).trans hF.W.A.t6, (hv 7).trans hF.W.t7, (hv 12).trans hF.t12] at e
  rw [e]
  clear e hF hv
  have HM := Lib.hid hM
  clear hM
  go_wp2
  refine l7_loop (j := j) (s := s) (t := t) (gw := gw) (gx := gx) _ HA.out.2.2.2.2 HT2.out.2 ⟨⟨⟨rfl, rfl, rfl, rfl, rfl, rfl, rfl⟩, rfl⟩, rfl⟩ rfl HM.out ?_
  intro a w4 hF hM
  rw [HT2.out.1] at hM
  obtain ⟨v4, hv, e⟩ := frame_fn a hF.W.A.size hF.W.A.defers
  rw [(hv 2).trans hF.W.A.t2, (hv 3).trans hF.W.A.t3, (hv 4).trans hF.W.A.t4, (hv 5).trans hF.W.A.t5, (hv 6).trans hF.W.A.t6, (hv 7).trans hF.W.t7, (hv 12).trans hF.t12] at e
  rw [e]
  clear e hF hv HM HT2
  have HM := Lib.hid hM.W.C
  clear hM
  go_wp2
  (try rw [HT.out.1])
  rw [HT.out.2]
  exact HQ.out _ _ ⟨rfl, rfl, rfl, rfl, rfl, rfl, rfl⟩ HM.out
set_option maxHeartbeats 2000000 in
set_option maxRecDepth 100000 in
theorem l2_last {u0 u1 u7 u8 u9 u10 u11 u12 u13 u14 u15 u16 u17 u18 u19 u20 u21 u22 u23 u24 u25 u26 u27 u28 u29 u30 u31 u32 u33 u34 u35 u36 u37 u38 u39 u40 u41 u42 u43 u44 u45 u46 u47 u48 u49 u50 u51 u52 u53 u54 u55 u56 u57 u58 u59 u60 u61 u62 u63 u64 u65 u66 u67 u68 u69 u70 u71 u72 u73 u74 u75 u76 u77 u78 u79 u80 u81 u82 u83 u84 u85 u86 u87 u88 u89 u90 u91 u92 u93 u94 u95 u96 u97 u98 u99 u100 u101 u102 u103 u104 u105 u106 u107 u108 u109 u110 u111 u112 u113 u114 u115 u116 u117 u118 u119 u120 u121 u122 u123 u124 u125 u126 u127 u128 u129 u130 u131 u132 u133 u134 u135 u136 u137 u138 u139 u140 u141 u142 u143 u144 u145 u146 u147 u148 u149 u150 u151 u152 u153 u154 u155 u156 u157 u158 u159 u160 u161 u162 u163 u164 u165 u166 u167 u168 u169 u170 u171 u172 u173 u174 u175 u176 u177 u178 u179 u180 u181 u182 u183 u184 u185 u186 u187 u188 u189 u190 u191 u192 u193 u194 u195 u196 u197 u198 u199 u200 u201 u202 u203 u204 u205 u206 u207 u208 u209 u210 u211 u212 u213 u214 u215 u216 u217 u218 u219 u220 u221 u222 u223 u224 u225 u226 u227 u228 u229 u230 u231 u232 u233 u234 u235 u236 u237 u238 u239 u240 u241 : Value} {w wr : World} {g c5 j N : Nat} {al : List Int} (Q : Exit → Act → World → Prop) (hlen : al.length = 64 * N) (hj : ¬ j < N)
    (hQ : ∀ a', FrA w g c5 al j a' → Q (.exit 2) a' wr) :
    Code.wp Tryd.prog (bodyOf 1) Q ⟨#[u0, u1, .pointer (some ⟨w.heap.size, 0, none⟩), .pointer (some ⟨w.heap.size + 1, 0, none⟩), .pointer (some ⟨w.heap.size + 1 + 1, 0, none⟩), .slice (some ⟨g, 0, none⟩) al.length c5, .int .i64 (64 * (j : Int)), u7, u8, u9, u10, u11, u12, u13, u14, u15, u16, u17, u18, u19, u20, u21, u22, u23, u24, u25, u26, u27, u28, u29, u30, u31, u32, u33, u34, u35, u36, u37, u38, u39, u40, u41, u42, u43, u44, u45, u46, u47, u48, u49, u50, u51, u52, u53, u54, u55, u56, u57, u58, u59, u60, u61, u62, u63, u64, u65, u66, u67, u68, u69, u70, u71, u72, u73, u74, u75, u76, u77, u78, u79, u80, u81, u82, u83, u84, u85, u86, u87, u88, u89, u90, u91, u92, u93, u94, u95, u96, u97, u98, u99, u100, u101, u102, u103, u104, u105, u106, u107, u108, u109, u110, u111, u112, u113, u114, u115, u116, u117, u118, u119, u120, u121, u122, u123, u124, u125, u126, u127, u128, u129, u130, u131, u132, u133, u134, u135, u136, u137, u138, u139, u140, u141, u142, u143, u144, u145, u146, u147, u148, u149, u150, u151, u152, u153, u154, u155, u156, u157, u158, u159, u160, u161, u162, u163, u164, u165, u166, u167, u168, u169, u170, u171, u172, u173, u174, u175, u176, u177, u178, u179, u180, u181, u182, u183, u184, u185, u186, u187, u188, u189, u190, u191, u192, u193, u194, u195, u196, u197, u198, u199, u200, u201, u202, u203, u204, u205, u206, u207, u208, u209, u210, u211, u212, u213, u214, u215, u216, u217, u218, u219, u220, u221, u222, u223, u224, u225, u226, u227, u228, u229, u230, u231, u232, u233, u234, u235, u236, u237, u238, u239, u240, u241], []⟩ wr := by
  conv => arg 2; whnf
  have HQ := Lib.hid hQ
  have t1 : decide (64 * (j : Int) < (al.length : Int)) = false := by simp; omega
  clear hQ hlen
  go_wp2
  exact HQ.out _ ⟨rfl, rfl, rfl, rfl, rfl, rfl, rfl⟩
theorem mu_64 {w : World} {g c5 j N : Nat} {al : List Int} {a a' : Act} (h : FrA w g c5 al j a) (h' : FrA w g c5 al (j + 1) a') (hj : j < N) : 64 * N - (intOf (a'.tmps.getD 6 undef)).toNat < 64 * N - (intOf (a.tmps.getD 6 undef)).toNat := by
  rw [h.t6, h'.t6]
  show 64 * N - (64 * ((j + 1 : Nat) : Int)).toNat < 64 * N - (64 * (j : Int)).toNat
  omega
set_option maxRecDepth 100000 in
theorem l2_loop {w wr : World} {g c5 N : Nat} {al : List Int} {a : Act} (Q : Exit → Act → World → Prop) (hb : Bytes al) (hcap : al.length ≤ c5) (hal : al.length ≤ 1000072) (hlen : al.length = 64 * N) (hF : FrA w g c5 al 0 a) (hM : RefC w wr g al Gy.begun.nats)
    (hX : ∀ a' w', FrA w g c5 al N a' → RefC w w' g al (mixAll kTab al Gy.begun N).nats → Q (.exit 2) a' w') : Code.wp Tryd.prog (Code.loop (bodyOf 1)) Q a wr := by
  refine wp_loop (fun a w' => ∃ j : Nat, j ≤ N ∧ FrA w g c5 al j a ∧ ∃ s : St, s = mixAll kTab al Gy.begun j ∧ RefC w w' g al s.nats) (fun a _ => 64 * N - (intOf (a.tmps.getD 6 undef)).toNat) ⟨0, Nat.zero_le _, hF, _, rfl, hM⟩ ?_
  rintro a w' ⟨j, h2, hF, s, hs, hM⟩
  have e := frame_out a hF.size hF.defers
  rw [hF.t2, hF.t3, hF.t4, hF.t5, hF.t6] at e
  by_cases hj : j < N
  · have hok : s.ok := by rw [hs]; exact mixAll_ok begun_ok j
    have hQ : ∀ a' w'', FrA w g c5 al (j + 1) a' → RefC w w'' g al (mixSt kTab (al.drop (64 * j)) s).nats → Exit.then (fun a' w' => (∃ j : Nat, j ≤ N ∧ FrA w g c5 al j a' ∧ ∃ s : St, s = mixAll kTab al Gy.begun j ∧ RefC w w' g al s.nats) ∧ 64 * N - (intOf (a'.tmps.getD 6 undef)).toNat < 64 * N - (intOf (a.tmps.getD 6 undef)).toNat) Q .normal a' w'' :=
      fun a' w'' f1 f2 => ⟨⟨j + 1, hj, f1, _, by rw [hs]; exact mixAll_step al Gy.begun j, f2⟩, mu_64 hF f1 hj⟩
    generalize Exit.then (fun a' w' => (∃ j : Nat, j ≤ N ∧ FrA w g c5 al j a' ∧ ∃ s : St, s = mixAll kTab al Gy.begun j ∧ RefC w w' g al s.nats) ∧ 64 * N - (intOf (a'.tmps.getD 6 undef)).toNat < 64 * N - (intOf (a.tmps.getD 6 undef)).toNat) Q = Q2 at hQ ⊢
    rw [e]
    exact l2_step Q2 hb hcap hal hlen hok hj hM hQ
  · obtain rfl : j = N := by omega
    rw [hs] at hM
    rw [e]
    exact l2_last _ hlen hj (fun a' f => hX a' w' f hM)
end Go.Proofs.YtlmgikhgmbjfdaaDoor.Dig
/- The walk over the reference's digest in pieces: the bytes that come out. -/
namespace Go.Proofs.YtlmgikhgmbjfdaaDoor.Dig
open Go Go.RowKit Go.Proofs.YtlmgikhgmbjfdaaDoor.QDig Go.Proofs.YtlmgikhgmbjfdaaDoorW.PrintWords Go.Proofs.YtlmgikhgmbjfdaaDoorW.PrintLast Go.Proofs.YtlmgikhgmbjfdaaDoorW.PrintMore Gy

structure Fr8 (w : World) (gb : Nat) (a : Act) : Prop where
  size : a.tmps.size = 242
  defers : a.defers = []
  t2 : a.tmps.getD 2 undef = .pointer (some ⟨w.heap.size, 0, none⟩)
  t4 : a.tmps.getD 4 undef = .pointer (some ⟨w.heap.size + 1 + 1, 0, none⟩)
  t18 : a.tmps.getD 18 undef = .pointer (some ⟨gb, 0, none⟩)
structure Out8 (w wr : World) (gb : Nat) (s : St) (m : Nat) : Prop where
  O : OutAt w wr gb s m
  H : Arr wr (w.heap.size + 1 + 1) (n64 s.nats)
  o : w.heap.size + 1 + 1 + 1 ≤ gb
theorem and255 (x : Nat) (h : x < 4294967296) : Go.bits .and .u64 (x : Int) 255 = ((x % 256 : Nat) : Int) := by
  have h1 := Go.bits_and_u64_nat x 255 (by omega) (by omega)
  have h2 := Nat.and_two_pow_sub_one_eq_mod x 8
  rw [show (2 ^ 8 - 1 : Nat) = 255 from rfl] at h2
  rw [h2] at h1
  exact h1
theorem byte_form8 (x k : Nat) (h : x < 4294967296) : Go.bits .and .u64 ((x : Int) / 2 ^ k) 255 % 256 = ((x / 2 ^ k % 256 : Nat) : Int) := by
  have e : (x : Int) / 2 ^ k = ((x / 2 ^ k : Nat) : Int) := by norm_cast
  have hl : x / 2 ^ k < 4294967296 := Nat.lt_of_le_of_lt (Nat.div_le_self _ _) h
  rw [e, and255 _ hl]
  omega
theorem parts (m : Nat) (h : m < 32) : ∃ i j : Nat, Int.tdiv (m : Int) 4 = (i : Int) ∧ Int.tmod (m : Int) 4 = (j : Int) ∧ i < 8 ∧ j < 4 ∧ m = 4 * i + j := by
  refine ⟨m / 4, m % 4, ?_, ?_, by omega, by omega, by omega⟩
  · rw [Int.tdiv_eq_ediv_of_nonneg (by omega)]; omega
  · rw [Int.tmod_eq_emod_of_nonneg (by omega)]; omega
set_option maxHeartbeats 2000000 in
set_option maxRecDepth 100000 in
theorem l8_step {u0 u1 u3 u5 u6 u7 u8 u9 u10 u11 u12 u13 u14 u15 u16 u17 u19 u20 u21 u22 u23 u24 u25 u26 u27 u28 u29 u30 u31 u32 u33 u34 u35 u36 u37 u38 u39 u40 u41 u42 u43 u44 u45 u46 u47 u48 u49 u50 u51 u52 u53 u54 u55 u56 u57 u58 u59 u60 u61 u62 u63 u64 u65 u66 u67 u68 u69 u70 u71 u72 u73 u74 u75 u76 u77 u78 u79 u80 u81 u82 u83 u84 u85 u86 u87 u88 u89 u90 u91 u92 u93 u94 u95 u96 u97 u98 u99 u100 u101 u102 u103 u104 u105 u106 u107 u108 u109 u110 u111 u112 u113 u114 u115 u116 u117 u118 u119 u120 u121 u122 u123 u124 u125 u126 u127 u128 u129 u130 u131 u132 u133 u134 u135 u136 u137 u138 u139 u140 u141 u142 u143 u144 u145 u146 u147 u148 u149 u150 u151 u152 u153 u154 u155 u156 u157 u158 u159 u160 u161 u162 u163 u164 u165 u166 u167 u168 u169 u170 u171 u172 u173 u174 u175 u176 u177 u178 u179 u180 u181 u182 u183 u184 u185 u186 u187 u188 u189 u190 u191 u192 u193 u194 u195 u196 u197 u198 u199 u200 u201 u202 u203 u204 u205 u206 u207 u208 u209 u210 u211 u212 u213 u214 u215 u216 u217 u218 u219 u220 u221 u222 u224 u225 u226 u227 u228 u229 u230 u231 u232 u233 u234 u235 u236 u237 u238 u239 u240 u241 : Value} {w wr : World} {gb m : Nat} {s : St} (Q : Exit → Act → World → Prop) (hok : s.ok) (hm : m < 32) (hM : Out8 w wr gb s m)
    (hQ : ∀ a' w', Fr8 w gb a' → a'.tmps.getD 223 undef = .int .i64 ((m : Int) + 1) → Out8 w w' gb s (m + 1) → Q .normal a' w') :
    Code.wp Tryd.prog (bodyOf 7) Q ⟨#[u0, u1, .pointer (some ⟨w.heap.size, 0, none⟩), u3, .pointer (some ⟨w.heap.size + 1 + 1, 0, none⟩), u5, u6, u7, u8, u9, u10, u11, u12, u13, u14, u15, u16, u17, .pointer (some ⟨gb, 0, none⟩), u19, u20, u21, u22, u23, u24, u25, u26, u27, u28, u29, u30, u31, u32, u33, u34, u35, u36, u37, u38, u39, u40, u41, u42, u43, u44, u45, u46, u47, u48, u49, u50, u51, u52, u53, u54, u55, u56, u57, u58, u59, u60, u61, u62, u63, u64, u65, u66, u67, u68, u69, u70, u71, u72, u73, u74, u75, u76, u77, u78, u79, u80, u81, u82, u83, u84, u85, u86, u87, u88, u89, u90, u91, u92, u93, u94, u95, u96, u97, u98, u99, u100, u101, u102, u103, u104, u105, u106, u107, u108, u109, u110, u111, u112, u113, u114, u115, u116, u117, u118, u119, u120, u121, u122, u123, u124, u125, u126, u127, u128, u129, u130, u131, u132, u133, u134, u135, u136, u137, u138, u139, u140, u141, u142, u143, u144, u145, u146, u147, u148, u149, u150, u151, u152, u153, u154, u155, u156, u157, u158, u159, u160, u161, u162, u163, u164, u165, u166, u167, u168, u169, u170, u171, u172, u173, u174, u175, u176, u177, u178, u179, u180, u181, u182, u183, u184, u185, u186, u187, u188, u189, u190, u191, u192, u193, u194, u195, u196, u197, u198, u199, u200, u201, u202, u203, u204, u205, u206, u207, u208, u209, u210, u211, u212, u213, u214, u215, u216, u217, u218, u219, u220, u221, u222, .int .i64 (m : Int), u224, u225, u226, u227, u228, u229, u230, u231, u232, u233, u234, u235, u236, u237, u238, u239, u240, u241], []⟩ wr := by
  conv => arg 2; whnf
  have HQ := Lib.hid hQ
  have t5 : decide ((m : Int) < 32) = true := decide_eq_true (by omega)
  have bm : (m : Int) < 32 := by omega
  obtain ⟨i, k, q1, r1, bi, bj, hm2⟩ := parts m hm
  have ck : wr.cell? ⟨w.heap.size + 1 + 1, i, none⟩ = some (.int .u64 ((s.nats.getD i 0 : Nat) : Int)) := hM.H.cell (n64_at (show i < s.nats.length from bi))
  have lx := nats_lt hok i bi
  have hO := hM.O
  rw [hm2] at hO
  obtain ⟨v0, c0, f0⟩ := hO.cell bi bj
  have hst := hO.set bi bj
  rw [← hm2] at c0 f0 hst
  have HST := Lib.hid (show Out8 w _ gb s (m + 1) from ⟨hst, hM.H.far (by have := hM.o; omega) _ _, hM.o⟩)
  generalize s.nats.getD i 0 = x at ck lx HST
  have HB := Lib.hid (fun k => byte_form8 x k lx)
  clear hQ hM hst hO hok hm2
  go_wp2
  rw [HB.out]
  exact HQ.out _ _ ⟨rfl, rfl, rfl, rfl, rfl⟩ rfl HST.out
set_option maxHeartbeats 2000000 in
set_option maxRecDepth 100000 in
theorem l8_last {u0 u1 u3 u5 u6 u7 u8 u9 u10 u11 u12 u13 u14 u15 u16 u17 u19 u20 u21 u22 u23 u24 u25 u26 u27 u28 u29 u30 u31 u32 u33 u34 u35 u36 u37 u38 u39 u40 u41 u42 u43 u44 u45 u46 u47 u48 u49 u50 u51 u52 u53 u54 u55 u56 u57 u58 u59 u60 u61 u62 u63 u64 u65 u66 u67 u68 u69 u70 u71 u72 u73 u74 u75 u76 u77 u78 u79 u80 u81 u82 u83 u84 u85 u86 u87 u88 u89 u90 u91 u92 u93 u94 u95 u96 u97 u98 u99 u100 u101 u102 u103 u104 u105 u106 u107 u108 u109 u110 u111 u112 u113 u114 u115 u116 u117 u118 u119 u120 u121 u122 u123 u124 u125 u126 u127 u128 u129 u130 u131 u132 u133 u134 u135 u136 u137 u138 u139 u140 u141 u142 u143 u144 u145 u146 u147 u148 u149 u150 u151 u152 u153 u154 u155 u156 u157 u158 u159 u160 u161 u162 u163 u164 u165 u166 u167 u168 u169 u170 u171 u172 u173 u174 u175 u176 u177 u178 u179 u180 u181 u182 u183 u184 u185 u186 u187 u188 u189 u190 u191 u192 u193 u194 u195 u196 u197 u198 u199 u200 u201 u202 u203 u204 u205 u206 u207 u208 u209 u210 u211 u212 u213 u214 u215 u216 u217 u218 u219 u220 u221 u222 u224 u225 u226 u227 u228 u229 u230 u231 u232 u233 u234 u235 u236 u237 u238 u239 u240 u241 : Value} {w wr : World} {gb m : Nat} (Q : Exit → Act → World → Prop) (hm : ¬ m < 32)
    (hQ : ∀ a', Fr8 w gb a' → Q (.exit 14) a' wr) :
    Code.wp Tryd.prog (bodyOf 7) Q ⟨#[u0, u1, .pointer (some ⟨w.heap.size, 0, none⟩), u3, .pointer (some ⟨w.heap.size + 1 + 1, 0, none⟩), u5, u6, u7, u8, u9, u10, u11, u12, u13, u14, u15, u16, u17, .pointer (some ⟨gb, 0, none⟩), u19, u20, u21, u22, u23, u24, u25, u26, u27, u28, u29, u30, u31, u32, u33, u34, u35, u36, u37, u38, u39, u40, u41, u42, u43, u44, u45, u46, u47, u48, u49, u50, u51, u52, u53, u54, u55, u56, u57, u58, u59, u60, u61, u62, u63, u64, u65, u66, u67, u68, u69, u70, u71, u72, u73, u74, u75, u76, u77, u78, u79, u80, u81, u82, u83, u84, u85, u86, u87, u88, u89, u90, u91, u92, u93, u94, u95, u96, u97, u98, u99, u100, u101, u102, u103, u104, u105, u106, u107, u108, u109, u110, u111, u112, u113, u114, u115, u116, u117, u118, u119, u120, u121, u122, u123, u124, u125, u126, u127, u128, u129, u130, u131, u132, u133, u134, u135, u136, u137, u138, u139, u140, u141, u142, u143, u144, u145, u146, u147, u148, u149, u150, u151, u152, u153, u154, u155, u156, u157, u158, u159, u160, u161, u162, u163, u164, u165, u166, u167, u168, u169, u170, u171, u172, u173, u174, u175, u176, u177, u178, u179, u180, u181, u182, u183, u184, u185, u186, u187, u188, u189, u190, u191, u192, u193, u194, u195, u196, u197, u198, u199, u200, u201, u202, u203, u204, u205, u206, u207, u208, u209, u210, u211, u212, u213, u214, u215, u216, u217, u218, u219, u220, u221, u222, .int .i64 (m : Int), u224, u225, u226, u227, u228, u229, u230, u231, u232, u233, u234, u235, u236, u237, u238, u239, u240, u241], []⟩ wr := by
  conv => arg 2; whnf
  have HQ := Lib.hid hQ
  have t5 : decide ((m : Int) < 32) = false := by simp; omega
  clear hQ
  go_wp2
  exact HQ.out _ ⟨rfl, rfl, rfl, rfl, rfl⟩
set_option maxRecDepth 100000 in
theorem l8_loop {w wr : World} {gb : Nat} {s : St} {a : Act} (Q : Exit → Act → World → Prop) (hok : s.ok) (hF : Fr8 w gb a) (h223 : a.tmps.getD 223 undef = .int .i64 0) (hM : Out8 w wr gb s 0)
    (hX : ∀ a' w', Fr8 w gb a' → Out8 w w' gb s 32 → Q (.exit 14) a' w') : Code.wp Tryd.prog (Code.loop (bodyOf 7)) Q a wr := by
  refine wp_loop (fun a w' => ∃ m : Nat, m ≤ 32 ∧ Fr8 w gb a ∧ a.tmps.getD 223 undef = .int .i64 (m : Int) ∧ Out8 w w' gb s m) (fun a _ => 32 - (intOf (a.tmps.getD 223 undef)).toNat) ⟨0, by omega, hF, h223, hM⟩ ?_
  rintro a w' ⟨m, h2, hF, h9, hM⟩
  have e := frame_out a hF.size hF.defers
  rw [hF.t2, hF.t4, hF.t18, h9] at e
  by_cases hm : m < 32
  · have hQ : ∀ a' w'', Fr8 w gb a' → a'.tmps.getD 223 undef = .int .i64 ((m : Int) + 1) → Out8 w w'' gb s (m + 1) → Exit.then (fun a' w' => (∃ m : Nat, m ≤ 32 ∧ Fr8 w gb a' ∧ a'.tmps.getD 223 undef = .int .i64 (m : Int) ∧ Out8 w w' gb s m) ∧ 32 - (intOf (a'.tmps.getD 223 undef)).toNat < 32 - (intOf (a.tmps.getD 223 undef)).toNat) Q .normal a' w'' :=
      fun a' w'' f1 f2 f3 => ⟨⟨m + 1, hm, f1, f2, f3⟩, mu_at 223 32 h9 f2 hm⟩
    generalize Exit.then (fun a' w' => (∃ m : Nat, m ≤ 32 ∧ Fr8 w gb a' ∧ a'.tmps.getD 223 undef = .int .i64 (m : Int) ∧ Out8 w w' gb s m) ∧ 32 - (intOf (a'.tmps.getD 223 undef)).toNat < 32 - (intOf (a.tmps.getD 223 undef)).toNat) Q = Q2 at hQ ⊢
    rw [e]
    exact l8_step Q2 hok hm hM hQ
  · obtain rfl : m = 32 := by omega
    rw [e]
    exact l8_last _ hm (fun a' f => hX a' w' f hM)
theorem out8_start {w wr : World} {g : Nat} {al : List Int} {t : St} (h : RefC w wr g al t.nats) (z32 : Array Value) (h32 : z32 = (nums .u8 (List.replicate 32 0)).toArray) : Out8 w (wr.alloc (.cells z32 36)) wr.heap.size t 0 := by
  have h1 := h.H.lt
  exact ⟨⟨h.R.alloc _, Arr.fresh wr _ z32 (by rw [bPart_zero]; exact h32) _, h.B.alloc (by omega) _, by omega⟩, h.H.alloc _, by omega⟩
end Go.Proofs.YtlmgikhgmbjfdaaDoor.Dig
/- The walk over the reference's digest: it is SHA-256. -/
namespace Go.Proofs.YtlmgikhgmbjfdaaDoor.Dig
open Go Go.RowKit Go.Proofs.YtlmgikhgmbjfdaaDoor.QDig Go.Proofs.YtlmgikhgmbjfdaaDoorW.PrintWords Go.Proofs.YtlmgikhgmbjfdaaDoorW.PrintLast Go.Proofs.YtlmgikhgmbjfdaaDoorW.PrintMore Gy

set_option maxHeartbeats 1000000 in
set_option maxRecDepth 100000 in
theorem ref_calls (A : Option Addr) (n c : Nat) (xs : List Int) (w : World) (hR : ReadsInt w .u8 A n xs) (hb : Bytes xs) (hx : xs.length ≤ 1000000) :
    Calls Tryd.prog 12 #[.slice A n c] w fun e w' => e = .returned (.agg (nums .u8 (sha xs)).toArray) ∧ Below w.heap.size w w' := by
  obtain rfl : xs.length = n := hR.1
  obtain ⟨al, hal⟩ : ∃ al, al = padded xs := ⟨_, rfl⟩
  obtain ⟨N, hN⟩ : ∃ N, N = padN xs.length / 64 := ⟨_, rfl⟩
  obtain ⟨fin, hfin⟩ : ∃ f, f = mixAll kTab al Gy.begun N := ⟨_, rfl⟩
  obtain ⟨bl, hbl⟩ : ∃ b, b = bytes32 fin := ⟨_, rfl⟩
  have hsha : sha xs = bl := by rw [hbl, hfin, hal, hN]; rfl
  have hlen : al.length = 64 * N := by rw [hal, padded_length, hN]; unfold padN; omega
  have hbn : 64 * N ≤ 1000072 := by rw [hN]; unfold padN; omega
  have hba : Bytes al := by rw [hal]; exact padded_bytes hb
  have hpos : 0 < al.length := by rw [hal, padded_length]; have := padN_le xs.length; omega
  rw [hsha]
  have hbl2 : bl.length = 32 := by rw [hbl, bytes32_length]
  have HBL := Lib.hid (And.intro hbl hbl2)
  clear hbl hbl2
  have HL := Lib.hid (And.intro hal (And.intro hlen (And.intro hbn (And.intro hba (And.intro hfin hpos)))))
  clear hal hN hfin hsha hlen hbn hba hpos
  obtain ⟨z32, hz32, hzr⟩ := zero_32
  obtain ⟨zt, hzt, hz64⟩ := zero_64w
  obtain ⟨zs, hzs, hz8⟩ := zero_8w
  have HR := Lib.hid (And.intro hR (And.intro hb hx))
  have HZ := Lib.hid (And.intro hz32 (And.intro hzt hzs))
  clear hR hb hx hz32 hzt hzs
  go_enter Tryd.func12, Tryd.ntmps12
  go_wp2_with (first
    | ((with_reducible refine gate_dst (N := 20) rfl ?_); refine run_value (d := 20) (v := .agg (n64 kTab).toArray) rfl rfl ?hr ?_; (case hr => kernel_rfl); simp only [Act.put, List.setIfInBounds_toArray, List.set_cons_zero, List.set_cons_succ])
    | (with_reducible refine store_row rfl 70 (.tmp 3) (.tmp 20) rfl rfl (w.heap.size + 1) (n64 kTab) rfl rfl (ref_k w z32 zt HZ.out.1 HZ.out.2.1).1 info_64w (n64_one kTab) ?_; (have F := Lib.hid (ref_k w z32 zt HZ.out.1 HZ.out.2.1).2); (generalize (((w.alloc (.cells z32 36)).alloc (.cells zt 70)).setCells (w.heap.size + 1) 0 (n64 kTab)) = X2 at F ⊢); have szF := F.out.sz)
    | ((with_reducible refine gate_dst (N := 21) rfl ?_); refine run_value (d := 21) (v := .agg (n64 Gy.begun.nats).toArray) rfl rfl ?hr ?_; (case hr => kernel_rfl); simp only [Act.put, List.setIfInBounds_toArray, List.set_cons_zero, List.set_cons_succ])
    | (with_reducible refine store_row rfl 71 (.tmp 4) (.tmp 21) rfl rfl (w.heap.size + 1 + 1) (n64 Gy.begun.nats) rfl rfl (ref_h F.out zs HZ.out.2.2 Gy.begun).1 (info_8b _) (n64_one _) ?_; (have G := Lib.hid (ref_h F.out zs HZ.out.2.2 Gy.begun).2); (generalize ((X2.alloc (.cells zs 71)).setCells (w.heap.size + 1 + 1) 0 (n64 Gy.begun.nats)) = W2 at G ⊢); clear szF F; have szG := G.out.sz)
    | (at_builtin; refine print_append_row (w0 := W2) (w.heap.size + 1 + 1 + 1) rfl (.tmp 22) (.tmp 23) 39 5 .u8 1 rfl Tryd.underlying39 info_u8 (by decide) (.slice (some ⟨w.heap.size + 1 + 1 + 1, 0, none⟩) 0 0) [] xs A xs.length c rfl rfl (gro_start G.out).own (Gy.reads_below HR.out.1 (G.out.B.trans ((Gy.alloc_below W2 _).mono G.out.B.size))) (gro_start G.out).bel (gro_start G.out).base (by have := HR.out.2.2; simp; omega) ?_; intro v1 w1 ho hb hgr hat; rw [List.nil_append] at ho; obtain ⟨A1, c1, rfl, hg1⟩ := gro_next (gro_start G.out).le ho hb xs.length rfl; have E1 := Lib.hid hg1; clear ho hb hgr hat hg1)
    | (at_builtin; refine print_append_row (w0 := W2) (w.heap.size + 1 + 1 + 1) rfl (.tmp 24) (.tmp 25) 39 5 .u8 1 rfl Tryd.underlying39 info_u8 (by decide) (.slice A1 xs.length c1) xs [128] (some ⟨w1.heap.size, 0, none⟩) 1 1 rfl rfl (E1.out.alloc _).own' (one_read w1 128) (E1.out.alloc _).bel (E1.out.alloc _).base (by have := HR.out.2.2; omega) ?_; intro v2 w2 ho hb hgr hat; rw [grown_zero] at ho; obtain ⟨A2, c2, rfl, hg2⟩ := gro_next (gro_start G.out).le ho hb (xs.length + 1) (grown_length xs 0).symm; have E2 := Lib.hid hg2; clear ho hb hgr hat hg2))
  have HP0 := Lib.hid (show Lp w W2 w2 xs (.slice A2 (xs.length + 1) c2) (xs.length + 1) 0 from ⟨E2.out, rfl, by have := padN_le xs.length; omega⟩)
  clear E1 E2
  go_loopw [5] (fun v5 wr => ∃ (q m : Nat) (A3 : Option Addr) (c3 : Nat), v5 = .slice A3 q c3 ∧ Gy.Hd (Lp w W2 wr xs (.slice A3 q c3) q m)) (fun v5 _ => padN xs.length - sliceLen v5)
  case atStart => exact ⟨_, 0, A2, c2, rfl, ⟨HP0.out⟩⟩
  case round =>
    obtain ⟨q, m, A3, c3, rfl, hH⟩ := hrel
    clear HP0
    by_cases hq : q % 64 = 56
    · obtain ⟨t1, t2, t3, t4⟩ := (pad_tests q).1 hq
      have HQ := Lib.hid (show xs.length + 1 + m = padN xs.length - 8 from by have h1 := hH.out.eq; have h2 := hH.out.le; have h3 := (pad_more xs.length m (by omega)).1 (by omega); omega)
      have hqb : q ≤ 1000072 := by have h1 := hH.out.le; have h2 := HR.out.2.2; unfold padN at h1; omega
      have hxb := HR.out.2.2
      clear hq
      go_wp2_with (first
        | (go_at_call 31; (with_reducible refine (Wide_at _ (xs.length * 8) 8 8 _ (by omega) rfl (by omega) (by omega)).mono ?_); rintro e w4 ⟨A4, c4, rfl, e1, e2⟩; have E4 := Lib.hid (And.intro (hH.out.G.below e2) e1); clear e1 e2)
        | (at_builtin; refine print_append_row (w0 := W2) (w.heap.size + 1 + 1 + 1) rfl (.tmp 34) (.tmp 39) 39 5 .u8 1 rfl Tryd.underlying39 info_u8 (by decide) (.slice A3 q c3) (grown xs m) (wideN (xs.length * 8) 8) A4 8 c4 rfl rfl E4.out.1.own' E4.out.2 E4.out.1.bel E4.out.1.base (by rw [grown_length]; have h1 := hH.out.eq; omega) ?_; intro v5 w5 ho hb hgr hat; rw [grown_end xs m HQ.out, ← HL.out.1] at ho; obtain ⟨A5, c5, rfl, hg5⟩ := gro_next (gro_start G.out).le ho hb al.length rfl; obtain ⟨g, rfl, hcap, hC⟩ := gro_ref G.out hg5 HL.out.2.2.2.2.2 (by have := HL.out.2.1; have := HL.out.2.2.1; omega); have E5 := Lib.hid (And.intro hcap hC); clear ho hb hgr hat hg5 hcap hC))
      clear t1 t2 t3 t4 hqb hxb hH HQ E4
      have HF := Lib.hid HL.out.2.2.2.2.1
      refine l2_loop (N := N) _ HL.out.2.2.2.1 E5.out.1 (by have h1 := HL.out.2.1; have h2 := HL.out.2.2.1; omega) HL.out.2.1 ⟨rfl, rfl, rfl, rfl, rfl, rfl, rfl⟩ E5.out.2 ?_
      intro a w6 hF hM
      rw [← HF.out] at hM
      obtain ⟨v, hv, e⟩ := frame_fn a hF.size hF.defers
      rw [(hv 2).trans hF.t2, (hv 4).trans hF.t4] at e
      rw [e]
      have HO := Lib.hid (out8_start hM z32 HZ.out.1)
      clear e hF hv hM E5
      go_wp2
      generalize w6.heap.size = gb at HO ⊢
      refine l8_loop (s := fin) _ (by rw [HF.out]; exact mixAll_ok begun_ok N) ⟨rfl, rfl, rfl, rfl, rfl⟩ rfl HO.out ?_
      intro a w7 hF hM
      obtain ⟨v2, hv, e⟩ := frame_fn a hF.size hF.defers
      rw [(hv 2).trans hF.t2, (hv 18).trans hF.t18] at e
      rw [e]
      have hq := hM.O
      have HO32 := hq.O
      rw [bPart_all, ← HBL.out.1] at HO32
      have HM := Lib.hid HO32
      have HB := Lib.hid (And.intro (hq.R.there2 (nums .u8 bl) (len_32 HBL.out.2)) (And.intro ((hq.R.put (nums .u8 bl) (len_32 HBL.out.2)).loadV (P := Tryd.prog) Tryd.underlying36 rfl (info_32a HBL.out.2)) (setCells_below (Nat.le_refl _) (nums .u8 bl) 0 hq.B)))
      clear e hF hv hM hq HO32 HO
      go_wp2_with (first
        | (with_reducible refine wpList_load_mid rfl 36 (.tmp 18) rfl gb 0 rfl (nums .u8 bl) _ HM.out.at_ Tryd.underlying36 rfl (info_32a HBL.out.2) ?_)
        | (with_reducible refine store_row rfl 36 (.tmp 2) (.tmp 241) rfl rfl w.heap.size (nums .u8 bl) rfl rfl HB.out.1 (info_32b HBL.out.2) (nums_one _ _) ?_))
      exact bodyPost_ret (results_arr rfl rfl HB.out.2.1) rfl ⟨rfl, HB.out.2.2⟩
    · obtain ⟨t1, t2, t3, t4⟩ := (pad_tests q).2 hq
      have HQ := Lib.hid (show q + 1 = xs.length + 1 + (m + 1) ∧ q < padN xs.length - 8 from by have h1 := hH.out.eq; have h2 := hH.out.le; have h3 := (pad_more xs.length m (by omega)).2 (by omega); omega)
      have hqb : q ≤ 1000072 := by have h1 := hH.out.le; have h2 := HR.out.2.2; unfold padN at h1; omega
      clear hq
      go_wp2_with (at_builtin; refine print_append_row (w0 := W2) (w.heap.size + 1 + 1 + 1) rfl (.tmp 31) (.tmp 32) 39 5 .u8 1 rfl Tryd.underlying39 info_u8 (by decide) (.slice A3 q c3) (grown xs m) [0] (some ⟨wr.heap.size, 0, none⟩) 1 1 rfl rfl (hH.out.G.alloc _).own' (one_read wr 0) (hH.out.G.alloc _).bel (hH.out.G.alloc _).base (by rw [grown_length]; have h1 := hH.out.eq; omega) ?_; intro v4 w4 ho hb hgr hat; rw [grown_next] at ho; obtain ⟨A4, c4, rfl, hg4⟩ := gro_next (gro_start G.out).le ho hb (q + 1) (by rw [grown_length]; exact HQ.out.1); have E4 := Lib.hid hg4; clear ho hb hgr hat hg4)
      exact ⟨⟨q + 1, m + 1, A4, c4, rfl, ⟨E4.out, HQ.out.1, HQ.out.2⟩⟩, end_pad (by have := HQ.out.2; omega)⟩
end Go.Proofs.YtlmgikhgmbjfdaaDoor.Dig
/- Arrays of bytes held against each other. -/
namespace Gy
open Go Go.RowKit Go.Proofs.YtlmgikhgmbjfdaaDoorW.PrintWords Go.Proofs.YtlmgikhgmbjfdaaDoorW.PrintMore

theorem run_eqItems_bytes {P : Program} (w : World) (d : Nat) {e : TypeId} (he : P.underlying e = some (.int .u8)) (xs ys : List Int) : ∀ (is : List Nat), (∀ i ∈ is, i < xs.length ∧ i < ys.length) →
    (Op.eqItems (d + 1) e 1 (nums .u8 xs).toArray (nums .u8 ys).toArray is).run P w = .ok (is.all fun i => xs.getD i 0 == ys.getD i 0) w := by
  intro is
  induction is with
  | nil => intro _; rfl
  | cons i is ih =>
    intro h
    have hp : P.plainKey e = true := by unfold Program.plainKey; rw [he]
    obtain ⟨h1, h2⟩ := h i List.mem_cons_self
    have k1 : (nums .u8 xs).toArray[i * 1]? = some (.int .u8 (xs.getD i 0)) := by rw [Nat.mul_one, List.getElem?_toArray]; exact nums_getD h1
    have k2 : (nums .u8 ys).toArray[i * 1]? = some (.int .u8 (ys.getD i 0)) := by rw [Nat.mul_one, List.getElem?_toArray]; exact nums_getD h2
    have ih := ih (fun j hj => h j (List.mem_cons_of_mem _ hj))
    simp only [Op.eqItems, Sem.run_bind, run_part_plain w hp k1, run_part_plain w hp k2, Result.andThen_ok, run_equalIn_int w d e .u8 .u8 _ _ he, List.all_cons]
    cases hb : (xs.getD i 0 == ys.getD i 0) with
    | true => simp [ih]
    | false => simp
theorem all_eq {xs ys : List Int} {n : Nat} (hx : xs.length = n) (hy : ys.length = n) : ((List.range n).all fun i => xs.getD i 0 == ys.getD i 0) = decide (xs = ys) := by
  rw [Bool.eq_iff_iff, List.all_eq_true, decide_eq_true_eq]
  constructor
  · intro h
    apply List.ext_getElem (by omega)
    intro i h1 h2
    have := h i (List.mem_range.2 (by omega))
    simpa [List.getD_eq_getElem?_getD, h1, h2] using this
  · rintro rfl i _
    simp
theorem run_eql_arr {P : Program} (w : World) (t e : TypeId) (n : Nat) {i : TypeInfo} (hu : P.underlying t = some (.array n e)) (hi : P.info? e = some i) (hc : P.cellsOf e = 1) (he : P.underlying e = some (.int .u8)) (xs ys : List Int) (hx : xs.length = n) (hy : ys.length = n) :
    (binOp .eql t (.agg (nums .u8 xs).toArray) (.agg (nums .u8 ys).toArray)).run P w = .ok (.bool (decide (xs = ys))) w := by
  have h1 : (Op.equal t (.agg (nums .u8 xs).toArray) (.agg (nums .u8 ys).toArray)).run P w = .ok (decide (xs = ys)) w := by
    unfold Op.equal
    rw [show Op.maxDepth = 9998 + 1 + 1 from rfl, run_equalIn_array w (9998 + 1) _ _ hu hi, hc, run_eqItems_bytes w 9998 he xs ys _ (fun j hj => by have := List.mem_range.1 hj; omega), all_eq hx hy]
  simp only [binOp, Sem.run_bind, h1, Result.andThen_ok]
  rfl
end Gy
/- What an argument's data are, kind by kind: slices of slices, of structs, of texts. -/
namespace Gy
open Go Go.RowKit Go.Proofs.YtlmgikhgmbjfdaaDoorW.PrintWords
section
variable {P : Program}

theorem list_of {α : Type} (n : Nat) (Q : Nat → α → Prop) (h : ∀ i, i < n → ∃ a, Q i a) : ∃ xs : List α, xs.length = n ∧ ∀ j p, xs[j]? = some p → Q j p := by
  induction n with
  | zero => exact ⟨[], rfl, fun j p h => by simp at h⟩
  | succ n ih =>
    obtain ⟨xs, hl, hx⟩ := ih (fun i hi => h i (by omega))
    obtain ⟨a, ha⟩ := h n (by omega)
    refine ⟨xs ++ [a], by simp [hl], fun j p hj => ?_⟩
    rcases Nat.lt_or_ge j xs.length with hj' | hj'
    · rw [List.getElem?_append_left hj'] at hj
      exact hx j p hj
    · rw [List.getElem?_append_right hj'] at hj
      have h0 : j - xs.length = 0 := by
        rcases Nat.eq_zero_or_pos (j - xs.length) with h | h
        · exact h
        · rw [List.getElem?_eq_none (by simp; omega)] at hj; exact absurd hj (by simp)
      rw [h0] at hj
      simp at hj
      subst hj
      have : j = n := by omega
      subst this
      exact ha

/-- Whatever can be read as a value of type t is of the kind d, and good. -/
def Opens (P : Program) (t : TypeId) {α : Type} (d : Kd α) (good : α → Prop) : Prop :=
  P.cellsOf t = d.sz ∧ ∀ (H : Type) (enc : TypeId × Value → H) (W : World) (base : Nat) (held : Bool) (fuel : Nat) (cs : List Value) (x : DataW H × List MemPlace),
    DataW.trod enc P W base (fun _ => true) held fuel t cs = some x → ∃ a, d.K W a cs ∧ good a

theorem Opens.int {t : TypeId} {k : IntKind} (ht : P.underlying t = some (.int k)) (hc : P.cellsOf t = 1) : Opens P t (Kd.int k) (fun n => (Lit.int k n).wf = true) := by
  refine ⟨hc, fun H enc W base held fuel cs x h => ?_⟩
  cases fuel with
  | zero => simp [DataW.trod] at h
  | succ n =>
    unfold DataW.trod at h
    rw [ht] at h
    split at h <;> simp_all
    exact ⟨_, rfl, h.1.2⟩
theorem Opens.bool {t : TypeId} (ht : P.underlying t = some .bool) (hc : P.cellsOf t = 1) : Opens P t Kd.bool (fun _ => True) := by
  refine ⟨hc, fun H enc W base held fuel cs x h => ?_⟩
  cases fuel with
  | zero => simp [DataW.trod] at h
  | succ n =>
    unfold DataW.trod at h
    rw [ht] at h
    split at h <;> first | exact ⟨_, rfl, trivial⟩ | simp_all
theorem Opens.string {t : TypeId} (ht : P.underlying t = some .string) (hc : P.cellsOf t = 1) : Opens P t Kd.string (fun s => s.size ≤ maxLen) := by
  refine ⟨hc, fun H enc W base held fuel cs x h => ?_⟩
  cases fuel with
  | zero => simp [DataW.trod] at h
  | succ n =>
    unfold DataW.trod at h
    rw [ht] at h
    split at h <;> simp_all
    exact ⟨_, rfl, h.1⟩
theorem Opens.slice {t e : TypeId} {α : Type} {d : Kd α} {good : α → Prop} (ht : P.underlying t = some (.slice e)) (hc : P.cellsOf t = 1) (he : Opens P e d good) :
    Opens P t (Kd.slice e d) (fun xs => xs.length ≤ 9223372036854775807 ∧ ∀ x ∈ xs, good x) := by
  refine ⟨hc, fun H enc W base held fuel cs x h => ?_⟩
  rcases DataW.trod_slice ht h with ⟨rfl, _⟩ | ⟨a, len, cap, elems, rest, n, _, rfl, _, hb, hl, hm, hlen, hel, _, _⟩
  · exact ⟨[], ⟨none, 0, rfl, Nat.le_refl _, rfl, by simp, fun h => absurd h (by simp)⟩, by simp, fun x hx => by simp at hx⟩
  · unfold maxLen at hm
    obtain ⟨xs, hxl, hx⟩ := list_of len (fun j p => (∃ c, c.length = d.sz ∧ d.K W p c ∧ ∀ i u, c[i]? = some u → W.cell? (a.add (j * d.sz + i)) = some u) ∧ good p) (fun i hi => by
      have h1 := hel i hi
      rw [he.1, List.getElem?_eq_getElem (by omega)] at h1
      obtain ⟨cs', h2, h3⟩ := Option.bind_eq_some_iff.1 h1
      obtain ⟨_, hl2, hc2⟩ := World.cells?_some h2
      obtain ⟨p, hp, hg⟩ := he.2 H enc W base held n cs' _ h3
      refine ⟨p, ⟨cs', hl2, hp, fun j u hj => ?_⟩, hg⟩
      have hjl : j < cs'.length := by
        rcases Nat.lt_or_ge j cs'.length with h | h
        · exact h
        · rw [List.getElem?_eq_none h] at hj; exact absurd hj (by simp)
      have h4 := hc2 j (by omega)
      rw [hj] at h4
      rw [← h4]
      congr 1
      unfold Addr.add
      split <;> split <;> simp_all <;> (try omega) <;> (try (split <;> simp_all <;> omega)))
    refine ⟨xs, ⟨some a, cap, by rw [hxl], by omega, rfl, by omega, fun _ => ⟨a, rfl, fun j p hj => (hx j p hj).1⟩⟩, by omega, fun x hx' => ?_⟩
    obtain ⟨j, hj⟩ := List.mem_iff_getElem?.1 hx'
    exact (hx j x hj).2

/-- Fields from the place off on. -/
def OpensAt (P : Program) (fs : List Field) (off : Nat) {α : Type} (d : Kd α) (good : α → Prop) : Prop :=
  ∀ (H : Type) (enc : TypeId × Value → H) (W : World) (base : Nat) (held : Bool) (n : Nat) (cs : List Value),
    (∀ f ∈ fs, ∃ y, DataW.trod enc P W base (fun _ => true) held n f.type ((cs.drop f.offset).take (P.cellsOf f.type)) = some y) → cs.length = off + d.sz → ∃ a, d.K W a (cs.drop off) ∧ good a
theorem OpensAt.one {f : Field} {off : Nat} {α : Type} {d : Kd α} {good : α → Prop} (ho : f.offset = off) (hf : Opens P f.type d good) : OpensAt P [f] off d good := by
  intro H enc W base held n cs h hl
  obtain ⟨y, hy⟩ := h f (by simp)
  rw [ho, hf.1, List.take_of_length_le (by rw [List.length_drop]; omega)] at hy
  exact hf.2 H enc W base held n _ _ hy
theorem OpensAt.cons {f : Field} {fs : List Field} {off : Nat} {α β : Type} {d : Kd α} {d' : Kd β} {good : α → Prop} {good' : β → Prop} (ho : f.offset = off) (hf : Opens P f.type d good) (hfs : OpensAt P fs (off + d.sz) d' good') :
    OpensAt P (f :: fs) off (Kd.pair d d') (fun x => good x.1 ∧ good' x.2) := by
  intro H enc W base held n cs h hl
  obtain ⟨y, hy⟩ := h f (by simp)
  rw [ho, hf.1] at hy
  obtain ⟨a, ha, hga⟩ := hf.2 H enc W base held n _ _ hy
  have hl' : cs.length = off + (d.sz + d'.sz) := hl
  obtain ⟨b, hb, hgb⟩ := hfs H enc W base held n cs (fun g hg => h g (by simp [hg])) (by omega)
  refine ⟨(a, b), ⟨_, _, ?_, ha, hb⟩, hga, hgb⟩
  rw [← List.drop_drop, List.take_append_drop]
theorem Opens.struct {t : TypeId} {fs : Array Field} {α : Type} {d : Kd α} {good : α → Prop} (ht : P.underlying t = some (.struct fs)) (hc : P.cellsOf t = d.sz) (hfs : OpensAt P fs.toList 0 d good) : Opens P t d good := by
  refine ⟨hc, fun H enc W base held fuel cs x h => ?_⟩
  obtain ⟨xs, n, _, _, hl, hxl, hx⟩ := DataW.trod_struct ht h
  have h2 := hfs H enc W base held n cs (fun f hf => by
    obtain ⟨i, hi, e⟩ := List.mem_iff_getElem.1 hf
    have h3 := hx i f (by rw [← Array.getElem?_toList, List.getElem?_eq_getElem hi, e])
    exact ⟨_, h3.trans (List.getElem?_eq_getElem (by rw [hxl]; simpa using hi))⟩) (by omega)
  rw [List.drop_zero] at h2
  exact h2
theorem Opens.iso {t : TypeId} {α β : Type} {d : Kd α} {good : α → Prop} (h : Opens P t d good) (f : β → α) (g : α → β) (hg : ∀ a, f (g a) = a) : Opens P t (Kd.iso d f) (fun b => good (f b)) := by
  refine ⟨h.1, fun H enc W base held fuel cs x hx => ?_⟩
  obtain ⟨a, ha, hga⟩ := h.2 H enc W base held fuel cs x hx
  exact ⟨g a, by show d.K W (f (g a)) cs; rw [hg]; exact ha, by show good (f (g a)); rw [hg]; exact hga⟩
/-- An argument that is a slice. -/
theorem Opens.arg {t e : TypeId} {α : Type} {d : Kd α} {good : List α → Prop} (h : Opens P t (Kd.slice e d) good) {H : Type} {enc : TypeId × Value → H} {W : World} {base : Nat} {held : Bool} {A : Option Addr} {n c : Nat} {x : DataW H} {ps : List MemPlace}
    (hx : DataW.Trod enc P W base (fun _ => true) held t (.slice A n c) x ps) : ∃ xs : List α, n = xs.length ∧ xs.length ≤ c ∧ d.C W A xs.length xs ∧ good xs := by
  obtain ⟨fuel, hf⟩ := hx
  obtain ⟨xs, ⟨A', c', e1, hl, hC⟩, hg⟩ := h.2 H enc W base held fuel _ _ hf
  have e2 : (.slice A n c : Value) = .slice A' xs.length c' := by simpa [Value.cells] using e1
  injection e2 with e3 e4 e5
  subst e3 e5
  exact ⟨xs, e4, hl, hC, hg⟩
end
end Gy
/- The reference's CRC, called, answers the plain word. -/
namespace Go.Proofs.YtlmgikhgmbjfdaaDoor.Pure
open Go Go.RowKit Go.Proofs.YtlmgikhgmbjfdaaDoor.QDig Go.Proofs.YtlmgikhgmbjfdaaDoorW.PrintWords Go.Proofs.YtlmgikhgmbjfdaaDoorW.PrintLast

theorem rcrc_bit {c b : Nat} (hc : c < 4294967296) (hb : b < 256) (i : Nat) (hi : i < 8) :
    (if (Go.bits .xor .u64 (Int.tmod (c : Int) 2) (IntKind.u64.wrap (Go.bits .and .u8 (shr .u8 (b : Int) (IntKind.u64.wrap (i : Int))) 1))) = 1
      then Go.bits .xor .u64 (IntKind.u64.wrap (Int.tdiv (c : Int) 2)) 3988292384 else IntKind.u64.wrap (Int.tdiv (c : Int) 2)) = ((Gy.cstep (c ^^^ (b / 2 ^ i) % 2) : Nat) : Int) := by
  have es : shr .u8 (b : Int) (IntKind.u64.wrap (i : Int)) = ((b / 2 ^ i : Nat) : Int) := by
    unfold shr
    rw [Gy.u64_wrap_id (by omega) (by omega)]
    have e : min ((i : Int)).toNat (IntKind.bits .u8) = i := by show min i 8 = i; omega
    rw [e]
    norm_cast
  have hle : b / 2 ^ i < 256 := Nat.lt_of_le_of_lt (Nat.div_le_self _ _) hb
  rw [es, Gy.u8_and1 _ hle]
  have hd : b / 2 ^ i % 2 < 2 := Nat.mod_lt _ (by omega)
  generalize b / 2 ^ i % 2 = t at *
  rw [Gy.u64_wrap_id (n := (t : Int)) (by omega) (by omega), Int.tmod_eq_emod_of_nonneg (by omega), Int.tdiv_eq_ediv_of_nonneg (by omega)]
  rw [show (c : Int) % 2 = ((c % 2 : Nat) : Int) from by omega, show (c : Int) / 2 = ((c / 2 : Nat) : Int) from by omega]
  rw [Gy.u64_wrap_id (n := ((c / 2 : Nat) : Int)) (by omega) (by omega), Go.u64_xor_nat _ _ (by omega) (by omega)]
  have e1 : (c ^^^ t) % 2 = (c % 2) ^^^ t := by rw [Gy.xor_mod2, Nat.mod_eq_of_lt hd]
  have e2 : (c ^^^ t) / 2 = c / 2 := by rw [Gy.xor_div2, Nat.div_eq_of_lt hd, Nat.xor_zero]
  unfold Gy.cstep
  rw [e1, e2]
  have ep : Go.bits .xor .u64 ((c / 2 : Nat) : Int) 3988292384 = ((c / 2 ^^^ 3988292384 : Nat) : Int) := Go.u64_xor_nat (c / 2) 3988292384 (by omega) (by omega)
  rw [ep]
  by_cases h : c % 2 ^^^ t = 1
  · rw [if_pos (by omega), if_pos h]
  · rw [if_neg (by omega), if_neg h]
theorem ite_call {c : Prop} [Decidable c] (g : Int → Option Int) (x y : Int) : (if c then g x else g y) = g (if c then x else y) := by split <;> rfl
theorem rcrc_l1 : ∀ (n c i j k : Nat) (l : List Int) (b : Nat) (hj : j < l.length), l[j] = (b : Int) → i + n = 8 → c < 4294967296 → b < 256 → l.length ≤ 9223372036854775807 → n < k →
    geyserref01_CRC.l1 k l c j (l.length : Int) j i = geyserref01_CRC.l0 (k - n - 1) l ((Gy.cbits n (b / 2 ^ i) c : Nat) : Int) (l.length : Int) ((j + 1 : Nat) : Int) := by
  intro n
  induction n with
  | zero =>
    intro c i j k l b hj hb hi hc hb2 hl hk
    obtain ⟨k, rfl⟩ : ∃ m, k = m + 1 := ⟨k - 1, by omega⟩
    simp only [geyserref01_CRC.l1]
    rw [if_neg (by omega), show wrap64 ((j : Int) + 1) = ((j + 1 : Nat) : Int) from by rw [Gy.wrap64_id (by omega) (by omega)]; omega]
    rfl
  | succ n ih =>
    intro c i j k l b hj hb hi hc hb2 hl hk
    obtain ⟨k, rfl⟩ : ∃ m, k = m + 1 := ⟨k - 1, by omega⟩
    simp only [geyserref01_CRC.l1]
    have hr : rd l (j : Int) = (b : Int) := by
      unfold rd
      rw [Int.toNat_natCast, List.getD_eq_getElem?_getD, List.getElem?_eq_getElem hj]
      exact hb
    rw [if_pos (by omega), if_pos (by omega), if_pos (by omega), if_pos (by rw [Gy.u64_wrap_id (by omega) (by omega)]; omega), hr]
    rw [ite_call (fun v => geyserref01_CRC.l1 k l v (j : Int) (l.length : Int) (j : Int) (wrap64 ((i : Int) + 1)))]
    rw [rcrc_bit hc hb2 i (by omega), show wrap64 ((i : Int) + 1) = ((i + 1 : Nat) : Int) from by rw [Gy.wrap64_id (by omega) (by omega)]; omega]
    have hd : b / 2 ^ i % 2 < 2 := Nat.mod_lt _ (by omega)
    rw [ih _ (i + 1) j k l b hj hb (by omega) (Gy.cstep_lt (Gy.xor_lt32 hc (by omega))) hb2 hl (by omega)]
    rw [show k + 1 - (n + 1) - 1 = k - n - 1 from by omega, Nat.pow_succ, ← Nat.div_div_eq_div_mul]
    rfl
theorem rcrc_l0 : ∀ (d : Nat) (c i k : Nat) (l : List Int), c < 4294967296 → (∀ x ∈ l, 0 ≤ x ∧ x < 256) → l.length ≤ 9223372036854775807 → i + d = l.length → 10 * d < k →
    geyserref01_CRC.l0 k l c (l.length : Int) i = some ((Gy.crcFold c (l.drop i) ^^^ 4294967295 : Nat) : Int) := by
  intro d
  induction d with
  | zero =>
    intro c i k l hc hx hl hi hk
    obtain ⟨k, rfl⟩ : ∃ m, k = m + 1 := ⟨k - 1, by omega⟩
    simp only [geyserref01_CRC.l0]
    rw [if_neg (by omega), List.drop_eq_nil_of_le (by omega)]
    have h : Go.bits .xor .u64 (c : Int) 4294967295 = ((c ^^^ 4294967295 : Nat) : Int) := Go.u64_xor_nat c 4294967295 (by omega) (by omega)
    have hlt := Gy.xor_lt32 hc (show 4294967295 < 4294967296 by omega)
    rw [h]
    congr 1
    show ((c ^^^ 4294967295 : Nat) : Int) % 4294967296 = ((c ^^^ 4294967295 : Nat) : Int)
    omega
  | succ d ih =>
    intro c i k l hc hx hl hi hk
    obtain ⟨k, rfl⟩ : ∃ m, k = m + 1 := ⟨k - 1, by omega⟩
    simp only [geyserref01_CRC.l0]
    have hi' : i < l.length := by omega
    have hb := hx l[i] (List.getElem_mem hi')
    obtain ⟨n, hn⟩ : ∃ n : Nat, l[i] = n := ⟨l[i].toNat, by omega⟩
    rw [if_pos (by omega)]
    have h1 := rcrc_l1 8 c 0 i k l n hi' hn (by omega) hc (by omega) hl (by omega)
    rw [show n / 2 ^ 0 = n from by simp] at h1
    have h1' : geyserref01_CRC.l1 k l c i (l.length : Int) i 0 = geyserref01_CRC.l0 (k - 8 - 1) l ((Gy.cbits 8 n c : Nat) : Int) (l.length : Int) ((i + 1 : Nat) : Int) := h1
    rw [h1', ← Gy.cturn_bits 8 c n (by omega)]
    have hlt : c ^^^ n < 4294967296 := Gy.xor_lt32 hc (by omega)
    rw [ih _ (i + 1) _ l (Gy.cturn_lt 8 _ hlt) hx hl (by omega) (by omega)]
    rw [List.drop_eq_getElem_cons hi', hn]
    rfl
theorem rcrc_f {k : Nat} {l : List Int} (hx : ∀ x ∈ l, 0 ≤ x ∧ x < 256) (hl : l.length ≤ 9223372036854775807) (hk : 10 * l.length < k) : geyserref01_CRC.f k l = some ((Gy.crc l : Nat) : Int) := by
  unfold geyserref01_CRC.f
  exact rcrc_l0 l.length 4294967295 0 k l (by omega) hx hl (by omega) hk

end Go.Proofs.YtlmgikhgmbjfdaaDoor.Pure
/- What an argument's data are, kind by kind, with the bounds of what may lie in memory. -/
namespace Gy
open Go Go.RowKit Go.Proofs.YtlmgikhgmbjfdaaDoorW.PrintWords
section
variable {P : Program}

/-- Whatever can be read as a value of type t, none of its rows beyond what memory reaches, is of the kind d, and good. -/
def SOpens (P : Program) (t : TypeId) {α : Type} (d : Kd α) (good : α → Prop) : Prop :=
  P.cellsOf t = d.sz ∧ ∀ (H : Type) (enc : TypeId × Value → H) (W : World) (base : Nat) (held : Bool) (fuel : Nat) (cs : List Value) (x : DataW H × List MemPlace),
    DataW.trod enc P W base (fun _ => true) held fuel t cs = some x → (∀ n ∈ x.1.weights P t, n ≤ reachBytes) → ∃ a, d.K W a cs ∧ good a
theorem Opens.sized {t : TypeId} {α : Type} {d : Kd α} {good : α → Prop} (h : Opens P t d good) : SOpens P t d good := ⟨h.1, fun H enc W base held fuel cs x hx _ => h.2 H enc W base held fuel cs x hx⟩
theorem weights_all {H : Type} {e : TypeId} : ∀ {ds : List (DataW H)} {d : DataW H}, d ∈ ds → ∀ n ∈ d.weights P e, n ∈ DataW.weightsAll P e ds
  | d0 :: ds, d, hd, n, hn => by
    simp only [DataW.weightsAll, List.mem_append]
    rcases List.mem_cons.1 hd with rfl | hd
    · exact .inl hn
    · exact .inr (weights_all hd n hn)
theorem SOpens.string {t : TypeId} (ht : P.underlying t = some .string) (hc : P.cellsOf t = 1) : SOpens P t Kd.string (fun s => s.size ≤ reachBytes) := by
  refine ⟨hc, fun H enc W base held fuel cs x h hs => ?_⟩
  cases fuel with
  | zero => simp [DataW.trod] at h
  | succ n =>
    unfold DataW.trod at h
    rw [ht] at h
    split at h <;> simp_all
    obtain ⟨_, rfl⟩ := h
    refine ⟨_, rfl, ?_⟩
    have := hs
    simpa [DataW.weights] using this
theorem SOpens.slice {t e : TypeId} {α : Type} {d : Kd α} {good : α → Prop} (B : Nat) (hB : P.bytesOf e = B) (ht : P.underlying t = some (.slice e)) (hc : P.cellsOf t = 1) (he : SOpens P e d good) :
    SOpens P t (Kd.slice e d) (fun xs => xs.length * B ≤ reachBytes ∧ xs.length ≤ 9223372036854775807 ∧ ∀ x ∈ xs, good x) := by
  refine ⟨hc, fun H enc W base held fuel cs x h hs => ?_⟩
  rcases DataW.trod_slice ht h with ⟨rfl, _⟩ | ⟨a, len, cap, elems, rest, n, _, rfl, hx0, hb, hl, hm, hlen, hel, _, _⟩
  · exact ⟨[], ⟨none, 0, rfl, Nat.le_refl _, rfl, by simp, fun h => absurd h (by simp)⟩, by simp, by simp, fun x hx => by simp at hx⟩
  · unfold maxLen at hm
    rw [hx0] at hs
    simp only [DataW.weights, ht] at hs
    have hs0 := hs _ List.mem_cons_self
    have hsi : ∀ y ∈ elems, ∀ n ∈ y.1.weights P e, n ≤ reachBytes := fun y hy n hn => hs n (List.mem_cons_of_mem _ (List.mem_append_left _ (weights_all (List.mem_map.2 ⟨y, hy, rfl⟩) n hn)))
    obtain ⟨xs, hxl, hx⟩ := list_of len (fun j p => (∃ c, c.length = d.sz ∧ d.K W p c ∧ ∀ i u, c[i]? = some u → W.cell? (a.add (j * d.sz + i)) = some u) ∧ good p) (fun i hi => by
      have h1 := hel i hi
      rw [he.1, List.getElem?_eq_getElem (by omega)] at h1
      obtain ⟨cs', h2, h3⟩ := Option.bind_eq_some_iff.1 h1
      obtain ⟨_, hl2, hc2⟩ := World.cells?_some h2
      obtain ⟨p, hp, hg⟩ := he.2 H enc W base held n cs' _ h3 (hsi _ (List.getElem_mem _))
      refine ⟨p, ⟨cs', hl2, hp, fun j u hj => ?_⟩, hg⟩
      have hjl : j < cs'.length := by
        rcases Nat.lt_or_ge j cs'.length with h | h
        · exact h
        · rw [List.getElem?_eq_none h] at hj; exact absurd hj (by simp)
      have h4 := hc2 j (by omega)
      rw [hj] at h4
      rw [← h4]
      congr 1
      unfold Addr.add
      split <;> split <;> simp_all <;> (try omega) <;> (try (split <;> simp_all <;> omega)))
    refine ⟨xs, ⟨some a, cap, by rw [hxl], by omega, rfl, by omega, fun _ => ⟨a, rfl, fun j p hj => (hx j p hj).1⟩⟩, ?_, by omega, fun x hx' => ?_⟩
    · rw [hB] at hs0
      rw [List.length_map, List.length_map] at hs0
      refine Nat.le_trans (Nat.mul_le_mul_right B ?_) hs0
      omega
    · obtain ⟨j, hj⟩ := List.mem_iff_getElem?.1 hx'
      exact (hx j x hj).2
/-- Fields from the place off on. -/
def SOpensAt (P : Program) (fs : List Field) (off : Nat) {α : Type} (d : Kd α) (good : α → Prop) : Prop :=
  ∀ (H : Type) (enc : TypeId × Value → H) (W : World) (base : Nat) (held : Bool) (n : Nat) (cs : List Value),
    (∀ f ∈ fs, ∃ y, DataW.trod enc P W base (fun _ => true) held n f.type ((cs.drop f.offset).take (P.cellsOf f.type)) = some y ∧ ∀ m ∈ y.1.weights P f.type, m ≤ reachBytes) → cs.length = off + d.sz → ∃ a, d.K W a (cs.drop off) ∧ good a
theorem SOpensAt.one {f : Field} {off : Nat} {α : Type} {d : Kd α} {good : α → Prop} (ho : f.offset = off) (hf : SOpens P f.type d good) : SOpensAt P [f] off d good := by
  intro H enc W base held n cs h hl
  obtain ⟨y, hy, hw⟩ := h f (by simp)
  rw [ho, hf.1, List.take_of_length_le (by rw [List.length_drop]; omega)] at hy
  exact hf.2 H enc W base held n _ _ hy hw
theorem SOpensAt.cons {f : Field} {fs : List Field} {off : Nat} {α β : Type} {d : Kd α} {d' : Kd β} {good : α → Prop} {good' : β → Prop} (ho : f.offset = off) (hf : SOpens P f.type d good) (hfs : SOpensAt P fs (off + d.sz) d' good') :
    SOpensAt P (f :: fs) off (Kd.pair d d') (fun x => good x.1 ∧ good' x.2) := by
  intro H enc W base held n cs h hl
  obtain ⟨y, hy, hw⟩ := h f (by simp)
  rw [ho, hf.1] at hy
  obtain ⟨a, ha, hga⟩ := hf.2 H enc W base held n _ _ hy hw
  have hl' : cs.length = off + (d.sz + d'.sz) := hl
  obtain ⟨b, hb, hgb⟩ := hfs H enc W base held n cs (fun g hg => h g (by simp [hg])) (by omega)
  refine ⟨(a, b), ⟨_, _, ?_, ha, hb⟩, hga, hgb⟩
  rw [← List.drop_drop, List.take_append_drop]
theorem SOpens.struct {t : TypeId} {fs : Array Field} {α : Type} {d : Kd α} {good : α → Prop} (ht : P.underlying t = some (.struct fs)) (hc : P.cellsOf t = d.sz) (hfs : SOpensAt P fs.toList 0 d good) : SOpens P t d good := by
  refine ⟨hc, fun H enc W base held fuel cs x h hs => ?_⟩
  obtain ⟨xs, n, _, hx0, hl, hxl, hx⟩ := DataW.trod_struct ht h
  rw [hx0] at hs
  simp only [DataW.weights, ht] at hs
  have h2 := hfs H enc W base held n cs (fun f hf => by
    obtain ⟨i, hi, e⟩ := List.mem_iff_getElem.1 hf
    have h3 := hx i f (by rw [← Array.getElem?_toList, List.getElem?_eq_getElem hi, e])
    have hi' : i < xs.length := by rw [hxl]; simpa using hi
    refine ⟨_, h3.trans (List.getElem?_eq_getElem hi'), fun m hm => hs m ?_⟩
    exact DataW.weights_mem_each (j := i) (t := f.type) (d := xs[i].1) (by rw [List.getElem?_map, List.getElem?_eq_getElem hi, e]; rfl) (by rw [List.getElem?_map, List.getElem?_eq_getElem hi']; rfl) m hm) (by omega)
  rw [List.drop_zero] at h2
  exact h2
theorem SOpens.iso {t : TypeId} {α β : Type} {d : Kd α} {good : α → Prop} (h : SOpens P t d good) (f : β → α) (g : α → β) (hg : ∀ a, f (g a) = a) : SOpens P t (Kd.iso d f) (fun b => good (f b)) := by
  refine ⟨h.1, fun H enc W base held fuel cs x hx hs => ?_⟩
  obtain ⟨a, ha, hga⟩ := h.2 H enc W base held fuel cs x hx hs
  exact ⟨g a, by show d.K W (f (g a)) cs; rw [hg]; exact ha, by show good (f (g a)); rw [hg]; exact hga⟩
/-- An argument that is a slice. -/
theorem SOpens.arg {t e : TypeId} {α : Type} {d : Kd α} {good : List α → Prop} (h : SOpens P t (Kd.slice e d) good) {H : Type} {enc : TypeId × Value → H} {W : World} {base : Nat} {held : Bool} {A : Option Addr} {n c : Nat} {x : DataW H} {ps : List MemPlace}
    (hx : DataW.Trod enc P W base (fun _ => true) held t (.slice A n c) x ps) (hs : ∀ n ∈ x.weights P t, n ≤ reachBytes) : ∃ xs : List α, n = xs.length ∧ xs.length ≤ c ∧ d.C W A xs.length xs ∧ good xs := by
  obtain ⟨fuel, hf⟩ := hx
  obtain ⟨xs, ⟨A', c', e1, hl, hC⟩, hg⟩ := h.2 H enc W base held fuel _ _ hf hs
  have e2 : (.slice A n c : Value) = .slice A' xs.length c' := by simpa [Value.cells] using e1
  injection e2 with e3 e4 e5
  subst e3 e5
  exact ⟨xs, e4, hl, hC, hg⟩
theorem sized_at {H : Type} {ts : List TypeId} {ds : List (DataW H)} (h : (DataW.weightsEach P ts ds).all (· ≤ reachBytes) = true) (j : Nat) {t : TypeId} {d : DataW H} (ht : ts[j]? = some t) (hd : ds[j]? = some d) : ∀ n ∈ d.weights P t, n ≤ reachBytes :=
  fun n hn => by simpa using List.all_eq_true.1 h n (DataW.weights_mem_each ht hd n hn)
end
end Gy
/- Arguments of the type []cut.Input. -/
namespace Go.Proofs.YtlmgikhgmbjfdaaDoor.Cuts
open Go Go.RowKit Go.Proofs.YtlmgikhgmbjfdaaDoorW.PrintWords Go.Proofs.YtlmgikhgmbjfdaaDoorW.PrintLast Go.Proofs.YtlmgikhgmbjfdaaDoorW.PrintMore Gy

abbrev kinp : Kd (ByteArray × List Int) := Kd.pair Kd.string (Kd.slice 5 (Kd.int .u8))
def inpOf (p : ByteArray × List Int) : Inp := ⟨p.1, p.2⟩
theorem inp_cells {w : World} {A : Option Addr} {l : List (ByteArray × List Int)} (h : kinp.C w A l.length l) (j : Nat) (hj : j < l.length) :
    ∃ ad A' c', A = some ad ∧ w.cell? (ad.add (j * 2)) = some (.string l[j].1) ∧ w.cell? (ad.add (j * 2 + 1)) = some (.slice A' l[j].2.length c') ∧ l[j].2.length ≤ c' ∧ ReadsInt w .u8 A' l[j].2.length l[j].2 := by
  obtain ⟨ad, e, hx⟩ := h.2.2 (by omega)
  obtain ⟨cs, _, hk, hc⟩ := hx j l[j] (List.getElem?_eq_getElem hj)
  obtain ⟨c1, c2, rfl, k1, A', c', k4, k5, k6⟩ := hk
  have k1' : c1 = [.string l[j].1] := k1
  subst k1' k4
  exact ⟨ad, A', c', e, hc 0 _ rfl, hc 1 _ rfl, k5, Gy.reads_of_kd k6⟩
theorem inps_at {w : World} {A : Option Addr} {l : List (ByteArray × List Int)} (h : kinp.C w A l.length l) (hn : 0 < l.length) (hb : ∀ p ∈ l, Bytes p.2) : ∃ LB lo, A = some ⟨LB, lo, none⟩ ∧ InAt w LB lo (l.map inpOf) := by
  obtain ⟨⟨b, off, spot⟩, _, _, e, h0, -⟩ := inp_cells h 0 hn
  have hspot : spot = none := by simpa [Addr.add] using World.cell?_spot h0
  subst hspot
  refine ⟨b, off, e, fun i x hx => ?_, fun i x hx => ?_⟩
  · rw [List.getElem?_map] at hx
    obtain ⟨p, hp, rfl⟩ := Option.map_eq_some_iff.1 hx
    obtain ⟨hi, hv⟩ := List.getElem?_eq_some_iff.1 hp
    obtain ⟨ad', A', c', e', g0, -⟩ := inp_cells h i hi
    rw [e] at e'
    injection e' with e'
    rw [← e', hv, Addr.add_mid] at g0
    exact g0
  · rw [List.getElem?_map] at hx
    obtain ⟨p, hp, rfl⟩ := Option.map_eq_some_iff.1 hx
    obtain ⟨hi, hv⟩ := List.getElem?_eq_some_iff.1 hp
    obtain ⟨ad', A', c', e', -, g1, g2, g3⟩ := inp_cells h i hi
    rw [e] at e'
    injection e' with e'
    rw [← e', hv, Addr.add_mid, ← Nat.add_assoc] at g1
    rw [hv] at g2 g3
    exact ⟨A', c', g1, g2, g3, hb p (List.mem_of_getElem? hp)⟩
set_option maxRecDepth 100000 in
theorem sopens_inputs : Gy.SOpens Tryd.prog 22 (Kd.slice 46 kinp) (fun l => l.length * 40 ≤ reachBytes ∧ l.length ≤ 9223372036854775807 ∧ ∀ p ∈ l, p.1.size ≤ reachBytes ∧ p.2.length * 1 ≤ reachBytes ∧ p.2.length ≤ 9223372036854775807 ∧ ∀ x ∈ p.2, (Lit.int .u8 x).wf = true) := by
  have hs := Gy.SOpens.string (P := Tryd.prog) (t := 9) Tryd.underlying9 (by kernel_rfl)
  have hb := Gy.SOpens.slice (P := Tryd.prog) (t := 39) 1 (by kernel_rfl) Tryd.underlying39 (by kernel_rfl) (Gy.Opens.int Tryd.underlying5 (by kernel_rfl)).sized
  have h1 := Gy.SOpensAt.one (f := { name := "B", type := 39, offset := 1, embedded := false, tag := "", pkgPath := "", byteOffset := 16 }) (off := 1) rfl hb
  have h0 := Gy.SOpensAt.cons (f := { name := "Name", type := 9, offset := 0, embedded := false, tag := "", pkgPath := "", byteOffset := 0 }) (off := 0) rfl hs h1
  exact Gy.SOpens.slice (P := Tryd.prog) (t := 22) 40 (by kernel_rfl) Tryd.underlying22 (by kernel_rfl) (Gy.SOpens.struct Tryd.underlying46 (by kernel_rfl) h0)
end Go.Proofs.YtlmgikhgmbjfdaaDoor.Cuts

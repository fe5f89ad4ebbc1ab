/- The walk over the reference's digest in pieces: the words of a chunk, from the seventeenth on. -/
import Derived.Test.YtnoebhnkkigkjaaShaRef1
namespace Go.Proofs.Ytnoebhnkkigkjaa.Dig
open Go Go.RowKit Go.Proofs.Ytnoebhnkkigkjaa.QDig Go.Proofs.YtnoebhnkkigkjaaW.PrintWords Go.Proofs.YtnoebhnkkigkjaaW.PrintLast Go.Proofs.YtnoebhnkkigkjaaW.PrintMore Gy

set_option maxHeartbeats 2000000 in
set_option maxRecDepth 100000 in
theorem l4_step {u0 u1 u8 u10 u11 u12 u13 u14 u15 u16 u17 u18 u19 u20 u21 u22 u23 u24 u25 u26 u27 u28 u29 u30 u31 u32 u33 u34 u35 u36 u37 u38 u39 u40 u41 u42 u43 u44 u45 u46 u47 u48 u49 u50 u51 u52 u53 u54 u55 u56 u57 u58 u59 u60 u61 u62 u63 u64 u65 u66 u67 u68 u69 u70 u71 u72 u73 u74 u75 u76 u77 u78 u79 u80 u81 u82 u83 u84 u85 u86 u87 u88 u89 u90 u91 u92 u93 u94 u95 u96 u97 u98 u99 u100 u101 u102 u103 u104 u105 u106 u107 u108 u109 u110 u111 u112 u113 u114 u115 u116 u117 u118 u119 u120 u121 u122 u123 u124 u125 u126 u127 u128 u129 u130 u131 u132 u133 u134 u135 u136 u137 u138 u139 u140 u141 u142 u143 u144 u145 u146 u147 u148 u149 u150 u151 u152 u153 u154 u155 u156 u157 u158 u159 u160 u161 u162 u163 u164 u165 u166 u167 u168 u169 u170 u171 u172 u173 u174 u175 u176 u177 u178 u179 u180 u181 u182 u183 u184 u185 u186 u187 u188 u189 u190 u191 u192 u193 u194 u195 u196 u197 u198 u199 u200 u201 u202 u203 u204 u205 u206 u207 u208 u209 u210 u211 u212 u213 u214 u215 u216 u217 u218 u219 u220 u221 u222 u223 u224 u225 u226 u227 u228 u229 u230 u231 u232 u233 u234 u235 u236 u237 u238 u239 u240 u241 : Value} {w wr : World} {g gw c5 j i : Nat} {al : List Int} {s : St} (Q : Exit → Act → World → Prop) (hb : Bytes al) (hi16 : 16 ≤ i) (hi64 : i < 64) (hM : RefW w wr g gw al s.nats (wL (al.drop (64 * j)) i))
    (hQ : ∀ a' w', FrW w g gw c5 al j a' → a'.tmps.getD 9 undef = .int .i64 ((i : Int) + 1) → RefW w w' g gw al s.nats (wL (al.drop (64 * j)) (i + 1)) → Q .normal a' w') :
    Code.wp Try.prog (bodyOf 3) Q ⟨#[u0, u1, .pointer (some ⟨w.heap.size, 0, none⟩), .pointer (some ⟨w.heap.size + 1, 0, none⟩), .pointer (some ⟨w.heap.size + 1 + 1, 0, none⟩), .slice (some ⟨g, 0, none⟩) al.length c5, .int .i64 (64 * (j : Int)), .pointer (some ⟨gw, 0, none⟩), u8, .int .i64 (i : Int), u10, u11, u12, u13, u14, u15, u16, u17, u18, u19, u20, u21, u22, u23, u24, u25, u26, u27, u28, u29, u30, u31, u32, u33, u34, u35, u36, u37, u38, u39, u40, u41, u42, u43, u44, u45, u46, u47, u48, u49, u50, u51, u52, u53, u54, u55, u56, u57, u58, u59, u60, u61, u62, u63, u64, u65, u66, u67, u68, u69, u70, u71, u72, u73, u74, u75, u76, u77, u78, u79, u80, u81, u82, u83, u84, u85, u86, u87, u88, u89, u90, u91, u92, u93, u94, u95, u96, u97, u98, u99, u100, u101, u102, u103, u104, u105, u106, u107, u108, u109, u110, u111, u112, u113, u114, u115, u116, u117, u118, u119, u120, u121, u122, u123, u124, u125, u126, u127, u128, u129, u130, u131, u132, u133, u134, u135, u136, u137, u138, u139, u140, u141, u142, u143, u144, u145, u146, u147, u148, u149, u150, u151, u152, u153, u154, u155, u156, u157, u158, u159, u160, u161, u162, u163, u164, u165, u166, u167, u168, u169, u170, u171, u172, u173, u174, u175, u176, u177, u178, u179, u180, u181, u182, u183, u184, u185, u186, u187, u188, u189, u190, u191, u192, u193, u194, u195, u196, u197, u198, u199, u200, u201, u202, u203, u204, u205, u206, u207, u208, u209, u210, u211, u212, u213, u214, u215, u216, u217, u218, u219, u220, u221, u222, u223, u224, u225, u226, u227, u228, u229, u230, u231, u232, u233, u234, u235, u236, u237, u238, u239, u240, u241], []⟩ wr := by
  conv => arg 2; whnf
  have HQ := Lib.hid hQ
  have t5 : decide ((i : Int) < 64) = true := by simp; omega
  clear hQ
  have HI := Lib.hid (And.intro hi16 hi64)
  have HI17 := Lib.hid (show 16 ≤ i + 1 by omega)
  have HWA := Lib.hid (wAt_high (al.drop (64 * j)) (show ¬ i < 16 by omega))
  have c15 := hM.cell (by omega) (i - 15) (by omega)
  have c2 := hM.cell (by omega) (i - 2) (by omega)
  have c16 := hM.cell (by omega) (i - 16) (by omega)
  have c7 := hM.cell (by omega) (i - 7) (by omega)
  have HBT := Lib.hid (hb.drop (64 * j))
  have l16 := wAt_lt HBT.out (i - 16)
  have l15 := wAt_lt HBT.out (i - 15)
  have l7 := wAt_lt HBT.out (i - 7)
  have l2 := wAt_lt HBT.out (i - 2)
  obtain ⟨⟨u0, cw⟩, fw⟩ := hM.there (i := i) (by rw [wL_length _ _ (by omega)]; omega)
  obtain ⟨e15, e2, l15s, l2s⟩ := sig_forms l15 l2
  
  generalize wAt (al.drop (64 * j)) (i - 16) = x16 at c16 l16 HWA
  generalize wAt (al.drop (64 * j)) (i - 15) = x15 at c15 l15 HWA e15 l15s
  generalize wAt (al.drop (64 * j)) (i - 7) = x7 at c7 l7 HWA
  generalize wAt (al.drop (64 * j)) (i - 2) = x2 at c2 l2 HWA e2 l2s
  have L15 := Lib.hid l15
  have L2 := Lib.hid l2
  have z15 : (15 : Int) ≤ (i : Int) := by have := HI.out.1; omega
  have z2 : (2 : Int) ≤ (i : Int) := by have := HI.out.1; omega
  have b15 : (i : Int) - 15 < 64 := by have := HI.out.2; omega
  have b2 : (i : Int) - 2 < 64 := by have := HI.out.2; omega
  have bi : (i : Int) < 64 := by have := HI.out.2; omega
  have ti : decide ((i : Int) < 64) = true := t5
  go_wp2
  go_quiet ((go_at_call 42; exact Calls.quiet_of_same (turned_lit _ _ _ (by assumption) (by decide))))
  have M1 := Lib.hid (And.intro (hM.below (pw_below_drewN (Below.refl _ _) nq)) (Sched.drewN nq ⟨c2, c16, c7, cw, fw⟩))
  generalize wr.drewN nq = wq at M1 ⊢
  clear c15 b15 z15 e15 c2 c16 c7 cw fw
  obtain ⟨c2, c16, c7, cw, fw⟩ := M1.out.2
  go_wp2
  go_quiet ((go_at_call 42; exact Calls.quiet_of_same (turned_lit _ _ _ (by assumption) (by decide))))
  have M2 := Lib.hid (And.intro (M1.out.1.below (pw_below_drewN (Below.refl _ _) nq)) (Sched.drewN nq ⟨c2, c16, c7, cw, fw⟩))
  generalize wq.drewN nq = wv at M2 ⊢
  clear b2 z2 e2 c2 c16 c7 cw fw M1
  obtain ⟨_, c16, c7, cw, fw⟩ := M2.out.2
  obtain ⟨s1, s2, s3, s4⟩ := sum_forms l16 l15s l7 l2s
  obtain ⟨p16, q16, r16⟩ := sub_facts i 16 16 rfl (by have := HI.out.1; omega) (by have := HI.out.2; omega)
  obtain ⟨p7, q7, r7⟩ := sub_facts i 7 7 rfl (by have := HI.out.1; omega) (by have := HI.out.2; omega)
  have b16 : (i : Int) - 16 < 64 := by have := HI.out.2; omega
  have b7 : (i : Int) - 7 < 64 := by have := HI.out.2; omega
  have z16 : (16 : Int) ≤ (i : Int) := by have := HI.out.1; omega
  have z7 : (7 : Int) ≤ (i : Int) := by have := HI.out.1; omega
  go_wp2
  refine Gy.FlowL.flow (by kernel_rfl) (fun i_ => List.getD [(fun v _ => v = .int .i64 (i : Int)), (fun v _ => v = .int .i64 (i : Int)), (fun v _ => v = .int .i64 ((i : Int) - 16)), (fun v _ => v = .pointer (some ⟨gw, i - 16, none⟩)), (fun v _ => v = .int .u64 (x16 : Int)), (fun v _ => v = .int .u64 ((ss0 x15 : Nat) : Int)), (fun v _ => v = .int .u64 ((x16 : Int) + ((ss0 x15 : Nat) : Int))), (fun v _ => v = .int .i64 (i : Int)), (fun v _ => v = .int .i64 ((i : Int) - 7)), (fun v _ => v = .pointer (some ⟨gw, i - 7, none⟩)), (fun v _ => v = .int .u64 (x7 : Int)), (fun v _ => v = .int .u64 ((x16 : Int) + ((ss0 x15 : Nat) : Int) + (x7 : Int))), (fun v _ => v = .int .u64 ((ss1 x2 : Nat) : Int)), (fun v _ => v = .int .u64 ((x16 : Int) + ((ss0 x15 : Nat) : Int) + (x7 : Int) + ((ss1 x2 : Nat) : Int))), (fun v _ => v = .int .u64 (((x16 + ss0 x15 + x7 + ss1 x2) % 4294967296 : Nat) : Int)), (fun v _ => v = .pointer (some ⟨gw, i, none⟩)), (fun _ _ => True)] i_ (fun _ _ => True)) (fun L w => (L 16 = false → w = wv.drew) ∧ (L 16 = true → w = wv.drew.setCell ⟨gw, i, none⟩ (.int .u64 (((x16 + ss0 x15 + x7 + ss1 x2) % 4294967296 : Nat) : Int)))) (fun _ _ => True) (by kernel_rfl) ⟨fun _ => rfl, fun h => by cases h⟩ (Gy.FlowL.mono_list [(fun v _ => v = .int .i64 (i : Int)), (fun v _ => v = .int .i64 (i : Int)), (fun v _ => v = .int .i64 ((i : Int) - 16)), (fun v _ => v = .pointer (some ⟨gw, i - 16, none⟩)), (fun v _ => v = .int .u64 (x16 : Int)), (fun v _ => v = .int .u64 ((ss0 x15 : Nat) : Int)), (fun v _ => v = .int .u64 ((x16 : Int) + ((ss0 x15 : Nat) : Int))), (fun v _ => v = .int .i64 (i : Int)), (fun v _ => v = .int .i64 ((i : Int) - 7)), (fun v _ => v = .pointer (some ⟨gw, i - 7, none⟩)), (fun v _ => v = .int .u64 (x7 : Int)), (fun v _ => v = .int .u64 ((x16 : Int) + ((ss0 x15 : Nat) : Int) + (x7 : Int))), (fun v _ => v = .int .u64 ((ss1 x2 : Nat) : Int)), (fun v _ => v = .int .u64 ((x16 : Int) + ((ss0 x15 : Nat) : Int) + (x7 : Int) + ((ss1 x2 : Nat) : Int))), (fun v _ => v = .int .u64 (((x16 + ss0 x15 + x7 + ss1 x2) % 4294967296 : Nat) : Int)), (fun v _ => v = .pointer (some ⟨gw, i, none⟩)), (fun _ _ => True)] ?_) (Gy.FlowL.of_allFrom ⟨?_, ?_, ?_, ?_, ?_, ?_, ?_, ?_, ?_, ?_, ?_, ?_, ?_, ?_, ?_, ?_, ?_, trivial⟩) ?_
  · exact ⟨fun v w w' h hb => h, fun v w w' h hb => h, fun v w w' h hb => h, fun v w w' h hb => h, fun v w w' h hb => h, fun v w w' h hb => h, fun v w w' h hb => h, fun v w w' h hb => h, fun v w w' h hb => h, fun v w w' h hb => h, fun v w w' h hb => h, fun v w w' h hb => h, fun v w w' h hb => h, fun v w w' h hb => h, fun v w w' h hb => h, fun v w w' h hb => h, fun v w w' h hb => h, trivial⟩
  · intro L a w hD
    have e9 : a.eval (.tmp 9) = .int .i64 (i : Int) := hD.same.at_other 9 (by kernel_rfl)
    exact Gy.FlowL.step_move rfl rfl (Gy.FlowL.wanted_none rfl) e9 hD.J trivial
  · intro L a w hD
    have e9 : a.eval (.tmp 9) = .int .i64 (i : Int) := hD.same.at_other 9 (by kernel_rfl)
    exact Gy.FlowL.step_move rfl rfl (Gy.FlowL.wanted_none rfl) e9 hD.J trivial
  · intro L a w hD
    have e104 : a.eval (.tmp 104) = .int .i64 (i : Int) := hD.at 1 (by kernel_rfl)
    have f104 := e104; simp only [Act.eval, Array.getD_eq_getD_getElem?] at f104
    refine Gy.FlowL.step_value rfl (Gy.FlowL.wanted_none rfl) (v := .int .i64 ((i : Int) - 16)) (w1 := w) ?_ rfl hD.J trivial
    simp only [execOp, e104]; go_simp
  · intro L a w hD
    have e7 : a.eval (.tmp 7) = .pointer (some ⟨gw, 0, none⟩) := hD.same.at_other 7 (by kernel_rfl)
    have e105 : a.eval (.tmp 105) = .int .i64 ((i : Int) - 16) := hD.at 2 (by kernel_rfl)
    have f7 := e7; simp only [Act.eval, Array.getD_eq_getD_getElem?] at f7
    have f105 := e105; simp only [Act.eval, Array.getD_eq_getD_getElem?] at f105
    refine Gy.FlowL.step_value rfl (Gy.FlowL.wanted_none rfl) (v := .pointer (some ⟨gw, i - 16, none⟩)) (w1 := w) ?_ rfl hD.J trivial
    simp only [execOp, e7, e105]; go_simp
  · intro L a w hD
    have e106 : a.eval (.tmp 106) = .pointer (some ⟨gw, i - 16, none⟩) := hD.at 3 (by kernel_rfl)
    have hw := hD.J.1 (hD.later 16 (by kernel_rfl))
    have f106 := e106; simp only [Act.eval, Array.getD_eq_getD_getElem?] at f106
    have hJ := hD.J
    clear hD
    subst hw
    refine Gy.FlowL.step_value rfl (Gy.FlowL.wanted_none rfl) (v := .int .u64 (x16 : Int)) (w1 := wv.drew) ?_ rfl hJ trivial
    simp only [execOp, e106]; go_simp
  · intro L a w hD
    have e10 : a.eval (.tmp 10) = .int .u64 ((ss0 x15 : Nat) : Int) := hD.same.at_other 10 (by kernel_rfl)
    exact Gy.FlowL.step_move rfl rfl (Gy.FlowL.wanted_none rfl) e10 hD.J trivial
  · intro L a w hD
    have e107 : a.eval (.tmp 107) = .int .u64 (x16 : Int) := hD.at 4 (by kernel_rfl)
    have e108 : a.eval (.tmp 108) = .int .u64 ((ss0 x15 : Nat) : Int) := hD.at 5 (by kernel_rfl)
    have f107 := e107; simp only [Act.eval, Array.getD_eq_getD_getElem?] at f107
    have f108 := e108; simp only [Act.eval, Array.getD_eq_getD_getElem?] at f108
    refine Gy.FlowL.step_value rfl (Gy.FlowL.wanted_none rfl) (v := .int .u64 ((x16 : Int) + ((ss0 x15 : Nat) : Int))) (w1 := w) ?_ rfl hD.J trivial
    simp only [execOp, e107, e108]; go_simp
  · intro L a w hD
    have e9 : a.eval (.tmp 9) = .int .i64 (i : Int) := hD.same.at_other 9 (by kernel_rfl)
    exact Gy.FlowL.step_move rfl rfl (Gy.FlowL.wanted_none rfl) e9 hD.J trivial
  · intro L a w hD
    have e110 : a.eval (.tmp 110) = .int .i64 (i : Int) := hD.at 7 (by kernel_rfl)
    have f110 := e110; simp only [Act.eval, Array.getD_eq_getD_getElem?] at f110
    refine Gy.FlowL.step_value rfl (Gy.FlowL.wanted_none rfl) (v := .int .i64 ((i : Int) - 7)) (w1 := w) ?_ rfl hD.J trivial
    simp only [execOp, e110]; go_simp
  · intro L a w hD
    have e7 : a.eval (.tmp 7) = .pointer (some ⟨gw, 0, none⟩) := hD.same.at_other 7 (by kernel_rfl)
    have e111 : a.eval (.tmp 111) = .int .i64 ((i : Int) - 7) := hD.at 8 (by kernel_rfl)
    have f7 := e7; simp only [Act.eval, Array.getD_eq_getD_getElem?] at f7
    have f111 := e111; simp only [Act.eval, Array.getD_eq_getD_getElem?] at f111
    refine Gy.FlowL.step_value rfl (Gy.FlowL.wanted_none rfl) (v := .pointer (some ⟨gw, i - 7, none⟩)) (w1 := w) ?_ rfl hD.J trivial
    simp only [execOp, e7, e111]; go_simp
  · intro L a w hD
    have e112 : a.eval (.tmp 112) = .pointer (some ⟨gw, i - 7, none⟩) := hD.at 9 (by kernel_rfl)
    have hw := hD.J.1 (hD.later 16 (by kernel_rfl))
    have f112 := e112; simp only [Act.eval, Array.getD_eq_getD_getElem?] at f112
    have hJ := hD.J
    clear hD
    subst hw
    refine Gy.FlowL.step_value rfl (Gy.FlowL.wanted_none rfl) (v := .int .u64 (x7 : Int)) (w1 := wv.drew) ?_ rfl hJ trivial
    simp only [execOp, e112]; go_simp
  · intro L a w hD
    have e109 : a.eval (.tmp 109) = .int .u64 ((x16 : Int) + ((ss0 x15 : Nat) : Int)) := hD.at 6 (by kernel_rfl)
    have e113 : a.eval (.tmp 113) = .int .u64 (x7 : Int) := hD.at 10 (by kernel_rfl)
    have f109 := e109; simp only [Act.eval, Array.getD_eq_getD_getElem?] at f109
    have f113 := e113; simp only [Act.eval, Array.getD_eq_getD_getElem?] at f113
    refine Gy.FlowL.step_value rfl (Gy.FlowL.wanted_none rfl) (v := .int .u64 ((x16 : Int) + ((ss0 x15 : Nat) : Int) + (x7 : Int))) (w1 := w) ?_ rfl hD.J trivial
    simp only [execOp, e109, e113]; go_simp
  · intro L a w hD
    have e11 : a.eval (.tmp 11) = .int .u64 ((ss1 x2 : Nat) : Int) := hD.same.at_other 11 (by kernel_rfl)
    exact Gy.FlowL.step_move rfl rfl (Gy.FlowL.wanted_none rfl) e11 hD.J trivial
  · intro L a w hD
    have e114 : a.eval (.tmp 114) = .int .u64 ((x16 : Int) + ((ss0 x15 : Nat) : Int) + (x7 : Int)) := hD.at 11 (by kernel_rfl)
    have e115 : a.eval (.tmp 115) = .int .u64 ((ss1 x2 : Nat) : Int) := hD.at 12 (by kernel_rfl)
    have f114 := e114; simp only [Act.eval, Array.getD_eq_getD_getElem?] at f114
    have f115 := e115; simp only [Act.eval, Array.getD_eq_getD_getElem?] at f115
    refine Gy.FlowL.step_value rfl (Gy.FlowL.wanted_none rfl) (v := .int .u64 ((x16 : Int) + ((ss0 x15 : Nat) : Int) + (x7 : Int) + ((ss1 x2 : Nat) : Int))) (w1 := w) ?_ rfl hD.J trivial
    simp only [execOp, e114, e115]; go_simp
  · intro L a w hD
    have e116 : a.eval (.tmp 116) = .int .u64 ((x16 : Int) + ((ss0 x15 : Nat) : Int) + (x7 : Int) + ((ss1 x2 : Nat) : Int)) := hD.at 13 (by kernel_rfl)
    have f116 := e116; simp only [Act.eval, Array.getD_eq_getD_getElem?] at f116
    refine Gy.FlowL.step_value rfl (Gy.FlowL.wanted_none rfl) (v := .int .u64 (((x16 + ss0 x15 + x7 + ss1 x2) % 4294967296 : Nat) : Int)) (w1 := w) ?_ rfl hD.J trivial
    simp only [execOp, e116]; go_simp
  · intro L a w hD
    have e7 : a.eval (.tmp 7) = .pointer (some ⟨gw, 0, none⟩) := hD.same.at_other 7 (by kernel_rfl)
    have e103 : a.eval (.tmp 103) = .int .i64 (i : Int) := hD.at 0 (by kernel_rfl)
    have f7 := e7; simp only [Act.eval, Array.getD_eq_getD_getElem?] at f7
    have f103 := e103; simp only [Act.eval, Array.getD_eq_getD_getElem?] at f103
    refine Gy.FlowL.step_value rfl (Gy.FlowL.wanted_none rfl) (v := .pointer (some ⟨gw, i, none⟩)) (w1 := w) ?_ rfl hD.J trivial
    simp only [execOp, e7, e103]; go_simp
  · intro L a w hD
    have e118 : a.eval (.tmp 118) = .pointer (some ⟨gw, i, none⟩) := hD.at 15 (by kernel_rfl)
    have e117 : a.eval (.tmp 117) = .int .u64 (((x16 + ss0 x15 + x7 + ss1 x2) % 4294967296 : Nat) : Int) := hD.at 14 (by kernel_rfl)
    have hw := hD.J.1 hD.not
    have f118 := e118; simp only [Act.eval, Array.getD_eq_getD_getElem?] at f118
    have f117 := e117; simp only [Act.eval, Array.getD_eq_getD_getElem?] at f117
    clear hD
    subst hw
    refine Gy.FlowL.step_skip (w1 := wv.drew.setCell ⟨gw, i, none⟩ (.int .u64 (((x16 + ss0 x15 + x7 + ss1 x2) % 4294967296 : Nat) : Int))) rfl (Gy.FlowL.wanted_none rfl) ?_ trivial ⟨fun h => absurd h (by simp [Gy.FlowL.add]), fun _ => rfl⟩ trivial
    simp only [execOp, e118, e117]; go_simp
  · intro L a w hs hJ hL hv
    have hw := hJ.2 (hL 16 (by decide))
    have hp := Gy.FlowL.same_puts (by kernel_rfl) hs
    generalize Gy.FlowL.At _ a = vs at hp
    clear hv hs hJ hL
    subst hp hw
    simp only [Gy.FlowL.puts, Act.put, List.setIfInBounds_toArray, List.set_cons_zero, List.set_cons_succ]
    have M3 := Lib.hid (M2.out.1.below (Gy.drew_below _))
    clear c16 c7 cw fw M2 p16 q16 r16 p7 q7 r7 b16 b7 z16 z7 s1 s2 s3 s4
    have M4 := Lib.hid (M3.out.step HI.out.2)
    rw [HWA.out] at M4
    generalize wv.drew.setCell ⟨gw, i, none⟩ (.int .u64 (((x16 + ss0 x15 + x7 + ss1 x2) % 4294967296 : Nat) : Int)) = wx at M4 ⊢
    clear M3
    have hwi : wrap64 ((i : Int) + 1) = (i : Int) + 1 := up_64 HI.out.2
    clear HWA
    go_wp2
    exact HQ.out _ _ ⟨⟨rfl, rfl, rfl, rfl, rfl, rfl, rfl⟩, rfl⟩ rfl M4.out
set_option maxHeartbeats 2000000 in
set_option maxRecDepth 100000 in
theorem l4_last {u0 u1 u8 u10 u11 u12 u13 u14 u15 u16 u17 u18 u19 u20 u21 u22 u23 u24 u25 u26 u27 u28 u29 u30 u31 u32 u33 u34 u35 u36 u37 u38 u39 u40 u41 u42 u43 u44 u45 u46 u47 u48 u49 u50 u51 u52 u53 u54 u55 u56 u57 u58 u59 u60 u61 u62 u63 u64 u65 u66 u67 u68 u69 u70 u71 u72 u73 u74 u75 u76 u77 u78 u79 u80 u81 u82 u83 u84 u85 u86 u87 u88 u89 u90 u91 u92 u93 u94 u95 u96 u97 u98 u99 u100 u101 u102 u103 u104 u105 u106 u107 u108 u109 u110 u111 u112 u113 u114 u115 u116 u117 u118 u119 u120 u121 u122 u123 u124 u125 u126 u127 u128 u129 u130 u131 u132 u133 u134 u135 u136 u137 u138 u139 u140 u141 u142 u143 u144 u145 u146 u147 u148 u149 u150 u151 u152 u153 u154 u155 u156 u157 u158 u159 u160 u161 u162 u163 u164 u165 u166 u167 u168 u169 u170 u171 u172 u173 u174 u175 u176 u177 u178 u179 u180 u181 u182 u183 u184 u185 u186 u187 u188 u189 u190 u191 u192 u193 u194 u195 u196 u197 u198 u199 u200 u201 u202 u203 u204 u205 u206 u207 u208 u209 u210 u211 u212 u213 u214 u215 u216 u217 u218 u219 u220 u221 u222 u223 u224 u225 u226 u227 u228 u229 u230 u231 u232 u233 u234 u235 u236 u237 u238 u239 u240 u241 : Value} {w wr : World} {g gw c5 j i : Nat} {al : List Int} (Q : Exit → Act → World → Prop) (hi64 : ¬ i < 64)
    (hQ : ∀ a', FrW w g gw c5 al j a' → Q (.exit 6) a' wr) :
    Code.wp Try.prog (bodyOf 3) Q ⟨#[u0, u1, .pointer (some ⟨w.heap.size, 0, none⟩), .pointer (some ⟨w.heap.size + 1, 0, none⟩), .pointer (some ⟨w.heap.size + 1 + 1, 0, none⟩), .slice (some ⟨g, 0, none⟩) al.length c5, .int .i64 (64 * (j : Int)), .pointer (some ⟨gw, 0, none⟩), u8, .int .i64 (i : Int), u10, u11, u12, u13, u14, u15, u16, u17, u18, u19, u20, u21, u22, u23, u24, u25, u26, u27, u28, u29, u30, u31, u32, u33, u34, u35, u36, u37, u38, u39, u40, u41, u42, u43, u44, u45, u46, u47, u48, u49, u50, u51, u52, u53, u54, u55, u56, u57, u58, u59, u60, u61, u62, u63, u64, u65, u66, u67, u68, u69, u70, u71, u72, u73, u74, u75, u76, u77, u78, u79, u80, u81, u82, u83, u84, u85, u86, u87, u88, u89, u90, u91, u92, u93, u94, u95, u96, u97, u98, u99, u100, u101, u102, u103, u104, u105, u106, u107, u108, u109, u110, u111, u112, u113, u114, u115, u116, u117, u118, u119, u120, u121, u122, u123, u124, u125, u126, u127, u128, u129, u130, u131, u132, u133, u134, u135, u136, u137, u138, u139, u140, u141, u142, u143, u144, u145, u146, u147, u148, u149, u150, u151, u152, u153, u154, u155, u156, u157, u158, u159, u160, u161, u162, u163, u164, u165, u166, u167, u168, u169, u170, u171, u172, u173, u174, u175, u176, u177, u178, u179, u180, u181, u182, u183, u184, u185, u186, u187, u188, u189, u190, u191, u192, u193, u194, u195, u196, u197, u198, u199, u200, u201, u202, u203, u204, u205, u206, u207, u208, u209, u210, u211, u212, u213, u214, u215, u216, u217, u218, u219, u220, u221, u222, u223, u224, u225, u226, u227, u228, u229, u230, u231, u232, u233, u234, u235, u236, u237, u238, u239, u240, u241], []⟩ wr := by
  conv => arg 2; whnf
  have HQ := Lib.hid hQ
  have t5 : decide ((i : Int) < 64) = false := by simp; omega
  clear hQ
  go_wp2
  exact HQ.out _ ⟨⟨rfl, rfl, rfl, rfl, rfl, rfl, rfl⟩, rfl⟩
theorem mu_9 {a a' : Act} {i : Nat} (n : Nat) (h : a.tmps.getD 9 undef = .int .i64 (i : Int)) (h' : a'.tmps.getD 9 undef = .int .i64 ((i : Int) + 1)) (hi : i < n) : n - (intOf (a'.tmps.getD 9 undef)).toNat < n - (intOf (a.tmps.getD 9 undef)).toNat := by
  rw [h, h']
  show n - ((i : Int) + 1).toNat < n - ((i : Int)).toNat
  omega
set_option maxRecDepth 100000 in
theorem l4_loop {w wr : World} {g gw c5 j : Nat} {al : List Int} {s : St} {a : Act} (Q : Exit → Act → World → Prop) (hb : Bytes al) (hF : FrW w g gw c5 al j a) (h9 : a.tmps.getD 9 undef = .int .i64 16) (hM : RefW w wr g gw al s.nats (wL (al.drop (64 * j)) 16))
    (hX : ∀ a' w', FrW w g gw c5 al j a' → RefW w w' g gw al s.nats (wL (al.drop (64 * j)) 64) → Q (.exit 6) a' w') : Code.wp Try.prog (Code.loop (bodyOf 3)) Q a wr := by
  refine wp_loop (fun a w' => ∃ i : Nat, 16 ≤ i ∧ i ≤ 64 ∧ FrW w g gw c5 al j a ∧ a.tmps.getD 9 undef = .int .i64 (i : Int) ∧ RefW w w' g gw al s.nats (wL (al.drop (64 * j)) i)) (fun a _ => 64 - (intOf (a.tmps.getD 9 undef)).toNat) ⟨16, by omega, by omega, hF, h9, hM⟩ ?_
  rintro a w' ⟨i, h1, h2, hF, h9, hM⟩
  have e := frame_out a hF.A.size hF.A.defers
  rw [hF.A.t2, hF.A.t3, hF.A.t4, hF.A.t5, hF.A.t6, hF.t7, h9] at e
  by_cases hi : i < 64
  · have hQ : ∀ a' w'', FrW w g gw c5 al j a' → a'.tmps.getD 9 undef = .int .i64 ((i : Int) + 1) → RefW w w'' g gw al s.nats (wL (al.drop (64 * j)) (i + 1)) → Exit.then (fun a' w' => (∃ i : Nat, 16 ≤ i ∧ i ≤ 64 ∧ FrW w g gw c5 al j a' ∧ a'.tmps.getD 9 undef = .int .i64 (i : Int) ∧ RefW w w' g gw al s.nats (wL (al.drop (64 * j)) i)) ∧ 64 - (intOf (a'.tmps.getD 9 undef)).toNat < 64 - (intOf (a.tmps.getD 9 undef)).toNat) Q .normal a' w'' :=
      fun a' w'' f1 f2 f3 => ⟨⟨i + 1, by omega, hi, f1, f2, f3⟩, mu_9 64 h9 f2 hi⟩
    generalize Exit.then (fun a' w' => (∃ i : Nat, 16 ≤ i ∧ i ≤ 64 ∧ FrW w g gw c5 al j a' ∧ a'.tmps.getD 9 undef = .int .i64 (i : Int) ∧ RefW w w' g gw al s.nats (wL (al.drop (64 * j)) i)) ∧ 64 - (intOf (a'.tmps.getD 9 undef)).toNat < 64 - (intOf (a.tmps.getD 9 undef)).toNat) Q = Q2 at hQ ⊢
    rw [e]
    exact l4_step Q2 hb h1 hi hM hQ
  · obtain rfl : i = 64 := by omega
    rw [e]
    exact l4_last _ hi (fun a' f => hX a' w' f hM)

end Go.Proofs.Ytnoebhnkkigkjaa.Dig

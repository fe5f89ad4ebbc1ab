/- The walk over the reference's digest in pieces: what was mixed is added. -/
import Derived.Test.YtnoebhnkkigkjaaShaRef5
namespace Go.Proofs.Ytnoebhnkkigkjaa.Dig
open Go Go.RowKit Go.Proofs.Ytnoebhnkkigkjaa.QDig Go.Proofs.YtnoebhnkkigkjaaW.PrintWords Go.Proofs.YtnoebhnkkigkjaaW.PrintLast Go.Proofs.YtnoebhnkkigkjaaW.PrintMore Gy

set_option maxHeartbeats 4000000 in
set_option maxRecDepth 100000 in
theorem l7_step {u0 u1 u8 u9 u10 u11 u13 u14 u15 u16 u17 u18 u19 u20 u21 u22 u23 u24 u25 u26 u27 u28 u29 u30 u31 u32 u33 u34 u35 u36 u37 u38 u39 u40 u41 u42 u43 u44 u45 u46 u47 u48 u49 u50 u51 u52 u53 u54 u55 u56 u57 u58 u59 u60 u61 u62 u63 u64 u65 u66 u67 u68 u69 u70 u71 u72 u73 u74 u75 u76 u77 u78 u79 u80 u81 u82 u83 u84 u85 u86 u87 u88 u89 u90 u91 u92 u93 u94 u95 u96 u97 u98 u99 u100 u101 u102 u103 u104 u105 u106 u107 u108 u109 u110 u111 u112 u113 u114 u115 u116 u117 u118 u119 u120 u121 u122 u123 u124 u125 u126 u127 u128 u129 u130 u131 u132 u133 u134 u135 u136 u137 u138 u139 u140 u141 u142 u143 u144 u145 u146 u147 u148 u149 u150 u151 u152 u153 u154 u155 u156 u157 u158 u159 u160 u161 u162 u163 u164 u165 u166 u167 u168 u169 u170 u171 u172 u173 u174 u175 u176 u177 u178 u179 u180 u181 u182 u183 u184 u185 u186 u187 u188 u189 u190 u191 u192 u193 u194 u195 u196 u197 u198 u199 u200 u201 u202 u203 u204 u205 u206 u207 u208 u210 u211 u212 u213 u214 u215 u216 u217 u218 u219 u220 u221 u222 u223 u224 u225 u226 u227 u228 u229 u230 u231 u232 u233 u234 u235 u236 u237 u238 u239 u240 u241 : Value} {w wr : World} {g gw gx c5 j i : Nat} {al : List Int} {s t : St} {ws : List Nat} (Q : Exit → Act → World → Prop) (hs : s.ok) (ht : t.ok) (hi : i < 8) (hM : RefX w wr g gw gx al (addP s t i) ws t.nats)
    (hQ : ∀ a' w', FrX w g gw gx c5 al j a' → a'.tmps.getD 209 undef = .int .i64 ((i : Int) + 1) → RefX w w' g gw gx al (addP s t (i + 1)) ws t.nats → Q .normal a' w') :
    Code.wp Try.prog (bodyOf 6) Q ⟨#[u0, u1, .pointer (some ⟨w.heap.size, 0, none⟩), .pointer (some ⟨w.heap.size + 1, 0, none⟩), .pointer (some ⟨w.heap.size + 1 + 1, 0, none⟩), .slice (some ⟨g, 0, none⟩) al.length c5, .int .i64 (64 * (j : Int)), .pointer (some ⟨gw, 0, none⟩), u8, u9, u10, u11, .pointer (some ⟨gx, 0, none⟩), u13, u14, u15, u16, u17, u18, u19, u20, u21, u22, u23, u24, u25, u26, u27, u28, u29, u30, u31, u32, u33, u34, u35, u36, u37, u38, u39, u40, u41, u42, u43, u44, u45, u46, u47, u48, u49, u50, u51, u52, u53, u54, u55, u56, u57, u58, u59, u60, u61, u62, u63, u64, u65, u66, u67, u68, u69, u70, u71, u72, u73, u74, u75, u76, u77, u78, u79, u80, u81, u82, u83, u84, u85, u86, u87, u88, u89, u90, u91, u92, u93, u94, u95, u96, u97, u98, u99, u100, u101, u102, u103, u104, u105, u106, u107, u108, u109, u110, u111, u112, u113, u114, u115, u116, u117, u118, u119, u120, u121, u122, u123, u124, u125, u126, u127, u128, u129, u130, u131, u132, u133, u134, u135, u136, u137, u138, u139, u140, u141, u142, u143, u144, u145, u146, u147, u148, u149, u150, u151, u152, u153, u154, u155, u156, u157, u158, u159, u160, u161, u162, u163, u164, u165, u166, u167, u168, u169, u170, u171, u172, u173, u174, u175, u176, u177, u178, u179, u180, u181, u182, u183, u184, u185, u186, u187, u188, u189, u190, u191, u192, u193, u194, u195, u196, u197, u198, u199, u200, u201, u202, u203, u204, u205, u206, u207, u208, .int .i64 (i : Int), u210, u211, u212, u213, u214, u215, u216, u217, u218, u219, u220, u221, u222, u223, u224, u225, u226, u227, u228, u229, u230, u231, u232, u233, u234, u235, u236, u237, u238, u239, u240, u241], []⟩ wr := by
  conv => arg 2; whnf
  have HQ := Lib.hid hQ
  have t5 : decide ((i : Int) < 8) = true := decide_eq_true (by omega)
  have bi : (i : Int) < 8 := by omega
  have ck : wr.cell? ⟨w.heap.size + 1 + 1, i, none⟩ = some (.int .u64 ((s.nats.getD i 0 : Nat) : Int)) := by
    refine hM.W.C.H.cell ?_
    unfold n64
    rw [List.getElem?_map, addP_at s t i hi]
    rfl
  have cx := hM.cell (nats_at t hi)
  have fk := hM.W.C.H.fr i
  have ly := nats_lt hs i hi
  have lx := nats_lt ht i hi
  have hst := fun (wz : World) (hz : RefX w wz g gw gx al (addP s t i) ws t.nats) => hz.setH (i := i) (x := (s.nats.getD i 0 + t.nats.getD i 0) % 4294967296) (by rw [addP_length s t i (by omega)]; exact hi)
  rw [addP_set s t i hi] at hst
  obtain ⟨gh, hgh⟩ : ∃ gh, gh = w.heap.size + 1 + 1 := ⟨_, rfl⟩
  rw [← hgh] at ck fk hst ⊢
  have HG := Lib.hid hgh
  clear hgh
  have HST := Lib.hid hst
  have HM := Lib.hid hM
  clear hst hQ hM
  generalize s.nats.getD i 0 = y at ck ly HST
  generalize t.nats.getD i 0 = x at cx lx HST
  have HS := Lib.hid (add_form (d := y) (O := x) (by omega) (by omega))
  obtain ⟨wv, hwv⟩ : ∃ wv, wv = wr := ⟨_, rfl⟩
  rw [← hwv] at ck cx fk HM ⊢
  clear hwv
  go_wp2
  obtain ⟨s1, s2⟩ := HS.out
  refine Gy.FlowL.flow (by kernel_rfl) (fun i_ => List.getD [(fun v _ => v = .int .i64 (i : Int)), (fun v _ => v = .int .i64 (i : Int)), (fun v _ => v = .pointer (some ⟨gh, i, none⟩)), (fun v _ => v = .int .u64 (y : Int)), (fun v _ => v = .int .i64 (i : Int)), (fun v _ => v = .pointer (some ⟨gx, i, none⟩)), (fun v _ => v = .int .u64 (x : Int)), (fun v _ => v = .int .u64 ((y : Int) + (x : Int))), (fun v _ => v = .int .u64 (((y + x) % 4294967296 : Nat) : Int)), (fun v _ => v = .pointer (some ⟨gh, i, none⟩)), (fun _ _ => True)] i_ (fun _ _ => True)) (fun L w => (L 10 = false → w = wv.drew) ∧ (L 10 = true → w = wv.drew.setCell ⟨gh, i, none⟩ (.int .u64 (((y + x) % 4294967296 : Nat) : Int)))) (fun _ _ => True) (by kernel_rfl) ⟨fun _ => rfl, fun h => by cases h⟩ (Gy.FlowL.mono_list [(fun v _ => v = .int .i64 (i : Int)), (fun v _ => v = .int .i64 (i : Int)), (fun v _ => v = .pointer (some ⟨gh, i, none⟩)), (fun v _ => v = .int .u64 (y : Int)), (fun v _ => v = .int .i64 (i : Int)), (fun v _ => v = .pointer (some ⟨gx, i, none⟩)), (fun v _ => v = .int .u64 (x : Int)), (fun v _ => v = .int .u64 ((y : Int) + (x : Int))), (fun v _ => v = .int .u64 (((y + x) % 4294967296 : Nat) : Int)), (fun v _ => v = .pointer (some ⟨gh, i, none⟩)), (fun _ _ => True)] ?_) (Gy.FlowL.of_allFrom ⟨?_, ?_, ?_, ?_, ?_, ?_, ?_, ?_, ?_, ?_, ?_, trivial⟩) ?_
  · exact ⟨fun v w w' h hb => h, fun v w w' h hb => h, fun v w w' h hb => h, fun v w w' h hb => h, fun v w w' h hb => h, fun v w w' h hb => h, fun v w w' h hb => h, fun v w w' h hb => h, fun v w w' h hb => h, fun v w w' h hb => h, fun v w w' h hb => h, trivial⟩
  · intro L a w hD
    have e17 : a.eval (.tmp 17) = .int .i64 (i : Int) := hD.same.at_other 17 (by kernel_rfl)
    exact Gy.FlowL.step_move rfl rfl (Gy.FlowL.wanted_none rfl) e17 hD.J trivial
  · intro L a w hD
    have e17 : a.eval (.tmp 17) = .int .i64 (i : Int) := hD.same.at_other 17 (by kernel_rfl)
    exact Gy.FlowL.step_move rfl rfl (Gy.FlowL.wanted_none rfl) e17 hD.J trivial
  · intro L a w hD
    have e4 : a.eval (.tmp 4) = .pointer (some ⟨gh, 0, none⟩) := hD.same.at_other 4 (by kernel_rfl)
    have e213 : a.eval (.tmp 213) = .int .i64 (i : Int) := hD.at 1 (by kernel_rfl)
    have f4 := e4; simp only [Act.eval, Array.getD_eq_getD_getElem?] at f4
    have f213 := e213; simp only [Act.eval, Array.getD_eq_getD_getElem?] at f213
    refine Gy.FlowL.step_value rfl (Gy.FlowL.wanted_none rfl) (v := .pointer (some ⟨gh, i, none⟩)) (w1 := w) ?_ rfl hD.J trivial
    simp only [execOp, e4, e213]; go_simp
  · intro L a w hD
    have e214 : a.eval (.tmp 214) = .pointer (some ⟨gh, i, none⟩) := hD.at 2 (by kernel_rfl)
    have hw := hD.J.1 (hD.later 10 (by kernel_rfl))
    have f214 := e214; simp only [Act.eval, Array.getD_eq_getD_getElem?] at f214
    have hJ := hD.J
    clear hD
    subst hw
    refine Gy.FlowL.step_value rfl (Gy.FlowL.wanted_none rfl) (v := .int .u64 (y : Int)) (w1 := wv.drew) ?_ rfl hJ trivial
    simp only [execOp, e214]; go_simp
  · intro L a w hD
    have e17 : a.eval (.tmp 17) = .int .i64 (i : Int) := hD.same.at_other 17 (by kernel_rfl)
    exact Gy.FlowL.step_move rfl rfl (Gy.FlowL.wanted_none rfl) e17 hD.J trivial
  · intro L a w hD
    have e12 : a.eval (.tmp 12) = .pointer (some ⟨gx, 0, none⟩) := hD.same.at_other 12 (by kernel_rfl)
    have e216 : a.eval (.tmp 216) = .int .i64 (i : Int) := hD.at 4 (by kernel_rfl)
    have f12 := e12; simp only [Act.eval, Array.getD_eq_getD_getElem?] at f12
    have f216 := e216; simp only [Act.eval, Array.getD_eq_getD_getElem?] at f216
    refine Gy.FlowL.step_value rfl (Gy.FlowL.wanted_none rfl) (v := .pointer (some ⟨gx, i, none⟩)) (w1 := w) ?_ rfl hD.J trivial
    simp only [execOp, e12, e216]; go_simp
  · intro L a w hD
    have e217 : a.eval (.tmp 217) = .pointer (some ⟨gx, i, none⟩) := hD.at 5 (by kernel_rfl)
    have hw := hD.J.1 (hD.later 10 (by kernel_rfl))
    have f217 := e217; simp only [Act.eval, Array.getD_eq_getD_getElem?] at f217
    have hJ := hD.J
    clear hD
    subst hw
    refine Gy.FlowL.step_value rfl (Gy.FlowL.wanted_none rfl) (v := .int .u64 (x : Int)) (w1 := wv.drew) ?_ rfl hJ trivial
    simp only [execOp, e217]; go_simp
  · intro L a w hD
    have e215 : a.eval (.tmp 215) = .int .u64 (y : Int) := hD.at 3 (by kernel_rfl)
    have e218 : a.eval (.tmp 218) = .int .u64 (x : Int) := hD.at 6 (by kernel_rfl)
    have f215 := e215; simp only [Act.eval, Array.getD_eq_getD_getElem?] at f215
    have f218 := e218; simp only [Act.eval, Array.getD_eq_getD_getElem?] at f218
    refine Gy.FlowL.step_value rfl (Gy.FlowL.wanted_none rfl) (v := .int .u64 ((y : Int) + (x : Int))) (w1 := w) ?_ rfl hD.J trivial
    simp only [execOp, e215, e218]; go_simp
  · intro L a w hD
    have e219 : a.eval (.tmp 219) = .int .u64 ((y : Int) + (x : Int)) := hD.at 7 (by kernel_rfl)
    have f219 := e219; simp only [Act.eval, Array.getD_eq_getD_getElem?] at f219
    refine Gy.FlowL.step_value rfl (Gy.FlowL.wanted_none rfl) (v := .int .u64 (((y + x) % 4294967296 : Nat) : Int)) (w1 := w) ?_ rfl hD.J trivial
    simp only [execOp, e219]; go_simp
  · intro L a w hD
    have e4 : a.eval (.tmp 4) = .pointer (some ⟨gh, 0, none⟩) := hD.same.at_other 4 (by kernel_rfl)
    have e212 : a.eval (.tmp 212) = .int .i64 (i : Int) := hD.at 0 (by kernel_rfl)
    have f4 := e4; simp only [Act.eval, Array.getD_eq_getD_getElem?] at f4
    have f212 := e212; simp only [Act.eval, Array.getD_eq_getD_getElem?] at f212
    refine Gy.FlowL.step_value rfl (Gy.FlowL.wanted_none rfl) (v := .pointer (some ⟨gh, i, none⟩)) (w1 := w) ?_ rfl hD.J trivial
    simp only [execOp, e4, e212]; go_simp
  · intro L a w hD
    have e221 : a.eval (.tmp 221) = .pointer (some ⟨gh, i, none⟩) := hD.at 9 (by kernel_rfl)
    have e220 : a.eval (.tmp 220) = .int .u64 (((y + x) % 4294967296 : Nat) : Int) := hD.at 8 (by kernel_rfl)
    have hw := hD.J.1 hD.not
    have f221 := e221; simp only [Act.eval, Array.getD_eq_getD_getElem?] at f221
    have f220 := e220; simp only [Act.eval, Array.getD_eq_getD_getElem?] at f220
    clear hD
    subst hw
    refine Gy.FlowL.step_skip (w1 := wv.drew.setCell ⟨gh, i, none⟩ (.int .u64 (((y + x) % 4294967296 : Nat) : Int))) rfl (Gy.FlowL.wanted_none rfl) ?_ trivial ⟨fun h => absurd h (by simp [Gy.FlowL.add]), fun _ => rfl⟩ trivial
    simp only [execOp, e221, e220]; go_simp
  · intro L a w hs hJ hL hv
    have hw := hJ.2 (hL 10 (by decide))
    have hp := Gy.FlowL.same_puts (by kernel_rfl) hs
    generalize Gy.FlowL.At _ a = vs at hp
    clear hv hs hJ hL
    subst hp hw
    simp only [Gy.FlowL.puts, Act.put, List.setIfInBounds_toArray, List.set_cons_zero, List.set_cons_succ]
    have M3 := Lib.hid (HST.out _ (HM.out.below (Gy.drew_below _)))
    clear ck cx fk s1 s2
    generalize wv.drew.setCell ⟨gh, i, none⟩ (.int .u64 (((y + x) % 4294967296 : Nat) : Int)) = wx at M3 ⊢
    go_wp2
    rw [HG.out]
    exact HQ.out _ _ ⟨⟨⟨rfl, rfl, rfl, rfl, rfl, rfl, rfl⟩, rfl⟩, rfl⟩ rfl M3.out
set_option maxHeartbeats 2000000 in
set_option maxRecDepth 100000 in
theorem l7_last {u0 u1 u8 u9 u10 u11 u13 u14 u15 u16 u17 u18 u19 u20 u21 u22 u23 u24 u25 u26 u27 u28 u29 u30 u31 u32 u33 u34 u35 u36 u37 u38 u39 u40 u41 u42 u43 u44 u45 u46 u47 u48 u49 u50 u51 u52 u53 u54 u55 u56 u57 u58 u59 u60 u61 u62 u63 u64 u65 u66 u67 u68 u69 u70 u71 u72 u73 u74 u75 u76 u77 u78 u79 u80 u81 u82 u83 u84 u85 u86 u87 u88 u89 u90 u91 u92 u93 u94 u95 u96 u97 u98 u99 u100 u101 u102 u103 u104 u105 u106 u107 u108 u109 u110 u111 u112 u113 u114 u115 u116 u117 u118 u119 u120 u121 u122 u123 u124 u125 u126 u127 u128 u129 u130 u131 u132 u133 u134 u135 u136 u137 u138 u139 u140 u141 u142 u143 u144 u145 u146 u147 u148 u149 u150 u151 u152 u153 u154 u155 u156 u157 u158 u159 u160 u161 u162 u163 u164 u165 u166 u167 u168 u169 u170 u171 u172 u173 u174 u175 u176 u177 u178 u179 u180 u181 u182 u183 u184 u185 u186 u187 u188 u189 u190 u191 u192 u193 u194 u195 u196 u197 u198 u199 u200 u201 u202 u203 u204 u205 u206 u207 u208 u210 u211 u212 u213 u214 u215 u216 u217 u218 u219 u220 u221 u222 u223 u224 u225 u226 u227 u228 u229 u230 u231 u232 u233 u234 u235 u236 u237 u238 u239 u240 u241 : Value} {w wr : World} {g gw gx c5 j i : Nat} {al : List Int} (Q : Exit → Act → World → Prop) (hi : ¬ i < 8)
    (hQ : ∀ a', FrX w g gw gx c5 al j a' → Q (.exit 12) a' wr) :
    Code.wp Try.prog (bodyOf 6) Q ⟨#[u0, u1, .pointer (some ⟨w.heap.size, 0, none⟩), .pointer (some ⟨w.heap.size + 1, 0, none⟩), .pointer (some ⟨w.heap.size + 1 + 1, 0, none⟩), .slice (some ⟨g, 0, none⟩) al.length c5, .int .i64 (64 * (j : Int)), .pointer (some ⟨gw, 0, none⟩), u8, u9, u10, u11, .pointer (some ⟨gx, 0, none⟩), u13, u14, u15, u16, u17, u18, u19, u20, u21, u22, u23, u24, u25, u26, u27, u28, u29, u30, u31, u32, u33, u34, u35, u36, u37, u38, u39, u40, u41, u42, u43, u44, u45, u46, u47, u48, u49, u50, u51, u52, u53, u54, u55, u56, u57, u58, u59, u60, u61, u62, u63, u64, u65, u66, u67, u68, u69, u70, u71, u72, u73, u74, u75, u76, u77, u78, u79, u80, u81, u82, u83, u84, u85, u86, u87, u88, u89, u90, u91, u92, u93, u94, u95, u96, u97, u98, u99, u100, u101, u102, u103, u104, u105, u106, u107, u108, u109, u110, u111, u112, u113, u114, u115, u116, u117, u118, u119, u120, u121, u122, u123, u124, u125, u126, u127, u128, u129, u130, u131, u132, u133, u134, u135, u136, u137, u138, u139, u140, u141, u142, u143, u144, u145, u146, u147, u148, u149, u150, u151, u152, u153, u154, u155, u156, u157, u158, u159, u160, u161, u162, u163, u164, u165, u166, u167, u168, u169, u170, u171, u172, u173, u174, u175, u176, u177, u178, u179, u180, u181, u182, u183, u184, u185, u186, u187, u188, u189, u190, u191, u192, u193, u194, u195, u196, u197, u198, u199, u200, u201, u202, u203, u204, u205, u206, u207, u208, .int .i64 (i : Int), u210, u211, u212, u213, u214, u215, u216, u217, u218, u219, u220, u221, u222, u223, u224, u225, u226, u227, u228, u229, u230, u231, u232, u233, u234, u235, u236, u237, u238, u239, u240, u241], []⟩ wr := by
  conv => arg 2; whnf
  have HQ := Lib.hid hQ
  have t5 : decide ((i : Int) < 8) = false := by simp; omega
  clear hQ
  go_wp2
  exact HQ.out _ ⟨⟨⟨rfl, rfl, rfl, rfl, rfl, rfl, rfl⟩, rfl⟩, rfl⟩
set_option maxRecDepth 100000 in
theorem l7_loop {w wr : World} {g gw gx c5 j : Nat} {al : List Int} {s t : St} {ws : List Nat} {a : Act} (Q : Exit → Act → World → Prop) (hs : s.ok) (ht : t.ok) (hF : FrX w g gw gx c5 al j a) (h209 : a.tmps.getD 209 undef = .int .i64 0) (hM : RefX w wr g gw gx al s.nats ws t.nats)
    (hX : ∀ a' w', FrX w g gw gx c5 al j a' → RefX w w' g gw gx al (s.plus t).nats ws t.nats → Q (.exit 12) a' w') : Code.wp Try.prog (Code.loop (bodyOf 6)) Q a wr := by
  refine wp_loop (fun a w' => ∃ i : Nat, i ≤ 8 ∧ FrX w g gw gx c5 al j a ∧ a.tmps.getD 209 undef = .int .i64 (i : Int) ∧ RefX w w' g gw gx al (addP s t i) ws t.nats) (fun a _ => 8 - (intOf (a.tmps.getD 209 undef)).toNat) ⟨0, by omega, hF, h209, hM⟩ ?_
  rintro a w' ⟨i, h2, hF, h9, hM⟩
  have e := frame_out a hF.W.A.size hF.W.A.defers
  rw [hF.W.A.t2, hF.W.A.t3, hF.W.A.t4, hF.W.A.t5, hF.W.A.t6, hF.W.t7, hF.t12, h9] at e
  by_cases hi : i < 8
  · have hQ : ∀ a' w'', FrX w g gw gx c5 al j a' → a'.tmps.getD 209 undef = .int .i64 ((i : Int) + 1) → RefX w w'' g gw gx al (addP s t (i + 1)) ws t.nats → Exit.then (fun a' w' => (∃ i : Nat, i ≤ 8 ∧ FrX w g gw gx c5 al j a' ∧ a'.tmps.getD 209 undef = .int .i64 (i : Int) ∧ RefX w w' g gw gx al (addP s t i) ws t.nats) ∧ 8 - (intOf (a'.tmps.getD 209 undef)).toNat < 8 - (intOf (a.tmps.getD 209 undef)).toNat) Q .normal a' w'' :=
      fun a' w'' f1 f2 f3 => ⟨⟨i + 1, hi, f1, f2, f3⟩, mu_at 209 8 h9 f2 hi⟩
    generalize Exit.then (fun a' w' => (∃ i : Nat, i ≤ 8 ∧ FrX w g gw gx c5 al j a' ∧ a'.tmps.getD 209 undef = .int .i64 (i : Int) ∧ RefX w w' g gw gx al (addP s t i) ws t.nats) ∧ 8 - (intOf (a'.tmps.getD 209 undef)).toNat < 8 - (intOf (a.tmps.getD 209 undef)).toNat) Q = Q2 at hQ ⊢
    rw [e]
    exact l7_step Q2 hs ht hi hM hQ
  · obtain rfl : i = 8 := by omega
    rw [e]
    exact l7_last _ hi (fun a' f => hX a' w' f hM)
end Go.Proofs.Ytnoebhnkkigkjaa.Dig

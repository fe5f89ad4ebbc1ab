/- The walk over the reference's digest in pieces: the first sixteen words of a chunk. -/
import Derived.Test.YtnoebhnkkigkjaaShaRef2
namespace Go.Proofs.Ytnoebhnkkigkjaa.Dig
open Go Go.RowKit Go.Proofs.Ytnoebhnkkigkjaa.QDig Go.Proofs.YtnoebhnkkigkjaaW.PrintWords Go.Proofs.YtnoebhnkkigkjaaW.PrintLast Go.Proofs.YtnoebhnkkigkjaaW.PrintMore Gy

set_option maxHeartbeats 2000000 in
set_option maxRecDepth 100000 in
theorem l3_step {u0 u1 u8 u9 u10 u11 u12 u13 u14 u15 u16 u17 u18 u19 u20 u21 u22 u23 u24 u25 u26 u27 u28 u29 u30 u31 u32 u33 u34 u35 u36 u37 u38 u39 u40 u41 u42 u43 u44 u45 u46 u48 u49 u50 u51 u52 u53 u54 u55 u56 u57 u58 u59 u60 u61 u62 u63 u64 u65 u66 u67 u68 u69 u70 u71 u72 u73 u74 u75 u76 u77 u78 u79 u80 u81 u82 u83 u84 u85 u86 u87 u88 u89 u90 u91 u92 u93 u94 u95 u96 u97 u98 u99 u100 u101 u102 u103 u104 u105 u106 u107 u108 u109 u110 u111 u112 u113 u114 u115 u116 u117 u118 u119 u120 u121 u122 u123 u124 u125 u126 u127 u128 u129 u130 u131 u132 u133 u134 u135 u136 u137 u138 u139 u140 u141 u142 u143 u144 u145 u146 u147 u148 u149 u150 u151 u152 u153 u154 u155 u156 u157 u158 u159 u160 u161 u162 u163 u164 u165 u166 u167 u168 u169 u170 u171 u172 u173 u174 u175 u176 u177 u178 u179 u180 u181 u182 u183 u184 u185 u186 u187 u188 u189 u190 u191 u192 u193 u194 u195 u196 u197 u198 u199 u200 u201 u202 u203 u204 u205 u206 u207 u208 u209 u210 u211 u212 u213 u214 u215 u216 u217 u218 u219 u220 u221 u222 u223 u224 u225 u226 u227 u228 u229 u230 u231 u232 u233 u234 u235 u236 u237 u238 u239 u240 u241 : Value} {w wr : World} {g gw c5 j i : Nat} {al : List Int} {s : St} (Q : Exit → Act → World → Prop) (hb : Bytes al) (hcap : al.length ≤ c5) (h64 : 64 * j + 64 ≤ al.length) (hal : al.length ≤ 1000072) (hi16 : i < 16) (hM : RefW w wr g gw al s.nats (wL (al.drop (64 * j)) i))
    (hQ : ∀ a' w', FrW w g gw c5 al j a' → a'.tmps.getD 47 undef = .int .i64 ((i : Int) + 1) → RefW w w' g gw al s.nats (wL (al.drop (64 * j)) (i + 1)) → Q .normal a' w') :
    Code.wp Try.prog (bodyOf 2) Q ⟨#[u0, u1, .pointer (some ⟨w.heap.size, 0, none⟩), .pointer (some ⟨w.heap.size + 1, 0, none⟩), .pointer (some ⟨w.heap.size + 1 + 1, 0, none⟩), .slice (some ⟨g, 0, none⟩) al.length c5, .int .i64 (64 * (j : Int)), .pointer (some ⟨gw, 0, none⟩), u8, u9, u10, u11, u12, u13, u14, u15, u16, u17, u18, u19, u20, u21, u22, u23, u24, u25, u26, u27, u28, u29, u30, u31, u32, u33, u34, u35, u36, u37, u38, u39, u40, u41, u42, u43, u44, u45, u46, .int .i64 (i : Int), u48, u49, u50, u51, u52, u53, u54, u55, u56, u57, u58, u59, u60, u61, u62, u63, u64, u65, u66, u67, u68, u69, u70, u71, u72, u73, u74, u75, u76, u77, u78, u79, u80, u81, u82, u83, u84, u85, u86, u87, u88, u89, u90, u91, u92, u93, u94, u95, u96, u97, u98, u99, u100, u101, u102, u103, u104, u105, u106, u107, u108, u109, u110, u111, u112, u113, u114, u115, u116, u117, u118, u119, u120, u121, u122, u123, u124, u125, u126, u127, u128, u129, u130, u131, u132, u133, u134, u135, u136, u137, u138, u139, u140, u141, u142, u143, u144, u145, u146, u147, u148, u149, u150, u151, u152, u153, u154, u155, u156, u157, u158, u159, u160, u161, u162, u163, u164, u165, u166, u167, u168, u169, u170, u171, u172, u173, u174, u175, u176, u177, u178, u179, u180, u181, u182, u183, u184, u185, u186, u187, u188, u189, u190, u191, u192, u193, u194, u195, u196, u197, u198, u199, u200, u201, u202, u203, u204, u205, u206, u207, u208, u209, u210, u211, u212, u213, u214, u215, u216, u217, u218, u219, u220, u221, u222, u223, u224, u225, u226, u227, u228, u229, u230, u231, u232, u233, u234, u235, u236, u237, u238, u239, u240, u241], []⟩ wr := by
  conv => arg 2; whnf
  have HQ := Lib.hid hQ
  have t4 : decide ((i : Int) < 16) = true := by simp; omega
  have HI := Lib.hid (show i < 64 by omega)
  have hjb : j ≤ 15626 := by omega
  obtain ⟨A6, c6, m1, m2, m3⟩ := mid_ref (some ⟨g, 0, none⟩) c5 al j i hi16 h64 hcap
  have HN := Lib.hid (And.intro (m2 wr hM.C.A) m3)
  have HWL := Lib.hid (wAt_take (al.drop (64 * j)) hi16)
  have HBY := Lib.hid (((hb.drop (64 * j)).drop (4 * i)).take 4)
  have HM := Lib.hid hM
  clear m2 m3 hQ hM hb hcap h64 hal
  go_wp2_with (first
    | (go_at_call 23; (with_reducible refine (Number_calls A6 4 c6 _ _ HN.out.1 HN.out.2 HBY.out rfl).mono ?_); rw [HWL.out]; rintro e w6 ⟨rfl, e1⟩; have E6 := Lib.hid (HM.out.below e1.below); clear e1; obtain ⟨⟨v0, cw⟩, fw⟩ := E6.out.there (i := i) (by rw [wL_length _ _ (Nat.le_of_lt HI.out)]; exact HI.out)))
  exact HQ.out _ _ ⟨⟨rfl, rfl, rfl, rfl, rfl, rfl, rfl⟩, rfl⟩ rfl (E6.out.step HI.out)
set_option maxHeartbeats 2000000 in
set_option maxRecDepth 100000 in
theorem l3_last {u0 u1 u8 u9 u10 u11 u12 u13 u14 u15 u16 u17 u18 u19 u20 u21 u22 u23 u24 u25 u26 u27 u28 u29 u30 u31 u32 u33 u34 u35 u36 u37 u38 u39 u40 u41 u42 u43 u44 u45 u46 u48 u49 u50 u51 u52 u53 u54 u55 u56 u57 u58 u59 u60 u61 u62 u63 u64 u65 u66 u67 u68 u69 u70 u71 u72 u73 u74 u75 u76 u77 u78 u79 u80 u81 u82 u83 u84 u85 u86 u87 u88 u89 u90 u91 u92 u93 u94 u95 u96 u97 u98 u99 u100 u101 u102 u103 u104 u105 u106 u107 u108 u109 u110 u111 u112 u113 u114 u115 u116 u117 u118 u119 u120 u121 u122 u123 u124 u125 u126 u127 u128 u129 u130 u131 u132 u133 u134 u135 u136 u137 u138 u139 u140 u141 u142 u143 u144 u145 u146 u147 u148 u149 u150 u151 u152 u153 u154 u155 u156 u157 u158 u159 u160 u161 u162 u163 u164 u165 u166 u167 u168 u169 u170 u171 u172 u173 u174 u175 u176 u177 u178 u179 u180 u181 u182 u183 u184 u185 u186 u187 u188 u189 u190 u191 u192 u193 u194 u195 u196 u197 u198 u199 u200 u201 u202 u203 u204 u205 u206 u207 u208 u209 u210 u211 u212 u213 u214 u215 u216 u217 u218 u219 u220 u221 u222 u223 u224 u225 u226 u227 u228 u229 u230 u231 u232 u233 u234 u235 u236 u237 u238 u239 u240 u241 : Value} {w wr : World} {g gw c5 j i : Nat} {al : List Int} (Q : Exit → Act → World → Prop) (hi16 : ¬ i < 16)
    (hQ : ∀ a', FrW w g gw c5 al j a' → Q (.exit 4) a' wr) :
    Code.wp Try.prog (bodyOf 2) Q ⟨#[u0, u1, .pointer (some ⟨w.heap.size, 0, none⟩), .pointer (some ⟨w.heap.size + 1, 0, none⟩), .pointer (some ⟨w.heap.size + 1 + 1, 0, none⟩), .slice (some ⟨g, 0, none⟩) al.length c5, .int .i64 (64 * (j : Int)), .pointer (some ⟨gw, 0, none⟩), u8, u9, u10, u11, u12, u13, u14, u15, u16, u17, u18, u19, u20, u21, u22, u23, u24, u25, u26, u27, u28, u29, u30, u31, u32, u33, u34, u35, u36, u37, u38, u39, u40, u41, u42, u43, u44, u45, u46, .int .i64 (i : Int), u48, u49, u50, u51, u52, u53, u54, u55, u56, u57, u58, u59, u60, u61, u62, u63, u64, u65, u66, u67, u68, u69, u70, u71, u72, u73, u74, u75, u76, u77, u78, u79, u80, u81, u82, u83, u84, u85, u86, u87, u88, u89, u90, u91, u92, u93, u94, u95, u96, u97, u98, u99, u100, u101, u102, u103, u104, u105, u106, u107, u108, u109, u110, u111, u112, u113, u114, u115, u116, u117, u118, u119, u120, u121, u122, u123, u124, u125, u126, u127, u128, u129, u130, u131, u132, u133, u134, u135, u136, u137, u138, u139, u140, u141, u142, u143, u144, u145, u146, u147, u148, u149, u150, u151, u152, u153, u154, u155, u156, u157, u158, u159, u160, u161, u162, u163, u164, u165, u166, u167, u168, u169, u170, u171, u172, u173, u174, u175, u176, u177, u178, u179, u180, u181, u182, u183, u184, u185, u186, u187, u188, u189, u190, u191, u192, u193, u194, u195, u196, u197, u198, u199, u200, u201, u202, u203, u204, u205, u206, u207, u208, u209, u210, u211, u212, u213, u214, u215, u216, u217, u218, u219, u220, u221, u222, u223, u224, u225, u226, u227, u228, u229, u230, u231, u232, u233, u234, u235, u236, u237, u238, u239, u240, u241], []⟩ wr := by
  conv => arg 2; whnf
  have HQ := Lib.hid hQ
  have t5 : decide ((i : Int) < 16) = false := by simp; omega
  clear hQ
  go_wp2
  exact HQ.out _ ⟨⟨rfl, rfl, rfl, rfl, rfl, rfl, rfl⟩, rfl⟩
theorem mu_at {a a' : Act} {i : Nat} (t n : Nat) (h : a.tmps.getD t undef = .int .i64 (i : Int)) (h' : a'.tmps.getD t undef = .int .i64 ((i : Int) + 1)) (hi : i < n) : n - (intOf (a'.tmps.getD t undef)).toNat < n - (intOf (a.tmps.getD t undef)).toNat := by
  rw [h, h']
  show n - ((i : Int) + 1).toNat < n - ((i : Int)).toNat
  omega
set_option maxRecDepth 100000 in
theorem l3_loop {w wr : World} {g gw c5 j : Nat} {al : List Int} {s : St} {a : Act} (Q : Exit → Act → World → Prop) (hb : Bytes al) (hcap : al.length ≤ c5) (h64 : 64 * j + 64 ≤ al.length) (hal : al.length ≤ 1000072) (hF : FrW w g gw c5 al j a) (h47 : a.tmps.getD 47 undef = .int .i64 0) (hM : RefW w wr g gw al s.nats (wL (al.drop (64 * j)) 0))
    (hX : ∀ a' w', FrW w g gw c5 al j a' → RefW w w' g gw al s.nats (wL (al.drop (64 * j)) 16) → Q (.exit 4) a' w') : Code.wp Try.prog (Code.loop (bodyOf 2)) Q a wr := by
  refine wp_loop (fun a w' => ∃ i : Nat, i ≤ 16 ∧ FrW w g gw c5 al j a ∧ a.tmps.getD 47 undef = .int .i64 (i : Int) ∧ RefW w w' g gw al s.nats (wL (al.drop (64 * j)) i)) (fun a _ => 16 - (intOf (a.tmps.getD 47 undef)).toNat) ⟨0, by omega, hF, h47, hM⟩ ?_
  rintro a w' ⟨i, h2, hF, h9, hM⟩
  have e := frame_out a hF.A.size hF.A.defers
  rw [hF.A.t2, hF.A.t3, hF.A.t4, hF.A.t5, hF.A.t6, hF.t7, h9] at e
  by_cases hi : i < 16
  · have hQ : ∀ a' w'', FrW w g gw c5 al j a' → a'.tmps.getD 47 undef = .int .i64 ((i : Int) + 1) → RefW w w'' g gw al s.nats (wL (al.drop (64 * j)) (i + 1)) → Exit.then (fun a' w' => (∃ i : Nat, i ≤ 16 ∧ FrW w g gw c5 al j a' ∧ a'.tmps.getD 47 undef = .int .i64 (i : Int) ∧ RefW w w' g gw al s.nats (wL (al.drop (64 * j)) i)) ∧ 16 - (intOf (a'.tmps.getD 47 undef)).toNat < 16 - (intOf (a.tmps.getD 47 undef)).toNat) Q .normal a' w'' :=
      fun a' w'' f1 f2 f3 => ⟨⟨i + 1, hi, f1, f2, f3⟩, mu_at 47 16 h9 f2 hi⟩
    generalize Exit.then (fun a' w' => (∃ i : Nat, i ≤ 16 ∧ FrW w g gw c5 al j a' ∧ a'.tmps.getD 47 undef = .int .i64 (i : Int) ∧ RefW w w' g gw al s.nats (wL (al.drop (64 * j)) i)) ∧ 16 - (intOf (a'.tmps.getD 47 undef)).toNat < 16 - (intOf (a.tmps.getD 47 undef)).toNat) Q = Q2 at hQ ⊢
    rw [e]
    exact l3_step Q2 hb hcap h64 hal hi hM hQ
  · obtain rfl : i = 16 := by omega
    rw [e]
    exact l3_last _ hi (fun a' f => hX a' w' f hM)
end Go.Proofs.Ytnoebhnkkigkjaa.Dig

/- The walk over the reference's digest in pieces: a row moved up by one place. -/
import Derived.Test.YtnoebhnkkigkjaaShaRef3
namespace Go.Proofs.Ytnoebhnkkigkjaa.Dig
open Go Go.RowKit Go.Proofs.Ytnoebhnkkigkjaa.QDig Go.Proofs.YtnoebhnkkigkjaaW.PrintWords Go.Proofs.YtnoebhnkkigkjaaW.PrintLast Go.Proofs.YtnoebhnkkigkjaaW.PrintMore Gy

structure Fr6 (w : World) (g gw gx c5 : Nat) (al : List Int) (j i O T : Nat) (a : Act) : Prop where
  X : FrX w g gw gx c5 al j a
  t14 : a.tmps.getD 14 undef = .int .u64 (O : Int)
  t15 : a.tmps.getD 15 undef = .int .u64 (T : Int)
  t120 : a.tmps.getD 120 undef = .int .i64 (i : Int)
theorem minus_one (q : Nat) : ((q : Int) + 1 - 1) = (q : Int) := by omega
set_option maxHeartbeats 2000000 in
set_option maxRecDepth 100000 in
theorem l6_step {u0 u1 u8 u9 u10 u11 u13 u17 u18 u19 u20 u21 u22 u23 u24 u25 u26 u27 u28 u29 u30 u31 u32 u33 u34 u35 u36 u37 u38 u39 u40 u41 u42 u43 u44 u45 u46 u47 u48 u49 u50 u51 u52 u53 u54 u55 u56 u57 u58 u59 u60 u61 u62 u63 u64 u65 u66 u67 u68 u69 u70 u71 u72 u73 u74 u75 u76 u77 u78 u79 u80 u81 u82 u83 u84 u85 u86 u87 u88 u89 u90 u91 u92 u93 u94 u95 u96 u97 u98 u99 u100 u101 u102 u103 u104 u105 u106 u107 u108 u109 u110 u111 u112 u113 u114 u115 u116 u117 u118 u119 u121 u122 u123 u124 u125 u126 u127 u128 u129 u130 u131 u132 u133 u134 u135 u136 u137 u138 u139 u140 u141 u142 u143 u144 u145 u146 u147 u148 u149 u150 u151 u152 u153 u154 u155 u156 u157 u158 u159 u160 u161 u162 u163 u164 u165 u166 u167 u168 u169 u170 u171 u172 u173 u174 u175 u176 u177 u178 u179 u180 u181 u182 u183 u184 u185 u186 u187 u188 u189 u190 u191 u192 u193 u194 u195 u196 u197 u198 u199 u200 u201 u202 u203 u204 u205 u206 u207 u208 u209 u210 u211 u212 u213 u214 u215 u216 u217 u218 u219 u220 u221 u222 u223 u224 u225 u226 u227 u228 u229 u230 u231 u232 u233 u234 u235 u236 u237 u238 u239 u240 u241 : Value} {w wr : World} {g gw gx c5 j i O T q : Nat} {al : List Int} {s t : St} {ws : List Nat} (Q : Exit → Act → World → Prop) (hq : q < 7) (hM : RefX w wr g gw gx al s.nats ws (shf t.nats (q + 1)))
    (hQ : ∀ a' w', Fr6 w g gw gx c5 al j i O T a' → a'.tmps.getD 16 undef = .int .i64 (q : Int) → RefX w w' g gw gx al s.nats ws (shf t.nats q) → Q .normal a' w') :
    Code.wp Try.prog (bodyOf 5) Q ⟨#[u0, u1, .pointer (some ⟨w.heap.size, 0, none⟩), .pointer (some ⟨w.heap.size + 1, 0, none⟩), .pointer (some ⟨w.heap.size + 1 + 1, 0, none⟩), .slice (some ⟨g, 0, none⟩) al.length c5, .int .i64 (64 * (j : Int)), .pointer (some ⟨gw, 0, none⟩), u8, u9, u10, u11, .pointer (some ⟨gx, 0, none⟩), u13, .int .u64 (O : Int), .int .u64 (T : Int), .int .i64 ((q : Int) + 1), u17, u18, u19, u20, u21, u22, u23, u24, u25, u26, u27, u28, u29, u30, u31, u32, u33, u34, u35, u36, u37, u38, u39, u40, u41, u42, u43, u44, u45, u46, u47, u48, u49, u50, u51, u52, u53, u54, u55, u56, u57, u58, u59, u60, u61, u62, u63, u64, u65, u66, u67, u68, u69, u70, u71, u72, u73, u74, u75, u76, u77, u78, u79, u80, u81, u82, u83, u84, u85, u86, u87, u88, u89, u90, u91, u92, u93, u94, u95, u96, u97, u98, u99, u100, u101, u102, u103, u104, u105, u106, u107, u108, u109, u110, u111, u112, u113, u114, u115, u116, u117, u118, u119, .int .i64 (i : Int), u121, u122, u123, u124, u125, u126, u127, u128, u129, u130, u131, u132, u133, u134, u135, u136, u137, u138, u139, u140, u141, u142, u143, u144, u145, u146, u147, u148, u149, u150, u151, u152, u153, u154, u155, u156, u157, u158, u159, u160, u161, u162, u163, u164, u165, u166, u167, u168, u169, u170, u171, u172, u173, u174, u175, u176, u177, u178, u179, u180, u181, u182, u183, u184, u185, u186, u187, u188, u189, u190, u191, u192, u193, u194, u195, u196, u197, u198, u199, u200, u201, u202, u203, u204, u205, u206, u207, u208, u209, u210, u211, u212, u213, u214, u215, u216, u217, u218, u219, u220, u221, u222, u223, u224, u225, u226, u227, u228, u229, u230, u231, u232, u233, u234, u235, u236, u237, u238, u239, u240, u241], []⟩ wr := by
  conv => arg 2; whnf
  have HQ := Lib.hid hQ
  have hz := minus_one q
  have b1 : (q : Int) < 8 := by omega
  have b2 : (q : Int) + 1 < 8 := by omega
  have t5 : decide (0 < (q : Int) + 1) = true := decide_eq_true (by omega)
  have c1 := hM.cell (shf_at t q hq)
  have c2 := hM.X.cell (n64_at (l := shf t.nats (q + 1)) (i := q + 1) (by rw [shf_length t (q + 1) (by omega)]; omega))
  have f2 := hM.X.fr (q + 1)
  have hst := hM.set (i := q + 1) (x := t.nats.getD q 0) (by rw [shf_length t (q + 1) (by omega)]; omega)
  rw [shf_set t q hq] at hst
  have HST := Lib.hid hst
  generalize t.nats.getD q 0 = x at c1 HST
  clear hQ hM hst
  go_wp2
  exact HQ.out _ _ ⟨⟨⟨⟨rfl, rfl, rfl, rfl, rfl, rfl, rfl⟩, rfl⟩, rfl⟩, rfl, rfl, rfl⟩ rfl HST.out
set_option maxHeartbeats 2000000 in
set_option maxRecDepth 100000 in
theorem l6_last {u0 u1 u8 u9 u10 u11 u13 u17 u18 u19 u20 u21 u22 u23 u24 u25 u26 u27 u28 u29 u30 u31 u32 u33 u34 u35 u36 u37 u38 u39 u40 u41 u42 u43 u44 u45 u46 u47 u48 u49 u50 u51 u52 u53 u54 u55 u56 u57 u58 u59 u60 u61 u62 u63 u64 u65 u66 u67 u68 u69 u70 u71 u72 u73 u74 u75 u76 u77 u78 u79 u80 u81 u82 u83 u84 u85 u86 u87 u88 u89 u90 u91 u92 u93 u94 u95 u96 u97 u98 u99 u100 u101 u102 u103 u104 u105 u106 u107 u108 u109 u110 u111 u112 u113 u114 u115 u116 u117 u118 u119 u121 u122 u123 u124 u125 u126 u127 u128 u129 u130 u131 u132 u133 u134 u135 u136 u137 u138 u139 u140 u141 u142 u143 u144 u145 u146 u147 u148 u149 u150 u151 u152 u153 u154 u155 u156 u157 u158 u159 u160 u161 u162 u163 u164 u165 u166 u167 u168 u169 u170 u171 u172 u173 u174 u175 u176 u177 u178 u179 u180 u181 u182 u183 u184 u185 u186 u187 u188 u189 u190 u191 u192 u193 u194 u195 u196 u197 u198 u199 u200 u201 u202 u203 u204 u205 u206 u207 u208 u209 u210 u211 u212 u213 u214 u215 u216 u217 u218 u219 u220 u221 u222 u223 u224 u225 u226 u227 u228 u229 u230 u231 u232 u233 u234 u235 u236 u237 u238 u239 u240 u241 : Value} {w wr : World} {g gw gx c5 j i O T : Nat} {al : List Int} (Q : Exit → Act → World → Prop)
    (hQ : ∀ a', Fr6 w g gw gx c5 al j i O T a' → Q (.exit 10) a' wr) :
    Code.wp Try.prog (bodyOf 5) Q ⟨#[u0, u1, .pointer (some ⟨w.heap.size, 0, none⟩), .pointer (some ⟨w.heap.size + 1, 0, none⟩), .pointer (some ⟨w.heap.size + 1 + 1, 0, none⟩), .slice (some ⟨g, 0, none⟩) al.length c5, .int .i64 (64 * (j : Int)), .pointer (some ⟨gw, 0, none⟩), u8, u9, u10, u11, .pointer (some ⟨gx, 0, none⟩), u13, .int .u64 (O : Int), .int .u64 (T : Int), .int .i64 0, u17, u18, u19, u20, u21, u22, u23, u24, u25, u26, u27, u28, u29, u30, u31, u32, u33, u34, u35, u36, u37, u38, u39, u40, u41, u42, u43, u44, u45, u46, u47, u48, u49, u50, u51, u52, u53, u54, u55, u56, u57, u58, u59, u60, u61, u62, u63, u64, u65, u66, u67, u68, u69, u70, u71, u72, u73, u74, u75, u76, u77, u78, u79, u80, u81, u82, u83, u84, u85, u86, u87, u88, u89, u90, u91, u92, u93, u94, u95, u96, u97, u98, u99, u100, u101, u102, u103, u104, u105, u106, u107, u108, u109, u110, u111, u112, u113, u114, u115, u116, u117, u118, u119, .int .i64 (i : Int), u121, u122, u123, u124, u125, u126, u127, u128, u129, u130, u131, u132, u133, u134, u135, u136, u137, u138, u139, u140, u141, u142, u143, u144, u145, u146, u147, u148, u149, u150, u151, u152, u153, u154, u155, u156, u157, u158, u159, u160, u161, u162, u163, u164, u165, u166, u167, u168, u169, u170, u171, u172, u173, u174, u175, u176, u177, u178, u179, u180, u181, u182, u183, u184, u185, u186, u187, u188, u189, u190, u191, u192, u193, u194, u195, u196, u197, u198, u199, u200, u201, u202, u203, u204, u205, u206, u207, u208, u209, u210, u211, u212, u213, u214, u215, u216, u217, u218, u219, u220, u221, u222, u223, u224, u225, u226, u227, u228, u229, u230, u231, u232, u233, u234, u235, u236, u237, u238, u239, u240, u241], []⟩ wr := by
  conv => arg 2; whnf
  have HQ := Lib.hid hQ
  clear hQ
  go_wp2
  exact HQ.out _ ⟨⟨⟨⟨rfl, rfl, rfl, rfl, rfl, rfl, rfl⟩, rfl⟩, rfl⟩, rfl, rfl, rfl⟩
theorem mu_down {a a' : Act} {q : Nat} (t : Nat) (h : a.tmps.getD t undef = .int .i64 ((q + 1 : Nat) : Int)) (h' : a'.tmps.getD t undef = .int .i64 (q : Int)) : (intOf (a'.tmps.getD t undef)).toNat < (intOf (a.tmps.getD t undef)).toNat := by
  rw [h, h']
  show ((q : Int)).toNat < ((q + 1 : Nat) : Int).toNat
  omega
set_option maxRecDepth 100000 in
theorem l6_loop {w wr : World} {g gw gx c5 j i O T : Nat} {al : List Int} {s t : St} {ws : List Nat} {a : Act} (Q : Exit → Act → World → Prop) (hF : Fr6 w g gw gx c5 al j i O T a) (h16 : a.tmps.getD 16 undef = .int .i64 7) (hM : RefX w wr g gw gx al s.nats ws t.nats)
    (hX : ∀ a' w', Fr6 w g gw gx c5 al j i O T a' → RefX w w' g gw gx al s.nats ws [t.a, t.a, t.b, t.c, t.d, t.e, t.f, t.g] → Q (.exit 10) a' w') : Code.wp Try.prog (Code.loop (bodyOf 5)) Q a wr := by
  refine wp_loop (fun a w' => ∃ q : Nat, q ≤ 7 ∧ Fr6 w g gw gx c5 al j i O T a ∧ a.tmps.getD 16 undef = .int .i64 (q : Int) ∧ RefX w w' g gw gx al s.nats ws (shf t.nats q)) (fun a _ => (intOf (a.tmps.getD 16 undef)).toNat) ⟨7, by omega, hF, h16, hM⟩ ?_
  rintro a w' ⟨q, h2, hF, h9, hM⟩
  have e := frame_out a hF.X.W.A.size hF.X.W.A.defers
  rw [hF.X.W.A.t2, hF.X.W.A.t3, hF.X.W.A.t4, hF.X.W.A.t5, hF.X.W.A.t6, hF.X.W.t7, hF.X.t12, hF.t14, hF.t15, hF.t120, h9] at e
  cases q with
  | succ q =>
    have hQ : ∀ a' w'', Fr6 w g gw gx c5 al j i O T a' → a'.tmps.getD 16 undef = .int .i64 (q : Int) → RefX w w'' g gw gx al s.nats ws (shf t.nats q) → Exit.then (fun a' w' => (∃ q : Nat, q ≤ 7 ∧ Fr6 w g gw gx c5 al j i O T a' ∧ a'.tmps.getD 16 undef = .int .i64 (q : Int) ∧ RefX w w' g gw gx al s.nats ws (shf t.nats q)) ∧ (intOf (a'.tmps.getD 16 undef)).toNat < (intOf (a.tmps.getD 16 undef)).toNat) Q .normal a' w'' :=
      fun a' w'' f1 f2 f3 => ⟨⟨q, by omega, f1, f2, f3⟩, mu_down 16 h9 f2⟩
    generalize Exit.then (fun a' w' => (∃ q : Nat, q ≤ 7 ∧ Fr6 w g gw gx c5 al j i O T a' ∧ a'.tmps.getD 16 undef = .int .i64 (q : Int) ∧ RefX w w' g gw gx al s.nats ws (shf t.nats q)) ∧ (intOf (a'.tmps.getD 16 undef)).toNat < (intOf (a.tmps.getD 16 undef)).toNat) Q = Q2 at hQ ⊢
    rw [e]
    exact l6_step Q2 (by omega) hM hQ
  | zero =>
    rw [e]
    exact l6_last _ (fun a' f => hX a' w' f hM)
end Go.Proofs.Ytnoebhnkkigkjaa.Dig

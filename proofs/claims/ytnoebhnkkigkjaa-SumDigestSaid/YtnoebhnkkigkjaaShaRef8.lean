/- The walk over the reference's digest in pieces: the bytes that come out. -/
import Derived.Test.YtnoebhnkkigkjaaShaRef7
namespace Go.Proofs.Ytnoebhnkkigkjaa.Dig
open Go Go.RowKit Go.Proofs.Ytnoebhnkkigkjaa.QDig Go.Proofs.YtnoebhnkkigkjaaW.PrintWords Go.Proofs.YtnoebhnkkigkjaaW.PrintLast Go.Proofs.YtnoebhnkkigkjaaW.PrintMore Gy

structure Fr8 (w : World) (gb : Nat) (a : Act) : Prop where
  size : a.tmps.size = 242
  defers : a.defers = []
  t2 : a.tmps.getD 2 undef = .pointer (some ⟨w.heap.size, 0, none⟩)
  t4 : a.tmps.getD 4 undef = .pointer (some ⟨w.heap.size + 1 + 1, 0, none⟩)
  t18 : a.tmps.getD 18 undef = .pointer (some ⟨gb, 0, none⟩)
structure Out8 (w wr : World) (gb : Nat) (s : St) (m : Nat) : Prop where
  O : OutAt w wr gb s m
  H : Arr wr (w.heap.size + 1 + 1) (n64 s.nats)
  o : w.heap.size + 1 + 1 + 1 ≤ gb
theorem and255 (x : Nat) (h : x < 4294967296) : Go.bits .and .u64 (x : Int) 255 = ((x % 256 : Nat) : Int) := by
  have h1 := Go.bits_and_u64_nat x 255 (by omega) (by omega)
  have h2 := Nat.and_two_pow_sub_one_eq_mod x 8
  rw [show (2 ^ 8 - 1 : Nat) = 255 from rfl] at h2
  rw [h2] at h1
  exact h1
theorem byte_form8 (x k : Nat) (h : x < 4294967296) : Go.bits .and .u64 ((x : Int) / 2 ^ k) 255 % 256 = ((x / 2 ^ k % 256 : Nat) : Int) := by
  have e : (x : Int) / 2 ^ k = ((x / 2 ^ k : Nat) : Int) := by norm_cast
  have hl : x / 2 ^ k < 4294967296 := Nat.lt_of_le_of_lt (Nat.div_le_self _ _) h
  rw [e, and255 _ hl]
  omega
theorem parts (m : Nat) (h : m < 32) : ∃ i j : Nat, Int.tdiv (m : Int) 4 = (i : Int) ∧ Int.tmod (m : Int) 4 = (j : Int) ∧ i < 8 ∧ j < 4 ∧ m = 4 * i + j := by
  refine ⟨m / 4, m % 4, ?_, ?_, by omega, by omega, by omega⟩
  · rw [Int.tdiv_eq_ediv_of_nonneg (by omega)]; omega
  · rw [Int.tmod_eq_emod_of_nonneg (by omega)]; omega
set_option maxHeartbeats 2000000 in
set_option maxRecDepth 100000 in
theorem l8_step {u0 u1 u3 u5 u6 u7 u8 u9 u10 u11 u12 u13 u14 u15 u16 u17 u19 u20 u21 u22 u23 u24 u25 u26 u27 u28 u29 u30 u31 u32 u33 u34 u35 u36 u37 u38 u39 u40 u41 u42 u43 u44 u45 u46 u47 u48 u49 u50 u51 u52 u53 u54 u55 u56 u57 u58 u59 u60 u61 u62 u63 u64 u65 u66 u67 u68 u69 u70 u71 u72 u73 u74 u75 u76 u77 u78 u79 u80 u81 u82 u83 u84 u85 u86 u87 u88 u89 u90 u91 u92 u93 u94 u95 u96 u97 u98 u99 u100 u101 u102 u103 u104 u105 u106 u107 u108 u109 u110 u111 u112 u113 u114 u115 u116 u117 u118 u119 u120 u121 u122 u123 u124 u125 u126 u127 u128 u129 u130 u131 u132 u133 u134 u135 u136 u137 u138 u139 u140 u141 u142 u143 u144 u145 u146 u147 u148 u149 u150 u151 u152 u153 u154 u155 u156 u157 u158 u159 u160 u161 u162 u163 u164 u165 u166 u167 u168 u169 u170 u171 u172 u173 u174 u175 u176 u177 u178 u179 u180 u181 u182 u183 u184 u185 u186 u187 u188 u189 u190 u191 u192 u193 u194 u195 u196 u197 u198 u199 u200 u201 u202 u203 u204 u205 u206 u207 u208 u209 u210 u211 u212 u213 u214 u215 u216 u217 u218 u219 u220 u221 u222 u224 u225 u226 u227 u228 u229 u230 u231 u232 u233 u234 u235 u236 u237 u238 u239 u240 u241 : Value} {w wr : World} {gb m : Nat} {s : St} (Q : Exit → Act → World → Prop) (hok : s.ok) (hm : m < 32) (hM : Out8 w wr gb s m)
    (hQ : ∀ a' w', Fr8 w gb a' → a'.tmps.getD 223 undef = .int .i64 ((m : Int) + 1) → Out8 w w' gb s (m + 1) → Q .normal a' w') :
    Code.wp Try.prog (bodyOf 7) Q ⟨#[u0, u1, .pointer (some ⟨w.heap.size, 0, none⟩), u3, .pointer (some ⟨w.heap.size + 1 + 1, 0, none⟩), u5, u6, u7, u8, u9, u10, u11, u12, u13, u14, u15, u16, u17, .pointer (some ⟨gb, 0, none⟩), u19, u20, u21, u22, u23, u24, u25, u26, u27, u28, u29, u30, u31, u32, u33, u34, u35, u36, u37, u38, u39, u40, u41, u42, u43, u44, u45, u46, u47, u48, u49, u50, u51, u52, u53, u54, u55, u56, u57, u58, u59, u60, u61, u62, u63, u64, u65, u66, u67, u68, u69, u70, u71, u72, u73, u74, u75, u76, u77, u78, u79, u80, u81, u82, u83, u84, u85, u86, u87, u88, u89, u90, u91, u92, u93, u94, u95, u96, u97, u98, u99, u100, u101, u102, u103, u104, u105, u106, u107, u108, u109, u110, u111, u112, u113, u114, u115, u116, u117, u118, u119, u120, u121, u122, u123, u124, u125, u126, u127, u128, u129, u130, u131, u132, u133, u134, u135, u136, u137, u138, u139, u140, u141, u142, u143, u144, u145, u146, u147, u148, u149, u150, u151, u152, u153, u154, u155, u156, u157, u158, u159, u160, u161, u162, u163, u164, u165, u166, u167, u168, u169, u170, u171, u172, u173, u174, u175, u176, u177, u178, u179, u180, u181, u182, u183, u184, u185, u186, u187, u188, u189, u190, u191, u192, u193, u194, u195, u196, u197, u198, u199, u200, u201, u202, u203, u204, u205, u206, u207, u208, u209, u210, u211, u212, u213, u214, u215, u216, u217, u218, u219, u220, u221, u222, .int .i64 (m : Int), u224, u225, u226, u227, u228, u229, u230, u231, u232, u233, u234, u235, u236, u237, u238, u239, u240, u241], []⟩ wr := by
  conv => arg 2; whnf
  have HQ := Lib.hid hQ
  have t5 : decide ((m : Int) < 32) = true := decide_eq_true (by omega)
  have bm : (m : Int) < 32 := by omega
  obtain ⟨i, k, q1, r1, bi, bj, hm2⟩ := parts m hm
  have ck : wr.cell? ⟨w.heap.size + 1 + 1, i, none⟩ = some (.int .u64 ((s.nats.getD i 0 : Nat) : Int)) := hM.H.cell (n64_at (show i < s.nats.length from bi))
  have lx := nats_lt hok i bi
  have hO := hM.O
  rw [hm2] at hO
  obtain ⟨v0, c0, f0⟩ := hO.cell bi bj
  have hst := hO.set bi bj
  rw [← hm2] at c0 f0 hst
  have HST := Lib.hid (show Out8 w _ gb s (m + 1) from ⟨hst, hM.H.far (by have := hM.o; omega) _ _, hM.o⟩)
  generalize s.nats.getD i 0 = x at ck lx HST
  have HB := Lib.hid (fun k => byte_form8 x k lx)
  clear hQ hM hst hO hok hm2
  go_wp2
  rw [HB.out]
  exact HQ.out _ _ ⟨rfl, rfl, rfl, rfl, rfl⟩ rfl HST.out
set_option maxHeartbeats 2000000 in
set_option maxRecDepth 100000 in
theorem l8_last {u0 u1 u3 u5 u6 u7 u8 u9 u10 u11 u12 u13 u14 u15 u16 u17 u19 u20 u21 u22 u23 u24 u25 u26 u27 u28 u29 u30 u31 u32 u33 u34 u35 u36 u37 u38 u39 u40 u41 u42 u43 u44 u45 u46 u47 u48 u49 u50 u51 u52 u53 u54 u55 u56 u57 u58 u59 u60 u61 u62 u63 u64 u65 u66 u67 u68 u69 u70 u71 u72 u73 u74 u75 u76 u77 u78 u79 u80 u81 u82 u83 u84 u85 u86 u87 u88 u89 u90 u91 u92 u93 u94 u95 u96 u97 u98 u99 u100 u101 u102 u103 u104 u105 u106 u107 u108 u109 u110 u111 u112 u113 u114 u115 u116 u117 u118 u119 u120 u121 u122 u123 u124 u125 u126 u127 u128 u129 u130 u131 u132 u133 u134 u135 u136 u137 u138 u139 u140 u141 u142 u143 u144 u145 u146 u147 u148 u149 u150 u151 u152 u153 u154 u155 u156 u157 u158 u159 u160 u161 u162 u163 u164 u165 u166 u167 u168 u169 u170 u171 u172 u173 u174 u175 u176 u177 u178 u179 u180 u181 u182 u183 u184 u185 u186 u187 u188 u189 u190 u191 u192 u193 u194 u195 u196 u197 u198 u199 u200 u201 u202 u203 u204 u205 u206 u207 u208 u209 u210 u211 u212 u213 u214 u215 u216 u217 u218 u219 u220 u221 u222 u224 u225 u226 u227 u228 u229 u230 u231 u232 u233 u234 u235 u236 u237 u238 u239 u240 u241 : Value} {w wr : World} {gb m : Nat} (Q : Exit → Act → World → Prop) (hm : ¬ m < 32)
    (hQ : ∀ a', Fr8 w gb a' → Q (.exit 14) a' wr) :
    Code.wp Try.prog (bodyOf 7) Q ⟨#[u0, u1, .pointer (some ⟨w.heap.size, 0, none⟩), u3, .pointer (some ⟨w.heap.size + 1 + 1, 0, none⟩), u5, u6, u7, u8, u9, u10, u11, u12, u13, u14, u15, u16, u17, .pointer (some ⟨gb, 0, none⟩), u19, u20, u21, u22, u23, u24, u25, u26, u27, u28, u29, u30, u31, u32, u33, u34, u35, u36, u37, u38, u39, u40, u41, u42, u43, u44, u45, u46, u47, u48, u49, u50, u51, u52, u53, u54, u55, u56, u57, u58, u59, u60, u61, u62, u63, u64, u65, u66, u67, u68, u69, u70, u71, u72, u73, u74, u75, u76, u77, u78, u79, u80, u81, u82, u83, u84, u85, u86, u87, u88, u89, u90, u91, u92, u93, u94, u95, u96, u97, u98, u99, u100, u101, u102, u103, u104, u105, u106, u107, u108, u109, u110, u111, u112, u113, u114, u115, u116, u117, u118, u119, u120, u121, u122, u123, u124, u125, u126, u127, u128, u129, u130, u131, u132, u133, u134, u135, u136, u137, u138, u139, u140, u141, u142, u143, u144, u145, u146, u147, u148, u149, u150, u151, u152, u153, u154, u155, u156, u157, u158, u159, u160, u161, u162, u163, u164, u165, u166, u167, u168, u169, u170, u171, u172, u173, u174, u175, u176, u177, u178, u179, u180, u181, u182, u183, u184, u185, u186, u187, u188, u189, u190, u191, u192, u193, u194, u195, u196, u197, u198, u199, u200, u201, u202, u203, u204, u205, u206, u207, u208, u209, u210, u211, u212, u213, u214, u215, u216, u217, u218, u219, u220, u221, u222, .int .i64 (m : Int), u224, u225, u226, u227, u228, u229, u230, u231, u232, u233, u234, u235, u236, u237, u238, u239, u240, u241], []⟩ wr := by
  conv => arg 2; whnf
  have HQ := Lib.hid hQ
  have t5 : decide ((m : Int) < 32) = false := by simp; omega
  clear hQ
  go_wp2
  exact HQ.out _ ⟨rfl, rfl, rfl, rfl, rfl⟩
set_option maxRecDepth 100000 in
theorem l8_loop {w wr : World} {gb : Nat} {s : St} {a : Act} (Q : Exit → Act → World → Prop) (hok : s.ok) (hF : Fr8 w gb a) (h223 : a.tmps.getD 223 undef = .int .i64 0) (hM : Out8 w wr gb s 0)
    (hX : ∀ a' w', Fr8 w gb a' → Out8 w w' gb s 32 → Q (.exit 14) a' w') : Code.wp Try.prog (Code.loop (bodyOf 7)) Q a wr := by
  refine wp_loop (fun a w' => ∃ m : Nat, m ≤ 32 ∧ Fr8 w gb a ∧ a.tmps.getD 223 undef = .int .i64 (m : Int) ∧ Out8 w w' gb s m) (fun a _ => 32 - (intOf (a.tmps.getD 223 undef)).toNat) ⟨0, by omega, hF, h223, hM⟩ ?_
  rintro a w' ⟨m, h2, hF, h9, hM⟩
  have e := frame_out a hF.size hF.defers
  rw [hF.t2, hF.t4, hF.t18, h9] at e
  by_cases hm : m < 32
  · have hQ : ∀ a' w'', Fr8 w gb a' → a'.tmps.getD 223 undef = .int .i64 ((m : Int) + 1) → Out8 w w'' gb s (m + 1) → Exit.then (fun a' w' => (∃ m : Nat, m ≤ 32 ∧ Fr8 w gb a' ∧ a'.tmps.getD 223 undef = .int .i64 (m : Int) ∧ Out8 w w' gb s m) ∧ 32 - (intOf (a'.tmps.getD 223 undef)).toNat < 32 - (intOf (a.tmps.getD 223 undef)).toNat) Q .normal a' w'' :=
      fun a' w'' f1 f2 f3 => ⟨⟨m + 1, hm, f1, f2, f3⟩, mu_at 223 32 h9 f2 hm⟩
    generalize Exit.then (fun a' w' => (∃ m : Nat, m ≤ 32 ∧ Fr8 w gb a' ∧ a'.tmps.getD 223 undef = .int .i64 (m : Int) ∧ Out8 w w' gb s m) ∧ 32 - (intOf (a'.tmps.getD 223 undef)).toNat < 32 - (intOf (a.tmps.getD 223 undef)).toNat) Q = Q2 at hQ ⊢
    rw [e]
    exact l8_step Q2 hok hm hM hQ
  · obtain rfl : m = 32 := by omega
    rw [e]
    exact l8_last _ hm (fun a' f => hX a' w' f hM)
theorem out8_start {w wr : World} {g : Nat} {al : List Int} {t : St} (h : RefC w wr g al t.nats) (z32 : Array Value) (h32 : z32 = (nums .u8 (List.replicate 32 0)).toArray) : Out8 w (wr.alloc (.cells z32 49)) wr.heap.size t 0 := by
  have h1 := h.H.lt
  exact ⟨⟨h.R.alloc _, Arr.fresh wr _ z32 (by rw [bPart_zero]; exact h32) _, h.B.alloc (by omega) _, by omega⟩, h.H.alloc _, by omega⟩
end Go.Proofs.Ytnoebhnkkigkjaa.Dig

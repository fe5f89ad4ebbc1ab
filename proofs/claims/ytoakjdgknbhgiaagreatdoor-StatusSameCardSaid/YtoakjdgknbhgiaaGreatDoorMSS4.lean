/- The walk over the reference's digest in pieces: the bytes that come out. -/
import Derived.Test.YtoakjdgknbhgiaaGreatDoorMSS3
import Derived.ChangeKeysEq
import Derived.Laws.Tables
import Derived.Test.YtoakjdgknbhgiaaGreatDoorProg
import Derived.Shelf.Strings.SplitShaped
import Derived.Ground.NamesProg
import Derived.Below
import Derived.Deep.Draws
import Derived.Deep.AppendLies
import Derived.Maps.AppendAt
import Derived.OwnWalk
import Derived.Laws.BytesArg
import Derived.Laws.MakeOwn
import Derived.Laws.OwnMore
import Derived.Deep.OwnRows
import Derived.Tactics
import Derived.Lib.ConvBytes
import Derived.Laws.Slices
import Derived.WalkKit
import Derived.KernelRfl
import Derived.RowKit3
import Derived.Deep.LoopGhost
import Derived.Deep.QuietTactic
import Derived.BigQuiet
import Derived.WideLaws
import Derived.Deep.DeepCutAuto
import Derived.Deep.CutBlock
import Derived.Deep.RegionHeld3
import Derived.Laws.Rows
import Derived.Lib.AppendStr
import Derived.ArgAppend
import Derived.Laws.IdiomCopy
import Derived.OrdersHeld
import Derived.Laws.BitsLemmas
import Derived.RowKit
import Derived.Test.YtoakjdgknbhgiaaGreatDoorWWords
import Derived.Test.YtoakjdgknbhgiaaGreatDoorWLast
import Derived.Test.YtoakjdgknbhgiaaGreatDoorWTab
import Derived.Test.YtoakjdgknbhgiaaGreatDoorWFour
import Derived.Test.YtoakjdgknbhgiaaGreatDoorWQPut
import Derived.Test.YtoakjdgknbhgiaaGreatDoorWApart
import Derived.Test.YtoakjdgknbhgiaaGreatDoorWArr
import Derived.Test.YtoakjdgknbhgiaaGreatDoorWZeros
import Derived.Test.YtoakjdgknbhgiaaGreatDoorWFoot
import Derived.Test.YtoakjdgknbhgiaaGreatDoorWKept
import Derived.Test.YtoakjdgknbhgiaaGreatDoorWShare
import Derived.Test.YtoakjdgknbhgiaaGreatDoorWN
import Derived.Test.YtoakjdgknbhgiaaGreatDoorWFootNe
import Derived.Test.YtoakjdgknbhgiaaGreatDoorWAt
import Derived.Test.YtoakjdgknbhgiaaGreatDoorWEqStruct
import Derived.Test.YtoakjdgknbhgiaaGreatDoorWRepsOne
import Derived.Test.YtoakjdgknbhgiaaGreatDoorWInv
import Derived.Test.YtoakjdgknbhgiaaGreatDoorWInvWords
import Derived.Test.YtoakjdgknbhgiaaGreatDoorWGuard
import Derived.Test.YtoakjdgknbhgiaaGreatDoorWNEv
import Derived.Test.YtoakjdgknbhgiaaGreatDoorWMore
import Derived.Lib.SmallJoins
import Derived.Lib.AppendIntMem
import Derived.Lib.AtoiErrMem
import Derived.Lib.SplitLaws
import Derived.Lib.Hide
import Derived.BigCall
import Derived.Maps.Own
import Derived.Maps.Keyed

namespace Go.Proofs.YtoakjdgknbhgiaaGreatDoor.Dig
open Go Go.RowKit Go.Proofs.YtoakjdgknbhgiaaGreatDoor.QDig Go.Proofs.YtoakjdgknbhgiaaGreatDoorW.PrintWords Go.Proofs.YtoakjdgknbhgiaaGreatDoorW.PrintLast Go.Proofs.YtoakjdgknbhgiaaGreatDoorW.PrintMore Gy

structure Fr8 (w : World) (gb : Nat) (a : Act) : Prop where
  size : a.tmps.size = 242
  defers : a.defers = []
  t2 : a.tmps.getD 2 undef = .pointer (some ⟨w.heap.size, 0, none⟩)
  t4 : a.tmps.getD 4 undef = .pointer (some ⟨w.heap.size + 1 + 1, 0, none⟩)
  t18 : a.tmps.getD 18 undef = .pointer (some ⟨gb, 0, none⟩)
structure Out8 (w wr : World) (gb : Nat) (s : St) (m : Nat) : Prop where
  O : OutAt w wr gb s m
  H : Arr wr (w.heap.size + 1 + 1) (n64 s.nats)
  o : w.heap.size + 1 + 1 + 1 ≤ gb
theorem and255 (x : Nat) (h : x < 4294967296) : Go.bits .and .u64 (x : Int) 255 = ((x % 256 : Nat) : Int) := by
  have h1 := Go.bits_and_u64_nat x 255 (by omega) (by omega)
  have h2 := Nat.and_two_pow_sub_one_eq_mod x 8
  rw [show (2 ^ 8 - 1 : Nat) = 255 from rfl] at h2
  rw [h2] at h1
  exact h1
theorem byte_form8 (x k : Nat) (h : x < 4294967296) : Go.bits .and .u64 ((x : Int) / 2 ^ k) 255 % 256 = ((x / 2 ^ k % 256 : Nat) : Int) := by
  have e : (x : Int) / 2 ^ k = ((x / 2 ^ k : Nat) : Int) := by norm_cast
  have hl : x / 2 ^ k < 4294967296 := Nat.lt_of_le_of_lt (Nat.div_le_self _ _) h
  rw [e, and255 _ hl]
  omega
theorem parts (m : Nat) (h : m < 32) : ∃ i j : Nat, Int.tdiv (m : Int) 4 = (i : Int) ∧ Int.tmod (m : Int) 4 = (j : Int) ∧ i < 8 ∧ j < 4 ∧ m = 4 * i + j := by
  refine ⟨m / 4, m % 4, ?_, ?_, by omega, by omega, by omega⟩
  · rw [Int.tdiv_eq_ediv_of_nonneg (by omega)]; omega
  · rw [Int.tmod_eq_emod_of_nonneg (by omega)]; omega
set_option maxHeartbeats 2000000 in
set_option maxRecDepth 100000 in
theorem l8_step {u0 u1 u3 u5 u6 u7 u8 u9 u10 u11 u12 u13 u14 u15 u16 u17 u19 u20 u21 u22 u23 u24 u25 u26 u27 u28 u29 u30 u31 u32 u33 u34 u35 u36 u37 u38 u39 u40 u41 u42 u43 u44 u45 u46 u47 u48 u49 u50 u51 u52 u53 u54 u55 u56 u57 u58 u59 u60 u61 u62 u63 u64 u65 u66 u67 u68 u69 u70 u71 u72 u73 u74 u75 u76 u77 u78 u79 u80 u81 u82 u83 u84 u85 u86 u87 u88 u89 u90 u91 u92 u93 u94 u95 u96 u97 u98 u99 u100 u101 u102 u103 u104 u105 u106 u107 u108 u109 u110 u111 u112 u113 u114 u115 u116 u117 u118 u119 u120 u121 u122 u123 u124 u125 u126 u127 u128 u129 u130 u131 u132 u133 u134 u135 u136 u137 u138 u139 u140 u141 u142 u143 u144 u145 u146 u147 u148 u149 u150 u151 u152 u153 u154 u155 u156 u157 u158 u159 u160 u161 u162 u163 u164 u165 u166 u167 u168 u169 u170 u171 u172 u173 u174 u175 u176 u177 u178 u179 u180 u181 u182 u183 u184 u185 u186 u187 u188 u189 u190 u191 u192 u193 u194 u195 u196 u197 u198 u199 u200 u201 u202 u203 u204 u205 u206 u207 u208 u209 u210 u211 u212 u213 u214 u215 u216 u217 u218 u219 u220 u221 u222 u224 u225 u226 u227 u228 u229 u230 u231 u232 u233 u234 u235 u236 u237 u238 u239 u240 u241 : Value} {w wr : World} {gb m : Nat} {s : St} (Q : Exit → Act → World → Prop) (hok : s.ok) (hm : m < 32) (hM : Out8 w wr gb s m)
    (hQ : ∀ a' w', Fr8 w gb a' → a'.tmps.getD 223 undef = .int .i64 ((m : Int) + 1) → Out8 w w' gb s (m + 1) → Q .normal a' w') :
    Code.wp Tryz.prog (bodyOf 7) Q ⟨#[u0, u1, .pointer (some ⟨w.heap.size, 0, none⟩), u3, .pointer (some ⟨w.heap.size + 1 + 1, 0, none⟩), u5, u6, u7, u8, u9, u10, u11, u12, u13, u14, u15, u16, u17, .pointer (some ⟨gb, 0, none⟩), u19, u20, u21, u22, u23, u24, u25, u26, u27, u28, u29, u30, u31, u32, u33, u34, u35, u36, u37, u38, u39, u40, u41, u42, u43, u44, u45, u46, u47, u48, u49, u50, u51, u52, u53, u54, u55, u56, u57, u58, u59, u60, u61, u62, u63, u64, u65, u66, u67, u68, u69, u70, u71, u72, u73, u74, u75, u76, u77, u78, u79, u80, u81, u82, u83, u84, u85, u86, u87, u88, u89, u90, u91, u92, u93, u94, u95, u96, u97, u98, u99, u100, u101, u102, u103, u104, u105, u106, u107, u108, u109, u110, u111, u112, u113, u114, u115, u116, u117, u118, u119, u120, u121, u122, u123, u124, u125, u126, u127, u128, u129, u130, u131, u132, u133, u134, u135, u136, u137, u138, u139, u140, u141, u142, u143, u144, u145, u146, u147, u148, u149, u150, u151, u152, u153, u154, u155, u156, u157, u158, u159, u160, u161, u162, u163, u164, u165, u166, u167, u168, u169, u170, u171, u172, u173, u174, u175, u176, u177, u178, u179, u180, u181, u182, u183, u184, u185, u186, u187, u188, u189, u190, u191, u192, u193, u194, u195, u196, u197, u198, u199, u200, u201, u202, u203, u204, u205, u206, u207, u208, u209, u210, u211, u212, u213, u214, u215, u216, u217, u218, u219, u220, u221, u222, .int .i64 (m : Int), u224, u225, u226, u227, u228, u229, u230, u231, u232, u233, u234, u235, u236, u237, u238, u239, u240, u241], []⟩ wr := by
  conv => arg 2; whnf
  have HQ := Lib.hid hQ
  have t5 : decide ((m : Int) < 32) = true := decide_eq_true (by omega)
  have bm : (m : Int) < 32 := by omega
  obtain ⟨i, k, q1, r1, bi, bj, hm2⟩ := parts m hm
  have ck : wr.cell? ⟨w.heap.size + 1 + 1, i, none⟩ = some (.int .u64 ((s.nats.getD i 0 : Nat) : Int)) := hM.H.cell (n64_at (show i < s.nats.length from bi))
  have lx := nats_lt hok i bi
  have hO := hM.O
  rw [hm2] at hO
  obtain ⟨v0, c0, f0⟩ := hO.cell bi bj
  have hst := hO.set bi bj
  rw [← hm2] at c0 f0 hst
  have HST := Lib.hid (show Out8 w _ gb s (m + 1) from ⟨hst, hM.H.far (by have := hM.o; omega) _ _, hM.o⟩)
  generalize s.nats.getD i 0 = x at ck lx HST
  have HB := Lib.hid (fun k => byte_form8 x k lx)
  clear hQ hM hst hO hok hm2
  go_wp2
  rw [HB.out]
  exact HQ.out _ _ ⟨rfl, rfl, rfl, rfl, rfl⟩ rfl HST.out
set_option maxHeartbeats 2000000 in
set_option maxRecDepth 100000 in
theorem l8_last {u0 u1 u3 u5 u6 u7 u8 u9 u10 u11 u12 u13 u14 u15 u16 u17 u19 u20 u21 u22 u23 u24 u25 u26 u27 u28 u29 u30 u31 u32 u33 u34 u35 u36 u37 u38 u39 u40 u41 u42 u43 u44 u45 u46 u47 u48 u49 u50 u51 u52 u53 u54 u55 u56 u57 u58 u59 u60 u61 u62 u63 u64 u65 u66 u67 u68 u69 u70 u71 u72 u73 u74 u75 u76 u77 u78 u79 u80 u81 u82 u83 u84 u85 u86 u87 u88 u89 u90 u91 u92 u93 u94 u95 u96 u97 u98 u99 u100 u101 u102 u103 u104 u105 u106 u107 u108 u109 u110 u111 u112 u113 u114 u115 u116 u117 u118 u119 u120 u121 u122 u123 u124 u125 u126 u127 u128 u129 u130 u131 u132 u133 u134 u135 u136 u137 u138 u139 u140 u141 u142 u143 u144 u145 u146 u147 u148 u149 u150 u151 u152 u153 u154 u155 u156 u157 u158 u159 u160 u161 u162 u163 u164 u165 u166 u167 u168 u169 u170 u171 u172 u173 u174 u175 u176 u177 u178 u179 u180 u181 u182 u183 u184 u185 u186 u187 u188 u189 u190 u191 u192 u193 u194 u195 u196 u197 u198 u199 u200 u201 u202 u203 u204 u205 u206 u207 u208 u209 u210 u211 u212 u213 u214 u215 u216 u217 u218 u219 u220 u221 u222 u224 u225 u226 u227 u228 u229 u230 u231 u232 u233 u234 u235 u236 u237 u238 u239 u240 u241 : Value} {w wr : World} {gb m : Nat} (Q : Exit → Act → World → Prop) (hm : ¬ m < 32)
    (hQ : ∀ a', Fr8 w gb a' → Q (.exit 14) a' wr) :
    Code.wp Tryz.prog (bodyOf 7) Q ⟨#[u0, u1, .pointer (some ⟨w.heap.size, 0, none⟩), u3, .pointer (some ⟨w.heap.size + 1 + 1, 0, none⟩), u5, u6, u7, u8, u9, u10, u11, u12, u13, u14, u15, u16, u17, .pointer (some ⟨gb, 0, none⟩), u19, u20, u21, u22, u23, u24, u25, u26, u27, u28, u29, u30, u31, u32, u33, u34, u35, u36, u37, u38, u39, u40, u41, u42, u43, u44, u45, u46, u47, u48, u49, u50, u51, u52, u53, u54, u55, u56, u57, u58, u59, u60, u61, u62, u63, u64, u65, u66, u67, u68, u69, u70, u71, u72, u73, u74, u75, u76, u77, u78, u79, u80, u81, u82, u83, u84, u85, u86, u87, u88, u89, u90, u91, u92, u93, u94, u95, u96, u97, u98, u99, u100, u101, u102, u103, u104, u105, u106, u107, u108, u109, u110, u111, u112, u113, u114, u115, u116, u117, u118, u119, u120, u121, u122, u123, u124, u125, u126, u127, u128, u129, u130, u131, u132, u133, u134, u135, u136, u137, u138, u139, u140, u141, u142, u143, u144, u145, u146, u147, u148, u149, u150, u151, u152, u153, u154, u155, u156, u157, u158, u159, u160, u161, u162, u163, u164, u165, u166, u167, u168, u169, u170, u171, u172, u173, u174, u175, u176, u177, u178, u179, u180, u181, u182, u183, u184, u185, u186, u187, u188, u189, u190, u191, u192, u193, u194, u195, u196, u197, u198, u199, u200, u201, u202, u203, u204, u205, u206, u207, u208, u209, u210, u211, u212, u213, u214, u215, u216, u217, u218, u219, u220, u221, u222, .int .i64 (m : Int), u224, u225, u226, u227, u228, u229, u230, u231, u232, u233, u234, u235, u236, u237, u238, u239, u240, u241], []⟩ wr := by
  conv => arg 2; whnf
  have HQ := Lib.hid hQ
  have t5 : decide ((m : Int) < 32) = false := by simp; omega
  clear hQ
  go_wp2
  exact HQ.out _ ⟨rfl, rfl, rfl, rfl, rfl⟩
set_option maxRecDepth 100000 in
theorem l8_loop {w wr : World} {gb : Nat} {s : St} {a : Act} (Q : Exit → Act → World → Prop) (hok : s.ok) (hF : Fr8 w gb a) (h223 : a.tmps.getD 223 undef = .int .i64 0) (hM : Out8 w wr gb s 0)
    (hX : ∀ a' w', Fr8 w gb a' → Out8 w w' gb s 32 → Q (.exit 14) a' w') : Code.wp Tryz.prog (Code.loop (bodyOf 7)) Q a wr := by
  refine wp_loop (fun a w' => ∃ m : Nat, m ≤ 32 ∧ Fr8 w gb a ∧ a.tmps.getD 223 undef = .int .i64 (m : Int) ∧ Out8 w w' gb s m) (fun a _ => 32 - (intOf (a.tmps.getD 223 undef)).toNat) ⟨0, by omega, hF, h223, hM⟩ ?_
  rintro a w' ⟨m, h2, hF, h9, hM⟩
  have e := frame_out a hF.size hF.defers
  rw [hF.t2, hF.t4, hF.t18, h9] at e
  by_cases hm : m < 32
  · have hQ : ∀ a' w'', Fr8 w gb a' → a'.tmps.getD 223 undef = .int .i64 ((m : Int) + 1) → Out8 w w'' gb s (m + 1) → Exit.then (fun a' w' => (∃ m : Nat, m ≤ 32 ∧ Fr8 w gb a' ∧ a'.tmps.getD 223 undef = .int .i64 (m : Int) ∧ Out8 w w' gb s m) ∧ 32 - (intOf (a'.tmps.getD 223 undef)).toNat < 32 - (intOf (a.tmps.getD 223 undef)).toNat) Q .normal a' w'' :=
      fun a' w'' f1 f2 f3 => ⟨⟨m + 1, hm, f1, f2, f3⟩, mu_at 223 32 h9 f2 hm⟩
    generalize Exit.then (fun a' w' => (∃ m : Nat, m ≤ 32 ∧ Fr8 w gb a' ∧ a'.tmps.getD 223 undef = .int .i64 (m : Int) ∧ Out8 w w' gb s m) ∧ 32 - (intOf (a'.tmps.getD 223 undef)).toNat < 32 - (intOf (a.tmps.getD 223 undef)).toNat) Q = Q2 at hQ ⊢
    rw [e]
    exact l8_step Q2 hok hm hM hQ
  · obtain rfl : m = 32 := by omega
    rw [e]
    exact l8_last _ hm (fun a' f => hX a' w' f hM)
theorem out8_start {w wr : World} {g : Nat} {al : List Int} {t : St} (h : RefC w wr g al t.nats) (z32 : Array Value) (h32 : z32 = (nums .u8 (List.replicate 32 0)).toArray) : Out8 w (wr.alloc (.cells z32 23)) wr.heap.size t 0 := by
  have h1 := h.H.lt
  exact ⟨⟨h.R.alloc _, Arr.fresh wr _ z32 (by rw [bPart_zero]; exact h32) _, h.B.alloc (by omega) _, by omega⟩, h.H.alloc _, by omega⟩
end Go.Proofs.YtoakjdgknbhgiaaGreatDoor.Dig
/- The walk over the reference's digest: it is SHA-256. -/
namespace Go.Proofs.YtoakjdgknbhgiaaGreatDoor.Dig
open Go Go.RowKit Go.Proofs.YtoakjdgknbhgiaaGreatDoor.QDig Go.Proofs.YtoakjdgknbhgiaaGreatDoorW.PrintWords Go.Proofs.YtoakjdgknbhgiaaGreatDoorW.PrintLast Go.Proofs.YtoakjdgknbhgiaaGreatDoorW.PrintMore Gy

set_option maxHeartbeats 1000000 in
set_option maxRecDepth 100000 in
theorem ref_calls (A : Option Addr) (n c : Nat) (xs : List Int) (w : World) (hR : ReadsInt w .u8 A n xs) (hb : Bytes xs) (hx : xs.length ≤ 1000000) :
    Calls Tryz.prog 13 #[.slice A n c] w fun e w' => e = .returned (.agg (nums .u8 (sha xs)).toArray) ∧ Below w.heap.size w w' := by
  obtain rfl : xs.length = n := hR.1
  obtain ⟨al, hal⟩ : ∃ al, al = padded xs := ⟨_, rfl⟩
  obtain ⟨N, hN⟩ : ∃ N, N = padN xs.length / 64 := ⟨_, rfl⟩
  obtain ⟨fin, hfin⟩ : ∃ f, f = mixAll kTab al Gy.begun N := ⟨_, rfl⟩
  obtain ⟨bl, hbl⟩ : ∃ b, b = bytes32 fin := ⟨_, rfl⟩
  have hsha : sha xs = bl := by rw [hbl, hfin, hal, hN]; rfl
  have hlen : al.length = 64 * N := by rw [hal, padded_length, hN]; unfold padN; omega
  have hbn : 64 * N ≤ 1000072 := by rw [hN]; unfold padN; omega
  have hba : Bytes al := by rw [hal]; exact padded_bytes hb
  have hpos : 0 < al.length := by rw [hal, padded_length]; have := padN_le xs.length; omega
  rw [hsha]
  have hbl2 : bl.length = 32 := by rw [hbl, bytes32_length]
  have HBL := Lib.hid (And.intro hbl hbl2)
  clear hbl hbl2
  have HL := Lib.hid (And.intro hal (And.intro hlen (And.intro hbn (And.intro hba (And.intro hfin hpos)))))
  clear hal hN hfin hsha hlen hbn hba hpos
  obtain ⟨z32, hz32, hzr⟩ := zero_32
  obtain ⟨zt, hzt, hz64⟩ := zero_64w
  obtain ⟨zs, hzs, hz8⟩ := zero_8w
  have HR := Lib.hid (And.intro hR (And.intro hb hx))
  have HZ := Lib.hid (And.intro hz32 (And.intro hzt hzs))
  clear hR hb hx hz32 hzt hzs
  go_enter Tryz.func13, Tryz.ntmps13
  go_wp2_with (first
    | ((with_reducible refine gate_dst (N := 20) rfl ?_); refine run_value (d := 20) (v := .agg (n64 kTab).toArray) rfl rfl ?hr ?_; (case hr => kernel_rfl); simp only [Act.put, List.setIfInBounds_toArray, List.set_cons_zero, List.set_cons_succ])
    | (with_reducible refine store_row rfl 67 (.tmp 3) (.tmp 20) rfl rfl (w.heap.size + 1) (n64 kTab) rfl rfl (ref_k w z32 zt HZ.out.1 HZ.out.2.1).1 info_64w (n64_one kTab) ?_; (have F := Lib.hid (ref_k w z32 zt HZ.out.1 HZ.out.2.1).2); (generalize (((w.alloc (.cells z32 23)).alloc (.cells zt 67)).setCells (w.heap.size + 1) 0 (n64 kTab)) = X2 at F ⊢); have szF := F.out.sz)
    | ((with_reducible refine gate_dst (N := 21) rfl ?_); refine run_value (d := 21) (v := .agg (n64 Gy.begun.nats).toArray) rfl rfl ?hr ?_; (case hr => kernel_rfl); simp only [Act.put, List.setIfInBounds_toArray, List.set_cons_zero, List.set_cons_succ])
    | (with_reducible refine store_row rfl 68 (.tmp 4) (.tmp 21) rfl rfl (w.heap.size + 1 + 1) (n64 Gy.begun.nats) rfl rfl (ref_h F.out zs HZ.out.2.2 Gy.begun).1 (info_8b _) (n64_one _) ?_; (have G := Lib.hid (ref_h F.out zs HZ.out.2.2 Gy.begun).2); (generalize ((X2.alloc (.cells zs 68)).setCells (w.heap.size + 1 + 1) 0 (n64 Gy.begun.nats)) = W2 at G ⊢); clear szF F; have szG := G.out.sz)
    | (at_builtin; refine print_append_row (w0 := W2) (w.heap.size + 1 + 1 + 1) rfl (.tmp 22) (.tmp 23) 22 5 .u8 1 rfl Tryz.underlying22 info_u8 (by decide) (.slice (some ⟨w.heap.size + 1 + 1 + 1, 0, none⟩) 0 0) [] xs A xs.length c rfl rfl (gro_start G.out).own (Gy.reads_below HR.out.1 (G.out.B.trans ((Gy.alloc_below W2 _).mono G.out.B.size))) (gro_start G.out).bel (gro_start G.out).base (by have := HR.out.2.2; simp; omega) ?_; intro v1 w1 ho hb hgr hat; rw [List.nil_append] at ho; obtain ⟨A1, c1, rfl, hg1⟩ := gro_next (gro_start G.out).le ho hb xs.length rfl; have E1 := Lib.hid hg1; clear ho hb hgr hat hg1)
    | (at_builtin; refine print_append_row (w0 := W2) (w.heap.size + 1 + 1 + 1) rfl (.tmp 24) (.tmp 25) 22 5 .u8 1 rfl Tryz.underlying22 info_u8 (by decide) (.slice A1 xs.length c1) xs [128] (some ⟨w1.heap.size, 0, none⟩) 1 1 rfl rfl (E1.out.alloc _).own' (one_read w1 128) (E1.out.alloc _).bel (E1.out.alloc _).base (by have := HR.out.2.2; omega) ?_; intro v2 w2 ho hb hgr hat; rw [grown_zero] at ho; obtain ⟨A2, c2, rfl, hg2⟩ := gro_next (gro_start G.out).le ho hb (xs.length + 1) (grown_length xs 0).symm; have E2 := Lib.hid hg2; clear ho hb hgr hat hg2))
  have HP0 := Lib.hid (show Lp w W2 w2 xs (.slice A2 (xs.length + 1) c2) (xs.length + 1) 0 from ⟨E2.out, rfl, by have := padN_le xs.length; omega⟩)
  clear E1 E2
  go_loopw [5] (fun v5 wr => ∃ (q m : Nat) (A3 : Option Addr) (c3 : Nat), v5 = .slice A3 q c3 ∧ Gy.Hd (Lp w W2 wr xs (.slice A3 q c3) q m)) (fun v5 _ => padN xs.length - sliceLen v5)
  case atStart => exact ⟨_, 0, A2, c2, rfl, ⟨HP0.out⟩⟩
  case round =>
    obtain ⟨q, m, A3, c3, rfl, hH⟩ := hrel
    clear HP0
    by_cases hq : q % 64 = 56
    · obtain ⟨t1, t2, t3, t4⟩ := (pad_tests q).1 hq
      have HQ := Lib.hid (show xs.length + 1 + m = padN xs.length - 8 from by have h1 := hH.out.eq; have h2 := hH.out.le; have h3 := (pad_more xs.length m (by omega)).1 (by omega); omega)
      have hqb : q ≤ 1000072 := by have h1 := hH.out.le; have h2 := HR.out.2.2; unfold padN at h1; omega
      have hxb := HR.out.2.2
      clear hq
      go_wp2_with (first
        | (go_at_call 23; (with_reducible refine (Wide_at _ (xs.length * 8) 8 8 _ (by omega) rfl (by omega) (by omega)).mono ?_); rintro e w4 ⟨A4, c4, rfl, e1, e2⟩; have E4 := Lib.hid (And.intro (hH.out.G.below e2) e1); clear e1 e2)
        | (at_builtin; refine print_append_row (w0 := W2) (w.heap.size + 1 + 1 + 1) rfl (.tmp 34) (.tmp 39) 22 5 .u8 1 rfl Tryz.underlying22 info_u8 (by decide) (.slice A3 q c3) (grown xs m) (wideN (xs.length * 8) 8) A4 8 c4 rfl rfl E4.out.1.own' E4.out.2 E4.out.1.bel E4.out.1.base (by rw [grown_length]; have h1 := hH.out.eq; omega) ?_; intro v5 w5 ho hb hgr hat; rw [grown_end xs m HQ.out, ← HL.out.1] at ho; obtain ⟨A5, c5, rfl, hg5⟩ := gro_next (gro_start G.out).le ho hb al.length rfl; obtain ⟨g, rfl, hcap, hC⟩ := gro_ref G.out hg5 HL.out.2.2.2.2.2 (by have := HL.out.2.1; have := HL.out.2.2.1; omega); have E5 := Lib.hid (And.intro hcap hC); clear ho hb hgr hat hg5 hcap hC))
      clear t1 t2 t3 t4 hqb hxb hH HQ E4
      have HF := Lib.hid HL.out.2.2.2.2.1
      refine l2_loop (N := N) _ HL.out.2.2.2.1 E5.out.1 (by have h1 := HL.out.2.1; have h2 := HL.out.2.2.1; omega) HL.out.2.1 ⟨rfl, rfl, rfl, rfl, rfl, rfl, rfl⟩ E5.out.2 ?_
      intro a w6 hF hM
      rw [← HF.out] at hM
      obtain ⟨v, hv, e⟩ := frame_fn a hF.size hF.defers
      rw [(hv 2).trans hF.t2, (hv 4).trans hF.t4] at e
      rw [e]
      have HO := Lib.hid (out8_start hM z32 HZ.out.1)
      clear e hF hv hM E5
      go_wp2
      generalize w6.heap.size = gb at HO ⊢
      refine l8_loop (s := fin) _ (by rw [HF.out]; exact mixAll_ok begun_ok N) ⟨rfl, rfl, rfl, rfl, rfl⟩ rfl HO.out ?_
      intro a w7 hF hM
      obtain ⟨v2, hv, e⟩ := frame_fn a hF.size hF.defers
      rw [(hv 2).trans hF.t2, (hv 18).trans hF.t18] at e
      rw [e]
      have hq := hM.O
      have HO32 := hq.O
      rw [bPart_all, ← HBL.out.1] at HO32
      have HM := Lib.hid HO32
      have HB := Lib.hid (And.intro (hq.R.there2 (nums .u8 bl) (len_32 HBL.out.2)) (And.intro ((hq.R.put (nums .u8 bl) (len_32 HBL.out.2)).loadV (P := Tryz.prog) Tryz.underlying23 rfl (info_32a HBL.out.2)) (setCells_below (Nat.le_refl _) (nums .u8 bl) 0 hq.B)))
      clear e hF hv hM hq HO32 HO
      go_wp2_with (first
        | (with_reducible refine wpList_load_mid rfl 23 (.tmp 18) rfl gb 0 rfl (nums .u8 bl) _ HM.out.at_ Tryz.underlying23 rfl (info_32a HBL.out.2) ?_)
        | (with_reducible refine store_row rfl 23 (.tmp 2) (.tmp 241) rfl rfl w.heap.size (nums .u8 bl) rfl rfl HB.out.1 (info_32b HBL.out.2) (nums_one _ _) ?_))
      exact bodyPost_ret (results_arr rfl rfl HB.out.2.1) rfl ⟨rfl, HB.out.2.2⟩
    · obtain ⟨t1, t2, t3, t4⟩ := (pad_tests q).2 hq
      have HQ := Lib.hid (show q + 1 = xs.length + 1 + (m + 1) ∧ q < padN xs.length - 8 from by have h1 := hH.out.eq; have h2 := hH.out.le; have h3 := (pad_more xs.length m (by omega)).2 (by omega); omega)
      have hqb : q ≤ 1000072 := by have h1 := hH.out.le; have h2 := HR.out.2.2; unfold padN at h1; omega
      clear hq
      go_wp2_with (at_builtin; refine print_append_row (w0 := W2) (w.heap.size + 1 + 1 + 1) rfl (.tmp 31) (.tmp 32) 22 5 .u8 1 rfl Tryz.underlying22 info_u8 (by decide) (.slice A3 q c3) (grown xs m) [0] (some ⟨wr.heap.size, 0, none⟩) 1 1 rfl rfl (hH.out.G.alloc _).own' (one_read wr 0) (hH.out.G.alloc _).bel (hH.out.G.alloc _).base (by rw [grown_length]; have h1 := hH.out.eq; omega) ?_; intro v4 w4 ho hb hgr hat; rw [grown_next] at ho; obtain ⟨A4, c4, rfl, hg4⟩ := gro_next (gro_start G.out).le ho hb (q + 1) (by rw [grown_length]; exact HQ.out.1); have E4 := Lib.hid hg4; clear ho hb hgr hat hg4)
      exact ⟨⟨q + 1, m + 1, A4, c4, rfl, ⟨E4.out, HQ.out.1, HQ.out.2⟩⟩, end_pad (by have := HQ.out.2; omega)⟩
end Go.Proofs.YtoakjdgknbhgiaaGreatDoor.Dig
/- Arrays of bytes held against each other. -/
namespace Gy
open Go Go.RowKit Go.Proofs.YtoakjdgknbhgiaaGreatDoorW.PrintWords Go.Proofs.YtoakjdgknbhgiaaGreatDoorW.PrintMore

theorem run_eqItems_bytes {P : Program} (w : World) (d : Nat) {e : TypeId} (he : P.underlying e = some (.int .u8)) (xs ys : List Int) : ∀ (is : List Nat), (∀ i ∈ is, i < xs.length ∧ i < ys.length) →
    (Op.eqItems (d + 1) e 1 (nums .u8 xs).toArray (nums .u8 ys).toArray is).run P w = .ok (is.all fun i => xs.getD i 0 == ys.getD i 0) w := by
  intro is
  induction is with
  | nil => intro _; rfl
  | cons i is ih =>
    intro h
    have hp : P.plainKey e = true := by unfold Program.plainKey; rw [he]
    obtain ⟨h1, h2⟩ := h i List.mem_cons_self
    have k1 : (nums .u8 xs).toArray[i * 1]? = some (.int .u8 (xs.getD i 0)) := by rw [Nat.mul_one, List.getElem?_toArray]; exact nums_getD h1
    have k2 : (nums .u8 ys).toArray[i * 1]? = some (.int .u8 (ys.getD i 0)) := by rw [Nat.mul_one, List.getElem?_toArray]; exact nums_getD h2
    have ih := ih (fun j hj => h j (List.mem_cons_of_mem _ hj))
    simp only [Op.eqItems, Sem.run_bind, run_part_plain w hp k1, run_part_plain w hp k2, Result.andThen_ok, run_equalIn_int w d e .u8 .u8 _ _ he, List.all_cons]
    cases hb : (xs.getD i 0 == ys.getD i 0) with
    | true => simp [ih]
    | false => simp
theorem all_eq {xs ys : List Int} {n : Nat} (hx : xs.length = n) (hy : ys.length = n) : ((List.range n).all fun i => xs.getD i 0 == ys.getD i 0) = decide (xs = ys) := by
  rw [Bool.eq_iff_iff, List.all_eq_true, decide_eq_true_eq]
  constructor
  · intro h
    apply List.ext_getElem (by omega)
    intro i h1 h2
    have := h i (List.mem_range.2 (by omega))
    simpa [List.getD_eq_getElem?_getD, h1, h2] using this
  · rintro rfl i _
    simp
theorem run_eql_arr {P : Program} (w : World) (t e : TypeId) (n : Nat) {i : TypeInfo} (hu : P.underlying t = some (.array n e)) (hi : P.info? e = some i) (hc : P.cellsOf e = 1) (he : P.underlying e = some (.int .u8)) (xs ys : List Int) (hx : xs.length = n) (hy : ys.length = n) :
    (binOp .eql t (.agg (nums .u8 xs).toArray) (.agg (nums .u8 ys).toArray)).run P w = .ok (.bool (decide (xs = ys))) w := by
  have h1 : (Op.equal t (.agg (nums .u8 xs).toArray) (.agg (nums .u8 ys).toArray)).run P w = .ok (decide (xs = ys)) w := by
    unfold Op.equal
    rw [show Op.maxDepth = 9998 + 1 + 1 from rfl, run_equalIn_array w (9998 + 1) _ _ hu hi, hc, run_eqItems_bytes w 9998 he xs ys _ (fun j hj => by have := List.mem_range.1 hj; omega), all_eq hx hy]
  simp only [binOp, Sem.run_bind, h1, Result.andThen_ok]
  rfl
end Gy
/- CRCs on natural numbers: plain lemmas, no program in sight. -/
namespace Gy
open Go

def cstep (c : Nat) : Nat := if c % 2 = 1 then (c / 2) ^^^ 3988292384 else c / 2
def cturn : Nat → Nat → Nat
  | 0, c => c
  | n + 1, c => cturn n (cstep c)
def cbits : Nat → Nat → Nat → Nat
  | 0, _, c => c
  | n + 1, b, c => cbits n (b / 2) (cstep (c ^^^ b % 2))
def crcFold : Nat → List Int → Nat
  | c, [] => c
  | c, x :: l => crcFold (cturn 8 (c ^^^ x.toNat)) l
def crc (l : List Int) : Nat := crcFold 4294967295 l ^^^ 4294967295

theorem xor_lt32 {a b : Nat} (ha : a < 4294967296) (hb : b < 4294967296) : a ^^^ b < 4294967296 := Nat.xor_lt_two_pow (n := 32) ha hb
theorem cstep_lt {c : Nat} (h : c < 4294967296) : cstep c < 4294967296 := by
  unfold cstep; split
  · exact xor_lt32 (by omega) (by omega)
  · omega
theorem cturn_lt : ∀ (n c : Nat), c < 4294967296 → cturn n c < 4294967296 := by
  intro n
  induction n with
  | zero => intro c h; exact h
  | succ n ih => intro c h; exact ih _ (cstep_lt h)
theorem crcFold_lt : ∀ (l : List Int) (c : Nat), c < 4294967296 → (∀ x ∈ l, 0 ≤ x ∧ x < 256) → crcFold c l < 4294967296 := by
  intro l
  induction l with
  | nil => intro c h _; exact h
  | cons x l ih =>
    intro c h hx
    have := hx x (by simp)
    exact ih _ (cturn_lt 8 _ (xor_lt32 h (by omega))) (fun y hy => hx y (by simp [hy]))
theorem crc_lt (l : List Int) (h : ∀ x ∈ l, 0 ≤ x ∧ x < 256) : crc l < 4294967296 := xor_lt32 (crcFold_lt l _ (by omega) h) (by omega)
theorem xor_mod2 (a b : Nat) : (a ^^^ b) % 2 = (a % 2) ^^^ (b % 2) := by
  have := Nat.xor_mod_two_pow (a := a) (b := b) (n := 1)
  simpa using this
theorem xor_div2 (a b : Nat) : (a ^^^ b) / 2 = (a / 2) ^^^ (b / 2) := by
  have := Nat.xor_div_two_pow (a := a) (b := b) (n := 1)
  simpa using this
/-- what stands behind the last bit goes through a step -/
theorem cstep_split (c b : Nat) : cstep (c ^^^ b) = cstep (c ^^^ b % 2) ^^^ (b / 2) := by
  have h1 : (c ^^^ b) % 2 = (c ^^^ b % 2) % 2 := by rw [xor_mod2, xor_mod2 c (b % 2), Nat.mod_mod]
  have h2 : (c ^^^ b) / 2 = (c ^^^ b % 2) / 2 ^^^ (b / 2) := by
    rw [xor_div2, xor_div2 c (b % 2), show b % 2 / 2 = 0 from by omega, Nat.xor_zero]
  unfold cstep
  rw [h1, h2]
  split
  · ac_rfl
  · rfl
theorem cturn_bits : ∀ (n c b : Nat), b < 2 ^ n → cturn n (c ^^^ b) = cbits n b c := by
  intro n
  induction n with
  | zero =>
    intro c b h
    obtain rfl : b = 0 := by simp at h; omega
    exact Nat.xor_zero c
  | succ n ih =>
    intro c b h
    show cturn n (cstep (c ^^^ b)) = cbits n (b / 2) (cstep (c ^^^ b % 2))
    rw [cstep_split]
    exact ih _ _ (by rw [Nat.pow_succ] at h; omega)
theorem u8_range {x : Int} (h : (Lit.int .u8 x).wf = true) : 0 ≤ x ∧ x < 256 := by
  obtain ⟨n, rfl, hn⟩ := wf_u8 h
  omega
end Gy
/- Files cut into slices: the plain words. -/
namespace Gy
open Go Go.Proofs Go.RowKit Go.Proofs.YtoakjdgknbhgiaaGreatDoorW.PrintWords Go.Proofs.YtoakjdgknbhgiaaGreatDoorW.PrintMore

/-- a file's cells -/
def fileL (nm : ByteArray) (sz : Int) (D : List Int) (first : Int) : List Value := .string nm :: .int .i64 sz :: (nums .u8 D ++ [.int .i64 first])
/-- a slice's cells -/
def sliceL (sz crc : Int) (D : List Int) : List Value := .int .i64 sz :: .int .u32 crc :: nums .u8 D
structure Inp where
  name : ByteArray
  b : List Int
structure FileR where
  name : ByteArray
  size : Int
  dig : List Int
  first : Int
structure SliceR where
  size : Int
  crc : Int
  dig : List Int
def FileR.cells (f : FileR) : List Value := fileL f.name f.size f.dig f.first
def SliceR.cells (x : SliceR) : List Value := sliceL x.size x.crc x.dig
def chunksF (s : Nat) : Nat → List Int → List (List Int)
  | 0, _ => []
  | f + 1, b => if b.length = 0 then [] else b.take s :: chunksF s f (b.drop s)
def chunks (s : Nat) (b : List Int) : List (List Int) := chunksF s b.length b
theorem chunksF_any (s : Nat) (hs : 0 < s) : ∀ (f f' : Nat) (b : List Int), b.length ≤ f → b.length ≤ f' → chunksF s f b = chunksF s f' b := by
  intro f
  induction f with
  | zero =>
    intro f' b h _
    obtain rfl : b = [] := List.eq_nil_of_length_eq_zero (by omega)
    cases f' <;> rfl
  | succ f ih =>
    intro f' b h h'
    cases f' with
    | zero => obtain rfl : b = [] := List.eq_nil_of_length_eq_zero (by omega); rfl
    | succ f' =>
      unfold chunksF
      by_cases h0 : b.length = 0
      · rw [if_pos h0, if_pos h0]
      · rw [if_neg h0, if_neg h0, ih f' (b.drop s) (by rw [List.length_drop]; omega) (by rw [List.length_drop]; omega)]
theorem chunks_nil (s : Nat) : chunks s [] = [] := rfl
theorem chunks_step {s : Nat} (hs : 0 < s) {b : List Int} (hb : 0 < b.length) : chunks s b = b.take s :: chunks s (b.drop s) := by
  unfold chunks
  obtain ⟨n, hn⟩ : ∃ n, b.length = n + 1 := ⟨b.length - 1, by omega⟩
  rw [hn]
  show (if b.length = 0 then [] else b.take s :: chunksF s n (b.drop s)) = _
  rw [if_neg (by omega), chunksF_any s hs n (b.drop s).length (b.drop s) (by rw [List.length_drop]; omega) (Nat.le_refl _)]
theorem chunks_flat {s : Nat} (hs : 0 < s) : ∀ (n : Nat) (b : List Int), b.length ≤ n → (chunks s b).flatten = b := by
  intro n
  induction n with
  | zero => intro b h; obtain rfl : b = [] := List.eq_nil_of_length_eq_zero (by omega); rfl
  | succ n ih =>
    intro b h
    by_cases h0 : b.length = 0
    · obtain rfl : b = [] := List.eq_nil_of_length_eq_zero h0; rfl
    · rw [chunks_step hs (by omega), List.flatten_cons, ih _ (by rw [List.length_drop]; omega), List.take_append_drop]
theorem chunks_length_le {s : Nat} (hs : 0 < s) : ∀ (n : Nat) (b : List Int), b.length ≤ n → (chunks s b).length ≤ b.length := by
  intro n
  induction n with
  | zero => intro b h; obtain rfl : b = [] := List.eq_nil_of_length_eq_zero (by omega); exact Nat.le_refl _
  | succ n ih =>
    intro b h
    by_cases h0 : b.length = 0
    · obtain rfl : b = [] := List.eq_nil_of_length_eq_zero h0; exact Nat.le_refl _
    · have h1 := ih (b.drop s) (by rw [List.length_drop]; omega)
      rw [List.length_drop] at h1
      rw [chunks_step hs (by omega), List.length_cons]
      omega
def sliceOf (c : List Int) : SliceR := ⟨c.length, (crc c : Nat), sha c⟩
/-- what has been made of files -/
structure Cut where
  files : List FileR
  slices : List SliceR
  src : List (List Int)
def Cut.addF (st : Cut) (x : Inp) : Cut := ⟨st.files ++ [⟨x.name, x.b.length, sha x.b, st.src.length⟩], st.slices, st.src⟩
def Cut.addC (st : Cut) (c : List Int) : Cut := ⟨st.files, st.slices ++ [sliceOf c], st.src ++ [c]⟩
def Cut.addCs (st : Cut) (l : List (List Int)) : Cut := l.foldl Cut.addC st
def Cut.addAll (s : Nat) (st : Cut) (l : List Inp) : Cut := l.foldl (fun st x => (st.addF x).addCs (chunks s x.b)) st
def cutOf (s : Nat) (l : List Inp) : Cut := Cut.addAll s ⟨[], [], []⟩ l
theorem Cut.addCs_step {s : Nat} (hs : 0 < s) (st : Cut) {b : List Int} (hb : 0 < b.length) : st.addCs (chunks s b) = (st.addC (b.take s)).addCs (chunks s (b.drop s)) := by rw [chunks_step hs hb]; rfl
theorem Cut.addCs_form : ∀ (l : List (List Int)) (st : Cut), st.addCs l = ⟨st.files, st.slices ++ l.map sliceOf, st.src ++ l⟩
  | [], st => by simp [Cut.addCs]
  | c :: l, st => by
    show (st.addC c).addCs l = _
    rw [Cut.addCs_form l (st.addC c)]
    simp [Cut.addC]
theorem list32 (D : List Int) (h : D.length = 32) : ∃ d0 d1 d2 d3 d4 d5 d6 d7 d8 d9 d10 d11 d12 d13 d14 d15 d16 d17 d18 d19 d20 d21 d22 d23 d24 d25 d26 d27 d28 d29 d30 d31 : Int, D = [d0, d1, d2, d3, d4, d5, d6, d7, d8, d9, d10, d11, d12, d13, d14, d15, d16, d17, d18, d19, d20, d21, d22, d23, d24, d25, d26, d27, d28, d29, d30, d31] := by
  obtain _ | ⟨d0, D⟩ := D
  · simp at h
  obtain _ | ⟨d1, D⟩ := D
  · simp at h
  obtain _ | ⟨d2, D⟩ := D
  · simp at h
  obtain _ | ⟨d3, D⟩ := D
  · simp at h
  obtain _ | ⟨d4, D⟩ := D
  · simp at h
  obtain _ | ⟨d5, D⟩ := D
  · simp at h
  obtain _ | ⟨d6, D⟩ := D
  · simp at h
  obtain _ | ⟨d7, D⟩ := D
  · simp at h
  obtain _ | ⟨d8, D⟩ := D
  · simp at h
  obtain _ | ⟨d9, D⟩ := D
  · simp at h
  obtain _ | ⟨d10, D⟩ := D
  · simp at h
  obtain _ | ⟨d11, D⟩ := D
  · simp at h
  obtain _ | ⟨d12, D⟩ := D
  · simp at h
  obtain _ | ⟨d13, D⟩ := D
  · simp at h
  obtain _ | ⟨d14, D⟩ := D
  · simp at h
  obtain _ | ⟨d15, D⟩ := D
  · simp at h
  obtain _ | ⟨d16, D⟩ := D
  · simp at h
  obtain _ | ⟨d17, D⟩ := D
  · simp at h
  obtain _ | ⟨d18, D⟩ := D
  · simp at h
  obtain _ | ⟨d19, D⟩ := D
  · simp at h
  obtain _ | ⟨d20, D⟩ := D
  · simp at h
  obtain _ | ⟨d21, D⟩ := D
  · simp at h
  obtain _ | ⟨d22, D⟩ := D
  · simp at h
  obtain _ | ⟨d23, D⟩ := D
  · simp at h
  obtain _ | ⟨d24, D⟩ := D
  · simp at h
  obtain _ | ⟨d25, D⟩ := D
  · simp at h
  obtain _ | ⟨d26, D⟩ := D
  · simp at h
  obtain _ | ⟨d27, D⟩ := D
  · simp at h
  obtain _ | ⟨d28, D⟩ := D
  · simp at h
  obtain _ | ⟨d29, D⟩ := D
  · simp at h
  obtain _ | ⟨d30, D⟩ := D
  · simp at h
  obtain _ | ⟨d31, D⟩ := D
  · simp at h
  obtain _ | ⟨d, D⟩ := D
  · exact ⟨d0, d1, d2, d3, d4, d5, d6, d7, d8, d9, d10, d11, d12, d13, d14, d15, d16, d17, d18, d19, d20, d21, d22, d23, d24, d25, d26, d27, d28, d29, d30, d31, rfl⟩
  · simp at h
set_option maxRecDepth 100000 in
theorem build_file (nm : ByteArray) (sz first : Int) (D : List Int) (hD : D.length = 32) (W : World) : (Instr.build 25 #[(0, .string nm), (1, .int .i64 sz), (2, .agg (nums .u8 D).toArray), (3, .int .i64 first)]).run Tryz.prog W = .ok (.agg (fileL nm sz D first).toArray) W := by
  obtain ⟨d0, d1, d2, d3, d4, d5, d6, d7, d8, d9, d10, d11, d12, d13, d14, d15, d16, d17, d18, d19, d20, d21, d22, d23, d24, d25, d26, d27, d28, d29, d30, d31, rfl⟩ := list32 D hD
  exact run_build W _ _ _ (by kernel_rfl)
set_option maxRecDepth 100000 in
theorem build_slice (sz crc : Int) (D : List Int) (hD : D.length = 32) (W : World) : (Instr.build 46 #[(0, .int .i64 sz), (1, .int .u32 crc), (2, .agg (nums .u8 D).toArray)]).run Tryz.prog W = .ok (.agg (sliceL sz crc D).toArray) W := by
  obtain ⟨d0, d1, d2, d3, d4, d5, d6, d7, d8, d9, d10, d11, d12, d13, d14, d15, d16, d17, d18, d19, d20, d21, d22, d23, d24, d25, d26, d27, d28, d29, d30, d31, rfl⟩ := list32 D hD
  exact run_build W _ _ _ (by kernel_rfl)
set_option maxRecDepth 100000 in
theorem lay_file (nm : ByteArray) (sz first : Int) (D : List Int) (hD : D.length = 32) (W : World) : (Instr.buildSlice 27 1 #[(0, .agg (fileL nm sz D first).toArray)]).run Tryz.prog W = .ok (.slice (some ⟨W.heap.size, 0, none⟩) 1 1) (W.alloc (.cells (fileL nm sz D first).toArray 25)) := by
  obtain ⟨d0, d1, d2, d3, d4, d5, d6, d7, d8, d9, d10, d11, d12, d13, d14, d15, d16, d17, d18, d19, d20, d21, d22, d23, d24, d25, d26, d27, d28, d29, d30, d31, rfl⟩ := list32 D hD
  kernel_rfl
set_option maxRecDepth 100000 in
theorem lay_slice (sz crc : Int) (D : List Int) (hD : D.length = 32) (W : World) : (Instr.buildSlice 28 1 #[(0, .agg (sliceL sz crc D).toArray)]).run Tryz.prog W = .ok (.slice (some ⟨W.heap.size, 0, none⟩) 1 1) (W.alloc (.cells (sliceL sz crc D).toArray 46)) := by
  obtain ⟨d0, d1, d2, d3, d4, d5, d6, d7, d8, d9, d10, d11, d12, d13, d14, d15, d16, d17, d18, d19, d20, d21, d22, d23, d24, d25, d26, d27, d28, d29, d30, d31, rfl⟩ := list32 D hD
  kernel_rfl
end Gy
/- Bytes are a file's: status.Same and the reference's Same answer alike. -/
namespace Go.Proofs.YtoakjdgknbhgiaaGreatDoor.Dig
open Go Go.RowKit Gy Go.Proofs.YtoakjdgknbhgiaaGreatDoorW.PrintWords Go.Proofs.YtoakjdgknbhgiaaGreatDoorW.PrintMore

theorem info_d32 : (Tryz.prog.info? 23).map (·.size) = some 32 := by kernel_rfl
set_option maxRecDepth 100000 in
theorem u8_info0 : (Tryz.prog.info? 5).isSome = true := by kernel_rfl
theorem u8_info' : ∃ i, Tryz.prog.info? 5 = some i ∧ Tryz.prog.cellsOf 5 = 1 := by
  obtain ⟨i, hi⟩ := Option.isSome_iff_exists.1 u8_info0
  exact ⟨i, hi, by kernel_rfl⟩
theorem file_range {W : World} {b : Nat} {nm : ByteArray} {sz : Int} {D : List Int} {first : Int} (h : Gy.Arr W b (fileL nm sz D first)) : W.rangeAt b 2 (nums .u8 D) := by
  intro j v hv
  have hj : j < (nums .u8 D).length := (List.getElem?_eq_some_iff.1 hv).1
  rw [Nat.add_comm]
  refine h.cell ?_
  show (nums .u8 D ++ [.int .i64 first])[j]? = some v
  rw [List.getElem?_append_left hj]
  exact hv
def sameB (xs : List Int) (sz : Int) (D : List Int) : Bool := decide ((xs.length : Int) = sz) && decide (sha xs = D)
set_option maxHeartbeats 4000000 in
set_option maxRecDepth 100000 in
theorem status_same (A : Option Addr) (c : Nat) (xs : List Int) (nm : ByteArray) (sz : Int) (D : List Int) (first : Int) (w : World) (hR : ReadsInt w .u8 A xs.length xs) (hb : Bytes xs) (hx : xs.length ≤ 1000000) (hD : D.length = 32) :
    Calls Tryz.prog 6 #[.slice A xs.length c, .agg (fileL nm sz D first).toArray] w fun e w' => e = .returned (.bool (sameB xs sz D)) ∧ Below w.heap.size w w' := by
  have HR := Lib.hid hR
  have HX := Lib.hid hb
  have HA := Lib.hid (Gy.Arr.fresh w (fileL nm sz D first) _ rfl 25)
  have hB := Lib.hid ((Below.refl w.heap.size w).alloc (Nat.le_refl _) (.cells (fileL nm sz D first).toArray 25))
  obtain ⟨cs, hcs⟩ : ∃ cs, (fileL nm sz D first).toArray = cs := ⟨_, rfl⟩
  rw [hcs] at HA hB ⊢
  have hi32 : (Tryz.prog.info? 23).map (·.size) = some (nums .u8 D).length := by rw [nums_len, hD]; exact info_d32
  have HI := Lib.hid hi32
  have k1 := HA.out.cell (i := 1) (v := .int .i64 sz) rfl
  clear hR hb hcs hi32
  by_cases hs : (xs.length : Int) = sz
  · obtain ⟨bb, hbb⟩ : ∃ bb, decide (sha xs = D) = bb := ⟨_, rfl⟩
    have E : Hid (sameB xs sz D = bb) := Lib.hid (by unfold sameB; rw [decide_eq_true hs, Bool.true_and, hbb])
    rw [E.out]
    have b1 : ((xs.length : Int) == sz) = true := beq_iff_eq.2 hs
    clear hs
    have heq : ∀ w : World, (binOp .eql 23 (.agg (nums .u8 (sha xs)).toArray) (.agg (nums .u8 D).toArray)).run Tryz.prog w = .ok (.bool bb) w := fun w => by
      obtain ⟨i, hi, hc⟩ := u8_info'
      rw [← hbb]
      exact Gy.run_eql_arr w _ _ 32 Tryz.underlying23 hi hc Tryz.underlying5 _ D (sha_length xs) hD
    clear hbb hD
    go_enter Tryz.func6, Tryz.ntmps6
    go_wp2
    have HK := Lib.hid (And.intro HA.out.drew (pw_below_drewN hB.out 1))
    refine Gy.FlowL.flow (by kernel_rfl) (fun i_ => List.getD [(fun v _ => v = .slice A xs.length c), (fun v _ => v = .int .i64 (xs.length : Int)), (fun v _ => v = .pointer (some ⟨w.heap.size, 1, none⟩)), (fun v _ => v = .int .i64 sz), (fun v _ => v = .bool true), (fun v _ => v = .bool true), (fun v _ => v = .slice A xs.length c), (fun v _ => v = .agg (nums .u8 (sha xs)).toArray), (fun v _ => v = .pointer (some ⟨w.heap.size, 2, none⟩)), (fun v _ => v = .agg (nums .u8 D).toArray), (fun v _ => v = .bool bb), (fun v _ => v = .bool bb), (fun v _ => v = .bool bb)] i_ (fun _ _ => True)) (fun _ w5 => Gy.Arr w5 w.heap.size (fileL nm sz D first) ∧ Below w.heap.size w w5) (fun _ _ => True) (by kernel_rfl) HK.out (Gy.FlowL.mono_list [(fun v _ => v = .slice A xs.length c), (fun v _ => v = .int .i64 (xs.length : Int)), (fun v _ => v = .pointer (some ⟨w.heap.size, 1, none⟩)), (fun v _ => v = .int .i64 sz), (fun v _ => v = .bool true), (fun v _ => v = .bool true), (fun v _ => v = .slice A xs.length c), (fun v _ => v = .agg (nums .u8 (sha xs)).toArray), (fun v _ => v = .pointer (some ⟨w.heap.size, 2, none⟩)), (fun v _ => v = .agg (nums .u8 D).toArray), (fun v _ => v = .bool bb), (fun v _ => v = .bool bb), (fun v _ => v = .bool bb)] ?_) (Gy.FlowL.of_allFrom ⟨?_, ?_, ?_, ?_, ?_, ?_, ?_, ?_, ?_, ?_, ?_, ?_, ?_, trivial⟩) ?_
    · exact ⟨fun v w w' h hb => h, fun v w w' h hb => h, fun v w w' h hb => h, fun v w w' h hb => h, fun v w w' h hb => h, fun v w w' h hb => h, fun v w w' h hb => h, fun v w w' h hb => h, fun v w w' h hb => h, fun v w w' h hb => h, fun v w w' h hb => h, fun v w w' h hb => h, fun v w w' h hb => h, trivial⟩
    · intro L a w5 hD
      have e0 : a.eval (.tmp 0) = .slice A xs.length c := hD.same.at_other 0 (by kernel_rfl)
      exact Gy.FlowL.step_move rfl rfl (Gy.FlowL.wanted_none rfl) e0 hD.J trivial
    · intro L a w5 hD
      have e5 : a.eval (.tmp 5) = .slice A xs.length c := hD.at 0 (by kernel_rfl)
      have f5 := e5; simp only [Act.eval, Array.getD_eq_getD_getElem?] at f5
      refine Gy.FlowL.step_value rfl (Gy.FlowL.wanted_none rfl) (v := .int .i64 (xs.length : Int)) (w1 := w5) ?_ rfl hD.J trivial
      first | (simp only [execOp]; go_simp; done) | (simp only [execOp, e5]; go_simp)
    · intro L a w5 hD
      have e3 : a.eval (.tmp 3) = .pointer (some ⟨w.heap.size, 0, none⟩) := hD.same.at_other 3 (by kernel_rfl)
      have f3 := e3; simp only [Act.eval, Array.getD_eq_getD_getElem?] at f3
      refine Gy.FlowL.step_value rfl (Gy.FlowL.wanted_none rfl) (v := .pointer (some ⟨w.heap.size, 1, none⟩)) (w1 := w5) ?_ rfl hD.J trivial
      first | (simp only [execOp]; go_simp; done) | (simp only [execOp, e3]; go_simp)
    · intro L a w5 hD
      have e7 : a.eval (.tmp 7) = .pointer (some ⟨w.heap.size, 1, none⟩) := hD.at 2 (by kernel_rfl)
      have h1 : w5.cell? ⟨w.heap.size, 1, none⟩ = some (.int .i64 sz) := hD.J.1.cell rfl
      have f7 := e7; simp only [Act.eval, Array.getD_eq_getD_getElem?] at f7
      refine Gy.FlowL.step_value rfl (Gy.FlowL.wanted_none rfl) (v := .int .i64 sz) (w1 := w5) ?_ rfl hD.J trivial
      first | (simp only [execOp]; go_simp; done) | (simp only [execOp, e7]; go_simp)
    · intro L a w5 hD
      have e6 : a.eval (.tmp 6) = .int .i64 (xs.length : Int) := hD.at 1 (by kernel_rfl)
      have e8 : a.eval (.tmp 8) = .int .i64 sz := hD.at 3 (by kernel_rfl)
      refine Gy.FlowL.step_value rfl (Gy.FlowL.wanted_none rfl) (v := .bool true) (w1 := w5) ?_ rfl hD.J trivial
      first | (simp only [execOp]; go_simp; done) | (simp only [execOp, e6, e8]; go_simp)
    · intro L a w5 hD
      have e9 : a.eval (.tmp 9) = .bool true := hD.at 4 (by kernel_rfl)
      exact Gy.FlowL.step_move rfl rfl (Gy.FlowL.wanted_none rfl) e9 hD.J trivial
    · intro L a w5 hD
      have e0 : a.eval (.tmp 0) = .slice A xs.length c := hD.same.at_other 0 (by kernel_rfl)
      exact Gy.FlowL.step_move rfl rfl (Gy.FlowL.wanted_some (g := 5) (b := true) rfl (hD.at 5 (by kernel_rfl))) e0 hD.J trivial
    · intro L a w5 hD
      have e11 : a.eval (.tmp 11) = .slice A xs.length c := hD.at 6 (by kernel_rfl)
      refine Gy.FlowL.step_call rfl (args := #[.slice A xs.length c]) (Gy.FlowL.wanted_some (g := 5) (b := true) rfl (hD.at 5 (by kernel_rfl))) Tryz.func10 (by kernel_rfl) (by kernel_rfl) rfl (by simp only [List.map_toArray, List.map_cons, List.map_nil, e11]) ?_
      have hJ := hD.J
      exact (digest_calls A _ c xs w5 (Gy.reads_below HR.out hJ.2) HX.out hx).mono fun e w6 h => ⟨_, h.1, rfl, ⟨hJ.1.below h.2, hJ.2.trans (h.2.mono hJ.2.size)⟩, trivial⟩
    · intro L a w5 hD
      have e3 : a.eval (.tmp 3) = .pointer (some ⟨w.heap.size, 0, none⟩) := hD.same.at_other 3 (by kernel_rfl)
      have f3 := e3; simp only [Act.eval, Array.getD_eq_getD_getElem?] at f3
      refine Gy.FlowL.step_value rfl (Gy.FlowL.wanted_some (g := 5) (b := true) rfl (hD.at 5 (by kernel_rfl))) (v := .pointer (some ⟨w.heap.size, 2, none⟩)) (w1 := w5) ?_ rfl hD.J trivial
      first | (simp only [execOp]; go_simp; done) | (simp only [execOp, e3]; go_simp)
    · intro L a w5 hD
      have e13 : a.eval (.tmp 13) = .pointer (some ⟨w.heap.size, 2, none⟩) := hD.at 8 (by kernel_rfl)
      refine Gy.FlowL.step_value rfl (Gy.FlowL.wanted_some (g := 5) (b := true) rfl (hD.at 5 (by kernel_rfl))) (v := .agg (nums .u8 D).toArray) (w1 := w5) ?_ rfl hD.J trivial
      have hl := run_loadAt_mid (P := Tryz.prog) w5 w.heap.size 2 23 (nums .u8 D) _ (file_range hD.J.1) Tryz.underlying23 rfl HI.out
      simp only [execOp, e13, Sem.run_bind, hl, Result.andThen_ok]
      rfl
    · intro L a w5 hD
      have e12 : a.eval (.tmp 12) = .agg (nums .u8 (sha xs)).toArray := hD.at 7 (by kernel_rfl)
      have e14 : a.eval (.tmp 14) = .agg (nums .u8 D).toArray := hD.at 9 (by kernel_rfl)
      refine Gy.FlowL.step_value rfl (Gy.FlowL.wanted_some (g := 5) (b := true) rfl (hD.at 5 (by kernel_rfl))) (v := .bool bb) (w1 := w5) ?_ rfl hD.J trivial
      simp only [execOp, e12, e14, Sem.run_bind, heq]
      rfl
    · intro L a w5 hD
      have e10 : a.eval (.tmp 10) = .bool true := hD.at 5 (by kernel_rfl)
      have e15 : a.eval (.tmp 15) = .bool bb := hD.at 10 (by kernel_rfl)
      exact Gy.FlowL.step_pick (b := true) rfl rfl (Gy.FlowL.wanted_none rfl) e10 e15 hD.J trivial
    · intro L a w5 hD
      have e16 : a.eval (.tmp 16) = .bool bb := hD.at 11 (by kernel_rfl)
      exact Gy.FlowL.step_assign rfl rfl (Gy.FlowL.wanted_none rfl) e16 hD.J trivial
    · intro L a w5 hs hJ hL hv
      have e4 : a.eval (.tmp 4) = .bool bb := hv 12 (by decide)
      go_wp2
      exact bodyPost_ret (results_tmp rfl _ _ _) hs.defers ⟨congrArg Ending.returned e4, hJ.2⟩
  · have E : Hid (sameB xs sz D = false) := Lib.hid (by unfold sameB; rw [decide_eq_false hs, Bool.false_and])
    rw [E.out]
    have b1 : ((xs.length : Int) == sz) = false := beq_eq_false_iff_ne.2 hs
    clear hs
    go_enter Tryz.func6, Tryz.ntmps6
    go_wp2
    go_quiet (fail)
    go_wp2
    go_ret
    exact ⟨rfl, pw_below_drewN hB.out _⟩
set_option maxHeartbeats 4000000 in
set_option maxRecDepth 100000 in
theorem ref_same (A : Option Addr) (c : Nat) (xs : List Int) (nm : ByteArray) (sz : Int) (D : List Int) (first : Int) (w : World) (hR : ReadsInt w .u8 A xs.length xs) (hb : Bytes xs) (hx : xs.length ≤ 1000000) (hD : D.length = 32) :
    Calls Tryz.prog 7 #[.slice A xs.length c, .agg (fileL nm sz D first).toArray] w fun e w' => e = .returned (.bool (sameB xs sz D)) ∧ Below w.heap.size w w' := by
  have HR := Lib.hid hR
  have HX := Lib.hid hb
  have HA := Lib.hid (Gy.Arr.fresh w (fileL nm sz D first) _ rfl 25)
  have hB := Lib.hid ((Below.refl w.heap.size w).alloc (Nat.le_refl _) (.cells (fileL nm sz D first).toArray 25))
  obtain ⟨cs, hcs⟩ : ∃ cs, (fileL nm sz D first).toArray = cs := ⟨_, rfl⟩
  rw [hcs] at HA hB ⊢
  have hi32 : (Tryz.prog.info? 23).map (·.size) = some (nums .u8 D).length := by rw [nums_len, hD]; exact info_d32
  have HI := Lib.hid hi32
  have k1 := HA.out.cell (i := 1) (v := .int .i64 sz) rfl
  clear hR hb hcs hi32
  by_cases hs : (xs.length : Int) = sz
  · obtain ⟨bb, hbb⟩ : ∃ bb, decide (sha xs = D) = bb := ⟨_, rfl⟩
    have E : Hid (sameB xs sz D = bb) := Lib.hid (by unfold sameB; rw [decide_eq_true hs, Bool.true_and, hbb])
    rw [E.out]
    have b1 : ((xs.length : Int) == sz) = true := beq_iff_eq.2 hs
    clear hs
    have heq : ∀ w : World, (binOp .eql 23 (.agg (nums .u8 (sha xs)).toArray) (.agg (nums .u8 D).toArray)).run Tryz.prog w = .ok (.bool bb) w := fun w => by
      obtain ⟨i, hi, hc⟩ := u8_info'
      rw [← hbb]
      exact Gy.run_eql_arr w _ _ 32 Tryz.underlying23 hi hc Tryz.underlying5 _ D (sha_length xs) hD
    clear hbb hD
    go_enter Tryz.func7, Tryz.ntmps7
    go_wp2
    have HK := Lib.hid (And.intro HA.out.drew (pw_below_drewN hB.out 1))
    refine Gy.FlowL.flow (by kernel_rfl) (fun i_ => List.getD [(fun v _ => v = .slice A xs.length c), (fun v _ => v = .int .i64 (xs.length : Int)), (fun v _ => v = .pointer (some ⟨w.heap.size, 1, none⟩)), (fun v _ => v = .int .i64 sz), (fun v _ => v = .bool true), (fun v _ => v = .bool true), (fun v _ => v = .slice A xs.length c), (fun v _ => v = .agg (nums .u8 (sha xs)).toArray), (fun v _ => v = .pointer (some ⟨w.heap.size, 2, none⟩)), (fun v _ => v = .agg (nums .u8 D).toArray), (fun v _ => v = .bool bb), (fun v _ => v = .bool bb), (fun v _ => v = .bool bb)] i_ (fun _ _ => True)) (fun _ w5 => Gy.Arr w5 w.heap.size (fileL nm sz D first) ∧ Below w.heap.size w w5) (fun _ _ => True) (by kernel_rfl) HK.out (Gy.FlowL.mono_list [(fun v _ => v = .slice A xs.length c), (fun v _ => v = .int .i64 (xs.length : Int)), (fun v _ => v = .pointer (some ⟨w.heap.size, 1, none⟩)), (fun v _ => v = .int .i64 sz), (fun v _ => v = .bool true), (fun v _ => v = .bool true), (fun v _ => v = .slice A xs.length c), (fun v _ => v = .agg (nums .u8 (sha xs)).toArray), (fun v _ => v = .pointer (some ⟨w.heap.size, 2, none⟩)), (fun v _ => v = .agg (nums .u8 D).toArray), (fun v _ => v = .bool bb), (fun v _ => v = .bool bb), (fun v _ => v = .bool bb)] ?_) (Gy.FlowL.of_allFrom ⟨?_, ?_, ?_, ?_, ?_, ?_, ?_, ?_, ?_, ?_, ?_, ?_, ?_, trivial⟩) ?_
    · exact ⟨fun v w w' h hb => h, fun v w w' h hb => h, fun v w w' h hb => h, fun v w w' h hb => h, fun v w w' h hb => h, fun v w w' h hb => h, fun v w w' h hb => h, fun v w w' h hb => h, fun v w w' h hb => h, fun v w w' h hb => h, fun v w w' h hb => h, fun v w w' h hb => h, fun v w w' h hb => h, trivial⟩
    · intro L a w5 hD
      have e0 : a.eval (.tmp 0) = .slice A xs.length c := hD.same.at_other 0 (by kernel_rfl)
      exact Gy.FlowL.step_move rfl rfl (Gy.FlowL.wanted_none rfl) e0 hD.J trivial
    · intro L a w5 hD
      have e5 : a.eval (.tmp 5) = .slice A xs.length c := hD.at 0 (by kernel_rfl)
      have f5 := e5; simp only [Act.eval, Array.getD_eq_getD_getElem?] at f5
      refine Gy.FlowL.step_value rfl (Gy.FlowL.wanted_none rfl) (v := .int .i64 (xs.length : Int)) (w1 := w5) ?_ rfl hD.J trivial
      first | (simp only [execOp]; go_simp; done) | (simp only [execOp, e5]; go_simp)
    · intro L a w5 hD
      have e3 : a.eval (.tmp 3) = .pointer (some ⟨w.heap.size, 0, none⟩) := hD.same.at_other 3 (by kernel_rfl)
      have f3 := e3; simp only [Act.eval, Array.getD_eq_getD_getElem?] at f3
      refine Gy.FlowL.step_value rfl (Gy.FlowL.wanted_none rfl) (v := .pointer (some ⟨w.heap.size, 1, none⟩)) (w1 := w5) ?_ rfl hD.J trivial
      first | (simp only [execOp]; go_simp; done) | (simp only [execOp, e3]; go_simp)
    · intro L a w5 hD
      have e7 : a.eval (.tmp 7) = .pointer (some ⟨w.heap.size, 1, none⟩) := hD.at 2 (by kernel_rfl)
      have h1 : w5.cell? ⟨w.heap.size, 1, none⟩ = some (.int .i64 sz) := hD.J.1.cell rfl
      have f7 := e7; simp only [Act.eval, Array.getD_eq_getD_getElem?] at f7
      refine Gy.FlowL.step_value rfl (Gy.FlowL.wanted_none rfl) (v := .int .i64 sz) (w1 := w5) ?_ rfl hD.J trivial
      first | (simp only [execOp]; go_simp; done) | (simp only [execOp, e7]; go_simp)
    · intro L a w5 hD
      have e6 : a.eval (.tmp 6) = .int .i64 (xs.length : Int) := hD.at 1 (by kernel_rfl)
      have e8 : a.eval (.tmp 8) = .int .i64 sz := hD.at 3 (by kernel_rfl)
      refine Gy.FlowL.step_value rfl (Gy.FlowL.wanted_none rfl) (v := .bool true) (w1 := w5) ?_ rfl hD.J trivial
      first | (simp only [execOp]; go_simp; done) | (simp only [execOp, e6, e8]; go_simp)
    · intro L a w5 hD
      have e9 : a.eval (.tmp 9) = .bool true := hD.at 4 (by kernel_rfl)
      exact Gy.FlowL.step_move rfl rfl (Gy.FlowL.wanted_none rfl) e9 hD.J trivial
    · intro L a w5 hD
      have e0 : a.eval (.tmp 0) = .slice A xs.length c := hD.same.at_other 0 (by kernel_rfl)
      exact Gy.FlowL.step_move rfl rfl (Gy.FlowL.wanted_some (g := 5) (b := true) rfl (hD.at 5 (by kernel_rfl))) e0 hD.J trivial
    · intro L a w5 hD
      have e11 : a.eval (.tmp 11) = .slice A xs.length c := hD.at 6 (by kernel_rfl)
      refine Gy.FlowL.step_call rfl (args := #[.slice A xs.length c]) (Gy.FlowL.wanted_some (g := 5) (b := true) rfl (hD.at 5 (by kernel_rfl))) Tryz.func13 (by kernel_rfl) (by kernel_rfl) rfl (by simp only [List.map_toArray, List.map_cons, List.map_nil, e11]) ?_
      have hJ := hD.J
      exact (ref_calls A _ c xs w5 (Gy.reads_below HR.out hJ.2) HX.out hx).mono fun e w6 h => ⟨_, h.1, rfl, ⟨hJ.1.below h.2, hJ.2.trans (h.2.mono hJ.2.size)⟩, trivial⟩
    · intro L a w5 hD
      have e3 : a.eval (.tmp 3) = .pointer (some ⟨w.heap.size, 0, none⟩) := hD.same.at_other 3 (by kernel_rfl)
      have f3 := e3; simp only [Act.eval, Array.getD_eq_getD_getElem?] at f3
      refine Gy.FlowL.step_value rfl (Gy.FlowL.wanted_some (g := 5) (b := true) rfl (hD.at 5 (by kernel_rfl))) (v := .pointer (some ⟨w.heap.size, 2, none⟩)) (w1 := w5) ?_ rfl hD.J trivial
      first | (simp only [execOp]; go_simp; done) | (simp only [execOp, e3]; go_simp)
    · intro L a w5 hD
      have e13 : a.eval (.tmp 13) = .pointer (some ⟨w.heap.size, 2, none⟩) := hD.at 8 (by kernel_rfl)
      refine Gy.FlowL.step_value rfl (Gy.FlowL.wanted_some (g := 5) (b := true) rfl (hD.at 5 (by kernel_rfl))) (v := .agg (nums .u8 D).toArray) (w1 := w5) ?_ rfl hD.J trivial
      have hl := run_loadAt_mid (P := Tryz.prog) w5 w.heap.size 2 23 (nums .u8 D) _ (file_range hD.J.1) Tryz.underlying23 rfl HI.out
      simp only [execOp, e13, Sem.run_bind, hl, Result.andThen_ok]
      rfl
    · intro L a w5 hD
      have e12 : a.eval (.tmp 12) = .agg (nums .u8 (sha xs)).toArray := hD.at 7 (by kernel_rfl)
      have e14 : a.eval (.tmp 14) = .agg (nums .u8 D).toArray := hD.at 9 (by kernel_rfl)
      refine Gy.FlowL.step_value rfl (Gy.FlowL.wanted_some (g := 5) (b := true) rfl (hD.at 5 (by kernel_rfl))) (v := .bool bb) (w1 := w5) ?_ rfl hD.J trivial
      simp only [execOp, e12, e14, Sem.run_bind, heq]
      rfl
    · intro L a w5 hD
      have e10 : a.eval (.tmp 10) = .bool true := hD.at 5 (by kernel_rfl)
      have e15 : a.eval (.tmp 15) = .bool bb := hD.at 10 (by kernel_rfl)
      exact Gy.FlowL.step_pick (b := true) rfl rfl (Gy.FlowL.wanted_none rfl) e10 e15 hD.J trivial
    · intro L a w5 hD
      have e16 : a.eval (.tmp 16) = .bool bb := hD.at 11 (by kernel_rfl)
      exact Gy.FlowL.step_assign rfl rfl (Gy.FlowL.wanted_none rfl) e16 hD.J trivial
    · intro L a w5 hs hJ hL hv
      have e4 : a.eval (.tmp 4) = .bool bb := hv 12 (by decide)
      go_wp2
      exact bodyPost_ret (results_tmp rfl _ _ _) hs.defers ⟨congrArg Ending.returned e4, hJ.2⟩
  · have E : Hid (sameB xs sz D = false) := Lib.hid (by unfold sameB; rw [decide_eq_false hs, Bool.false_and])
    rw [E.out]
    have b1 : ((xs.length : Int) == sz) = false := beq_eq_false_iff_ne.2 hs
    clear hs
    go_enter Tryz.func7, Tryz.ntmps7
    go_wp2
    go_quiet (fail)
    go_wp2
    go_ret
    exact ⟨rfl, pw_below_drewN hB.out _⟩
end Go.Proofs.YtoakjdgknbhgiaaGreatDoor.Dig
/-
  DERIVED: THE SHELF's CONTRACTS AT THIS DUMP, IN PLAIN WORDS (tools/lay-plain.mjs out of 'YtoakjdgknbhgiaaGreatDoorShelfSplit.lean', which tools/lay-shelf.mjs wrote): THE SAME DECLARATIONS UNDER THE SAME NAMES: 'import', 'namespace', 'open', 'def', 'theorem' AND NOTHING ELSE: no command of the shelf's: FOR A HAND-IN. Each laying: the table of numbers ('.._ren') and one theorem, a field a fact of the dump's own or the kernel's comparison; each contract: ONE APPLICATION.
-/
namespace Go.Proofs
open Go.Shelf
def Tryz.splitLay_ren : Go.Shelf.Ren := ⟨fun | 146 => 30 | 221 => 48 | 268 => 59 | 138 => 60 | 143 => 61 | 195 => 74 | 197 => 75 | 218 => 76 | 219 => 77 | 260 => 91 | 217 => 92 | 225 => 93 | 224 => 94 | 267 => 95 | 266 => 104 | 314 => 105 | n => n, fun | 9 => 9 | 31 => 47 | 3 => 3 | 4 => 4 | 0 => 0 | 105 => 133 | 21 => 21 | 5 => 5 | 46 => 72 | 119 => 147 | 139 => 161 | 138 => 160 | 146 => 162 | 51 => 43 | n => n, fun | 1 => 0 | 3 => 1 | 4 => 2 | n => n⟩
theorem Tryz.splitLay : Go.Proofs.LaysM.n146 Tryz.prog Tryz.splitLay_ren := {
  mixed := by kernel_rfl
  f138 := Tryz.func60.trans (congrArg some (by kernel_rfl))
  f143 := Tryz.func61.trans (congrArg some (by kernel_rfl))
  f146 := Tryz.func30.trans (congrArg some (by kernel_rfl))
  f195 := Tryz.func74.trans (congrArg some (by kernel_rfl))
  f197 := Tryz.func75.trans (congrArg some (by kernel_rfl))
  f217 := Tryz.func92.trans (congrArg some (by kernel_rfl))
  f218 := Tryz.func76.trans (congrArg some (by kernel_rfl))
  f219 := Tryz.func77.trans (congrArg some (by kernel_rfl))
  f221 := Tryz.func48.trans (congrArg some (by kernel_rfl))
  f224 := Tryz.func94.trans (congrArg some (by kernel_rfl))
  f225 := Tryz.func93.trans (congrArg some (by kernel_rfl))
  f260 := Tryz.func91.trans (congrArg some (by kernel_rfl))
  f266 := Tryz.func104.trans (congrArg some (by kernel_rfl))
  f267 := Tryz.func95.trans (congrArg some (by kernel_rfl))
  f268 := Tryz.func59.trans (congrArg some (by kernel_rfl))
  f314 := Tryz.func105.trans (congrArg some (by kernel_rfl))
  t0 := Tryz.underlying0
  a0 := Tryz.isAgg0
  z0 := Tryz.sizeOf0
  v0 := Tryz.zeroValue0
  t3 := Tryz.underlying3
  a3 := Tryz.isAgg3
  z3 := Tryz.sizeOf3
  v3 := Tryz.zeroValue3
  t4 := Tryz.underlying4
  a4 := Tryz.isAgg4
  z4 := Tryz.sizeOf4
  v4 := Tryz.zeroValue4
  t5 := Tryz.underlying5
  a5 := Tryz.isAgg5
  z5 := Tryz.sizeOf5
  v5 := Tryz.zeroValue5
  t9 := Tryz.underlying9
  a9 := Tryz.isAgg9
  z9 := Tryz.sizeOf9
  v9 := Tryz.zeroValue9
  t21 := Tryz.underlying21
  a21 := Tryz.isAgg21
  z21 := Tryz.sizeOf21
  v21 := Tryz.zeroValue21
  t31 := Tryz.underlying47
  a31 := Tryz.isAgg47
  z31 := Tryz.sizeOf47
  v31 := Tryz.zeroValue47
  t46 := Tryz.underlying72
  a46 := Tryz.isAgg72
  z46 := Tryz.sizeOf72
  v46 := Tryz.zeroValue72
  t51 := Tryz.underlying43
  a51 := Tryz.isAgg43
  z51 := Tryz.sizeOf43
  v51 := Tryz.zeroValue43
  t105 := Tryz.underlying133
  a105 := Tryz.isAgg133
  z105 := Tryz.sizeOf133
  v105 := Tryz.zeroValue133
  t119 := Tryz.underlying147
  a119 := Tryz.isAgg147
  z119 := Tryz.sizeOf147
  t138 := Tryz.underlying160
  a138 := Tryz.isAgg160
  z138 := Tryz.sizeOf160
  v138 := Tryz.zeroValue160
  t139 := Tryz.underlying161
  a139 := Tryz.isAgg161
  z139 := Tryz.sizeOf161
  v139 := Tryz.zeroValue161
  t146 := Tryz.underlying162
  a146 := Tryz.isAgg162
  z146 := Tryz.sizeOf162
  v146 := Tryz.zeroValue162
  g1 := by kernel_rfl
  g3 := by kernel_rfl
  g4 := by kernel_rfl
  i0 := by kernel_rfl
  i3 := by kernel_rfl
  i4 := by kernel_rfl
  i5 := by kernel_rfl
  i9 := by kernel_rfl
  i21 := by kernel_rfl
  i31 := by kernel_rfl
  i46 := by kernel_rfl
  i51 := by kernel_rfl
  i105 := by kernel_rfl
  i138 := by kernel_rfl
  i139 := by kernel_rfl
  i146 := by kernel_rfl
  m1 := by kernel_rfl
  s1_3 := fun w h => Go.Proofs.cell_of_shapedOpen_int (zero := #[.int .i64 0]) (t := 3) h (of_decide_eq_true (by kernel_rfl)) (by kernel_rfl) rfl (by kernel_rfl) (by kernel_rfl) Tryz.underlying3
  m3 := by kernel_rfl
  m4 := by kernel_rfl }
end Go.Proofs
/- Machine-made by a program of this claim: functions of the Go program as Lean functions, and that its calls do what these say. Lean checks it. -/
namespace Go.Proofs.YtoakjdgknbhgiaaGreatDoor.QPart
open Go.RowKit Go.Proofs.YtoakjdgknbhgiaaGreatDoorW.PrintWords Go.Proofs.YtoakjdgknbhgiaaGreatDoorW.PrintLast Go.Proofs.YtoakjdgknbhgiaaGreatDoorW.PrintMore
attribute [local go_sem] max2_int min2_int max_two min_two max_three min_three max_four min_four   -- for this text's walks alone
set_option linter.unusedVariables false
set_option linter.unusedSimpArgs false



def errW : Option Int → Value
  | none => .nilIface
  | some c => .iface 0 (.int .i64 c)
theorem errW_none : errW none = .nilIface := rfl
theorem errW_some (c : Int) : errW (some c) = .iface 0 (.int .i64 c) := rfl

-- the values' own types

end Go.Proofs.YtoakjdgknbhgiaaGreatDoor.QPart
/- Machine-made by a program of this claim: functions of the Go program as Lean functions, and that its calls do what these say. Lean checks it. -/
namespace Go.Proofs.YtoakjdgknbhgiaaGreatDoor.QPart
open Go.RowKit Go.Proofs.YtoakjdgknbhgiaaGreatDoorW.PrintWords Go.Proofs.YtoakjdgknbhgiaaGreatDoorW.PrintLast Go.Proofs.YtoakjdgknbhgiaaGreatDoorW.PrintMore
attribute [local go_sem] max2_int min2_int max_two min_two max_three min_three max_four min_four   -- for this text's walks alone
set_option linter.unusedVariables false
set_option linter.unusedSimpArgs false

/-! ### path_plain: function 49 -/
def path_plain.f (a0 : Int) : Option (Bool) := if a0 ≥ 97 then (if a0 ≤ 122 then (some true) else (if a0 ≥ 48 then (if a0 ≤ 57 then (some true) else (if a0 = 46 then (some true) else (if a0 = 95 then (some true) else (some (a0 == 45))))) else (if a0 = 46 then (some true) else (if a0 = 95 then (some true) else (some (a0 == 45)))))) else (if a0 ≥ 48 then (if a0 ≤ 57 then (some true) else (if a0 = 46 then (some true) else (if a0 = 95 then (some true) else (some (a0 == 45))))) else (if a0 = 46 then (some true) else (if a0 = 95 then (some true) else (some (a0 == 45)))))
set_option maxHeartbeats 8000000 in
set_option maxRecDepth 100000 in
theorem path_plain.calls (a0 : Int) (r : Bool) (w : World) (h : path_plain.f a0 = some r) :
    Calls Tryz.prog 49 #[.int .u8 a0] w fun e w' => e = .returned (.bool r) ∧ Drawn0 w w' := by
  have H : (if a0 ≥ 97 then (if a0 ≤ 122 then (some true) else (if a0 ≥ 48 then (if a0 ≤ 57 then (some true) else (if a0 = 46 then (some true) else (if a0 = 95 then (some true) else (some (a0 == 45))))) else (if a0 = 46 then (some true) else (if a0 = 95 then (some true) else (some (a0 == 45)))))) else (if a0 ≥ 48 then (if a0 ≤ 57 then (some true) else (if a0 = 46 then (some true) else (if a0 = 95 then (some true) else (some (a0 == 45))))) else (if a0 = 46 then (some true) else (if a0 = 95 then (some true) else (some (a0 == 45)))))) = some r := h
  clear h
  by_cases c2 : a0 ≥ 97
  · rw [if_pos c2] at H
    have c2b0 : decide (97 ≤ a0) = true := decide_eq_true c2
    clear c2
    by_cases c3 : a0 ≤ 122
    · rw [if_pos c3] at H
      have c3b0 : decide (a0 ≤ 122) = true := decide_eq_true c3
      clear c3
      obtain rfl := Option.some.inj H
      go_enter Tryz.func49, Tryz.ntmps49
      go_wp2
      go_ret
      exact ⟨by first | rfl | (simp; done) | (simp [*]; done), by repeat (first | exact Drawn0.refl _ | apply Drawn0.step)⟩
    · rw [if_neg c3] at H
      have c3b0 : decide (a0 ≤ 122) = false := decide_eq_false c3
      clear c3
      by_cases c4 : a0 ≥ 48
      · rw [if_pos c4] at H
        have c4b0 : decide (48 ≤ a0) = true := decide_eq_true c4
        clear c4
        by_cases c5 : a0 ≤ 57
        · rw [if_pos c5] at H
          have c5b0 : decide (a0 ≤ 57) = true := decide_eq_true c5
          clear c5
          obtain rfl := Option.some.inj H
          go_enter Tryz.func49, Tryz.ntmps49
          go_wp2
          go_ret
          exact ⟨by first | rfl | (simp; done) | (simp [*]; done), by repeat (first | exact Drawn0.refl _ | apply Drawn0.step)⟩
        · rw [if_neg c5] at H
          have c5b0 : decide (a0 ≤ 57) = false := decide_eq_false c5
          clear c5
          by_cases c6 : a0 = 46
          · rw [if_pos c6] at H
            have c6b0 : (a0 == 46) = true := beq_iff_eq.mpr c6
            have c6b1 : (a0 != 46) = false := bne_eq_false_iff_eq.mpr c6
            clear c6
            obtain rfl := Option.some.inj H
            go_enter Tryz.func49, Tryz.ntmps49
            go_wp2
            go_ret
            exact ⟨by first | rfl | (simp; done) | (simp [*]; done), by repeat (first | exact Drawn0.refl _ | apply Drawn0.step)⟩
          · rw [if_neg c6] at H
            have c6b0 : (a0 == 46) = false := beq_eq_false_iff_ne.mpr c6
            have c6b1 : (a0 != 46) = true := bne_iff_ne.mpr c6
            by_cases c7 : a0 = 95
            · rw [if_pos c7] at H
              have c7b0 : (a0 == 95) = true := beq_iff_eq.mpr c7
              have c7b1 : (a0 != 95) = false := bne_eq_false_iff_eq.mpr c7
              clear c7
              obtain rfl := Option.some.inj H
              go_enter Tryz.func49, Tryz.ntmps49
              go_wp2
              go_ret
              exact ⟨by first | rfl | (simp; done) | (simp [*]; done), by repeat (first | exact Drawn0.refl _ | apply Drawn0.step)⟩
            · rw [if_neg c7] at H
              have c7b0 : (a0 == 95) = false := beq_eq_false_iff_ne.mpr c7
              have c7b1 : (a0 != 95) = true := bne_iff_ne.mpr c7
              obtain rfl := Option.some.inj H
              go_enter Tryz.func49, Tryz.ntmps49
              go_wp2
              go_ret
              exact ⟨by first | rfl | (simp; done) | (simp [*]; done), by repeat (first | exact Drawn0.refl _ | apply Drawn0.step)⟩
      · rw [if_neg c4] at H
        have c4b0 : decide (48 ≤ a0) = false := decide_eq_false c4
        clear c4
        by_cases c8 : a0 = 46
        · rw [if_pos c8] at H
          have c8b0 : (a0 == 46) = true := beq_iff_eq.mpr c8
          have c8b1 : (a0 != 46) = false := bne_eq_false_iff_eq.mpr c8
          clear c8
          obtain rfl := Option.some.inj H
          go_enter Tryz.func49, Tryz.ntmps49
          go_wp2
          go_ret
          exact ⟨by first | rfl | (simp; done) | (simp [*]; done), by repeat (first | exact Drawn0.refl _ | apply Drawn0.step)⟩
        · rw [if_neg c8] at H
          have c8b0 : (a0 == 46) = false := beq_eq_false_iff_ne.mpr c8
          have c8b1 : (a0 != 46) = true := bne_iff_ne.mpr c8
          by_cases c9 : a0 = 95
          · rw [if_pos c9] at H
            have c9b0 : (a0 == 95) = true := beq_iff_eq.mpr c9
            have c9b1 : (a0 != 95) = false := bne_eq_false_iff_eq.mpr c9
            clear c9
            obtain rfl := Option.some.inj H
            go_enter Tryz.func49, Tryz.ntmps49
            go_wp2
            go_ret
            exact ⟨by first | rfl | (simp; done) | (simp [*]; done), by repeat (first | exact Drawn0.refl _ | apply Drawn0.step)⟩
          · rw [if_neg c9] at H
            have c9b0 : (a0 == 95) = false := beq_eq_false_iff_ne.mpr c9
            have c9b1 : (a0 != 95) = true := bne_iff_ne.mpr c9
            obtain rfl := Option.some.inj H
            go_enter Tryz.func49, Tryz.ntmps49
            go_wp2
            go_ret
            exact ⟨by first | rfl | (simp; done) | (simp [*]; done), by repeat (first | exact Drawn0.refl _ | apply Drawn0.step)⟩
  · rw [if_neg c2] at H
    have c2b0 : decide (97 ≤ a0) = false := decide_eq_false c2
    clear c2
    by_cases c10 : a0 ≥ 48
    · rw [if_pos c10] at H
      have c10b0 : decide (48 ≤ a0) = true := decide_eq_true c10
      clear c10
      by_cases c11 : a0 ≤ 57
      · rw [if_pos c11] at H
        have c11b0 : decide (a0 ≤ 57) = true := decide_eq_true c11
        clear c11
        obtain rfl := Option.some.inj H
        go_enter Tryz.func49, Tryz.ntmps49
        go_wp2
        go_ret
        exact ⟨by first | rfl | (simp; done) | (simp [*]; done), by repeat (first | exact Drawn0.refl _ | apply Drawn0.step)⟩
      · rw [if_neg c11] at H
        have c11b0 : decide (a0 ≤ 57) = false := decide_eq_false c11
        clear c11
        by_cases c12 : a0 = 46
        · rw [if_pos c12] at H
          have c12b0 : (a0 == 46) = true := beq_iff_eq.mpr c12
          have c12b1 : (a0 != 46) = false := bne_eq_false_iff_eq.mpr c12
          clear c12
          obtain rfl := Option.some.inj H
          go_enter Tryz.func49, Tryz.ntmps49
          go_wp2
          go_ret
          exact ⟨by first | rfl | (simp; done) | (simp [*]; done), by repeat (first | exact Drawn0.refl _ | apply Drawn0.step)⟩
        · rw [if_neg c12] at H
          have c12b0 : (a0 == 46) = false := beq_eq_false_iff_ne.mpr c12
          have c12b1 : (a0 != 46) = true := bne_iff_ne.mpr c12
          by_cases c13 : a0 = 95
          · rw [if_pos c13] at H
            have c13b0 : (a0 == 95) = true := beq_iff_eq.mpr c13
            have c13b1 : (a0 != 95) = false := bne_eq_false_iff_eq.mpr c13
            clear c13
            obtain rfl := Option.some.inj H
            go_enter Tryz.func49, Tryz.ntmps49
            go_wp2
            go_ret
            exact ⟨by first | rfl | (simp; done) | (simp [*]; done), by repeat (first | exact Drawn0.refl _ | apply Drawn0.step)⟩
          · rw [if_neg c13] at H
            have c13b0 : (a0 == 95) = false := beq_eq_false_iff_ne.mpr c13
            have c13b1 : (a0 != 95) = true := bne_iff_ne.mpr c13
            obtain rfl := Option.some.inj H
            go_enter Tryz.func49, Tryz.ntmps49
            go_wp2
            go_ret
            exact ⟨by first | rfl | (simp; done) | (simp [*]; done), by repeat (first | exact Drawn0.refl _ | apply Drawn0.step)⟩
    · rw [if_neg c10] at H
      have c10b0 : decide (48 ≤ a0) = false := decide_eq_false c10
      clear c10
      by_cases c14 : a0 = 46
      · rw [if_pos c14] at H
        have c14b0 : (a0 == 46) = true := beq_iff_eq.mpr c14
        have c14b1 : (a0 != 46) = false := bne_eq_false_iff_eq.mpr c14
        clear c14
        obtain rfl := Option.some.inj H
        go_enter Tryz.func49, Tryz.ntmps49
        go_wp2
        go_ret
        exact ⟨by first | rfl | (simp; done) | (simp [*]; done), by repeat (first | exact Drawn0.refl _ | apply Drawn0.step)⟩
      · rw [if_neg c14] at H
        have c14b0 : (a0 == 46) = false := beq_eq_false_iff_ne.mpr c14
        have c14b1 : (a0 != 46) = true := bne_iff_ne.mpr c14
        by_cases c15 : a0 = 95
        · rw [if_pos c15] at H
          have c15b0 : (a0 == 95) = true := beq_iff_eq.mpr c15
          have c15b1 : (a0 != 95) = false := bne_eq_false_iff_eq.mpr c15
          clear c15
          obtain rfl := Option.some.inj H
          go_enter Tryz.func49, Tryz.ntmps49
          go_wp2
          go_ret
          exact ⟨by first | rfl | (simp; done) | (simp [*]; done), by repeat (first | exact Drawn0.refl _ | apply Drawn0.step)⟩
        · rw [if_neg c15] at H
          have c15b0 : (a0 == 95) = false := beq_eq_false_iff_ne.mpr c15
          have c15b1 : (a0 != 95) = true := bne_iff_ne.mpr c15
          obtain rfl := Option.some.inj H
          go_enter Tryz.func49, Tryz.ntmps49
          go_wp2
          go_ret
          exact ⟨by first | rfl | (simp; done) | (simp [*]; done), by repeat (first | exact Drawn0.refl _ | apply Drawn0.step)⟩

/-! ### path_part: function 31 -/
def path_part.l0 : Nat → ByteArray → Int → Int → Option (Bool)
  | 0, _, _, _ => none
  | k + 1, x0, x5, x6 => if x6 < x5 then (if 0 ≤ x6 then (if x6 < (x0.size : Int) then ((path_plain.f (bt x0 x6)).bind fun t101 => (if t101 = true then (path_part.l0 k x0 x5 (wrap64 (x6 + 1))) else (some false))) else (none)) else (none)) else (if x0.toList = ([] : List UInt8) then (some false) else (if x0.toList = ([46] : List UInt8) then (some false) else (some (x0.toList != ([46, 46] : List UInt8)))))
def path_part.f (k : Nat) (a0 : ByteArray) : Option (Bool) := path_part.l0 k a0 (a0.size : Int) 0
theorem path_part.mono_l : ∀ k, (∀ y0 y1 y2, LeO (path_part.l0 k y0 y1 y2) (path_part.l0 (k + 1) y0 y1 y2))
  | 0 => fun _ _ _ r h => by simp [path_part.l0] at h
  | k + 1 => by
    have ih0 := path_part.mono_l k
    · intro y0 y1 y2
      unfold path_part.l0
      repeat' first
      | (with_reducible exact ih0 _ _ _)
      | (with_reducible exact LeO.refl _)
      | (with_reducible exact LeO.none _)
      | (with_reducible refine LeO.ite ?_ ?_)
      | (with_reducible refine LeO.bind ?_ (fun _ => ?_))
      | exact ih0 _ _ _
      | exact LeO.none _
      | refine LeO.ite ?_ ?_
      | refine LeO.bind ?_ (fun _ => ?_)
theorem path_part.mono : ∀ a0 k, LeO (path_part.f k a0) (path_part.f (k + 1) a0) := by
  intro a0 k
  have ih0 := path_part.mono_l k
  unfold path_part.f
  repeat' first
      | (with_reducible exact ih0 _ _ _)
      | (with_reducible exact LeO.refl _)
      | (with_reducible exact LeO.none _)
      | (with_reducible refine LeO.ite ?_ ?_)
      | (with_reducible refine LeO.bind ?_ (fun _ => ?_))
      | exact ih0 _ _ _
      | exact LeO.none _
      | refine LeO.ite ?_ ?_
      | refine LeO.bind ?_ (fun _ => ?_)
set_option maxHeartbeats 8000000 in
set_option maxRecDepth 100000 in
theorem path_part.calls (k : Nat) (a0 : ByteArray) (r : Bool) (w : World) (h : path_part.f k a0 = some r) :
    Calls Tryz.prog 31 #[.string a0] w fun e w' => e = .returned (.bool r) ∧ Drawn0 w w' := by
  have H : (path_part.l0 k a0 (a0.size : Int) 0) = some r := h
  clear h
  have H' := Aside0.mk H
  clear H
  go_enter Tryz.func31, Tryz.ntmps31
  go_wp2
  go_loopg [6] k (fun kq v6 w' => ∃ (x6_1 : Int), v6 = .int .i64 x6_1 ∧ Aside0 (path_part.l0 kq a0 (a0.size : Int) x6_1 = some r) ∧ Aside0 (kq ≤ k) ∧ Drawn0 w w')
  case atStart => exact ⟨(0), (by first | rfl | (simp; done) | (simp [*]; done)), H', ⟨Nat.le_refl _⟩, by repeat (first | exact Drawn0.refl _ | apply Drawn0.step)⟩
  case round =>
    clear H'
    obtain ⟨x6_1, rfl, HA, HK1, ⟨m1, rfl⟩⟩ := hrel
    cases gk with
    | zero => exact absurd HA.out (by simp [path_part.l0])
    | succ k1 =>
      have H := HA.out
      clear HA
      simp only [path_part.l0] at H
      by_cases c2 : x6_1 < (a0.size : Int)
      · rw [if_pos c2] at H
        have c2b0 : decide (x6_1 < (a0.size : Int)) = true := decide_eq_true c2
        clear c2
        by_cases c3 : 0 ≤ x6_1
        · rw [if_pos c3] at H
          have c3b0 : decide (0 ≤ x6_1) = true := decide_eq_true c3
          clear c3
          by_cases c4 : x6_1 < (a0.size : Int)
          · rw [if_pos c4] at H
            have c4b0 : decide (x6_1 < (a0.size : Int)) = true := decide_eq_true c4
            clear c4
            replace H := Option.bind_eq_some_iff.mp H
            obtain ⟨t101, A60, H⟩ := H
            replace H : (if t101 = true then (path_part.l0 k1 a0 (a0.size : Int) (wrap64 (x6_1 + 1))) else (some false)) = some r := H
            have A6 := Aside0.mk A60
            clear A60
            by_cases c7 : t101 = true
            · subst c7
              have H1 : (path_part.l0 k1 a0 (a0.size : Int) (wrap64 (x6_1 + 1))) = some r := by rw [if_pos rfl] at H; exact H
              clear H
              have H := H1
              clear H1
              have H' := Aside0.mk H
              clear H
              have p5 : 0 ≤ (x6_1 : Int) := of_decide_eq_true (by first | (with_reducible assumption) | assumption)
              have q5 : x6_1 < (a0.size : Int) := of_decide_eq_true (by first | (with_reducible assumption) | assumption)
              have hx5 := bt_at a0 x6_1
              replace p5 := eq_true p5
              replace q5 := eq_true q5
              go_wp2_with (first | ((with_reducible refine gate_callee (f := 49) rfl ?_); refine goesL_ (some 12) rfl rfl Tryz.func49 (by kernel_rfl) rfl #[.int .u8 (bt a0 x6_1)] rfl (by (try simp only [List.map_toArray, List.map_cons, List.map_nil]); first | done | rfl | (simp only [List.length_drop, List.length_take]; rfl)) ?_; (with_reducible refine (path_plain.calls (bt a0 x6_1) true _ A6.out).mono ?_); rintro e w' ⟨rfl, ⟨nd, rfl⟩⟩; refine ⟨_, rfl, ?_⟩))
              go_roundg k1
              case measure => have := HK1.out; omega
              case rel => exact ⟨(wrap64 (x6_1 + 1)), (by first | rfl | (simp; done) | (simp [*]; done)), H', ⟨by have := HK1.out; omega⟩, by repeat (first | exact Drawn0.refl _ | apply Drawn0.step)⟩
            · replace c7 := Bool.eq_false_iff.mpr c7
              subst c7
              have H1 : (some false) = some r := by rw [if_neg (show ¬ (false = true) by decide)] at H; exact H
              clear H
              have H := H1
              clear H1
              obtain rfl := Option.some.inj H
              have p5 : 0 ≤ (x6_1 : Int) := of_decide_eq_true (by first | (with_reducible assumption) | assumption)
              have q5 : x6_1 < (a0.size : Int) := of_decide_eq_true (by first | (with_reducible assumption) | assumption)
              have hx5 := bt_at a0 x6_1
              replace p5 := eq_true p5
              replace q5 := eq_true q5
              go_wp2_with (first | ((with_reducible refine gate_callee (f := 49) rfl ?_); refine goesL_ (some 12) rfl rfl Tryz.func49 (by kernel_rfl) rfl #[.int .u8 (bt a0 x6_1)] rfl (by (try simp only [List.map_toArray, List.map_cons, List.map_nil]); first | done | rfl | (simp only [List.length_drop, List.length_take]; rfl)) ?_; (with_reducible refine (path_plain.calls (bt a0 x6_1) false _ A6.out).mono ?_); rintro e w' ⟨rfl, ⟨nd, rfl⟩⟩; refine ⟨_, rfl, ?_⟩))
              go_ret
              exact ⟨by first | rfl | (simp; done) | (simp [*]; done), by repeat (first | exact Drawn0.refl _ | apply Drawn0.step)⟩
          · rw [if_neg c4] at H
            exact absurd H (by simp)
        · rw [if_neg c3] at H
          exact absurd H (by simp)
      · rw [if_neg c2] at H
        have c2b0 : decide (x6_1 < (a0.size : Int)) = false := decide_eq_false c2
        clear c2
        by_cases c8 : a0.toList = ([] : List UInt8)
        · rw [if_pos c8] at H
          have c8b0 : (a0.toList == ([] : List UInt8)) = true := beq_iff_eq.mpr c8
          have c8b1 : (a0.toList != ([] : List UInt8)) = false := bne_eq_false_iff_eq.mpr c8
          clear c8
          obtain rfl := Option.some.inj H
          go_wp2
          go_ret
          exact ⟨by first | rfl | (simp; done) | (simp [*]; done), by repeat (first | exact Drawn0.refl _ | apply Drawn0.step)⟩
        · rw [if_neg c8] at H
          have c8b0 : (a0.toList == ([] : List UInt8)) = false := beq_eq_false_iff_ne.mpr c8
          have c8b1 : (a0.toList != ([] : List UInt8)) = true := bne_iff_ne.mpr c8
          by_cases c9 : a0.toList = ([46] : List UInt8)
          · rw [if_pos c9] at H
            have c9b0 : (a0.toList == ([46] : List UInt8)) = true := beq_iff_eq.mpr c9
            have c9b1 : (a0.toList != ([46] : List UInt8)) = false := bne_eq_false_iff_eq.mpr c9
            clear c9
            obtain rfl := Option.some.inj H
            go_wp2
            go_ret
            exact ⟨by first | rfl | (simp; done) | (simp [*]; done), by repeat (first | exact Drawn0.refl _ | apply Drawn0.step)⟩
          · rw [if_neg c9] at H
            have c9b0 : (a0.toList == ([46] : List UInt8)) = false := beq_eq_false_iff_ne.mpr c9
            have c9b1 : (a0.toList != ([46] : List UInt8)) = true := bne_iff_ne.mpr c9
            obtain rfl := Option.some.inj H
            go_wp2
            go_ret
            exact ⟨by first | rfl | (simp; done) | (simp [*]; done), by repeat (first | exact Drawn0.refl _ | apply Drawn0.step)⟩

/-! ### stringslite_HasSuffix: function 50 -/
def stringslite_HasSuffix.f (a0 : ByteArray) (a1 : ByteArray) : Option (Bool) := if (a0.size : Int) ≥ (a1.size : Int) then (if 0 ≤ (wrap64 ((a0.size : Int) - (a1.size : Int))) then (if (wrap64 ((a0.size : Int) - (a1.size : Int))) ≤ (a0.size : Int) then (some ((a0.extract ((wrap64 ((a0.size : Int) - (a1.size : Int))) : Int).toNat a0.size).toList == a1.toList)) else (none)) else (none)) else (some false)
set_option maxHeartbeats 8000000 in
set_option maxRecDepth 100000 in
theorem stringslite_HasSuffix.calls (a0 : ByteArray) (a1 : ByteArray) (r : Bool) (w : World) (h : stringslite_HasSuffix.f a0 a1 = some r) :
    Calls Tryz.prog 50 #[.string a0, .string a1] w fun e w' => e = .returned (.bool r) ∧ Drawn0 w w' := by
  have H : (if (a0.size : Int) ≥ (a1.size : Int) then (if 0 ≤ (wrap64 ((a0.size : Int) - (a1.size : Int))) then (if (wrap64 ((a0.size : Int) - (a1.size : Int))) ≤ (a0.size : Int) then (some ((a0.extract ((wrap64 ((a0.size : Int) - (a1.size : Int))) : Int).toNat a0.size).toList == a1.toList)) else (none)) else (none)) else (some false)) = some r := h
  clear h
  by_cases c3 : (a0.size : Int) ≥ (a1.size : Int)
  · rw [if_pos c3] at H
    have c3b0 : decide ((a1.size : Int) ≤ (a0.size : Int)) = true := decide_eq_true c3
    have c3b1 : decide (a1.size ≤ a0.size) = true := decide_eq_true (Int.ofNat_le.mp c3)
    clear c3
    obtain ⟨ji4, hji4⟩ : ∃ j_ : Int, (wrap64 ((a0.size : Int) - (a1.size : Int))) = j_ := ⟨_, rfl⟩
    replace H : (if 0 ≤ (ji4) then (if (ji4) ≤ (a0.size : Int) then (some ((a0.extract ((ji4) : Int).toNat a0.size).toList == a1.toList)) else (none)) else (none)) = some r := by first | (rw [hji4] at H; exact H) | (simp only [hji4] at H ⊢; exact H)
    have hji4w : (IntKind.i64.wrap ((a0.size : Int) - (a1.size : Int))) = ji4 := (i64_w _).trans hji4
    by_cases c5 : 0 ≤ (ji4)
    · rw [if_pos c5] at H
      have c5b0 := eq_true c5
      have c5b1 : decide (0 ≤ (ji4)) = true := decide_eq_true c5
      clear c5
      by_cases c6 : (ji4) ≤ (a0.size : Int)
      · rw [if_pos c6] at H
        have c6b0 := eq_true c6
        have c6b1 : decide ((ji4) ≤ (a0.size : Int)) = true := decide_eq_true c6
        clear c6
        obtain rfl := Option.some.inj H
        go_enter Tryz.func50, Tryz.ntmps50
        go_wp2
        go_ret
        exact ⟨by first | rfl | (simp; done) | (simp only [← hji4] <;> (first | rfl | simp)) | (simp [*]; done), by repeat (first | exact Drawn0.refl _ | apply Drawn0.step)⟩
      · rw [if_neg c6] at H
        exact absurd H (by simp)
    · rw [if_neg c5] at H
      exact absurd H (by simp)
  · rw [if_neg c3] at H
    have c3b0 : decide ((a1.size : Int) ≤ (a0.size : Int)) = false := decide_eq_false c3
    have c3b1 : decide (a1.size ≤ a0.size) = false := decide_eq_false (fun h => c3 (Int.ofNat_le.mpr h))
    clear c3
    obtain rfl := Option.some.inj H
    go_enter Tryz.func50, Tryz.ntmps50
    go_wp2
    go_ret
    exact ⟨by first | rfl | (simp; done) | (simp [*]; done), by repeat (first | exact Drawn0.refl _ | apply Drawn0.step)⟩

/-! ### strings_HasSuffix: function 32 -/
def strings_HasSuffix.f (a0 : ByteArray) (a1 : ByteArray) : Option (Bool) := (stringslite_HasSuffix.f a0 a1).bind fun t102 => (some t102)
set_option maxHeartbeats 8000000 in
set_option maxRecDepth 100000 in
theorem strings_HasSuffix.calls (a0 : ByteArray) (a1 : ByteArray) (r : Bool) (w : World) (h : strings_HasSuffix.f a0 a1 = some r) :
    Calls Tryz.prog 32 #[.string a0, .string a1] w fun e w' => e = .returned (.bool r) ∧ Drawn0 w w' := by
  have H : ((stringslite_HasSuffix.f a0 a1).bind fun t102 => (some t102)) = some r := h
  clear h
  replace H := Option.bind_eq_some_iff.mp H
  obtain ⟨t102, A30, H⟩ := H
  replace H : (some t102) = some r := H
  have A3 := Aside0.mk A30
  clear A30
  obtain rfl := Option.some.inj H
  go_enter Tryz.func32, Tryz.ntmps32
  go_wp2_with (first | ((with_reducible refine gate_callee (f := 50) rfl ?_); refine goesL_ (some 7) rfl rfl Tryz.func50 (by kernel_rfl) rfl #[.string a0, .string a1] rfl (by (try simp only [List.map_toArray, List.map_cons, List.map_nil]); first | done | rfl | (simp only [List.length_drop, List.length_take]; rfl)) ?_; (with_reducible refine (stringslite_HasSuffix.calls a0 a1 t102 _ A3.out).mono ?_); rintro e w' ⟨rfl, ⟨nd, rfl⟩⟩; refine ⟨_, rfl, ?_⟩))
  go_ret
  exact ⟨by first | rfl | (simp; done) | (simp [*]; done), by repeat (first | exact Drawn0.refl _ | apply Drawn0.step)⟩

/-! ### packet_Count: function 33 -/
def packet_Count.f (a0 : Int) (a1 : Int) : Option (Int) := if a0 < 1 then (some 0) else (if a1 < 1 then (some 0) else (if a1 > 256 then (some 0) else (if a1 = 0 then (none) else (some (wrap64 ((wrap64 (Int.tdiv (wrap64 (a0 - 1)) a1)) + 1))))))
set_option maxHeartbeats 8000000 in
set_option maxRecDepth 100000 in
theorem packet_Count.calls (a0 : Int) (a1 : Int) (r : Int) (w : World) (h : packet_Count.f a0 a1 = some r) :
    Calls Tryz.prog 33 #[.int .i64 a0, .int .i64 a1] w fun e w' => e = .returned (.int .i64 r) ∧ Drawn0 w w' := by
  have H : (if a0 < 1 then (some 0) else (if a1 < 1 then (some 0) else (if a1 > 256 then (some 0) else (if a1 = 0 then (none) else (some (wrap64 ((wrap64 (Int.tdiv (wrap64 (a0 - 1)) a1)) + 1))))))) = some r := h
  clear h
  by_cases c3 : a0 < 1
  · rw [if_pos c3] at H
    have c3b0 : decide (a0 < 1) = true := decide_eq_true c3
    clear c3
    obtain rfl := Option.some.inj H
    go_enter Tryz.func33, Tryz.ntmps33
    go_wp2
    go_ret
    exact ⟨by first | rfl | (simp; done) | (simp [*]; done), by repeat (first | exact Drawn0.refl _ | apply Drawn0.step)⟩
  · rw [if_neg c3] at H
    have c3b0 : decide (a0 < 1) = false := decide_eq_false c3
    clear c3
    by_cases c4 : a1 < 1
    · rw [if_pos c4] at H
      have c4b0 : decide (a1 < 1) = true := decide_eq_true c4
      clear c4
      obtain rfl := Option.some.inj H
      go_enter Tryz.func33, Tryz.ntmps33
      go_wp2
      go_ret
      exact ⟨by first | rfl | (simp; done) | (simp [*]; done), by repeat (first | exact Drawn0.refl _ | apply Drawn0.step)⟩
    · rw [if_neg c4] at H
      have c4b0 : decide (a1 < 1) = false := decide_eq_false c4
      clear c4
      by_cases c5 : a1 > 256
      · rw [if_pos c5] at H
        have c5b0 : decide (256 < a1) = true := decide_eq_true c5
        clear c5
        obtain rfl := Option.some.inj H
        go_enter Tryz.func33, Tryz.ntmps33
        go_wp2
        go_ret
        exact ⟨by first | rfl | (simp; done) | (simp [*]; done), by repeat (first | exact Drawn0.refl _ | apply Drawn0.step)⟩
      · rw [if_neg c5] at H
        have c5b0 : decide (256 < a1) = false := decide_eq_false c5
        clear c5
        by_cases c6 : a1 = 0
        · rw [if_pos c6] at H
          exact absurd H (by simp)
        · rw [if_neg c6] at H
          have c6b0 : (a1 == 0) = false := beq_eq_false_iff_ne.mpr c6
          have c6b1 : (a1 != 0) = true := bne_iff_ne.mpr c6
          obtain rfl := Option.some.inj H
          go_enter Tryz.func33, Tryz.ntmps33
          go_wp2
          go_ret
          exact ⟨by first | rfl | (simp; done) | (simp [*]; done), by repeat (first | exact Drawn0.refl _ | apply Drawn0.step)⟩

/-! ### cut_Count: function 17 -/
def cut_Count.f (a0 : Int) (a1 : Int) : Option (Int) := (packet_Count.f a0 a1).bind fun t103 => (some t103)
set_option maxHeartbeats 8000000 in
set_option maxRecDepth 100000 in
theorem cut_Count.calls (a0 : Int) (a1 : Int) (r : Int) (w : World) (h : cut_Count.f a0 a1 = some r) :
    Calls Tryz.prog 17 #[.int .i64 a0, .int .i64 a1] w fun e w' => e = .returned (.int .i64 r) ∧ Drawn0 w w' := by
  have H : ((packet_Count.f a0 a1).bind fun t103 => (some t103)) = some r := h
  clear h
  replace H := Option.bind_eq_some_iff.mp H
  obtain ⟨t103, A30, H⟩ := H
  replace H : (some t103) = some r := H
  have A3 := Aside0.mk A30
  clear A30
  obtain rfl := Option.some.inj H
  go_enter Tryz.func17, Tryz.ntmps17
  go_wp2_with (first | ((with_reducible refine gate_callee (f := 33) rfl ?_); refine goesL_ (some 7) rfl rfl Tryz.func33 (by kernel_rfl) rfl #[.int .i64 a0, .int .i64 a1] rfl (by (try simp only [List.map_toArray, List.map_cons, List.map_nil]); first | done | rfl | (simp only [List.length_drop, List.length_take]; rfl)) ?_; (with_reducible refine (packet_Count.calls a0 a1 t103 _ A3.out).mono ?_); rintro e w' ⟨rfl, ⟨nd, rfl⟩⟩; refine ⟨_, rfl, ?_⟩))
  go_ret
  exact ⟨by first | rfl | (simp; done) | (simp [*]; done), by repeat (first | exact Drawn0.refl _ | apply Drawn0.step)⟩

end Go.Proofs.YtoakjdgknbhgiaaGreatDoor.QPart
/- Machine-made by a program of this claim: functions of the Go program as Lean functions, and that its calls do what these say. Lean checks it. -/
namespace Go.Proofs.YtoakjdgknbhgiaaGreatDoor.QPart
open Go.RowKit Go.Proofs.YtoakjdgknbhgiaaGreatDoorW.PrintWords Go.Proofs.YtoakjdgknbhgiaaGreatDoorW.PrintLast Go.Proofs.YtoakjdgknbhgiaaGreatDoorW.PrintMore
attribute [local go_sem] max2_int min2_int max_two min_two max_three min_three max_four min_four   -- for this text's walks alone
set_option linter.unusedVariables false
set_option linter.unusedSimpArgs false

end Go.Proofs.YtoakjdgknbhgiaaGreatDoor.QPart
/- Package path, where nothing but its Right is reached: which names are right. -/
namespace Go.Proofs.YtoakjdgknbhgiaaGreatDoor.Path
open Go Go.RowKit Go.Shelf Go.Proofs.YtoakjdgknbhgiaaGreatDoor.QPart Go.Proofs.YtoakjdgknbhgiaaGreatDoorW.PrintWords Go.Proofs.YtoakjdgknbhgiaaGreatDoorW.PrintLast Go.Proofs.YtoakjdgknbhgiaaGreatDoorW.PrintMore

/-- what the package's functions read of the library's variables -/
structure Good (w : World) : Prop where
  ml : ∃ m, w.cell? ⟨0, 0, none⟩ = some (.int .i64 m)
theorem cell_below {w w' : World} {a : Addr} {u : Value} (hb : Below w.heap.size w w') (h : w.cell? a = some u) : w'.cell? a = some u := by
  have hlt : a.block < w.heap.size := by
    rcases Nat.lt_or_ge a.block w.heap.size with h' | h'
    · exact h'
    · simp [World.cell?, Array.getElem?_eq_none h'] at h
  rw [hb.cell hlt]; exact h
theorem Good.below {w w' : World} (h : Good w) (hb : Below w.heap.size w w') : Good w' := by
  obtain ⟨m, h4⟩ := h.ml
  exact ⟨⟨m, cell_below hb h4⟩⟩

/-- the volumes' ending -/
def gys : ByteArray := ⟨#[46, 103, 121, 115]⟩
def suf (s : ByteArray) : Bool := decide (4 ≤ s.size) && ((s.extract (s.size - 4) s.size).toList == gys.toList)
theorem wrap_small (x : Int) (h0 : -9223372036854775808 ≤ x) (h1 : x ≤ 9223372036854775807) : wrap64 x = x := by
  unfold wrap64; omega
theorem suf_in (s : ByteArray) (hs : s.size ≤ 9223372036854775807) : stringslite_HasSuffix.f s gys = some (suf s) := by
  have e4 : gys.size = 4 := rfl
  unfold stringslite_HasSuffix.f suf
  rw [e4]
  by_cases h : 4 ≤ s.size
  · rw [if_pos (by omega), wrap_small _ (by omega) (by omega), if_pos (by omega), if_pos (by omega)]
    have e : (((s.size : Int) - ((4 : Nat) : Int)).toNat) = s.size - 4 := by omega
    rw [e]
    simp [h]
  · rw [if_neg (by omega)]
    simp [h]
theorem suf_says (s : ByteArray) (hs : s.size ≤ 9223372036854775807) : strings_HasSuffix.f s gys = some (suf s) := by
  unfold strings_HasSuffix.f
  rw [suf_in s hs]; rfl
theorem bytes_below {w w' : World} {T : TypeId} (h : w' = w ∨ ∃ t, w' = Lib.bytesWorld w T t) : Below w.heap.size w w' := by
  rcases h with rfl | ⟨t, rfl⟩
  · exact Below.refl _ _
  · exact Lib.bytesWorld_below _ _ _
theorem beq_bytes (d c : ByteArray) : (d.toList == c.toList) = decide (d = c) := by
  rw [Lib.toList_data, Lib.toList_data]
  by_cases h : d = c
  · subst h; simp
  · have h' : d.data.toList ≠ c.data.toList := fun e => h (by
      obtain ⟨⟨d⟩⟩ := d
      obtain ⟨⟨c⟩⟩ := c
      simp only at e
      rw [e])
    rw [decide_eq_false h]
    exact beq_eq_false_iff_ne.2 h'

/-- bytes of parts -/
def plainI (c : Int) : Bool := decide (97 ≤ c ∧ c ≤ 122) || decide (48 ≤ c ∧ c ≤ 57) || decide (c = 46) || decide (c = 95) || decide (c = 45)
theorem plain_says (c : Int) : path_plain.f c = some (plainI c) := by
  have e : ∀ b : Bool, (b = true ↔ plainI c = true) → some b = some (plainI c) := fun b h => by
    congr 1
    cases b <;> cases hp : plainI c <;> simp_all
  have ep : plainI c = true ↔ ((97 ≤ c ∧ c ≤ 122) ∨ (48 ≤ c ∧ c ≤ 57) ∨ c = 46 ∨ c = 95 ∨ c = 45) := by
    unfold plainI
    simp only [Bool.or_eq_true, decide_eq_true_eq]
    omega
  unfold path_plain.f
  repeat' split
  all_goals (apply e; rw [ep]; simp only [beq_iff_eq, true_iff]; omega)
def plains (l : List UInt8) : Bool := l.all fun b => plainI (b.toNat : Int)
/-- parts that may be -/
def partB (p : ByteArray) : Bool := plains p.data.toList && (decide (p.data.toList ≠ []) && (decide (p.data.toList ≠ [46]) && decide (p.data.toList ≠ [46, 46])))
theorem bt_data (p : ByteArray) (i : Nat) (h : i < p.data.toList.length) : bt p i = ((p.data.toList[i]).toNat : Int) := by
  have h' : i < p.size := h
  have e : ((i : Int)).toNat = i := by omega
  rw [← bt_at p i (by rw [e]; exact h')]
  simp only [e]
  rfl
theorem part_l0 (p : ByteArray) (hp : p.size ≤ 4611686018427387904) : ∀ (k i : Nat), i ≤ p.size → p.size - i < k →
    path_part.l0 k p (p.size : Int) (i : Int) = some (plains (p.data.toList.drop i) && (decide (p.data.toList ≠ []) && (decide (p.data.toList ≠ [46]) && decide (p.data.toList ≠ [46, 46]))))
  | 0, _, _, h => by omega
  | k + 1, i, h1, h2 => by
    simp only [path_part.l0]
    by_cases hi : i < p.size
    · have hl : i < p.data.toList.length := hi
      rw [if_pos (by omega), if_pos (by omega), if_pos (by omega), plain_says, Option.bind_some, bt_data p i hl, wrap_small _ (by omega) (by omega)]
      have ed : p.data.toList.drop i = p.data.toList[i] :: p.data.toList.drop (i + 1) := by rw [List.drop_eq_getElem_cons hl]
      have ep : plains (p.data.toList.drop i) = (plainI ((p.data.toList[i]).toNat : Int) && plains (p.data.toList.drop (i + 1))) := by
        rw [ed]; rfl
      rw [ep]
      cases hc : plainI ((p.data.toList[i]).toNat : Int) with
      | false => rw [if_neg (by decide)]; rfl
      | true =>
        rw [if_pos rfl]
        have := part_l0 p hp k (i + 1) (by omega) (by omega)
        rw [show ((i : Int) + 1) = ((i + 1 : Nat) : Int) by omega, this]
        rfl
    · have hl : p.data.toList.length ≤ i := by have : ¬ i < p.data.toList.length := hi; omega
      rw [if_neg (by omega), List.drop_eq_nil_of_le hl, Lib.toList_data]
      have ep : plains [] = true := rfl
      rw [ep, Bool.true_and]
      by_cases a : p.data.toList = []
      · rw [if_pos a]; simp [a]
      · rw [if_neg a]
        by_cases b : p.data.toList = [46]
        · rw [if_pos b]; simp [b]
        · rw [if_neg b]
          by_cases c : p.data.toList = [46, 46]
          · simp [c]
          · have : (p.data.toList != [46, 46]) = true := bne_iff_ne.2 c
            rw [this]; simp [a, b, c]
theorem part_calls (p : ByteArray) (hp : p.size ≤ 4611686018427387904) (w : World) :
    Calls Tryz.prog 31 #[.string p] w fun e w' => e = .returned (.bool (partB p)) ∧ Drawn0 w w' := by
  refine path_part.calls (p.size + 1) p (partB p) w ?_
  have h := part_l0 p hp (p.size + 1) 0 (by omega) (by omega)
  exact h

/-- what lies between the slashes -/
def sl : ByteArray := ⟨#[47]⟩
def pcs (s : ByteArray) : List ByteArray := Lib.splitB sl 0 (Lib.countB s sl) s
theorem pcs_len (s : ByteArray) : (pcs s).length = Lib.countB s sl + 1 := Lib.splitB_all sl (by decide) 0 _ s rfl
theorem splitB_small (sep : ByteArray) : ∀ (k : Nat) (s p : ByteArray), p ∈ Lib.splitB sep 0 k s → p.size ≤ s.size
  | 0, s, p, h => by simp [Lib.splitB] at h; subst h; exact Nat.le_refl _
  | k + 1, s, p, h => by
    unfold Lib.splitB at h
    split at h
    · simp at h; subst h; exact Nat.le_refl _
    · rcases List.mem_cons.1 h with rfl | h
      · rw [ByteArray.size_extract]; omega
      · have := splitB_small sep k _ p h
        rw [ByteArray.size_extract] at this; omega
/-- names that files of a set may have -/
def right (s : ByteArray) : Bool := (pcs s).all partB && (decide (s.size ≤ 40) && (((pcs s).headD ⟨#[]⟩).toList != ([111, 108, 100] : List UInt8) && (((pcs s).headD ⟨#[]⟩).toList != ([116, 109, 112] : List UInt8) && !suf s)))
structure Held (s : ByteArray) (w w' : World) : Prop where
  cells : ∀ j, j < (pcs s).length → w'.cell? ⟨w.heap.size, j, none⟩ = some (.string ((pcs s).getD j ⟨#[]⟩))
  below : Below w.heap.size w w'
  there : w.heap.size < w'.heap.size
theorem Held.step {s : ByteArray} {w w1 w2 : World} (h : Held s w w1) (hd : Drawn0 w1 w2) : Held s w w2 := by
  have hb := hd.below
  exact ⟨fun j hj => cell_below hb (h.cells j hj), h.below.trans (hb.mono h.below.size), Nat.lt_of_lt_of_le h.there hb.size⟩
theorem held_first (s : ByteArray) (w : World) (T : TypeId) : Held s w (w.alloc (.cells ((pcs s).map Value.string).toArray T)) := by
  refine ⟨fun j hj => ?_, (Below.refl _ _).alloc (Nat.le_refl _) _, by simp⟩
  simp [List.getD, hj]
theorem split_calls (s : ByteArray) (hs : s.size ≤ 1000000000) (w : World) (G : Good w) :
    Calls Tryz.prog 30 #[.string s, .string sl] w fun e w' => e = .returned (.slice (some ⟨w.heap.size, 0, none⟩) (pcs s).length (pcs s).length) ∧ Held s w w' := by
  obtain ⟨m, hm⟩ := G.ml
  refine (Any.strings_Split { Tryz.splitLay with } Tryz.splitLay.i9 s sl m w (by omega) hm (by decide)).mono ?_
  rintro e w' ⟨rfl, rfl⟩
  rw [pcs_len]
  exact ⟨rfl, held_first s w _⟩
set_option maxHeartbeats 8000000 in
set_option maxRecDepth 100000 in
theorem right_calls (s : ByteArray) (hs : s.size ≤ 1000000000) (w : World) (G : Good w) :
    Calls Tryz.prog 16 #[.string s] w fun e w' => e = .returned (.bool (right s)) ∧ Below w.heap.size w w' := by
  have G' := Lib.hid G
  clear G
  have hL1 : 1 ≤ (pcs s).length := by rw [pcs_len]; omega
  have hL2 : (pcs s).length ≤ 2000000000 := by
    rw [pcs_len]
    have := Lib.countB_le sl (by decide) s.size s (Nat.le_refl _)
    omega
  have hsm := Lib.hid (splitB_small sl (Lib.countB s sl) s)
  generalize hL : (pcs s).length = L at *
  have HL := Lib.hid hL
  clear hL
  go_enter Tryz.func16, Tryz.ntmps16
  go_wp2_with (go_at_call 30; refine (split_calls s hs _ G'.out).mono ?_; rw [HL.out]; rintro e w1 ⟨rfl, hd⟩; have hb1 := Lib.hid hd; clear hd)
  go_loopg [10] (L + 1) (fun kq v10 w' => ∃ i : Nat, v10 = .int .i64 (i : Int) ∧ Hid (i + kq = L + 1 ∧ i ≤ L ∧ ((pcs s).take i).all partB = true) ∧ Hid (Held s w w'))
  case atStart => exact ⟨0, rfl, Lib.hid ⟨by omega, by omega, by simp⟩, hb1⟩
  case round =>
    clear hb1
    obtain ⟨i, rfl, hi, hw⟩ := hrel
    cases gk with
    | zero => exact absurd hi.out.1 (by have := hi.out.2.1; omega)
    | succ k1 =>
      by_cases hlt : i < L
      · obtain ⟨p, hp⟩ : ∃ p, (pcs s).getD i ⟨#[]⟩ = p := ⟨_, rfl⟩
        have hc := hw.out.cells i (by rw [HL.out]; exact hlt)
        rw [hp] at hc
        have hil : i < (pcs s).length := by rw [HL.out]; exact hlt
        have hpi : (pcs s)[i]? = some p := by rw [← hp, List.getD, List.getElem?_eq_getElem hil]; rfl
        have hpm : p ∈ pcs s := List.mem_of_getElem? hpi
        have hps : p.size ≤ 4611686018427387904 := by
          have := hsm.out p hpm
          omega
        have hpi' := Lib.hid hpi
        have hpm' := Lib.hid hpm
        clear hp hpi hil hpm
        have g1 : (i : Int) < (L : Int) := by omega
        cases hpb : partB p with
        | false =>
          have hq := Lib.hid hpb
          clear hpb
          have hr : Hid (right s = false) := Lib.hid (by
            have : (pcs s).all partB = false := by
              rw [List.all_eq_false]
              exact ⟨p, hpm'.out, by rw [hq.out]; decide⟩
            unfold right
            rw [this, Bool.false_and])
          go_wp2_with (go_at_call 31; refine (part_calls p hps _).mono ?_; rw [hq.out]; rintro e w2 ⟨rfl, hd⟩; have hb2 := Lib.hid hd; clear hd)
          go_ret
          exact ⟨congrArg (fun b => Ending.returned (Value.bool b)) hr.out.symm, (hw.out.step hb2.out).below⟩
        | true =>
          have hq := Lib.hid hpb
          clear hpb
          go_wp2_with (go_at_call 31; refine (part_calls p hps _).mono ?_; rw [hq.out]; rintro e w2 ⟨rfl, hd⟩; have hb2 := Lib.hid hd; clear hd)
          go_roundg k1
          case measure => omega
          case rel => exact ⟨i + 1, congrArg _ (by omega), Lib.hid ⟨by have := hi.out.1; omega, by omega, by
            rw [List.take_add_one, List.all_append, hi.out.2.2, hpi'.out]; simp [hq.out]⟩, Lib.hid (hw.out.step hb2.out)⟩
      · have hiL : i = L := by have := hi.out.2.1; omega
        have hall : Hid ((pcs s).all partB = true) := Lib.hid (by
          have := hi.out.2.2
          rw [hiL, ← HL.out, List.take_length] at this
          exact this)
        subst hiL
        obtain ⟨p, hp⟩ : ∃ p, (pcs s).getD 0 ⟨#[]⟩ = p := ⟨_, rfl⟩
        have hc := hw.out.cells 0 (by rw [HL.out]; omega)
        rw [hp] at hc
        have hr0 : right s = (decide (s.size ≤ 40) && ((p.toList != ([111, 108, 100] : List UInt8)) && ((p.toList != ([116, 109, 112] : List UInt8)) && !suf s))) := by
          unfold right
          rw [hall.out, Bool.true_and, List.headD_eq_head?_getD, List.head?_eq_getElem?, ← List.getD_eq_getElem?_getD, hp]
        have hr := Lib.hid hr0
        have HS := Lib.hid (suf_says s (by omega))
        have g1 : ¬ ((i : Int) < (i : Int)) := by omega
        clear hp hr0 hlt
        have fin : ∀ {b : Bool}, (decide (s.size ≤ 40) && ((p.toList != ([111, 108, 100] : List UInt8)) && ((p.toList != ([116, 109, 112] : List UInt8)) && !suf s))) = b → Hid (right s = b) := fun h => Lib.hid (hr.out.trans h)
        by_cases c1 : s.size ≤ 40
        · have d1 : (s.size : Int) ≤ 40 := by omega
          cases e1 : (p.toList == ([111, 108, 100] : List UInt8)) with
          | true =>
            have R := fin (b := false) (by simp only [bne, e1]; simp)
            go_wp2
            go_ret
            exact ⟨congrArg (fun b => Ending.returned (Value.bool b)) R.out.symm, hw.out.below⟩
          | false =>
            cases e2 : (p.toList == ([116, 109, 112] : List UInt8)) with
            | true =>
              have R := fin (b := false) (by simp only [bne, e2]; simp)
              go_wp2
              go_ret
              exact ⟨congrArg (fun b => Ending.returned (Value.bool b)) R.out.symm, hw.out.below⟩
            | false =>
              have R := fin (b := !suf s) (by simp only [bne, e1, e2]; simp [c1])
              go_wp2_with (go_at_call 32; refine (strings_HasSuffix.calls _ _ _ _ HS.out).mono ?_; rintro e w2 ⟨rfl, hd⟩; have hb2 := Lib.hid hd; clear hd)
              go_ret
              exact ⟨congrArg (fun b => Ending.returned (Value.bool b)) R.out.symm, (hw.out.step hb2.out).below⟩
        · have d1 : ¬ (s.size : Int) ≤ 40 := by omega
          have R := fin (b := false) (by simp [c1])
          go_wp2
          go_ret
          exact ⟨congrArg (fun b => Ending.returned (Value.bool b)) R.out.symm, hw.out.below⟩
end Go.Proofs.YtoakjdgknbhgiaaGreatDoor.Path
/- Package cut: one file named "a" can be cut. -/
namespace Go.Proofs.YtoakjdgknbhgiaaGreatDoor.Path
open Go Go.RowKit Go.Shelf Go.Proofs.YtoakjdgknbhgiaaGreatDoor.QPart Go.Proofs.YtoakjdgknbhgiaaGreatDoorW.PrintWords Go.Proofs.YtoakjdgknbhgiaaGreatDoorW.PrintLast Go.Proofs.YtoakjdgknbhgiaaGreatDoorW.PrintMore

def aB : ByteArray := ⟨#[97]⟩
theorem right_a : right aB = true := by kernel_rfl
abbrev mapOk (W : World) (b : Nat) : Prop := W.ownsMap (H := Unit) Tryz.prog 9 (plainElem Tryz.prog 4) b 0 (.map [])
set_option maxRecDepth 100000 in
theorem key_a : keyOf Tryz.prog 9 (.string aB) = some (.string aB.data.toList) := by
  simp [keyOf, mapKey, Tryz.underlying9]
  decide
set_option maxRecDepth 100000 in
theorem look_a {W : World} {b : Nat} (h : mapOk W b) : (Instr.lookup 56 (.map (some b)) (.string aB) false).run Tryz.prog W = .ok (.bool false) W := by
  obtain ⟨v, ps, hr, hv⟩ := h.lookup (Maps.string_keyed Tryz.underlying9) Tryz.underlying56 (Tryz.zeroValue4 W) (zd := .lit (.bool false)) (zp := []) (by unfold plainElem; rw [Tryz.underlying4]) key_a
  rw [hr]
  have e : (DataW.map (H := Unit) []).atKey (.string aB.data.toList) (.lit (.bool false)) = .lit (.bool false) := rfl
  rw [e] at hv
  unfold plainElem at hv
  rw [Tryz.underlying4] at hv
  cases v <;> simp at hv
  rw [hv.1]
set_option maxRecDepth 100000 in
theorem put_a {W : World} {b : Nat} (h : mapOk W b) : ∃ W', (Instr.mapUpdate 56 (.map (some b)) (.string aB) (.bool true)).run Tryz.prog W = .ok () W' ∧ W.grownBy W' (some b) := by
  obtain ⟨W', h1, -, h3⟩ := h.update (Maps.string_keyed Tryz.underlying9) Tryz.underlying56 (by decide) key_a (val := .bool true) (d := .lit (.bool true)) (ps := []) (by unfold plainElem; rw [Tryz.underlying4])
  exact ⟨W', h1, h3⟩
theorem two_at {w w' : World} {b : Nat} {u v : Value} (hb : Below w.heap.size w w') (h0 : w.cell? ⟨b, 0, none⟩ = some u) (h1 : w.cell? ⟨b, 1, none⟩ = some v) : w'.cell? ⟨b, 0, none⟩ = some u ∧ w'.cell? ⟨b, 1, none⟩ = some v := ⟨cell_below hb h0, cell_below hb h1⟩
set_option maxHeartbeats 8000000 in
set_option maxRecDepth 100000 in
theorem check_calls (LB : Nat) (A : Option Addr) (n c : Nat) (hn : n ≤ 5000) (w : World) (G : Good w) (h0 : w.cell? ⟨LB, 0, none⟩ = some (.string aB)) (h1 : w.cell? ⟨LB, 1, none⟩ = some (.slice A n c)) :
    Calls Tryz.prog 9 #[.slice (some ⟨LB, 0, none⟩) 1 1, .int .i64 256] w fun e w' => e = .returned (.int .i64 0) ∧ Below w.heap.size w w' := by
  have G' := Lib.hid G
  have H0 := Lib.hid h0
  have H1 := Lib.hid h1
  clear G h0 h1
  go_enter Tryz.func9, Tryz.ntmps9
  go_wp2
  go_loopg [29] 2 (fun kq v29 w' => ∃ i : Nat, v29 = .int .i64 (i : Int) ∧ Hid (i + kq = 2 ∧ i ≤ 1) ∧ Hid (Below w.heap.size w w'))
  case atStart => exact ⟨0, rfl, Lib.hid ⟨rfl, by omega⟩, Lib.hid (Below.refl _ _)⟩
  case round =>
    obtain ⟨i, rfl, hi, hw⟩ := hrel
    obtain ⟨x0, x1⟩ := two_at hw.out H0.out H1.out
    cases gk with
    | zero => exact absurd hi.out.1 (by have := hi.out.2; omega)
    | succ k9 =>
      by_cases hi0 : i = 0
      · subst hi0
        go_wp2_with (go_at_call 16; refine (right_calls aB (by decide) _ (G'.out.below (hw.out.alloc hw.out.size _))).mono ?_; rw [right_a]; rintro e w2 ⟨rfl, hd⟩; have hb := Lib.hid ((hw.out.alloc hw.out.size _).trans (hd.mono (Nat.le_trans hw.out.size (Gy.alloc_below _ _).size))); clear hd)
        go_roundg k9
        case measure => omega
        case rel => exact ⟨1, rfl, Lib.hid ⟨by have := hi.out.1; omega, by omega⟩, hb⟩
      · have hi1 : i = 1 := by have := hi.out.2; omega
        subst hi1
        clear hi0
        have hmk : ∀ W, (Instr.makeMap 56 none).run Tryz.prog W = .ok (.map (some W.heap.size)) (W.alloc (.map #[] 0)) := fun W => run_makeMap _ W
        go_wp2
        clear hmk x0 x1 hi
        go_loopg [41, 7] 2 (fun kq v41 v7 w' => ∃ (i : Nat) (m : Int), v41 = .int .i64 (i : Int) ∧ v7 = .int .i64 m ∧ Hid (i + kq = 2 ∧ i ≤ 1 ∧ 0 ≤ m ∧ m ≤ 64 ∧ (i = 0 → mapOk w' wr.heap.size ∧ m = 0)) ∧ Hid (Below w.heap.size w w'))
        case atStart => exact ⟨0, 0, rfl, rfl, Lib.hid ⟨rfl, by omega, by omega, by omega, fun _ => ⟨World.ownsMap_made _ _ _ _, rfl⟩⟩, Lib.hid (hw.out.alloc hw.out.size _)⟩
        case round =>
          have hw0 := Lib.hid hw.out.size
          clear hw
          obtain ⟨i, m, rfl, rfl, hi, hw⟩ := hrel
          obtain ⟨x0, x1⟩ := two_at hw.out H0.out H1.out
          cases gk with
          | zero => exact absurd hi.out.1 (by have := hi.out.2.1; omega)
          | succ k9 =>
            by_cases hi0 : i = 0
            · subst hi0
              obtain ⟨hm, rfl⟩ := hi.out.2.2.2.2 rfl
              have hm2 := hm.alloc (.cells #[.string aB, .slice A n c] 36)
              have hlk := look_a hm2
              obtain ⟨w9, hup, hg⟩ := put_a hm2
              have hlt := hm.lt
              have y1 : w9.cell? ⟨wr.heap.size, 1, none⟩ = some (.slice A n c) := by
                rw [World.cell?_of_block (hg.block _ (show wr.heap.size < _ by rw [Gy.size_alloc']; omega) (show some wr.heap.size ≠ _ from fun e => absurd (Option.some.inj e) (Nat.ne_of_gt hlt))), World.cell?_alloc_new]
                rfl
              have HG := Lib.hid (hw.out.alloc hw.out.size (.cells #[.string aB, .slice A n c] 36) |>.grown hg (by rw [Gy.size_alloc']; have := hw.out.size; omega) (fun k hk => by injection hk with hk; rw [← hk]; exact hw0.out))
              clear hm hm2 hg hlt
              by_cases hn0 : n = 0
              · subst hn0
                go_wp2
                go_roundg k9
                case measure => omega
                case rel => exact ⟨1, 0, rfl, rfl, Lib.hid ⟨by have := hi.out.1; omega, by omega, by omega, by omega, fun h => by omega⟩, HG⟩
              · go_wp2
                go_roundg k9
                case measure => omega
                case rel => exact ⟨1, ((n : Int) - 1) / 256 + 1, rfl, rfl, Lib.hid ⟨by have := hi.out.1; omega, by omega, by omega, by omega, fun h => by omega⟩, HG⟩
            · have hi1 : i = 1 := by have := hi.out.2.1; omega
              subst hi1
              clear hi0
              have hm1 := hi.out.2.2.1
              have hm2 := hi.out.2.2.2.1
              go_wp2
              go_ret
              exact ⟨rfl, hw.out⟩
end Go.Proofs.YtoakjdgknbhgiaaGreatDoor.Path
/- The road of the set that isn't formed: cut.Make of no files, packet.Formed and status.Of of the empty set. -/
namespace Go.Proofs.YtoakjdgknbhgiaaGreatDoor.Path
open Go Go.RowKit Go.Shelf Go.Proofs.YtoakjdgknbhgiaaGreatDoor.QPart Go.Proofs.YtoakjdgknbhgiaaGreatDoorW.PrintWords Go.Proofs.YtoakjdgknbhgiaaGreatDoorW.PrintLast Go.Proofs.YtoakjdgknbhgiaaGreatDoorW.PrintMore

abbrev set0 : Value := .agg #[.int .i64 0, .slice none 0 0, .slice none 0 0]
set_option maxRecDepth 100000 in
theorem check_none (w : World) : Calls Tryz.prog 9 #[.slice none 0 0, .int .i64 0] w fun e w' => e = .returned (.int .i64 1) ∧ w' = w := by
  go_enter Tryz.func9, Tryz.ntmps9
  go_wp2
  go_ret
  exact ⟨rfl, rfl⟩
set_option maxRecDepth 100000 in
theorem formed_none (w : World) : Calls Tryz.prog 28 #[set0] w fun e w' => e = .returned (.bool false) ∧ Below w.heap.size w w' := by
  go_enter Tryz.func28, Tryz.ntmps28
  go_wp2
  go_ret
  exact ⟨rfl, (Below.refl _ _).alloc (Nat.le_refl _) _⟩
set_option maxRecDepth 100000 in
theorem of_none (n0 n1 : Value) (hn0 : n0 = .slice none 0 0) (hn1 : n1 = .slice none 0 0) (w : World) : Calls Tryz.prog 15 #[.agg #[n0, n1], set0] w fun e w' => e = .returned (.tuple #[.slice none 0 0, .int .i64 1]) ∧ Below w.heap.size w w' := by
  subst hn0 hn1
  have B0 : ∀ o1 o2, Below w.heap.size w ((w.alloc o1).alloc o2) := fun o1 o2 => ((Below.refl _ _).alloc (Nat.le_refl _) _).alloc (by rw [Gy.size_alloc']; omega) _
  go_enter Tryz.func15, Tryz.ntmps15
  go_wp2_with (go_at_call 28; refine (formed_none _).mono ?_; rintro e w2 ⟨rfl, hd⟩; have hb := Lib.hid ((B0 _ _).trans (hd.mono (B0 _ _).size)); clear hd)
  go_ret2
  exact ⟨rfl, hb.out⟩
theorem info_set : (Tryz.prog.info? 30).map (·.size) = some 3 := by kernel_rfl
theorem fin_set {f : Func} (hf : f.results = #[.cell 4 30, .tmp 5, .tmp 6]) {tmps : Array Value} {w : World} {b : Nat} {k5 k6 : Value} {vs : List Value} (hl : vs.length = 3) (hp : tmps.getD 4 undef = .pointer (some ⟨b, 0, none⟩)) (h5 : tmps.getD 5 undef = k5) (h6 : tmps.getD 6 undef = k6) (h : Gy.Arr w b vs) :
    (results f tmps).run Tryz.prog w = .ok (.tuple #[.agg vs.toArray, k5, k6]) w := by
  have hT : (loadVar 30 ⟨b, 0, none⟩).run Tryz.prog w = .ok (.agg vs.toArray) w := h.loadV Tryz.underlying30 rfl (by rw [hl]; exact info_set)
  unfold results
  rw [hf]
  have e : #[ResultVar.cell 4 30, ResultVar.tmp 5, ResultVar.tmp 6] = [ResultVar.cell 4 30, ResultVar.tmp 5, ResultVar.tmp 6].toArray := rfl
  rw [e, List.mapM_toArray]
  simp only [Sem.run_bind, Sem.run_map]
  have hp2 : tmps[4]?.getD undef = .pointer (some ⟨b, 0, none⟩) := by rw [← hp, Array.getD_eq_getD_getElem?]
  have h52 : tmps[5]?.getD undef = k5 := by rw [← h5, Array.getD_eq_getD_getElem?]
  have h62 : tmps[6]?.getD undef = k6 := by rw [← h6, Array.getD_eq_getD_getElem?]
  simp [List.mapM_cons, hp2, h52, h62, asAddr, hT]
set_option maxHeartbeats 2000000 in
set_option maxRecDepth 100000 in
theorem make_none (w : World) : Calls Tryz.prog 5 #[.slice none 0 0, .int .i64 0] w fun e w' => e = .returned (.tuple #[set0, .slice none 0 0, .int .i64 1]) ∧ Below w.heap.size w w' := by
  go_enter Tryz.func5, Tryz.ntmps5
  go_wp2_with (go_at_call 9; refine (check_none _).mono ?_; rintro e w2 ⟨rfl, rfl⟩)
  exact bodyPost_ret (fin_set rfl (vs := [.int .i64 0, .slice none 0 0, .slice none 0 0]) rfl rfl rfl rfl (Gy.Arr.fresh w _ _ rfl _)) rfl ⟨rfl, (Below.refl _ _).alloc (Nat.le_refl _) _⟩
end Go.Proofs.YtoakjdgknbhgiaaGreatDoor.Path
/- The road of the set that isn't formed, on: geyserlaw18.Made of no files, geyserlaw19.notFormed. -/
namespace Go.Proofs.YtoakjdgknbhgiaaGreatDoor.Path
open Go Go.RowKit Go.Shelf Go.Proofs.YtoakjdgknbhgiaaGreatDoor.QPart Go.Proofs.YtoakjdgknbhgiaaGreatDoorW.PrintWords Go.Proofs.YtoakjdgknbhgiaaGreatDoorW.PrintLast Go.Proofs.YtoakjdgknbhgiaaGreatDoorW.PrintMore

theorem info_store : (Tryz.prog.info? 49).map (·.size) = some 2 := by kernel_rfl
theorem fin_made {f : Func} (hf : f.results = #[.cell 6 30, .tmp 7, .cell 8 49, .tmp 9]) {tmps : Array Value} {w : World} {b d : Nat} {k7 k9 : Value} {vs us : List Value} (hl : vs.length = 3) (hu : us.length = 2) (hp : tmps.getD 6 undef = .pointer (some ⟨b, 0, none⟩)) (h7 : tmps.getD 7 undef = k7) (hq : tmps.getD 8 undef = .pointer (some ⟨d, 0, none⟩)) (h9 : tmps.getD 9 undef = k9) (h : Gy.Arr w b vs) (g : Gy.Arr w d us) :
    (results f tmps).run Tryz.prog w = .ok (.tuple #[.agg vs.toArray, k7, .agg us.toArray, k9]) w := by
  have hT : (loadVar 30 ⟨b, 0, none⟩).run Tryz.prog w = .ok (.agg vs.toArray) w := h.loadV Tryz.underlying30 rfl (by rw [hl]; exact info_set)
  have gT : (loadVar 49 ⟨d, 0, none⟩).run Tryz.prog w = .ok (.agg us.toArray) w := g.loadV Tryz.underlying49 rfl (by rw [hu]; exact info_store)
  unfold results
  rw [hf]
  have e : #[ResultVar.cell 6 30, ResultVar.tmp 7, ResultVar.cell 8 49, ResultVar.tmp 9] = [ResultVar.cell 6 30, ResultVar.tmp 7, ResultVar.cell 8 49, ResultVar.tmp 9].toArray := rfl
  rw [e, List.mapM_toArray]
  simp only [Sem.run_bind, Sem.run_map]
  have hp2 : tmps[6]?.getD undef = .pointer (some ⟨b, 0, none⟩) := by rw [← hp, Array.getD_eq_getD_getElem?]
  have h72 : tmps[7]?.getD undef = k7 := by rw [← h7, Array.getD_eq_getD_getElem?]
  have hq2 : tmps[8]?.getD undef = .pointer (some ⟨d, 0, none⟩) := by rw [← hq, Array.getD_eq_getD_getElem?]
  have h92 : tmps[9]?.getD undef = k9 := by rw [← h9, Array.getD_eq_getD_getElem?]
  simp [List.mapM_cons, hp2, h72, hq2, h92, asAddr, hT, gT]
theorem bset {B b : Nat} {w w' : World} (hB : B ≤ b) (i : Nat) (v : Value) (h : Below B w w') : Below B w (w'.setCell ⟨b, i, none⟩ v) := h.setCell (show B ≤ (⟨b, i, none⟩ : Addr).block from hB) v
theorem arr3 {w : World} {b : Nat} {v0 v1 v2 : Value} (h : Gy.Arr w b [v0, v1, v2]) : w.cell? ⟨b, 0, none⟩ = some v0 ∧ w.cell? ⟨b, 1, none⟩ = some v1 ∧ w.cell? ⟨b, 2, none⟩ = some v2 ∧ ∀ o, w.frozen? ⟨b, o, none⟩ = false := ⟨h.cell rfl, h.cell rfl, h.cell rfl, h.fr⟩
theorem arr2 {w : World} {b : Nat} {v0 v1 : Value} (h : Gy.Arr w b [v0, v1]) : w.cell? ⟨b, 0, none⟩ = some v0 ∧ w.cell? ⟨b, 1, none⟩ = some v1 ∧ ∀ o, w.frozen? ⟨b, o, none⟩ = false := ⟨h.cell rfl, h.cell rfl, h.fr⟩
theorem two_start (w : World) (T T' : TypeId) : Gy.Arr ((w.alloc (.cells #[.int .i64 0, .slice none 0 0, .slice none 0 0] T)).alloc (.cells #[.slice none 0 0, .slice none 0 0] T')) w.heap.size [.int .i64 0, .slice none 0 0, .slice none 0 0] ∧ Gy.Arr ((w.alloc (.cells #[.int .i64 0, .slice none 0 0, .slice none 0 0] T)).alloc (.cells #[.slice none 0 0, .slice none 0 0] T')) (w.heap.size + 1) [.slice none 0 0, .slice none 0 0] ∧ Below w.heap.size w ((w.alloc (.cells #[.int .i64 0, .slice none 0 0, .slice none 0 0] T)).alloc (.cells #[.slice none 0 0, .slice none 0 0] T')) := by
  have e : (w.alloc (.cells #[.int .i64 0, .slice none 0 0, .slice none 0 0] T)).heap.size = w.heap.size + 1 := Gy.size_alloc' _ _
  have h := Gy.Arr.fresh (w.alloc (.cells #[.int .i64 0, .slice none 0 0, .slice none 0 0] T)) [.slice none 0 0, .slice none 0 0] _ rfl T'
  rw [e] at h
  exact ⟨(Gy.Arr.fresh w [.int .i64 0, .slice none 0 0, .slice none 0 0] _ rfl T).alloc _, h, ((Below.refl _ _).alloc (Nat.le_refl _) _).alloc (by rw [e]; omega) _⟩
set_option maxHeartbeats 4000000 in
set_option maxRecDepth 100000 in
theorem made_none (w : World) : Calls Tryz.prog 14 #[.slice none 0 0, .int .i64 0, .slice none 0 0] w fun e w' => e = .returned (.tuple #[set0, .slice none 0 0, .agg #[.slice none 0 0, .slice none 0 0], .bool false]) ∧ Below w.heap.size w w' := by
  have HS := Lib.hid (two_start w 30 49)
  go_enter Tryz.func14, Tryz.ntmps14
  go_wp2_with (go_at_call 5; refine (make_none _).mono ?_; rintro e w2 ⟨rfl, hd⟩; have HA := Lib.hid ((HS.out.1.below hd).alloc (.cells #[.int .i64 0, .slice none 0 0, .slice none 0 0] 30)); have HD := Lib.hid ((HS.out.2.1.below hd).alloc (.cells #[.int .i64 0, .slice none 0 0, .slice none 0 0] 30)); have hb := Lib.hid ((HS.out.2.2.trans (hd.mono HS.out.2.2.size)).alloc (Nat.le_trans HS.out.2.2.size hd.size) (.cells #[.int .i64 0, .slice none 0 0, .slice none 0 0] 30)); obtain ⟨a0, a1, a2, af⟩ := arr3 HA.out; obtain ⟨d0, d1, df⟩ := arr2 HD.out; clear hd)
  have n1 : w.heap.size ≠ w.heap.size + 1 := by omega
  have n2 : w.heap.size + 1 ≠ w.heap.size := by omega
  have fA := ((((HA.out.set (i := 0) (by simp) (.int .i64 0)).set (i := 1) (by simp) (.slice none 0 0)).set (i := 2) (by simp) (.slice none 0 0)).far n2 0 (.slice none 0 0)).far n2 1 (.slice none 0 0)
  have fD := ((((HD.out.far n1 0 (.int .i64 0)).far n1 1 (.slice none 0 0)).far n1 2 (.slice none 0 0)).set (i := 0) (by simp) (.slice none 0 0)).set (i := 1) (by simp) (.slice none 0 0)
  have fB := bset (Nat.le_succ _) 1 (.slice none 0 0) (bset (Nat.le_succ _) 0 (.slice none 0 0) (bset (Nat.le_refl _) 2 (.slice none 0 0) (bset (Nat.le_refl _) 1 (.slice none 0 0) (bset (Nat.le_refl _) 0 (.int .i64 0) hb.out))))
  exact bodyPost_ret (fin_made rfl rfl rfl rfl rfl rfl rfl fA fD) rfl ⟨rfl, fB⟩
set_option maxHeartbeats 4000000 in
set_option maxRecDepth 100000 in
theorem notFormed_calls (w : World) : Calls Tryz.prog 8 #[] w fun e w' => e = .returned (.bool true) ∧ Below w.heap.size w w' := by
  go_enter Tryz.func8, Tryz.ntmps8
  go_wp2_with (first
    | (go_at_call 14; refine (made_none _).mono ?_; rintro e w2 ⟨rfl, hd⟩; have hb := Lib.hid ((hd.alloc hd.size (.cells #[.int .i64 0, .slice none 0 0, .slice none 0 0] 30)).alloc (Nat.le_trans hd.size (Gy.alloc_below _ _).size) (.cells #[.slice none 0 0, .slice none 0 0] 49)); clear hd)
    | (go_at_call 15; refine (of_none _ _ rfl rfl _).mono ?_; rintro e w3 ⟨rfl, hd⟩; have hb := Lib.hid (hb.out.trans (hd.mono hb.out.size)); clear hd))
  go_ret
  exact ⟨rfl, hb.out⟩
end Go.Proofs.YtoakjdgknbhgiaaGreatDoor.Path
/- Blocks with roles: what stays where others turn. -/
namespace Gy
open Go Go.RowKit Go.Proofs.YtoakjdgknbhgiaaGreatDoorW.PrintWords Go.Proofs.YtoakjdgknbhgiaaGreatDoorW.PrintMore

/-- what a new block is for -/
def asRole (ρ : Nat → Nat) (b r : Nat) : Nat → Nat := fun k => if k = b then r else ρ k
theorem asRole_at (ρ : Nat → Nat) (b r : Nat) : asRole ρ b r b = r := if_pos rfl
theorem asRole_ne {ρ : Nat → Nat} {b k : Nat} (r : Nat) (h : k ≠ b) : asRole ρ b r k = ρ k := if_neg h
/-- only blocks of one role have turned, and new ones -/
structure Turn (w w' : World) (ρ ρ' : Nat → Nat) (R : Nat) : Prop where
  size : w.heap.size ≤ w'.heap.size
  same : ∀ k, k < w.heap.size → ρ k ≠ R → w'.heap[k]? = w.heap[k]?
  role : ∀ k, k < w.heap.size → ρ' k = ρ k
theorem Turn.below {w w' : World} {ρ : Nat → Nat} (R : Nat) (h : Below w.heap.size w w') : Turn w w' ρ ρ R := ⟨h.size, fun k hk _ => h.block k hk, fun _ _ => rfl⟩
theorem Turn.trans {w w1 w2 : World} {ρ ρ1 ρ2 : Nat → Nat} {R : Nat} (h : Turn w w1 ρ ρ1 R) (g : Turn w1 w2 ρ1 ρ2 R) : Turn w w2 ρ ρ2 R :=
  ⟨Nat.le_trans h.size g.size, fun k hk hr => (g.same k (Nat.lt_of_lt_of_le hk h.size) (by rw [h.role k hk]; exact hr)).trans (h.same k hk hr), fun k hk => (g.role k (Nat.lt_of_lt_of_le hk h.size)).trans (h.role k hk)⟩
theorem Turn.alloc (w : World) (o : Obj) (ρ : Nat → Nat) (r R : Nat) : Turn w (w.alloc o) ρ (asRole ρ w.heap.size r) R :=
  ⟨(Gy.alloc_below w o).size, fun k hk _ => (Gy.alloc_below w o).block k hk, fun _ hk => asRole_ne r (Nat.ne_of_lt hk)⟩
theorem Turn.grown {w w' : World} {v : Value} {ρ : Nat → Nat} {R : Nat} (h : w.grownBy w' v.ownBlock) (hr : ∀ k, v.ownBlock = some k → ρ k = R) : Turn w w' ρ (asRole ρ w.heap.size R) R :=
  ⟨h.size, fun k hk hn => h.block k hk (fun e => hn (hr k e.symm)), fun _ hk => asRole_ne R (Nat.ne_of_lt hk)⟩
theorem Turn.set {w : World} {b : Nat} {ρ : Nat → Nat} {R : Nat} (o : Nat) (x : Value) (hb : ρ b = R) : Turn w (w.setCell ⟨b, o, none⟩ x) ρ ρ R :=
  ⟨by rw [Gy.set_size]; exact Nat.le_refl _, fun k _ hn => Below.heap_setCell w ⟨b, o, none⟩ x k (fun e => hn (by rw [e]; exact hb)), fun _ _ => rfl⟩
theorem Turn.cells {w : World} {b : Nat} {ρ : Nat → Nat} {R : Nat} (o : Nat) (us : List Value) (hb : ρ b = R) : Turn w (w.setCells b o us) ρ ρ R :=
  ⟨by rw [Gy.setCells_size]; exact Nat.le_refl _, fun k _ hn => Gy.setCells_block (fun e => hn (by rw [← e]; exact hb)) us o w, fun _ _ => rfl⟩
/-- a row of its own, in blocks of a role -/
structure Rows (w : World) (ρ : Nat → Nat) (base r : Nat) (e : TypeId) (size : Nat) (v : Value) (n : Nat) (xs : List Value) : Prop where
  own : w.ownsRow base e size v n xs
  role : ∀ k, v.ownBlock = some k → ρ k = r
theorem Rows.nil (w : World) (ρ : Nat → Nat) (base r : Nat) (e : TypeId) (size : Nat) : Rows w ρ base r e size (.slice none 0 0) 0 [] := ⟨World.ownsRow_nil w base e size, fun k h => by cases h⟩
theorem Rows.turn {w w' : World} {ρ ρ' : Nat → Nat} {base r R : Nat} {e : TypeId} {size : Nat} {v : Value} {n : Nat} {xs : List Value} (h : Rows w ρ base r e size v n xs) (t : Turn w w' ρ ρ' R) (hr : r ≠ R) : Rows w' ρ' base r e size v n xs := by
  refine ⟨⟨h.own.1, ?_⟩, fun k hk => (t.role k (h.own.lt k hk).2).trans (h.role k hk)⟩
  rcases h.own.2 with hn | ⟨g, cap, cur, rfl, hb, hg, rest⟩
  · exact .inl hn
  · refine .inr ⟨g, cap, cur, rfl, hb, ?_, rest⟩
    rw [t.same g (Array.getElem?_eq_some_iff.1 hg).1 (by rw [h.role g rfl]; exact hr)]
    exact hg
theorem Rows.below {w w' : World} {ρ : Nat → Nat} {base r : Nat} {e : TypeId} {size : Nat} {v : Value} {n : Nat} {xs : List Value} (h : Rows w ρ base r e size v n xs) (hb : Below w.heap.size w w') : Rows w' ρ base r e size v n xs := h.turn (R := r + 1) (.below _ hb) (by omega)
/-- behind an append -/
theorem Rows.appended {w w' : World} {ρ : Nat → Nat} {base r : Nat} {e : TypeId} {size : Nat} {v v' : Value} {n n' : Nat} {xs ys : List Value} (h : Rows w ρ base r e size v n xs) (ho : w'.ownsRow base e size v' n' ys) (hl : v'.ownBlock = v.ownBlock ∨ v'.ownBlock = some w.heap.size) : Rows w' (asRole ρ w.heap.size r) base r e size v' n' ys := by
  refine ⟨ho, fun k hk => ?_⟩
  rcases hl with e | e
  · rw [e] at hk
    rw [asRole_ne r (Nat.ne_of_lt (h.own.lt k hk).2)]
    exact h.role k hk
  · rw [e] at hk
    injection hk with hk
    rw [← hk]
    exact asRole_at _ _ _
/-- cells, in a block of a role -/
structure RArr (w : World) (ρ : Nat → Nat) (r b : Nat) (vs : List Value) : Prop where
  arr : Gy.Arr w b vs
  role : ρ b = r
theorem RArr.turn {w w' : World} {ρ ρ' : Nat → Nat} {r R b : Nat} {vs : List Value} (h : RArr w ρ r b vs) (t : Turn w w' ρ ρ' R) (hr : r ≠ R) : RArr w' ρ' r b vs :=
  ⟨h.arr.of_block (t.same b h.arr.lt (by rw [h.role]; exact hr)) (Nat.lt_of_lt_of_le h.arr.lt t.size), (t.role b h.arr.lt).trans h.role⟩
theorem RArr.below {w w' : World} {ρ : Nat → Nat} {r b : Nat} {vs : List Value} (h : RArr w ρ r b vs) (hb : Below w.heap.size w w') : RArr w' ρ r b vs := h.turn (R := r + 1) (.below _ hb) (by omega)
theorem RArr.set {w : World} {ρ : Nat → Nat} {r b : Nat} {vs : List Value} (h : RArr w ρ r b vs) {i : Nat} (hi : i < vs.length) (v : Value) : RArr (w.setCell ⟨b, i, none⟩ v) ρ r b (vs.set i v) := ⟨h.arr.set hi v, h.role⟩
/-- values, each with what it is -/
def Each {α : Type} (C : Value → α → Prop) : List Value → List α → Prop
  | [], [] => True
  | v :: vs, x :: xs => C v x ∧ Each C vs xs
  | _, _ => False
theorem Each.mono {α : Type} {C D : Value → α → Prop} (h : ∀ v x, C v x → D v x) : ∀ {vs : List Value} {xs : List α}, Each C vs xs → Each D vs xs
  | [], [], _ => trivial
  | _ :: _, _ :: _, g => ⟨h _ _ g.1, g.2.mono h⟩
  | [], _ :: _, g => g.elim
  | _ :: _, [], g => g.elim
theorem Each.length {α : Type} {C : Value → α → Prop} : ∀ {vs : List Value} {xs : List α}, Each C vs xs → vs.length = xs.length
  | [], [], _ => rfl
  | _ :: _, _ :: _, g => by rw [List.length_cons, List.length_cons, g.2.length]
  | [], _ :: _, g => g.elim
  | _ :: _, [], g => g.elim
theorem Each.snoc {α : Type} {C : Value → α → Prop} : ∀ {vs : List Value} {xs : List α} {v : Value} {x : α}, Each C vs xs → C v x → Each C (vs ++ [v]) (xs ++ [x])
  | [], [], _, _, _, h => ⟨h, trivial⟩
  | _ :: _, _ :: _, _, _, g, h => ⟨g.1, g.2.snoc h⟩
  | [], _ :: _, _, _, g, _ => g.elim
  | _ :: _, [], _, _, g, _ => g.elim
theorem Each.at {α : Type} {C : Value → α → Prop} : ∀ {vs : List Value} {xs : List α}, Each C vs xs → ∀ (i : Nat) (x : α), xs[i]? = some x → ∃ v, vs[i]? = some v ∧ C v x
  | [], [], _, i, x, h => by simp at h
  | v :: _, _ :: _, g, 0, x, h => by simp only [List.getElem?_cons_zero, Option.some.injEq] at h; subst h; exact ⟨v, rfl, g.1⟩
  | _ :: _, _ :: _, g, i + 1, x, h => g.2.at i x (by simpa using h)
  | [], _ :: _, g, _, _, _ => g.elim
  | _ :: _, [], g, _, _, _ => g.elim
/-- an append in a region that draws, by Gy.FlowV or by hand: what it gives -/
theorem Rows.append {P : Program} {w : World} {ρ : Nat → Nat} {base r : Nat} {e : TypeId} {size : Nat} {v : Value} {n : Nat} {xs : List Value} (h : Rows w ρ base r e size v n xs) (t ty : TypeId) (i : TypeInfo) (z : Value) (bytes : Nat) (ht : P.underlying t = some (.slice e)) (hi : P.info? e = some i) (hz : i.zero = some z)
    (hsize : i.size = size) (hby : i.bytes = bytes) (hzs : z.cells.size = size) (hsz : 0 < size) {g m c : Nat} {o : Nat} (news : List Value) (hl : news.length = m * size) (hnews : ∀ j u, news[j]? = some u → w.cell? ((⟨g, o, none⟩ : Addr).add j) = some u) (h1 : ∀ u ∈ news, u.oneCell' = true)
    (hb : (n + m) * bytes ≤ 140737488355328) (h63 : n + m ≤ 1000000000) (hbase : base ≤ w.heap.size) :
    ∃ v' w', (Builtin.append_ #[t, t] ty #[v, .slice (some ⟨g, o, none⟩) m c]).run P w = .ok v' w' ∧ Rows w' (asRole ρ w.heap.size r) base r e size v' (n + m) (xs ++ news) ∧ Turn w w' ρ (asRole ρ w.heap.size r) r ∧ w.grownBy w' v.ownBlock := by
  obtain ⟨v', w', hr, h2, h3, _, h5⟩ := run_append_own_at (P := P) w base t ty e i z size bytes ht hi hz hsize hby hzs hsz v n xs h.own ⟨g, o, none⟩ m c news hl hnews h1 (by simp only [maxLen]; omega) hb hbase
  exact ⟨v', w', hr, h.appended h2 h5, .grown h3 h.role, h3⟩
end Gy
/- What package cut has made so far, in memory. -/
namespace Gy
open Go Go.Proofs Go.RowKit Go.Proofs.YtoakjdgknbhgiaaGreatDoorW.PrintWords Go.Proofs.YtoakjdgknbhgiaaGreatDoorW.PrintMore

structure Mk (w wr : World) (ρ : Nat → Nat) (SB : Nat) (cs : List Value) (fv lv rv : Value) (ks : List Value) (st : Cut) : Prop where
  bel : Below w.heap.size w wr
  res : RArr wr ρ 0 w.heap.size [.int .i64 0, .slice none 0 0, .slice none 0 0]
  base : w.heap.size ≤ SB
  s : RArr wr ρ 1 SB cs
  f : Rows wr ρ w.heap.size 2 25 35 fv st.files.length (st.files.flatMap FileR.cells)
  l : Rows wr ρ w.heap.size 3 46 34 lv st.slices.length (st.slices.flatMap SliceR.cells)
  r : Rows wr ρ w.heap.size 4 22 1 rv st.src.length ks
  c : Each (fun k row => Rows wr ρ w.heap.size 5 5 1 k row.length (nums .u8 row)) ks st.src
section
variable {w wr wr' : World} {ρ ρ' : Nat → Nat} {SB : Nat} {cs : List Value} {fv lv rv : Value} {ks : List Value} {st : Cut}
theorem Mk.turn (h : Mk w wr ρ SB cs fv lv rv ks st) {R : Nat} (t : Turn wr wr' ρ ρ' R) (hR : 6 ≤ R) (hb : Below w.heap.size w wr') : Mk w wr' ρ' SB cs fv lv rv ks st :=
  ⟨hb, h.res.turn t (by omega), h.base, h.s.turn t (by omega), h.f.turn t (by omega), h.l.turn t (by omega), h.r.turn t (by omega), h.c.mono fun _ _ g => g.turn t (by omega)⟩
theorem Mk.below (h : Mk w wr ρ SB cs fv lv rv ks st) (hb : Below wr.heap.size wr wr') : Mk w wr' ρ SB cs fv lv rv ks st := h.turn (.below 6 hb) (Nat.le_refl _) (h.bel.trans (hb.mono h.bel.size))
theorem Mk.size (h : Mk w wr ρ SB cs fv lv rv ks st) : w.heap.size ≤ wr.heap.size := h.bel.size
/-- a field of s is written -/
theorem Mk.put (h : Mk w wr ρ SB cs fv lv rv ks st) {i : Nat} (hi : i < cs.length) (v : Value) : Mk w (wr.setCell ⟨SB, i, none⟩ v) ρ SB (cs.set i v) fv lv rv ks st := by
  have t : Turn wr (wr.setCell ⟨SB, i, none⟩ v) ρ ρ 1 := .set i v h.s.role
  exact ⟨h.bel.setCell (show w.heap.size ≤ (⟨SB, i, none⟩ : Addr).block from h.base) v, h.res.turn t (by omega), h.base, h.s.set hi v, h.f.turn t (by omega), h.l.turn t (by omega), h.r.turn t (by omega), h.c.mono fun _ _ g => g.turn t (by omega)⟩
end
theorem info_file : (Tryz.prog.info? 25).map (fun i => (i.size, i.bytes, i.zero.map (·.cells.size))) = some (35, 64, some 35) := by kernel_rfl
theorem info_slice : (Tryz.prog.info? 46).map (fun i => (i.size, i.bytes, i.zero.map (·.cells.size))) = some (34, 48, some 34) := by kernel_rfl
theorem info_row8 : (Tryz.prog.info? 22).map (fun i => (i.size, i.bytes, i.zero.map (·.cells.size))) = some (1, 24, some 1) := by kernel_rfl
theorem info_parts {P : Program} {t : TypeId} {s b : Nat} (h : (P.info? t).map (fun i => (i.size, i.bytes, i.zero.map (·.cells.size))) = some (s, b, some s)) : ∃ i z, P.info? t = some i ∧ i.zero = some z ∧ i.size = s ∧ i.bytes = b ∧ z.cells.size = s := by
  obtain ⟨i, hi, hz⟩ := Option.map_eq_some_iff.1 h
  simp only [Prod.mk.injEq] at hz
  obtain ⟨h1, h2, h3⟩ := hz
  obtain ⟨z, hz, h4⟩ := Option.map_eq_some_iff.1 h3
  exact ⟨i, z, hi, hz, h1, h2, h4⟩
/-- an append onto a row with a role, at a program -/
theorem Rows.appendP {w : World} {ρ : Nat → Nat} {base r : Nat} {e : TypeId} {s b : Nat} {v : Value} {n : Nat} {xs : List Value} (h : Rows w ρ base r e s v n xs) (t ty : TypeId) (ht : Tryz.prog.underlying t = some (.slice e))
    (hi : (Tryz.prog.info? e).map (fun i => (i.size, i.bytes, i.zero.map (·.cells.size))) = some (s, b, some s)) (hs : 0 < s) (hb : b ≤ 1000) {g : Nat} {news : List Value} {T : TypeId} (hg : w.heap[g]? = some (.cells news.toArray T (0, 0))) (hl : news.length = s) (h1 : ∀ u ∈ news, u.oneCell' = true) (hn : n ≤ 100000) (hbase : base ≤ w.heap.size) :
    ∃ v' w', (Builtin.append_ #[t, t] ty #[v, .slice (some ⟨g, 0, none⟩) 1 1]).run Tryz.prog w = .ok v' w' ∧ Rows w' (asRole ρ w.heap.size r) base r e s v' (n + 1) (xs ++ news) ∧ Turn w w' ρ (asRole ρ w.heap.size r) r ∧ w.grownBy w' v.ownBlock := by
  obtain ⟨i, z, a1, a2, a3, a4, a5⟩ := info_parts hi
  refine h.append t ty i z b ht a1 a2 a3 a4 a5 hs news (by rw [hl, Nat.one_mul]) (fun j u hu => ?_) h1 ?_ (by omega) hbase
  · have := (Gy.Arr.of_cells (w := w) (b := g) (vs := news) (t := T) hg).cell hu
    rw [Addr.add_mid, Nat.zero_add]
    exact this
  · exact Nat.le_trans (Nat.mul_le_mul (show n + 1 ≤ 100001 by omega) hb) (by decide)
theorem one_file (nm : ByteArray) (sz first : Int) (D : List Int) : ∀ u ∈ fileL nm sz D first, u.oneCell' = true := by
  intro u hu
  unfold fileL at hu
  simp only [List.mem_cons, List.mem_append, List.not_mem_nil, or_false] at hu
  rcases hu with rfl | rfl | h | rfl
  · rfl
  · rfl
  · exact Gy.nums_one _ _ _ h
  · rfl
theorem one_slice (sz crc : Int) (D : List Int) : ∀ u ∈ sliceL sz crc D, u.oneCell' = true := by
  intro u hu
  unfold sliceL at hu
  simp only [List.mem_cons] at hu
  rcases hu with rfl | rfl | h
  · rfl
  · rfl
  · exact Gy.nums_one _ _ _ h
theorem len_file (nm : ByteArray) (sz first : Int) (D : List Int) (h : D.length = 32) : (fileL nm sz D first).length = 35 := by simp [fileL, Gy.nums_len, h]
theorem len_slice (sz crc : Int) (D : List Int) (h : D.length = 32) : (sliceL sz crc D).length = 34 := by simp [sliceL, Gy.nums_len, h]
section
variable {w wr wr' : World} {ρ ρ' : Nat → Nat} {SB : Nat} {cs : List Value} {fv lv rv : Value} {ks : List Value} {st : Cut}
theorem Mk.addFile (h : Mk w wr ρ SB cs fv lv rv ks st) {xb : Nat} {xs : List Value} (hx : RArr wr ρ 6 xb xs) (f : FileR) (hD : f.dig.length = 32) {g : Nat} {T : TypeId} (hg : wr.heap[g]? = some (.cells f.cells.toArray T (0, 0))) (hn : st.files.length ≤ 1000) (ty : TypeId) :
    ∃ v' w', (Builtin.append_ #[27, 27] ty #[fv, .slice (some ⟨g, 0, none⟩) 1 1]).run Tryz.prog wr = .ok v' w' ∧ (∃ ρ', Mk w w' ρ' SB cs v' lv rv ks ⟨st.files ++ [f], st.slices, st.src⟩ ∧ RArr w' ρ' 6 xb xs) ∧ wr.grownBy w' fv.ownBlock := by
  obtain ⟨v', w', hr, h2, t, h4⟩ := h.f.appendP 27 ty Tryz.underlying27 info_file (by decide) (by decide) hg (len_file _ _ _ _ hD) (one_file _ _ _ _) (by omega) h.size
  refine ⟨v', w', hr, ⟨_, ⟨h.bel.grown h4 h.size (fun k hk => (h.f.own.lt k hk).1), h.res.turn t (by omega), h.base, h.s.turn t (by omega), ?_, h.l.turn t (by omega), h.r.turn t (by omega), h.c.mono fun _ _ g => g.turn t (by omega)⟩, hx.turn t (by omega)⟩, h4⟩
  have e : (st.files ++ [f]).flatMap FileR.cells = st.files.flatMap FileR.cells ++ fileL f.name f.size f.dig f.first := by simp [List.flatMap_append, FileR.cells]
  show Rows w' _ w.heap.size 2 _ 35 v' (st.files ++ [f]).length ((st.files ++ [f]).flatMap FileR.cells)
  rw [e, List.length_append]
  exact h2
theorem Mk.addSlice (h : Mk w wr ρ SB cs fv lv rv ks st) {xb : Nat} {xs : List Value} (hx : RArr wr ρ 6 xb xs) (f : SliceR) (hD : f.dig.length = 32) {g : Nat} {T : TypeId} (hg : wr.heap[g]? = some (.cells f.cells.toArray T (0, 0))) (hn : st.slices.length ≤ 90000) (ty : TypeId) :
    ∃ v' w', (Builtin.append_ #[28, 28] ty #[lv, .slice (some ⟨g, 0, none⟩) 1 1]).run Tryz.prog wr = .ok v' w' ∧ (∃ ρ', Mk w w' ρ' SB cs fv v' rv ks ⟨st.files, st.slices ++ [f], st.src⟩ ∧ RArr w' ρ' 6 xb xs) ∧ wr.grownBy w' lv.ownBlock := by
  obtain ⟨v', w', hr, h2, t, h4⟩ := h.l.appendP 28 ty Tryz.underlying28 info_slice (by decide) (by decide) hg (len_slice _ _ _ hD) (one_slice _ _ _) (by omega) h.size
  refine ⟨v', w', hr, ⟨_, ⟨h.bel.grown h4 h.size (fun k hk => (h.l.own.lt k hk).1), h.res.turn t (by omega), h.base, h.s.turn t (by omega), h.f.turn t (by omega), ?_, h.r.turn t (by omega), h.c.mono fun _ _ g => g.turn t (by omega)⟩, hx.turn t (by omega)⟩, h4⟩
  have e : (st.slices ++ [f]).flatMap SliceR.cells = st.slices.flatMap SliceR.cells ++ sliceL f.size f.crc f.dig := by simp [List.flatMap_append, SliceR.cells]
  show Rows w' _ w.heap.size 3 _ 34 v' (st.slices ++ [f]).length ((st.slices ++ [f]).flatMap SliceR.cells)
  rw [e, List.length_append]
  exact h2
theorem Mk.addSrc (h : Mk w wr ρ SB cs fv lv rv ks st) {xb : Nat} {xs : List Value} (hx : RArr wr ρ 6 xb xs) {k : Value} {row : List Int} (hk : Rows wr ρ w.heap.size 5 5 1 k row.length (nums .u8 row)) (h1 : k.oneCell' = true) {g : Nat} {T : TypeId} (hg : wr.heap[g]? = some (.cells #[k] T (0, 0))) (hn : st.src.length ≤ 90000) (ty : TypeId) :
    ∃ v' w', (Builtin.append_ #[31, 31] ty #[rv, .slice (some ⟨g, 0, none⟩) 1 1]).run Tryz.prog wr = .ok v' w' ∧ (∃ ρ', Mk w w' ρ' SB cs fv lv v' (ks ++ [k]) ⟨st.files, st.slices, st.src ++ [row]⟩ ∧ RArr w' ρ' 6 xb xs ∧ Rows w' ρ' w.heap.size 5 5 1 k row.length (nums .u8 row)) ∧ wr.grownBy w' rv.ownBlock := by
  obtain ⟨v', w', hr, h2, t, h4⟩ := h.r.appendP 31 ty Tryz.underlying31 info_row8 (by decide) (by decide) (news := [k]) hg rfl (by intro u hu; rw [List.mem_singleton.1 hu]; exact h1) (by omega) h.size
  refine ⟨v', w', hr, ⟨_, ⟨h.bel.grown h4 h.size (fun k hk => (h.r.own.lt k hk).1), h.res.turn t (by omega), h.base, h.s.turn t (by omega), h.f.turn t (by omega), h.l.turn t (by omega), ?_, (h.c.mono fun _ _ g => g.turn t (by omega)).snoc (hk.turn t (by omega))⟩, hx.turn t (by omega), hk.turn t (by omega)⟩, h4⟩
  show Rows w' _ w.heap.size 4 _ 1 v' (st.src ++ [row]).length (ks ++ [k])
  rw [List.length_append]
  exact h2
end
/-- an append, as the walk carries it out -/
theorem exec_append {P : Program} {o : Oper} {a : Act} {w w' : World} {s x : Operand} {t : TypeId} {v u v' : Value} (ho : o.op = .call { callee := .builtin .append, args := #[s, x], argTypes := #[t, t] }) (hs : a.eval s = v) (hx : a.eval x = u) (hr : (Builtin.append_ #[t, t] o.type #[v, u]).run P w = .ok v' w') : (execOp a.eval o).run P w = .ok (.value v') w' := by
  unfold execOp
  simp only [ho, resolve, invoke, builtin, Sem.run_bind, Sem.run_pure, Result.andThen_ok, List.map_toArray, List.map_cons, List.map_nil, hs, hx, hr]
theorem wpList_value {P : Program} {ops : Array Oper} {rest : List Oper} {o : Oper} {a : Act} {w w' : World} {Q : Exit → Act → World → Prop} {v : Value} (hg : o.guard = none) (hr : (execOp a.eval o).run P w = .ok (.value v) w') (h : wpList P ops Q rest (a.put o.dst v) w') : wpList P ops Q (o :: rest) a w :=
  wpList_plain hg fun K hK => by
    unfold Oper.wp
    rw [hr]
    exact hK _ _ h
end Gy

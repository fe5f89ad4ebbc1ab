/- The walk over the reference's digest in pieces: one round of sixty-four. -/
import Derived.Test.YtnoebhnkkigkjaaShaRef4
namespace Go.Proofs.Ytnoebhnkkigkjaa.Dig
open Go Go.RowKit Go.Proofs.Ytnoebhnkkigkjaa.QDig Go.Proofs.YtnoebhnkkigkjaaW.PrintWords Go.Proofs.YtnoebhnkkigkjaaW.PrintLast Go.Proofs.YtnoebhnkkigkjaaW.PrintMore Gy

theorem and64 {a b : Nat} (ha : a < 4294967296) (hb : b < 4294967296) : Go.bits .and .u64 (a : Int) (b : Int) = ((a &&& b : Nat) : Int) := Go.bits_and_u64_nat a b (by omega) (by omega)
theorem or64 {a b : Nat} (ha : a < 4294967296) (hb : b < 4294967296) : Go.bits .or .u64 (a : Int) (b : Int) = ((a ||| b : Nat) : Int) := Go.bits_or_u64_nat a b (by omega) (by omega)
theorem bs1_form {e : Nat} (h : e < 4294967296) : Go.bits .xor .u64 (Go.bits .xor .u64 ((rorI 6 e : Nat) : Int) ((rorI 11 e : Nat) : Int)) ((rorI 25 e : Nat) : Int) = ((bs1 e : Nat) : Int) := by
  show Go.bits .xor .u64 (Go.bits .xor .u64 ((ror 6 e : Nat) : Int) ((ror 11 e : Nat) : Int)) ((ror 25 e : Nat) : Int) = _
  rw [xor64 (ror_lt h) (ror_lt h), xor64 (xor32 (ror_lt h) (ror_lt h)) (ror_lt h)]
  rfl
theorem bs0_form {e : Nat} (h : e < 4294967296) : Go.bits .xor .u64 (Go.bits .xor .u64 ((rorI 2 e : Nat) : Int) ((rorI 13 e : Nat) : Int)) ((rorI 22 e : Nat) : Int) = ((bs0 e : Nat) : Int) := by
  show Go.bits .xor .u64 (Go.bits .xor .u64 ((ror 2 e : Nat) : Int) ((ror 13 e : Nat) : Int)) ((ror 22 e : Nat) : Int) = _
  rw [xor64 (ror_lt h) (ror_lt h), xor64 (xor32 (ror_lt h) (ror_lt h)) (ror_lt h)]
  rfl
theorem chs_form {e f g : Nat} (he : e < 4294967296) (hf : f < 4294967296) (hg : g < 4294967296) :
    Go.bits .or .u64 (Go.bits .and .u64 (e : Int) (f : Int)) (Go.bits .and .u64 (Go.bits .xor .u64 4294967295 (e : Int)) (g : Int)) = ((chs e f g : Nat) : Int) := by
  have h1 : Go.bits .xor .u64 4294967295 (e : Int) = ((4294967295 ^^^ e : Nat) : Int) := xor64 (a := 4294967295) (by omega) he
  have hx : 4294967295 ^^^ e < 4294967296 := xor32 (by omega) he
  rw [h1, and64 he hf, and64 hx hg, or64 (and32 he) (and32 hx), chs_ref he hg]
theorem mjs_form {a b c : Nat} (ha : a < 4294967296) (hb : b < 4294967296) (hc : c < 4294967296) :
    Go.bits .or .u64 (Go.bits .or .u64 (Go.bits .and .u64 (a : Int) (b : Int)) (Go.bits .and .u64 (a : Int) (c : Int))) (Go.bits .and .u64 (b : Int) (c : Int)) = ((mjs a b c : Nat) : Int) := by
  rw [and64 ha hb, and64 ha hc, and64 hb hc, or64 (and32 ha) (and32 ha), or64 (or32 (and32 ha) (and32 ha)) (and32 hb), mjs_ref]
theorem add_form {d O : Nat} (hd : d < 68719476736) (hO : O < 68719476736) : IntKind.u64.wrap ((d : Int) + (O : Int)) = (d : Int) + (O : Int) ∧ Go.bits .and .u64 ((d : Int) + (O : Int)) 4294967295 = (((d + O) % 4294967296 : Nat) : Int) := by
  refine ⟨u64id (by omega) (by omega), ?_⟩
  have h := Go.bits_and_u64_nat (d + O) 4294967295 (by omega) (by omega)
  rw [mask32] at h
  exact h
theorem one0_cast (t : St) (k x : Nat) : (t.h : Int) + ((bs1 t.e : Nat) : Int) + ((chs t.e t.f t.g : Nat) : Int) + (k : Int) + (x : Int) = ((one0 t k x : Nat) : Int) := by unfold one0; omega
theorem two0_cast (t : St) : ((bs0 t.a : Nat) : Int) + ((mjs t.a t.b t.c : Nat) : Int) = ((two0 t : Nat) : Int) := by unfold two0; omega
/-- what a round reads -/
structure RoundAt (w wr : World) (gw gx : Nat) (t : St) (k x i : Nat) : Prop where
  c0 : wr.cell? ⟨gx, 0, none⟩ = some (.int .u64 (t.a : Int))
  c1 : wr.cell? ⟨gx, 1, none⟩ = some (.int .u64 (t.b : Int))
  c2 : wr.cell? ⟨gx, 2, none⟩ = some (.int .u64 (t.c : Int))
  c4 : wr.cell? ⟨gx, 4, none⟩ = some (.int .u64 (t.e : Int))
  c5 : wr.cell? ⟨gx, 5, none⟩ = some (.int .u64 (t.f : Int))
  c6 : wr.cell? ⟨gx, 6, none⟩ = some (.int .u64 (t.g : Int))
  c7 : wr.cell? ⟨gx, 7, none⟩ = some (.int .u64 (t.h : Int))
  ck : wr.cell? ⟨w.heap.size + 1, i, none⟩ = some (.int .u64 (k : Int))
  cx : wr.cell? ⟨gw, i, none⟩ = some (.int .u64 (x : Int))
theorem RefX.round {w wr : World} {g gw gx : Nat} {al : List Int} {hs : List Nat} {b : List Int} {t : St} {i : Nat} (h : RefX w wr g gw gx al hs (wL b 64) t.nats) (hi : i < 64) : RoundAt w wr gw gx t (kTab.getD i 0) (wAt b i) i :=
  ⟨h.cell rfl, h.cell rfl, h.cell rfl, h.cell rfl, h.cell rfl, h.cell rfl, h.cell rfl, h.W.C.K.cell (n64_at (by rw [kTab_length]; exact hi)), h.W.cell (Nat.le_refl _) i hi⟩
set_option maxHeartbeats 4000000 in
set_option maxRecDepth 100000 in
theorem l5_step {u0 u1 u8 u9 u10 u11 u13 u14 u15 u16 u17 u18 u19 u20 u21 u22 u23 u24 u25 u26 u27 u28 u29 u30 u31 u32 u33 u34 u35 u36 u37 u38 u39 u40 u41 u42 u43 u44 u45 u46 u47 u48 u49 u50 u51 u52 u53 u54 u55 u56 u57 u58 u59 u60 u61 u62 u63 u64 u65 u66 u67 u68 u69 u70 u71 u72 u73 u74 u75 u76 u77 u78 u79 u80 u81 u82 u83 u84 u85 u86 u87 u88 u89 u90 u91 u92 u93 u94 u95 u96 u97 u98 u99 u100 u101 u102 u103 u104 u105 u106 u107 u108 u109 u110 u111 u112 u113 u114 u115 u116 u117 u118 u119 u121 u122 u123 u124 u125 u126 u127 u128 u129 u130 u131 u132 u133 u134 u135 u136 u137 u138 u139 u140 u141 u142 u143 u144 u145 u146 u147 u148 u149 u150 u151 u152 u153 u154 u155 u156 u157 u158 u159 u160 u161 u162 u163 u164 u165 u166 u167 u168 u169 u170 u171 u172 u173 u174 u175 u176 u177 u178 u179 u180 u181 u182 u183 u184 u185 u186 u187 u188 u189 u190 u191 u192 u193 u194 u195 u196 u197 u198 u199 u200 u201 u202 u203 u204 u205 u206 u207 u208 u209 u210 u211 u212 u213 u214 u215 u216 u217 u218 u219 u220 u221 u222 u223 u224 u225 u226 u227 u228 u229 u230 u231 u232 u233 u234 u235 u236 u237 u238 u239 u240 u241 : Value} {w wr : World} {g gw gx c5 j i : Nat} {al b : List Int} {s t : St} (Q : Exit → Act → World → Prop) (hok : t.ok) (hb : Bytes b) (hi : i < 64) (hM : RefX w wr g gw gx al s.nats (wL b 64) t.nats)
    (hQ : ∀ a' w', FrX w g gw gx c5 al j a' → a'.tmps.getD 120 undef = .int .i64 ((i : Int) + 1) → RefX w w' g gw gx al s.nats (wL b 64) (rnd t ((kTab.getD i 0 + wAt b i) % 4294967296)).nats → Q .normal a' w') :
    Code.wp Try.prog (bodyOf 4) Q ⟨#[u0, u1, .pointer (some ⟨w.heap.size, 0, none⟩), .pointer (some ⟨w.heap.size + 1, 0, none⟩), .pointer (some ⟨w.heap.size + 1 + 1, 0, none⟩), .slice (some ⟨g, 0, none⟩) al.length c5, .int .i64 (64 * (j : Int)), .pointer (some ⟨gw, 0, none⟩), u8, u9, u10, u11, .pointer (some ⟨gx, 0, none⟩), u13, u14, u15, u16, u17, u18, u19, u20, u21, u22, u23, u24, u25, u26, u27, u28, u29, u30, u31, u32, u33, u34, u35, u36, u37, u38, u39, u40, u41, u42, u43, u44, u45, u46, u47, u48, u49, u50, u51, u52, u53, u54, u55, u56, u57, u58, u59, u60, u61, u62, u63, u64, u65, u66, u67, u68, u69, u70, u71, u72, u73, u74, u75, u76, u77, u78, u79, u80, u81, u82, u83, u84, u85, u86, u87, u88, u89, u90, u91, u92, u93, u94, u95, u96, u97, u98, u99, u100, u101, u102, u103, u104, u105, u106, u107, u108, u109, u110, u111, u112, u113, u114, u115, u116, u117, u118, u119, .int .i64 (i : Int), u121, u122, u123, u124, u125, u126, u127, u128, u129, u130, u131, u132, u133, u134, u135, u136, u137, u138, u139, u140, u141, u142, u143, u144, u145, u146, u147, u148, u149, u150, u151, u152, u153, u154, u155, u156, u157, u158, u159, u160, u161, u162, u163, u164, u165, u166, u167, u168, u169, u170, u171, u172, u173, u174, u175, u176, u177, u178, u179, u180, u181, u182, u183, u184, u185, u186, u187, u188, u189, u190, u191, u192, u193, u194, u195, u196, u197, u198, u199, u200, u201, u202, u203, u204, u205, u206, u207, u208, u209, u210, u211, u212, u213, u214, u215, u216, u217, u218, u219, u220, u221, u222, u223, u224, u225, u226, u227, u228, u229, u230, u231, u232, u233, u234, u235, u236, u237, u238, u239, u240, u241], []⟩ wr := by
  conv => arg 2; whnf
  have HQ := Lib.hid hQ
  have t5 : decide ((i : Int) < 64) = true := decide_eq_true (by omega)
  have bi : (i : Int) < 64 := by omega
  obtain ⟨c0, c1, c2, c4, c5', c6, c7, ck, cx⟩ := hM.round hi
  have lk := kTab_lt i
  have lx := wAt_lt hb i
  have HM := Lib.hid hM
  clear hQ hM hb
  generalize kTab.getD i 0 = k at ck lk HQ
  generalize wAt b i = x at cx lx HQ
  have la := hok.a
  have lb := hok.b
  have lc := hok.c
  have ld := hok.d
  have le := hok.e
  have lf := hok.f
  have lg := hok.g
  have lh := hok.h
  have l1 := bs1_lt le
  have l2 := chs_lt (f := t.f) le lg
  have l3 := bs0_lt la
  have l4 := mjs_lt (b := t.b) la lc
  have f1 := bs1_form le
  have f2 := chs_form le lf lg
  have f3 := bs0_form la
  have f4 := mjs_form la lb lc
  have HC1 := Lib.hid (one0_cast t k x)
  have HC2 := Lib.hid (two0_cast t)
  have LO := Lib.hid (show one0 t k x < 68719476736 by unfold one0; omega)
  have LT := Lib.hid (show two0 t < 68719476736 by unfold two0; omega)
  have LD := Lib.hid ld
  have HI := Lib.hid hi
  clear hok ld
  go_wp2
  go_quiet ((go_at_call 42; exact Calls.quiet_of_same (turned_lit _ _ _ (by assumption) (by decide))))
  have M1 := Lib.hid (HM.out.below (pw_below_drewN (Below.refl _ _) nq))
  obtain ⟨wq, hwq⟩ : ∃ wq, wq = wr.drewN nq := ⟨_, rfl⟩
  rw [← hwq] at M1 ⊢
  clear hwq c0 c1 c2 c4 c5' c6 c7 ck cx f1 f2 l1 l2 HM
  obtain ⟨c0, c1, c2, c4, c5', c6, c7, ck, cx⟩ := M1.out.round HI.out
  clear c4 c5' c6 c7 ck cx
  go_wp2
  go_quiet ((go_at_call 42; exact Calls.quiet_of_same (turned_lit _ _ _ (by assumption) (by decide))))
  have M2 := Lib.hid (M1.out.below (pw_below_drewN (Below.refl _ _) nq))
  obtain ⟨wv, hwv⟩ : ∃ wv, wv = wq.drewN nq := ⟨_, rfl⟩
  rw [← hwv] at M2 ⊢
  clear hwv c0 c1 c2 f3 f4 l3 l4 M1
  rw [HC1.out, HC2.out]
  clear HC1 HC2
  have HR := Lib.hid (round_ref t k x)
  generalize one0 t k x = O at LO HR ⊢
  generalize two0 t = T at LT HR ⊢
  go_wp2
  refine l6_loop (i := i) (O := O) (T := T) (t := t) (s := s) _ ⟨⟨⟨⟨rfl, rfl, rfl, rfl, rfl, rfl, rfl⟩, rfl⟩, rfl⟩, rfl, rfl, rfl⟩ rfl M2.out ?_
  intro a w' hF hM
  obtain ⟨v, hv, e⟩ := frame_fn a hF.X.W.A.size hF.X.W.A.defers
  rw [(hv 2).trans hF.X.W.A.t2, (hv 3).trans hF.X.W.A.t3, (hv 4).trans hF.X.W.A.t4, (hv 5).trans hF.X.W.A.t5, (hv 6).trans hF.X.W.A.t6, (hv 7).trans hF.X.W.t7, (hv 12).trans hF.X.t12, (hv 14).trans hF.t14, (hv 15).trans hF.t15, (hv 120).trans hF.t120] at e
  rw [e]
  clear e hF M2 hv
  have c4 := hM.cell (i := 4) rfl
  have c0 := hM.cell (i := 0) rfl
  have g4 := hM.X.fr 4
  have g0 := hM.X.fr 0
  have lO := LO.out
  have lT := LT.out
  have lD := LD.out
  have h2 := (hM.set (i := 4) (x := (t.d + O) % 4294967296) (show (4 : Nat) < 8 by omega)).set (i := 0) (x := (O + T) % 4294967296) (by rw [List.length_set]; show (0 : Nat) < 8; omega)
  rw [HR.out] at h2
  have H2 := Lib.hid h2
  clear h2 hM HR
  clear la lb lc le lf lg lh lk lx
  go_wp2
  rw [(add_form (d := t.d) (O := O) (by omega) lO).2, (add_form (d := O) (O := T) lO lT).2]
  exact HQ.out _ _ ⟨⟨⟨rfl, rfl, rfl, rfl, rfl, rfl, rfl⟩, rfl⟩, rfl⟩ rfl H2.out
set_option maxHeartbeats 2000000 in
set_option maxRecDepth 100000 in
theorem l5_last {u0 u1 u8 u9 u10 u11 u13 u14 u15 u16 u17 u18 u19 u20 u21 u22 u23 u24 u25 u26 u27 u28 u29 u30 u31 u32 u33 u34 u35 u36 u37 u38 u39 u40 u41 u42 u43 u44 u45 u46 u47 u48 u49 u50 u51 u52 u53 u54 u55 u56 u57 u58 u59 u60 u61 u62 u63 u64 u65 u66 u67 u68 u69 u70 u71 u72 u73 u74 u75 u76 u77 u78 u79 u80 u81 u82 u83 u84 u85 u86 u87 u88 u89 u90 u91 u92 u93 u94 u95 u96 u97 u98 u99 u100 u101 u102 u103 u104 u105 u106 u107 u108 u109 u110 u111 u112 u113 u114 u115 u116 u117 u118 u119 u121 u122 u123 u124 u125 u126 u127 u128 u129 u130 u131 u132 u133 u134 u135 u136 u137 u138 u139 u140 u141 u142 u143 u144 u145 u146 u147 u148 u149 u150 u151 u152 u153 u154 u155 u156 u157 u158 u159 u160 u161 u162 u163 u164 u165 u166 u167 u168 u169 u170 u171 u172 u173 u174 u175 u176 u177 u178 u179 u180 u181 u182 u183 u184 u185 u186 u187 u188 u189 u190 u191 u192 u193 u194 u195 u196 u197 u198 u199 u200 u201 u202 u203 u204 u205 u206 u207 u208 u209 u210 u211 u212 u213 u214 u215 u216 u217 u218 u219 u220 u221 u222 u223 u224 u225 u226 u227 u228 u229 u230 u231 u232 u233 u234 u235 u236 u237 u238 u239 u240 u241 : Value} {w wr : World} {g gw gx c5 j i : Nat} {al : List Int} (Q : Exit → Act → World → Prop) (hi : ¬ i < 64)
    (hQ : ∀ a', FrX w g gw gx c5 al j a' → Q (.exit 8) a' wr) :
    Code.wp Try.prog (bodyOf 4) Q ⟨#[u0, u1, .pointer (some ⟨w.heap.size, 0, none⟩), .pointer (some ⟨w.heap.size + 1, 0, none⟩), .pointer (some ⟨w.heap.size + 1 + 1, 0, none⟩), .slice (some ⟨g, 0, none⟩) al.length c5, .int .i64 (64 * (j : Int)), .pointer (some ⟨gw, 0, none⟩), u8, u9, u10, u11, .pointer (some ⟨gx, 0, none⟩), u13, u14, u15, u16, u17, u18, u19, u20, u21, u22, u23, u24, u25, u26, u27, u28, u29, u30, u31, u32, u33, u34, u35, u36, u37, u38, u39, u40, u41, u42, u43, u44, u45, u46, u47, u48, u49, u50, u51, u52, u53, u54, u55, u56, u57, u58, u59, u60, u61, u62, u63, u64, u65, u66, u67, u68, u69, u70, u71, u72, u73, u74, u75, u76, u77, u78, u79, u80, u81, u82, u83, u84, u85, u86, u87, u88, u89, u90, u91, u92, u93, u94, u95, u96, u97, u98, u99, u100, u101, u102, u103, u104, u105, u106, u107, u108, u109, u110, u111, u112, u113, u114, u115, u116, u117, u118, u119, .int .i64 (i : Int), u121, u122, u123, u124, u125, u126, u127, u128, u129, u130, u131, u132, u133, u134, u135, u136, u137, u138, u139, u140, u141, u142, u143, u144, u145, u146, u147, u148, u149, u150, u151, u152, u153, u154, u155, u156, u157, u158, u159, u160, u161, u162, u163, u164, u165, u166, u167, u168, u169, u170, u171, u172, u173, u174, u175, u176, u177, u178, u179, u180, u181, u182, u183, u184, u185, u186, u187, u188, u189, u190, u191, u192, u193, u194, u195, u196, u197, u198, u199, u200, u201, u202, u203, u204, u205, u206, u207, u208, u209, u210, u211, u212, u213, u214, u215, u216, u217, u218, u219, u220, u221, u222, u223, u224, u225, u226, u227, u228, u229, u230, u231, u232, u233, u234, u235, u236, u237, u238, u239, u240, u241], []⟩ wr := by
  conv => arg 2; whnf
  have HQ := Lib.hid hQ
  have t5 : decide ((i : Int) < 64) = false := by simp; omega
  clear hQ
  go_wp2
  exact HQ.out _ ⟨⟨⟨rfl, rfl, rfl, rfl, rfl, rfl, rfl⟩, rfl⟩, rfl⟩
theorem mixed_succ (b : List Int) (s : St) (i : Nat) : rnd (mixed kTab b s i) ((kTab.getD i 0 + wAt b i) % 4294967296) = mixed kTab b s (i + 1) := rfl
set_option maxRecDepth 100000 in
theorem l5_loop {w wr : World} {g gw gx c5 j : Nat} {al b : List Int} {s : St} {a : Act} (Q : Exit → Act → World → Prop) (hok : s.ok) (hb : Bytes b) (hF : FrX w g gw gx c5 al j a) (h120 : a.tmps.getD 120 undef = .int .i64 0) (hM : RefX w wr g gw gx al s.nats (wL b 64) s.nats)
    (hX : ∀ a' w', FrX w g gw gx c5 al j a' → RefX w w' g gw gx al s.nats (wL b 64) (mixed kTab b s 64).nats → Q (.exit 8) a' w') : Code.wp Try.prog (Code.loop (bodyOf 4)) Q a wr := by
  refine wp_loop (fun a w' => ∃ i : Nat, i ≤ 64 ∧ FrX w g gw gx c5 al j a ∧ a.tmps.getD 120 undef = .int .i64 (i : Int) ∧ ∃ t : St, t = mixed kTab b s i ∧ RefX w w' g gw gx al s.nats (wL b 64) t.nats) (fun a _ => 64 - (intOf (a.tmps.getD 120 undef)).toNat) ⟨0, by omega, hF, h120, s, rfl, hM⟩ ?_
  rintro a w' ⟨i, h2, hF, h9, t, ht, hM⟩
  have e := frame_out a hF.W.A.size hF.W.A.defers
  rw [hF.W.A.t2, hF.W.A.t3, hF.W.A.t4, hF.W.A.t5, hF.W.A.t6, hF.W.t7, hF.t12, h9] at e
  by_cases hi : i < 64
  · have hto : t.ok := by rw [ht]; exact mixed_ok hok i
    have hQ : ∀ a' w'', FrX w g gw gx c5 al j a' → a'.tmps.getD 120 undef = .int .i64 ((i : Int) + 1) → RefX w w'' g gw gx al s.nats (wL b 64) (rnd t ((kTab.getD i 0 + wAt b i) % 4294967296)).nats → Exit.then (fun a' w' => (∃ i : Nat, i ≤ 64 ∧ FrX w g gw gx c5 al j a' ∧ a'.tmps.getD 120 undef = .int .i64 (i : Int) ∧ ∃ t : St, t = mixed kTab b s i ∧ RefX w w' g gw gx al s.nats (wL b 64) t.nats) ∧ 64 - (intOf (a'.tmps.getD 120 undef)).toNat < 64 - (intOf (a.tmps.getD 120 undef)).toNat) Q .normal a' w'' :=
      fun a' w'' f1 f2 f3 => ⟨⟨i + 1, hi, f1, f2, _, by rw [ht]; exact mixed_succ b s i, f3⟩, mu_at 120 64 h9 f2 hi⟩
    generalize Exit.then (fun a' w' => (∃ i : Nat, i ≤ 64 ∧ FrX w g gw gx c5 al j a' ∧ a'.tmps.getD 120 undef = .int .i64 (i : Int) ∧ ∃ t : St, t = mixed kTab b s i ∧ RefX w w' g gw gx al s.nats (wL b 64) t.nats) ∧ 64 - (intOf (a'.tmps.getD 120 undef)).toNat < 64 - (intOf (a.tmps.getD 120 undef)).toNat) Q = Q2 at hQ ⊢
    rw [e]
    exact l5_step Q2 hto hb hi hM hQ
  · obtain rfl : i = 64 := by omega
    rw [ht] at hM
    rw [e]
    exact l5_last _ hi (fun a' f => hX a' w' f hM)
end Go.Proofs.Ytnoebhnkkigkjaa.Dig

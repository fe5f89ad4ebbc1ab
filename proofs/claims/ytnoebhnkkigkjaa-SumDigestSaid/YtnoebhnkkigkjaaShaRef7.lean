/- The walk over the reference's digest in pieces: a chunk. -/
import Derived.Test.YtnoebhnkkigkjaaShaRef6
namespace Go.Proofs.Ytnoebhnkkigkjaa.Dig
open Go Go.RowKit Go.Proofs.Ytnoebhnkkigkjaa.QDig Go.Proofs.YtnoebhnkkigkjaaW.PrintWords Go.Proofs.YtnoebhnkkigkjaaW.PrintLast Go.Proofs.YtnoebhnkkigkjaaW.PrintMore Gy

theorem ref_x {w wr : World} {g gw : Nat} {al : List Int} {s : St} {ws : List Nat} (h : RefW w wr g gw al s.nats ws) (zs : Array Value) (hz : zs = (n64 (List.replicate 8 0)).toArray) :
    (wr.alloc (.cells zs 84)).there wr.heap.size 0 (n64 s.nats).toArray.size ∧ RefX w ((wr.alloc (.cells zs 84)).setCells wr.heap.size 0 (n64 s.nats)) g gw wr.heap.size al s.nats ws s.nats := by
  have h1 := Arr.fresh wr _ zs hz 84
  have hl : (n64 s.nats).length = (n64 (List.replicate 8 0)).length := by rw [n64_length, n64_length]; rfl
  have hlt := h.W.lt
  have ho := h.o
  have hb := h.below (Gy.alloc_below wr (.cells zs 84))
  exact ⟨h1.there2 _ hl, ⟨hb.C.far_cells (by omega) _ _, hb.W.far_cells (by omega) _ _, ho⟩, h1.put _ hl, hlt⟩
theorem mixSt_eq (b : List Int) (s t : St) (h : t = mixed kTab b s 64) : s.plus t = mixSt kTab b s := by subst h; rfl
set_option maxHeartbeats 4000000 in
set_option maxRecDepth 100000 in
theorem l2_step {u0 u1 u7 u8 u9 u10 u11 u12 u13 u14 u15 u16 u17 u18 u19 u20 u21 u22 u23 u24 u25 u26 u27 u28 u29 u30 u31 u32 u33 u34 u35 u36 u37 u38 u39 u40 u41 u42 u43 u44 u45 u46 u47 u48 u49 u50 u51 u52 u53 u54 u55 u56 u57 u58 u59 u60 u61 u62 u63 u64 u65 u66 u67 u68 u69 u70 u71 u72 u73 u74 u75 u76 u77 u78 u79 u80 u81 u82 u83 u84 u85 u86 u87 u88 u89 u90 u91 u92 u93 u94 u95 u96 u97 u98 u99 u100 u101 u102 u103 u104 u105 u106 u107 u108 u109 u110 u111 u112 u113 u114 u115 u116 u117 u118 u119 u120 u121 u122 u123 u124 u125 u126 u127 u128 u129 u130 u131 u132 u133 u134 u135 u136 u137 u138 u139 u140 u141 u142 u143 u144 u145 u146 u147 u148 u149 u150 u151 u152 u153 u154 u155 u156 u157 u158 u159 u160 u161 u162 u163 u164 u165 u166 u167 u168 u169 u170 u171 u172 u173 u174 u175 u176 u177 u178 u179 u180 u181 u182 u183 u184 u185 u186 u187 u188 u189 u190 u191 u192 u193 u194 u195 u196 u197 u198 u199 u200 u201 u202 u203 u204 u205 u206 u207 u208 u209 u210 u211 u212 u213 u214 u215 u216 u217 u218 u219 u220 u221 u222 u223 u224 u225 u226 u227 u228 u229 u230 u231 u232 u233 u234 u235 u236 u237 u238 u239 u240 u241 : Value} {w wr : World} {g c5 j N : Nat} {al : List Int} {s : St} (Q : Exit → Act → World → Prop) (hb : Bytes al) (hcap : al.length ≤ c5) (hal : al.length ≤ 1000072) (hlen : al.length = 64 * N) (hok : s.ok) (hj : j < N) (hM : RefC w wr g al s.nats)
    (hQ : ∀ a' w', FrA w g c5 al (j + 1) a' → RefC w w' g al (mixSt kTab (al.drop (64 * j)) s).nats → Q .normal a' w') :
    Code.wp Try.prog (bodyOf 1) Q ⟨#[u0, u1, .pointer (some ⟨w.heap.size, 0, none⟩), .pointer (some ⟨w.heap.size + 1, 0, none⟩), .pointer (some ⟨w.heap.size + 1 + 1, 0, none⟩), .slice (some ⟨g, 0, none⟩) al.length c5, .int .i64 (64 * (j : Int)), u7, u8, u9, u10, u11, u12, u13, u14, u15, u16, u17, u18, u19, u20, u21, u22, u23, u24, u25, u26, u27, u28, u29, u30, u31, u32, u33, u34, u35, u36, u37, u38, u39, u40, u41, u42, u43, u44, u45, u46, u47, u48, u49, u50, u51, u52, u53, u54, u55, u56, u57, u58, u59, u60, u61, u62, u63, u64, u65, u66, u67, u68, u69, u70, u71, u72, u73, u74, u75, u76, u77, u78, u79, u80, u81, u82, u83, u84, u85, u86, u87, u88, u89, u90, u91, u92, u93, u94, u95, u96, u97, u98, u99, u100, u101, u102, u103, u104, u105, u106, u107, u108, u109, u110, u111, u112, u113, u114, u115, u116, u117, u118, u119, u120, u121, u122, u123, u124, u125, u126, u127, u128, u129, u130, u131, u132, u133, u134, u135, u136, u137, u138, u139, u140, u141, u142, u143, u144, u145, u146, u147, u148, u149, u150, u151, u152, u153, u154, u155, u156, u157, u158, u159, u160, u161, u162, u163, u164, u165, u166, u167, u168, u169, u170, u171, u172, u173, u174, u175, u176, u177, u178, u179, u180, u181, u182, u183, u184, u185, u186, u187, u188, u189, u190, u191, u192, u193, u194, u195, u196, u197, u198, u199, u200, u201, u202, u203, u204, u205, u206, u207, u208, u209, u210, u211, u212, u213, u214, u215, u216, u217, u218, u219, u220, u221, u222, u223, u224, u225, u226, u227, u228, u229, u230, u231, u232, u233, u234, u235, u236, u237, u238, u239, u240, u241], []⟩ wr := by
  conv => arg 2; whnf
  obtain ⟨zt, hzt, hz64⟩ := zero_64w
  obtain ⟨zs, hzs, hz8⟩ := zero_8w
  have HQ := Lib.hid hQ
  obtain ⟨t1, t2, t3⟩ := chunk_facts hj (show 64 * N ≤ 2000000 by omega)
  rw [← hlen] at t1
  have HT := Lib.hid (And.intro t2 t3)
  have HJ := Lib.hid (show 64 * j + 64 ≤ al.length by omega)
  have HW := Lib.hid (ref_w hM (show 0 < al.length by omega) zt hzt (al.drop (64 * j)))
  have HA := Lib.hid (And.intro hb (And.intro hcap (And.intro hal (And.intro hzs hok))))
  have hjb : j ≤ 15626 := by omega
  clear hQ t2 t3 hM hb hcap hal hzt hzs hok hj hlen
  go_wp2
  generalize wr.heap.size = gw at HW ⊢
  refine l3_loop (j := j) (s := s) (gw := gw) _ HA.out.1 HA.out.2.1 HJ.out HA.out.2.2.1 ⟨⟨rfl, rfl, rfl, rfl, rfl, rfl, rfl⟩, rfl⟩ rfl HW.out ?_
  intro a w1 hF hM
  obtain ⟨v, hv, e⟩ := frame_fn a hF.A.size hF.A.defers
  rw [(hv 2).trans hF.A.t2, (hv 3).trans hF.A.t3, (hv 4).trans hF.A.t4, (hv 5).trans hF.A.t5, (hv 6).trans hF.A.t6, (hv 7).trans hF.t7] at e
  rw [e]
  clear e hF hv HW
  have HM := Lib.hid hM
  clear hM
  go_wp2
  refine l4_loop (j := j) (s := s) (gw := gw) _ HA.out.1 ⟨⟨rfl, rfl, rfl, rfl, rfl, rfl, rfl⟩, rfl⟩ rfl HM.out ?_
  intro a w2 hF hM
  obtain ⟨v2, hv, e⟩ := frame_fn a hF.A.size hF.A.defers
  rw [(hv 2).trans hF.A.t2, (hv 3).trans hF.A.t3, (hv 4).trans hF.A.t4, (hv 5).trans hF.A.t5, (hv 6).trans hF.A.t6, (hv 7).trans hF.t7] at e
  rw [e]
  clear e hF hv HM
  have HX := Lib.hid (And.intro (ref_x hM zs HA.out.2.2.2.1) hM)
  clear hM
  go_wp2_with (first
    | (with_reducible refine wpList_load_mid rfl 84 (.tmp 4) rfl (w.heap.size + 1 + 1) 0 rfl (n64 s.nats) _ HX.out.2.C.H.at_ Try.underlying84 rfl (info_8a s) ?_)
    | (with_reducible refine store_row rfl 84 (.tmp 12) (.tmp 119) rfl rfl w2.heap.size (n64 s.nats) rfl rfl HX.out.1.1 (info_8b _) (n64_one _) ?_))
  have HX2 := Lib.hid HX.out.1.2
  clear HX
  generalize w2.heap.size = gx at HX2 ⊢
  refine l5_loop (j := j) (s := s) (gw := gw) (gx := gx) _ HA.out.2.2.2.2 (HA.out.1.drop (64 * j)) ⟨⟨⟨rfl, rfl, rfl, rfl, rfl, rfl, rfl⟩, rfl⟩, rfl⟩ rfl HX2.out ?_
  intro a w3 hF hM
  obtain ⟨t, ht⟩ : ∃ t, t = mixed kTab (al.drop (64 * j)) s 64 := ⟨_, rfl⟩
  rw [← ht] at hM
  have HT2 := Lib.hid (And.intro (mixSt_eq _ s t ht) (show t.ok by rw [ht]; exact mixed_ok HA.out.2.2.2.2 64))
  clear ht HX2
  obtain ⟨v3, hv, e⟩ := frame_fn a hF.W.A.size hF.W.A.defers
  rw [(hv 2).trans hF.W.A.t2, (hv 3).trans hF.W.A.t3, (hv 4).trans hF.W.A.t4, (hv 5).trans hF.W.A.t5, (hv 6).trans hF.W.A.t6, (hv 7).trans hF.W.t7, (hv 12).trans hF.t12] at e
  rw [e]
  clear e hF hv
  have HM := Lib.hid hM
  clear hM
  go_wp2
  refine l7_loop (j := j) (s := s) (t := t) (gw := gw) (gx := gx) _ HA.out.2.2.2.2 HT2.out.2 ⟨⟨⟨rfl, rfl, rfl, rfl, rfl, rfl, rfl⟩, rfl⟩, rfl⟩ rfl HM.out ?_
  intro a w4 hF hM
  rw [HT2.out.1] at hM
  obtain ⟨v4, hv, e⟩ := frame_fn a hF.W.A.size hF.W.A.defers
  rw [(hv 2).trans hF.W.A.t2, (hv 3).trans hF.W.A.t3, (hv 4).trans hF.W.A.t4, (hv 5).trans hF.W.A.t5, (hv 6).trans hF.W.A.t6, (hv 7).trans hF.W.t7, (hv 12).trans hF.t12] at e
  rw [e]
  clear e hF hv HM HT2
  have HM := Lib.hid hM.W.C
  clear hM
  go_wp2
  (try rw [HT.out.1])
  rw [HT.out.2]
  exact HQ.out _ _ ⟨rfl, rfl, rfl, rfl, rfl, rfl, rfl⟩ HM.out
set_option maxHeartbeats 2000000 in
set_option maxRecDepth 100000 in
theorem l2_last {u0 u1 u7 u8 u9 u10 u11 u12 u13 u14 u15 u16 u17 u18 u19 u20 u21 u22 u23 u24 u25 u26 u27 u28 u29 u30 u31 u32 u33 u34 u35 u36 u37 u38 u39 u40 u41 u42 u43 u44 u45 u46 u47 u48 u49 u50 u51 u52 u53 u54 u55 u56 u57 u58 u59 u60 u61 u62 u63 u64 u65 u66 u67 u68 u69 u70 u71 u72 u73 u74 u75 u76 u77 u78 u79 u80 u81 u82 u83 u84 u85 u86 u87 u88 u89 u90 u91 u92 u93 u94 u95 u96 u97 u98 u99 u100 u101 u102 u103 u104 u105 u106 u107 u108 u109 u110 u111 u112 u113 u114 u115 u116 u117 u118 u119 u120 u121 u122 u123 u124 u125 u126 u127 u128 u129 u130 u131 u132 u133 u134 u135 u136 u137 u138 u139 u140 u141 u142 u143 u144 u145 u146 u147 u148 u149 u150 u151 u152 u153 u154 u155 u156 u157 u158 u159 u160 u161 u162 u163 u164 u165 u166 u167 u168 u169 u170 u171 u172 u173 u174 u175 u176 u177 u178 u179 u180 u181 u182 u183 u184 u185 u186 u187 u188 u189 u190 u191 u192 u193 u194 u195 u196 u197 u198 u199 u200 u201 u202 u203 u204 u205 u206 u207 u208 u209 u210 u211 u212 u213 u214 u215 u216 u217 u218 u219 u220 u221 u222 u223 u224 u225 u226 u227 u228 u229 u230 u231 u232 u233 u234 u235 u236 u237 u238 u239 u240 u241 : Value} {w wr : World} {g c5 j N : Nat} {al : List Int} (Q : Exit → Act → World → Prop) (hlen : al.length = 64 * N) (hj : ¬ j < N)
    (hQ : ∀ a', FrA w g c5 al j a' → Q (.exit 2) a' wr) :
    Code.wp Try.prog (bodyOf 1) Q ⟨#[u0, u1, .pointer (some ⟨w.heap.size, 0, none⟩), .pointer (some ⟨w.heap.size + 1, 0, none⟩), .pointer (some ⟨w.heap.size + 1 + 1, 0, none⟩), .slice (some ⟨g, 0, none⟩) al.length c5, .int .i64 (64 * (j : Int)), u7, u8, u9, u10, u11, u12, u13, u14, u15, u16, u17, u18, u19, u20, u21, u22, u23, u24, u25, u26, u27, u28, u29, u30, u31, u32, u33, u34, u35, u36, u37, u38, u39, u40, u41, u42, u43, u44, u45, u46, u47, u48, u49, u50, u51, u52, u53, u54, u55, u56, u57, u58, u59, u60, u61, u62, u63, u64, u65, u66, u67, u68, u69, u70, u71, u72, u73, u74, u75, u76, u77, u78, u79, u80, u81, u82, u83, u84, u85, u86, u87, u88, u89, u90, u91, u92, u93, u94, u95, u96, u97, u98, u99, u100, u101, u102, u103, u104, u105, u106, u107, u108, u109, u110, u111, u112, u113, u114, u115, u116, u117, u118, u119, u120, u121, u122, u123, u124, u125, u126, u127, u128, u129, u130, u131, u132, u133, u134, u135, u136, u137, u138, u139, u140, u141, u142, u143, u144, u145, u146, u147, u148, u149, u150, u151, u152, u153, u154, u155, u156, u157, u158, u159, u160, u161, u162, u163, u164, u165, u166, u167, u168, u169, u170, u171, u172, u173, u174, u175, u176, u177, u178, u179, u180, u181, u182, u183, u184, u185, u186, u187, u188, u189, u190, u191, u192, u193, u194, u195, u196, u197, u198, u199, u200, u201, u202, u203, u204, u205, u206, u207, u208, u209, u210, u211, u212, u213, u214, u215, u216, u217, u218, u219, u220, u221, u222, u223, u224, u225, u226, u227, u228, u229, u230, u231, u232, u233, u234, u235, u236, u237, u238, u239, u240, u241], []⟩ wr := by
  conv => arg 2; whnf
  have HQ := Lib.hid hQ
  have t1 : decide (64 * (j : Int) < (al.length : Int)) = false := by simp; omega
  clear hQ hlen
  go_wp2
  exact HQ.out _ ⟨rfl, rfl, rfl, rfl, rfl, rfl, rfl⟩
theorem mu_64 {w : World} {g c5 j N : Nat} {al : List Int} {a a' : Act} (h : FrA w g c5 al j a) (h' : FrA w g c5 al (j + 1) a') (hj : j < N) : 64 * N - (intOf (a'.tmps.getD 6 undef)).toNat < 64 * N - (intOf (a.tmps.getD 6 undef)).toNat := by
  rw [h.t6, h'.t6]
  show 64 * N - (64 * ((j + 1 : Nat) : Int)).toNat < 64 * N - (64 * (j : Int)).toNat
  omega
set_option maxRecDepth 100000 in
theorem l2_loop {w wr : World} {g c5 N : Nat} {al : List Int} {a : Act} (Q : Exit → Act → World → Prop) (hb : Bytes al) (hcap : al.length ≤ c5) (hal : al.length ≤ 1000072) (hlen : al.length = 64 * N) (hF : FrA w g c5 al 0 a) (hM : RefC w wr g al Gy.begun.nats)
    (hX : ∀ a' w', FrA w g c5 al N a' → RefC w w' g al (mixAll kTab al Gy.begun N).nats → Q (.exit 2) a' w') : Code.wp Try.prog (Code.loop (bodyOf 1)) Q a wr := by
  refine wp_loop (fun a w' => ∃ j : Nat, j ≤ N ∧ FrA w g c5 al j a ∧ ∃ s : St, s = mixAll kTab al Gy.begun j ∧ RefC w w' g al s.nats) (fun a _ => 64 * N - (intOf (a.tmps.getD 6 undef)).toNat) ⟨0, Nat.zero_le _, hF, _, rfl, hM⟩ ?_
  rintro a w' ⟨j, h2, hF, s, hs, hM⟩
  have e := frame_out a hF.size hF.defers
  rw [hF.t2, hF.t3, hF.t4, hF.t5, hF.t6] at e
  by_cases hj : j < N
  · have hok : s.ok := by rw [hs]; exact mixAll_ok begun_ok j
    have hQ : ∀ a' w'', FrA w g c5 al (j + 1) a' → RefC w w'' g al (mixSt kTab (al.drop (64 * j)) s).nats → Exit.then (fun a' w' => (∃ j : Nat, j ≤ N ∧ FrA w g c5 al j a' ∧ ∃ s : St, s = mixAll kTab al Gy.begun j ∧ RefC w w' g al s.nats) ∧ 64 * N - (intOf (a'.tmps.getD 6 undef)).toNat < 64 * N - (intOf (a.tmps.getD 6 undef)).toNat) Q .normal a' w'' :=
      fun a' w'' f1 f2 => ⟨⟨j + 1, hj, f1, _, by rw [hs]; exact mixAll_step al Gy.begun j, f2⟩, mu_64 hF f1 hj⟩
    generalize Exit.then (fun a' w' => (∃ j : Nat, j ≤ N ∧ FrA w g c5 al j a' ∧ ∃ s : St, s = mixAll kTab al Gy.begun j ∧ RefC w w' g al s.nats) ∧ 64 * N - (intOf (a'.tmps.getD 6 undef)).toNat < 64 * N - (intOf (a.tmps.getD 6 undef)).toNat) Q = Q2 at hQ ⊢
    rw [e]
    exact l2_step Q2 hb hcap hal hlen hok hj hM hQ
  · obtain rfl : j = N := by omega
    rw [hs] at hM
    rw [e]
    exact l2_last _ hlen hj (fun a' f => hX a' w' f hM)
end Go.Proofs.Ytnoebhnkkigkjaa.Dig

/- The reference's reduced echelon form, in the form in which the printer asks for it: its rows are the caller's until they are turned. -/
import Derived.Test.YtcmigmldecacpaaDoorMDS2
import Derived.Test.YtcmigmldecacpaaDoorProg
import Derived.Below
import Derived.Deep.Draws
import Derived.Deep.AppendLies
import Derived.Maps.AppendAt
import Derived.OwnWalk
import Derived.Laws.BytesArg
import Derived.Laws.MakeOwn
import Derived.Laws.OwnMore
import Derived.Deep.OwnRows
import Derived.Tactics
import Derived.Lib.ConvBytes
import Derived.Laws.Slices
import Derived.WalkKit
import Derived.KernelRfl
import Derived.RowKit3
import Derived.Deep.LoopGhost
import Derived.Deep.QuietTactic
import Derived.BigQuiet
import Derived.WideLaws
import Derived.Deep.DeepCutAuto
import Derived.Deep.CutBlock
import Derived.Deep.RegionHeld3
import Derived.Laws.Rows
import Derived.Lib.AppendStr
import Derived.ArgAppend
import Derived.Laws.IdiomCopy
import Derived.OrdersHeld
import Derived.Laws.BitsLemmas
import Derived.RowKit
import Derived.Test.YtcmigmldecacpaaDoorWWords
import Derived.Test.YtcmigmldecacpaaDoorWLast
import Derived.Test.YtcmigmldecacpaaDoorWTab
import Derived.Test.YtcmigmldecacpaaDoorWFour
import Derived.Test.YtcmigmldecacpaaDoorWQPut
import Derived.Test.YtcmigmldecacpaaDoorWApart
import Derived.Test.YtcmigmldecacpaaDoorWArr
import Derived.Test.YtcmigmldecacpaaDoorWZeros
import Derived.Test.YtcmigmldecacpaaDoorWFoot
import Derived.Test.YtcmigmldecacpaaDoorWKept
import Derived.Test.YtcmigmldecacpaaDoorWShare
import Derived.Test.YtcmigmldecacpaaDoorWN
import Derived.Test.YtcmigmldecacpaaDoorWFootNe
import Derived.Test.YtcmigmldecacpaaDoorWAt
import Derived.Test.YtcmigmldecacpaaDoorWEqStruct
import Derived.Test.YtcmigmldecacpaaDoorWRepsOne
import Derived.Test.YtcmigmldecacpaaDoorWInv
import Derived.Test.YtcmigmldecacpaaDoorWInvWords
import Derived.Test.YtcmigmldecacpaaDoorWGuard
import Derived.Test.YtcmigmldecacpaaDoorWNEv
import Derived.Test.YtcmigmldecacpaaDoorWMore

namespace Go.Proofs.YtcmigmldecacpaaDoor.Ech
open Go Go.RowKit Go.Proofs.YtcmigmldecacpaaDoorW.PrintWords Go.Proofs.YtcmigmldecacpaaDoorW.PrintLast Go.Proofs.YtcmigmldecacpaaDoorW.PrintMore Go.Proofs.YtcmigmldecacpaaDoor.Vec Go.Proofs.YtcmigmldecacpaaDoor.Giv Go.Proofs.YtcmigmldecacpaaDoor.Dense Go.Proofs.YtcmigmldecacpaaDoor.Reduce
set_option linter.unusedSimpArgs false
set_option linter.unusedVariables false

def ElF (ok : Nat → Prop) (w : World) (u : Value) (row : List Int) : Prop := ∃ A c, u = .slice A row.length c ∧ row.length ≤ c ∧ Kd.F (Kd.int .u8) w ok A row.length row
theorem ElF.step {ok : Nat → Prop} {w w' : World} {u : Value} {row : List Int} (h : ElF ok w u row) (hm : ∀ k, ok k → k < w.heap.size → w'.heap[k]? = w.heap[k]?) : ElF ok w' u row := by
  obtain ⟨A, c, e, hl, hF⟩ := h
  exact ⟨A, c, e, hl, Kd.F_step hF hm⟩
theorem ElF.ext {ok : Nat → Prop} {b : Nat} {w w' : World} {u : Value} {row : List Int} (h : ElF ok w u row) (hx : Ext b w w') (hb : ¬ ok b) : ElF ok w' u row :=
  h.step fun k hk hlt => hx.2 k hlt (fun e => hb (e ▸ hk))
theorem ElF.mono {ok ok' : Nat → Prop} {w : World} {u : Value} {row : List Int} (h : ElF ok w u row) (hok : ∀ k, ok k → k < w.heap.size → ok' k) : ElF ok' w u row := by
  obtain ⟨A, c, e, hl, hF⟩ := h
  exact ⟨A, c, e, hl, Kd.F_mono (Kd.F_bound hF) (fun k hk => hok k hk.1 hk.2)⟩
theorem elF_of_FK {ok : Nat → Prop} {w : World} {u : Value} {row : List Int} (h : Kd.FK kR w ok row [u]) : ElF ok w u row := by
  obtain ⟨A, c, e, hl, hF⟩ := Kd.FK_slice_open h
  injection e with e
  exact ⟨A, c, e, hl, hF⟩
theorem ElF.FK {ok : Nat → Prop} {w : World} {u : Value} {row : List Int} (h : ElF ok w u row) : Kd.FK kR w ok row [u] := by
  obtain ⟨A, c, rfl, hl, hF⟩ := h
  exact Kd.FK_slice_mk hl hF
theorem elF_made {ok : Nat → Prop} {w w' : World} {A : Option Addr} {m c : Nat} {xs : List Int} (h : Kd.R (Kd.int .u8) 5 w' w.heap.size (fun _ => True) (.slice A m c) xs) (hok : ∀ k, w.heap.size ≤ k → ok k) : ElF ok w' (.slice A m c) xs := by
  have h1 := Kd.R_reads' h
  obtain rfl := h1.1
  exact ⟨A, c, rfl, h1.2.1, Kd.R_F (Kd.R_mono (Kd.R_bound h) (fun k hk => hok k hk.2.1))⟩
structure RowsF (ok : Nat → Prop) (base b n cap : Nat) (w : World) (ks : List Value) (rows : List (List Int)) : Prop where
  own : w.ownsRow base 22 1 (.slice (some ⟨b, 0, none⟩) n cap) n ks
  len : ks.length = n
  rl : rows.length = n
  off : ¬ ok b
  el : ∀ (i : Nat) (u : Value) (row : List Int), ks[i]? = some u → rows[i]? = some row → ElF ok w u row
section
variable {ok ok' : Nat → Prop} {base b n cap : Nat} {w w' : World} {ks : List Value} {rows : List (List Int)}
theorem RowsF.lt (h : RowsF ok base b n cap w ks rows) : b < w.heap.size := own_lt h.own b rfl
theorem RowsF.bas (h : RowsF ok base b n cap w ks rows) : base ≤ b := own_base h.own b rfl
theorem RowsF.below (h : RowsF ok base b n cap w ks rows) (hb : Below w.heap.size w w') : RowsF ok base b n cap w' ks rows :=
  ⟨own_move h.own (fun k hk => hb.block k (own_lt h.own k hk)), h.len, h.rl, h.off, fun i u row h1 h2 => (h.el i u row h1 h2).step (fun k _ hlt => hb.block k hlt)⟩
theorem RowsF.set (h : RowsF ok base b n cap w ks rows) (i : Nat) (u : Value) (row : List Int) (hu : ElF ok w u row) : RowsF ok base b n cap (w.setCell ⟨b, i, none⟩ u) (ks.set i u) (rows.set i row) := by
  refine ⟨(h.own.stored i u).1, by rw [List.length_set]; exact h.len, by rw [List.length_set]; exact h.rl, h.off, fun j v r h1 h2 => ?_⟩
  by_cases e : i = j
  · subst e
    rw [List.getElem?_set] at h1 h2
    simp only [if_true] at h1 h2
    split at h1
    · split at h2
      · injection h1 with h1
        injection h2 with h2
        subst h1 h2
        exact hu.ext (Ext.set b w i _) h.off
      · cases h2
    · cases h1
  · rw [List.getElem?_set_ne e] at h1 h2
    exact (h.el j v r h1 h2).ext (Ext.set b w i _) h.off
theorem RowsF.cell {u : Value} (h : RowsF ok base b n cap w ks rows) {i : Nat} (hk : ks[i]? = some u) : w.cell? ⟨b, i, none⟩ = some u := by
  have hi := (List.getElem?_eq_some_iff.1 hk).1
  rw [h.own.cellAt i (by have := h.len; omega), hk]
theorem RowsF.free (h : RowsF ok base b n cap w ks rows) (i : Nat) : w.frozen? ⟨b, i, none⟩ = false := h.own.frozenAt i
theorem RowsF.at (h : RowsF ok base b n cap w ks rows) (i : Nat) (hi : i < rows.length) :
    ∃ A c, ks[i]? = some (.slice A rows[i].length c) ∧ rows[i].length ≤ c ∧ w.cell? ⟨b, i, none⟩ = some (.slice A rows[i].length c) ∧ w.frozen? ⟨b, i, none⟩ = false ∧ ReadsInt w .u8 A rows[i].length rows[i] := by
  have hik : i < ks.length := by have := h.len; have := h.rl; omega
  obtain ⟨A, c, e, hc, hF⟩ := h.el i _ _ (List.getElem?_eq_getElem hik) (List.getElem?_eq_getElem hi)
  have hk : ks[i]? = some (.slice A rows[i].length c) := by rw [List.getElem?_eq_getElem hik, e]
  exact ⟨A, c, hk, hc, h.cell hk, h.free i, Gy.reads_of_kd (Kd.F_now hF)⟩
theorem RowsF.reads {m c : Nat} {row : List Int} {A : Option Addr} (h : RowsF ok base b n cap w ks rows) {i : Nat} (hi : i < rows.length) (hk : ks[i]? = some (.slice A m c)) (hr : rows[i] = row) : ReadsInt w .u8 A m row := by
  obtain ⟨A', c', e, _, hF⟩ := h.el i _ _ hk (by rw [List.getElem?_eq_getElem hi, hr])
  injection e with e1 e2 e3
  subst e1 e2
  exact Gy.reads_of_kd (Kd.F_now hF)
theorem RowsF.elem {row : List Int} {u : Value} (h : RowsF ok base b n cap w ks rows) {i : Nat} (hi : i < rows.length) (hk : ks[i]? = some u) (hr : rows[i] = row) : ElF ok w u row := h.el i u row hk (by rw [List.getElem?_eq_getElem hi, hr])
theorem RowsF.mono (h : RowsF ok base b n cap w ks rows) (hok : ∀ k, ok k → k < w.heap.size → ok' k) (hb : ¬ ok' b) : RowsF ok' base b n cap w ks rows :=
  ⟨h.own, h.len, h.rl, hb, fun i u row h1 h2 => (h.el i u row h1 h2).mono hok⟩
theorem RowsF.grown {b2 s n2 : Nat} {p : Value} {ps : List Value} (h : RowsF ok base b n cap w ks rows) (hp : w.ownsRow b2 3 s p n2 ps) (hg : w.grownBy w' p.ownBlock) (hok : ∀ k, ok k → some k ≠ p.ownBlock) : RowsF ok base b n cap w' ks rows :=
  ⟨own_move h.own (fun k hk => hg.block k (own_lt h.own k hk) (typed_ne h.own hp (by decide) hk)), h.len, h.rl, h.off, fun i u row h1 h2 => (h.el i u row h1 h2).step (fun k hk hlt => hg.block k hlt (hok k hk))⟩
theorem RowsF.n_pos (h : RowsF ok base b n cap w ks rows) : ks.length = rows.length := h.len.trans h.rl.symm
end
theorem pl_keep {base b n cap B : Nat} {ok : Nat → Prop} {w w' : World} {ks : List Value} {v : Value} {xs : List Int} (h : Kd.R (Kd.int .i64) 3 w B ok v xs) (ho : w.ownsRow base 22 1 (.slice (some ⟨b, 0, none⟩) n cap) n ks) (hx : Ext b w w') : Kd.R (Kd.int .i64) 3 w' B ok v xs := by
  obtain ⟨c1, g1⟩ := own_typed ho b rfl
  refine Kd.R_mono (Kd.R_move (Kd.R_bound h) (fun k hk => hx.2 k hk.2.2.1 (fun e => ?_))) (fun k hk => hk.1)
  obtain ⟨_, _, _, q, hq, cells, hc⟩ := hk
  rw [e, g1] at hc
  injection hc with hc
  injection hc with _ hc _
  subst hc
  revert hq
  decide
theorem rows_of_N {base : Nat} {w : World} {ok : Nat → Prop} {v : Value} {rows : List (List Int)} (h : Kd.N kR 22 w base ok v rows) (hpos : 0 < rows.length) : ∃ b cap ks, v = .slice (some ⟨b, 0, none⟩) rows.length cap ∧ RowsF (fun k => ok k ∧ k ≠ b) base b rows.length cap w ks rows := by
  obtain ⟨h0, rs, hlr, ⟨_, inner, ho, hr⟩, hf⟩ := h
  rw [hlr] at ho
  obtain ⟨g, cap, rfl⟩ := Gy.own_some ho hpos
  have hil : inner.length = rows.length := by have := hr.1; rw [hlr] at this; exact this.trans (Nat.mul_one _)
  refine ⟨g, cap, inner, rfl, ho, hil, rfl, fun h => h.2 rfl, fun i u row h1 h2 => ?_⟩
  have hi := (List.getElem?_eq_some_iff.1 h1).1
  have hir : i < rs.length := by omega
  obtain ⟨hrs, _, _⟩ := hr.2 i _ (List.getElem?_eq_getElem hir)
  have e1 : (inner.drop (i * 1)).take 1 = [u] := by
    rw [Nat.mul_one, List.drop_eq_getElem_cons hi, List.take_succ_cons, List.take_zero]
    rw [List.getElem?_eq_getElem hi] at h1
    injection h1 with h1
    rw [h1]
  have e2 : rs[i] = [u] := hrs.symm.trans e1
  have hfk := hf i row _ h2 (List.getElem?_eq_getElem hir)
  rw [e2] at hfk
  exact elF_of_FK (Kd.FK_mono hfk (fun k hk => ⟨hk.1, fun e => hk.2 (by rw [e]; rfl)⟩))
theorem N_of_rows {base b n cap : Nat} {w : World} {ok ok' : Nat → Prop} {ks : List Value} {rows : List (List Int)} (h : RowsF ok base b n cap w ks rows) (hb : ok' b) (hok : ∀ k, ok k → ok' k) : Kd.N kR 22 w base ok' (.slice (some ⟨b, 0, none⟩) n cap) rows := by
  have hlen : (ks.map fun u => [u]).length = rows.length := by rw [List.length_map]; exact h.n_pos
  refine ⟨fun k hk => by injection hk with hk; exact hk ▸ hb, ks.map fun u => [u], hlen, ⟨fun k hk => hk.symm, ks, by rw [hlen, h.rl]; exact h.own, by rw [List.length_map]; exact (Nat.mul_one _).symm, fun j x hj => ?_⟩, fun j x c hx hc => ?_⟩
  · obtain ⟨u, hu, rfl⟩ := List.getElem?_map .. ▸ hj |> Option.map_eq_some_iff.1
    have hjk := (List.getElem?_eq_some_iff.1 hu).1
    have e1 : (ks.drop (j * 1)).take 1 = [u] := by
      rw [Nat.mul_one, List.drop_eq_getElem_cons hjk, List.take_succ_cons, List.take_zero]
      rw [List.getElem?_eq_getElem hjk] at hu
      injection hu with hu
      rw [hu]
    have hjr : j < rows.length := by have := h.n_pos; omega
    obtain ⟨A, c, rfl, _⟩ := h.el j u _ hu (List.getElem?_eq_getElem hjr)
    show (ks.drop (j * 1)).take 1 = [Value.slice A _ c] ∧ ((ks.drop (j * 1)).take 1).length = 1 ∧ ∀ v ∈ (ks.drop (j * 1)).take 1, v.oneCell' = true
    rw [e1]
    refine ⟨rfl, rfl, fun v hv => ?_⟩
    obtain rfl := List.mem_singleton.1 hv
    rfl
  · rw [List.getElem?_map] at hc
    obtain ⟨u, hu, rfl⟩ := Option.map_eq_some_iff.1 hc
    refine Kd.FK_mono (h.el j u x hu hx).FK (fun k hk => ⟨hok k hk, fun e => ?_⟩)
    injection e with e
    have e' : k = b := e
    subst e'
    exact h.off hk
theorem plusF_calls {A0 A1 : Option Addr} {c0 c1 n c : Nat} {a b : List Int} (w : World) (h0 : ReadsInt w .u8 A0 n a) (h1 : ReadsInt w .u8 A1 n b) (l0 : n ≤ c0) (l1 : n ≤ c1) (ha : By a) (hb : By b) (hc : c < 256) (hn : n ≤ 100000) :
    Calls Tryd.prog 9 #[.slice A0 n c0, .slice A1 n c1, .int .u8 (c : Int)] w fun e w' => ∃ A' c', e = .returned (.slice A' n c') ∧ Kd.R (Kd.int .u8) 5 w' w.heap.size (fun _ => True) (.slice A' n c') (plusL a b c) ∧ Below w.heap.size w w' := by
  have k0 := kd_of_reads h0
  have k1 := kd_of_reads h1
  have e0 := h0.1
  have e1 := h1.1
  have hl : b.length = a.length := e1.trans e0.symm
  have h := QReplayBoards.geyserref03_Plus.calls (a.length + 21) A0 c0 a A1 c1 b c _ w k0 (by omega) k1 (by omega) (plus_f ha hb hc hl (by omega) (by omega))
  rw [e0, e1] at h
  refine h.mono fun e w' ⟨v, he, hR, hB⟩ => ?_
  obtain ⟨A', c', rfl⟩ := Kd.R_slice hR
  have hlen : (plusL a b c).length = n := (plusL_length hl c).trans e0
  rw [hlen] at he hR
  exact ⟨A', c', he, Kd.R_mono hR (fun _ _ => trivial), hB⟩
structure PutJ (ok : Nat → Prop) (base b n cap : Nat) (w0 : World) (ks : List Value) (R : List (List Int)) (i : Nat) (rn : List Int) (ue : Value) (re : List Int) (d : Bool) (w : World) : Prop where
  bx : Bx base b w0 w
  ex : ElF ok w ue re
  h0 : d = false → RowsF ok base b n cap w ks R
  h1 : d = true → ∃ ks', RowsF ok base b n cap w ks' (R.set i rn)
  off : ¬ ok b
section
variable {ok : Nat → Prop} {base b n cap : Nat} {w0 w w' : World} {ks : List Value} {R : List (List Int)} {i : Nat} {rn re : List Int} {ue : Value} {d : Bool}
theorem PutJ.below (h : PutJ ok base b n cap w0 ks R i rn ue re d w) (hd : d = false) (hb : Below w.heap.size w w') (hbase : base ≤ w0.heap.size) : PutJ ok base b n cap w0 ks R i rn ue re d w' :=
  ⟨h.bx.trans (Bx.of_below hb (Nat.le_trans hbase h.bx.size)), h.ex.step (fun k _ hlt => hb.block k hlt), fun _ => (h.h0 hd).below hb, fun h2 => absurd (hd.symm.trans h2) (by decide), h.off⟩
theorem PutJ.store {u : Value} (h : PutJ ok base b n cap w0 ks R i rn ue re d w) (hd : d = false) (hu : ElF ok w u rn) : PutJ ok base b n cap w0 ks R i rn ue re true (w.setCell ⟨b, i, none⟩ u) :=
  ⟨h.bx.setCell (h.h0 hd).bas _ _, h.ex.ext (Ext.set b w i _) h.off, fun h => (by cases h), fun _ => ⟨_, (h.h0 hd).set i _ _ hu⟩, h.off⟩
theorem PutJ.inv {c : Nat} (h : PutJ ok base b n cap w0 ks R i rn ue re d w) (hd : d = false) (hbase : base ≤ w0.heap.size) (lc : c < 256) (hc0 : c ≠ 0) :
    Calls Tryd.prog 41 #[.int .u8 (c : Int)] w fun e w' => ∃ v, e = .returned v ∧ v = .int .u8 ((Gy.ginv c : Nat) : Int) ∧ PutJ ok base b n cap w0 ks R i rn ue re d w' ∧ Ext b w w' :=
  (Pure.rinv_calls lc hc0 w).mono fun e w' ⟨he, hb⟩ => ⟨_, he, rfl, h.below hd hb hbase, Ext.of_below hb⟩
theorem PutJ.plus {A0 A1 : Option Addr} {m c0 c1 c : Nat} {ra rb : List Int} (h : PutJ ok base b n cap w0 ks R i rn ue re d w) (hd : d = false) (hbase : base ≤ w0.heap.size) (hfr : ∀ k, w0.heap.size ≤ k → ok k)
    (g0 : ReadsInt w .u8 A0 m ra) (g1 : ReadsInt w .u8 A1 m rb) (l0 : m ≤ c0) (l1 : m ≤ c1) (ha : By ra) (hb : By rb) (hc : c < 256) (hm : m ≤ 100000) (hrn : plusL ra rb c = rn) :
    Calls Tryd.prog 9 #[.slice A0 m c0, .slice A1 m c1, .int .u8 (c : Int)] w fun e w' => ∃ v, e = .returned v ∧ (∃ A' c', v = .slice A' m c' ∧ ElF ok w' (.slice A' m c') rn) ∧ PutJ ok base b n cap w0 ks R i rn ue re d w' ∧ Ext b w w' := by
  subst hrn
  refine (plusF_calls w g0 g1 l0 l1 ha hb hc hm).mono ?_
  rintro e w' ⟨A', c', rfl, hR, hb2⟩
  exact ⟨_, rfl, ⟨A', c', rfl, elF_made hR (fun k hk => hfr k (Nat.le_trans h.bx.size hk))⟩, h.below hd hb2 hbase, Ext.of_below hb2⟩
end
theorem norm_eq {R : List (List Int)} {i j : Nat} (hi : i < R.length) (hj : j < R.length) (x : List Int) : (R.set j (R.getD i [])).set i x = (swapL R i j).set i x := by
  unfold swapL
  apply List.ext_getElem
  · simp
  · intro a h1 h2
    simp only [List.getElem_set]
    by_cases e : i = a
    · rw [if_pos e, if_pos e]
    · rw [if_neg e, if_neg e, if_neg e]
theorem plus_zeros {a : List Int} {n : Nat} (h : a.length = n) (c : Nat) : plusL (List.replicate n 0) a c = scaleL a c := by
  subst h
  unfold plusL scaleL
  apply List.ext_getElem
  · simp
  · intro i h1 h2
    simp only [List.getElem_zipWith, List.getElem_replicate]
    unfold addI mulI
    simp
theorem zeros_by (n : Nat) : By (List.replicate n 0) := by
  intro x hx
  have := List.eq_of_mem_replicate hx
  omega
theorem i_beq {a b : Nat} (h : a ≠ b) : ((a : Int) == (b : Int)) = false := by simp; omega
theorem i_bne {a b : Nat} (h : a ≠ b) : ((a : Int) != (b : Int)) = true := by simp; omega
theorem i_beq0 {a : Nat} (h : a ≠ 0) : ((a : Int) == 0) = false := by simp; omega
theorem i_bne0 {a : Nat} (h : a ≠ 0) : ((a : Int) != 0) = true := by simp; omega
theorem i_lt0 (a : Nat) : decide ((a : Int) < 0) = false := by simp
theorem i_ge {a b : Nat} (h : ¬ a < b) : decide ((a : Int) < (b : Int)) = false := by simp; omega
def okE (P0 : Nat → Prop) (B b : Nat) (q : Option Nat) (k : Nat) : Prop := (P0 k ∨ B ≤ k) ∧ k ≠ b ∧ some k ≠ q
structure EchAt (P0 : Nat → Prop) (w0 : World) (b n cap : Nat) (R : List (List Int)) (P : List Nat) (v : Value) (w : World) : Prop where
  rows : ∃ ks, RowsF (okE P0 w0.heap.size b v.ownBlock) w0.heap.size b n cap w ks R
  pl : Kd.R (Kd.int .i64) 3 w w0.heap.size (fun k => w0.heap.size ≤ k) v (P.map Int.ofNat)
  bel : Below w0.heap.size w0 w
/-- what is new is ok -/
theorem okE_new {P0 : Nat → Prop} {w0 w : World} {b n cap : Nat} {R : List (List Int)} {P : List Nat} {v : Value} (h : EchAt P0 w0 b n cap R P v w) : ∀ k, w.heap.size ≤ k → okE P0 w0.heap.size b v.ownBlock k := by
  obtain ⟨ks, hr⟩ := h.rows
  obtain ⟨inner, hin⟩ := Kd.R_own h.pl
  intro k hk
  refine ⟨.inr (Nat.le_trans h.bel.size hk), fun e => ?_, fun e => ?_⟩
  · have := hr.lt; omega
  · have := own_lt hin k e.symm; omega
theorem EchAt.next {P0 : Nat → Prop} {w0 wb w3 w5 : World} {b n cap k : Nat} {R R3 : List (List Int)} {P : List Nat} {v v5 : Value} {ks3 : List Value} (hX : EchAt P0 w0 b n cap R P v wb) (hr : RowsF (okE P0 w0.heap.size b v.ownBlock) w0.heap.size b n cap w3 ks3 R3) (hb : Bx w0.heap.size b wb w3)
    (hr5 : Kd.R (Kd.int .i64) 3 w5 w0.heap.size (fun k => w0.heap.size ≤ k) v5 (P.map Int.ofNat ++ [(k : Int)])) (hb5 : Below w0.heap.size w3 w5) (hg : w3.grownBy w5 v.ownBlock) (hat : v5.ownBlock = v.ownBlock ∨ ∃ b', v5.ownBlock = some b' ∧ w3.heap.size ≤ b') : EchAt P0 w0 b n cap R3 (P ++ [k]) v5 w5 := by
  obtain ⟨ks, hr0⟩ := hX.rows
  obtain ⟨inner, hin⟩ := Kd.R_own (pl_keep hX.pl hr0.own hb.ext)
  have h1 := hr.mono (ok' := fun k => okE P0 w0.heap.size b v.ownBlock k ∧ k < w3.heap.size) (fun k h1 h2 => ⟨h1, h2⟩) (fun h => hr.off h.1)
  have h2 := h1.grown hin hg (fun k hk => hk.1.2.2)
  refine ⟨⟨ks3, h2.mono (fun k hk _ => ⟨hk.1.1, hk.1.2.1, fun e => ?_⟩) (fun h => h.2.1 rfl)⟩, ?_, (hX.bel.trans hb.bel).trans hb5⟩
  · rcases hat with ha | ⟨b', hb', hle⟩
    · exact hk.1.2.2 (e.trans ha)
    · rw [hb'] at e
      injection e with e
      have := hk.2
      omega
  · rw [List.map_append]
    exact hr5
def okEch (l0 : List (List Int)) (a1 : Int) : Bool := decide (0 ≤ a1) && decide (l0.length ≤ 1000) && decide (a1.toNat ≤ (l0.headD []).length) && decide ((l0.headD []).length ≤ 1000) && l0.all fun r => decide (r.length = (l0.headD []).length) && okB r
theorem okEch_iff {l0 : List (List Int)} {a1 : Int} (h : okEch l0 a1 = true) : ∃ N m : Nat, a1 = (N : Int) ∧ N ≤ m ∧ m ≤ 1000 ∧ l0.length ≤ 1000 ∧ Slots l0 m ∧ (l0 = [] → N = 0) := by
  unfold okEch at h
  simp only [Bool.and_eq_true, decide_eq_true_eq, List.all_eq_true] at h
  obtain ⟨⟨⟨⟨h1, h2⟩, h3⟩, h4⟩, h5⟩ := h
  refine ⟨a1.toNat, (l0.headD []).length, by omega, h3, h4, h2, ⟨fun r hr => (h5 r hr).1, fun r hr => okB_by (h5 r hr).2⟩, fun e => ?_⟩
  subst e
  simpa using h3
end Go.Proofs.YtcmigmldecacpaaDoor.Ech
namespace Go.Proofs.YtcmigmldecacpaaDoor.Giv
open Go Go.RowKit Go.Proofs.YtcmigmldecacpaaDoorW.PrintWords Go.Proofs.YtcmigmldecacpaaDoorW.PrintLast Go.Proofs.YtcmigmldecacpaaDoorW.PrintMore Go.Proofs.YtcmigmldecacpaaDoor.Vec Go.Proofs.YtcmigmldecacpaaDoor.Dense Go.Proofs.YtcmigmldecacpaaDoor.Reduce Go.Proofs.YtcmigmldecacpaaDoor.Ech
set_option linter.unusedSimpArgs false
set_option linter.unusedVariables false
def geyserref03_Echelon.f (l0 : List (List Int)) (a1 : Int) : Option (List (List Int) × List Int) := if okEch l0 a1 = true then some ((redTo l0 a1.toNat).1, (redTo l0 a1.toNat).2.map Int.ofNat) else none
set_option maxHeartbeats 8000000 in
set_option maxRecDepth 100000 in
theorem geyserref03_Echelon.calls (P0_ : Nat → Prop) (A0 : Option Addr) (c0 : Nat) (l0 : List (List Int)) (a1 : Int) (r1 : List (List Int)) (r2 : List Int) (w : World) (hs0 : Kd.V (Kd.slice 5 (Kd.int .u8)) 22 w w.heap.size (fun k_ => P0_ k_) (.slice A0 l0.length c0) l0) (h : geyserref03_Echelon.f l0 a1 = some (r1, r2)) :
    Calls Tryd.prog 29 #[.slice A0 l0.length c0, .int .i64 a1] w fun e w' => ∃ v0_ v1_ : Value, e = .returned (.tuple #[v0_, v1_]) ∧ Kd.N (Kd.slice 5 (Kd.int .u8)) 22 w' w.heap.size (fun k_ => (P0_ k_ ∨ w.heap.size ≤ k_) ∧ some k_ ≠ (v1_ : Value).ownBlock) v0_ r1 ∧ Kd.R (Kd.int .i64) 3 w' w.heap.size (fun k_ => (w.heap.size ≤ k_)) v1_ r2 ∧ Below w.heap.size w w' := by
  unfold geyserref03_Echelon.f at h
  split at h
  · rename_i hok
    have h' := Option.some.inj h
    injection h' with h1 h2
    subst h1 h2
    obtain ⟨N, m, rfl, hN, hm, hl, hS, hnil⟩ := okEch_iff hok
    rw [Int.toNat_natCast]
    have HO0 := Lib.hid (show Kd.V (Kd.slice 5 (Kd.int .u8)) 22 w w.heap.size (fun k_ => (P0_ k_ ∨ w.heap.size ≤ k_)) (.slice A0 l0.length c0) l0 from Kd.V_mono hs0 (fun k_ hk => .inl hk))
    have HP := Lib.hid (And.intro hN (And.intro hm (And.intro hl (And.intro hS hnil))))
    clear h hok hs0 hN hm hl hS hnil
    go_enter Tryd.func29, Tryd.ntmps29
    go_wp2_with (first
      | ((with_reducible refine gate_dst (N := 14) rfl ?_); refine Kd.N_lit (Kd.slice 5 (Kd.int .u8)) w.heap.size 22 ?hg (N' := 14) ?hd (xs := ([] : List (List Int))) (inner := []) (ok := (fun k_ => (P0_ k_ ∨ w.heap.size ≤ k_))) (okp := (fun k_ => (P0_ k_ ∨ w.heap.size ≤ k_))) ?hr ?hp (fun _ hk => hk) (.inr (Nat.le_refl _)) (Below.refl _ _) (Nat.le_refl _) (by simp) ?_; (case hd => rfl); (case hg => rfl); (case hr => first | (go_simp; done) | (go_simp; rfl)); (case hp => exact (Reps.none _ _)); intro v126 w4 ho5 hb hg_ hnew_; have H4 := Lib.hid (And.intro ho5 (And.intro hb hnew_)); clear ho5 hb hg_ hnew_)
      | ((with_reducible refine gate_builtin (b := .append) (xs := #[.tmp 14, .tmp 15]) rfl ?_); at_builtin; refine Kd.N_append_rows (Kd.slice 5 (Kd.int .u8)) (w0 := w) w.heap.size rfl (.tmp 14) (.tmp 15) 35 22 (.slice none 0 0) 24 rfl Tryd.underlying35 info_row rfl (by decide) (by omega) v126 [] l0 _ _ _ (fun k_ => (P0_ k_ ∨ w.heap.size ≤ k_)) (fun k_ => (P0_ k_ ∨ w.heap.size ≤ k_) ∧ some k_ ≠ (v126 : Value).ownBlock) rfl rfl H4.out.1 ?aR (fun _ hk => hk) (fun k_ hk => .inr (Nat.le_trans H4.out.2.1.size hk)) H4.out.2.1 H4.out.2.1.size ?aL ?_
         (case aR => exact Kd.V_F (Kd.V_elder' HO0.out (Kd.N_base H4.out.1) H4.out.2.1))
         (case aL => have := HP.out.2.2.1; simp; omega)
         intro v129 w6 ho hb hg hat
         rw [List.nil_append] at ho
         have H6 := Lib.hid (And.intro ho hb)
         clear ho hb hg hat))
    by_cases hemp : l0 = []
    · have hN0 := HP.out.2.2.2.2 hemp
      subst hemp hN0
      obtain ⟨Ae, ce, ee⟩ := Kd.N_slice H6.out.1
      have HE := Lib.hid ee
      clear ee
      go_loopw [7, 18] (fun v7 v18 wr => v18 = .int .i64 0 ∧ v7 = .slice none 0 0 ∧ wr = w6) (fun _ _ _ => 0)
      case atStart => exact ⟨rfl, rfl, rfl⟩
      case round =>
        obtain ⟨rfl, rfl, rfl⟩ := hrel
        go_wp2_with fail
        go_ret2
        exact ⟨_, _, rfl, Kd.N_mono H6.out.1 (fun k hk => ⟨hk, fun e => by cases e⟩), Kd.R_nil _ _ _ _ _, H6.out.2⟩
    · obtain ⟨b, cap, ks0, rfl, hr0⟩ := rows_of_N H6.out.1 (List.length_pos_iff.2 hemp)
      have hE0 : EchAt P0_ w b l0.length cap l0 [] (.slice none 0 0) w6 := ⟨⟨ks0, hr0.mono (fun k hk _ => ⟨hk.1, hk.2, fun e => by cases e⟩) (fun h => h.2.1 rfl)⟩, Kd.R_nil _ _ _ _ _, H6.out.2⟩
      have HE0 := Lib.hid hE0
      clear hr0 hE0 hemp
      go_loopw [7, 18] (fun v7 v18 wr => ∃ k : Nat, k ≤ N ∧ v18 = .int .i64 (k : Int) ∧ Gy.Hd (EchAt P0_ w b l0.length cap (redTo l0 k).1 (redTo l0 k).2 v7 wr)) (fun _ v18 _ => N - (intOf v18).toNat)
      case atStart => exact ⟨0, Nat.zero_le _, rfl, ⟨HE0.out⟩⟩
      case round =>
        obtain ⟨wb, rfl⟩ : ∃ wb, wb = wr := ⟨wr, rfl⟩
        obtain ⟨k, hk, rfl, hx⟩ := hrel
        have HX := Lib.hid hx.out
        clear hx
        by_cases hlt : k < N
        · have t3 := j_lt hlt
          have HJ := Lib.hid hlt
          have HWJ := Lib.hid (up_wrap hlt (by have := HP.out.1; have := HP.out.2.1; omega))
          have hwj := HWJ.out
          have hend := end_row hlt
          have HNX := Lib.hid (redTo_succ l0 k)
          have HIV := Lib.hid (redTo_inv HP.out.2.2.2.1 k)
          generalize redTo l0 k = st at HX HNX HIV
          obtain ⟨R, P⟩ := st
          obtain ⟨A7, c7, e7⟩ := Kd.R_slice HX.out.pl
          rw [List.length_map] at e7
          subst e7
          have HKM := Lib.hid (show k < m by have := HP.out.1; omega)
          obtain ⟨ks, hr0⟩ := HX.out.rows
          have HR := Lib.hid hr0
          clear hr0 hlt
          go_wp2_with fail
          go_loopw [10, 11] (fun v10 v11 wr => ∃ i : Nat, P.length ≤ i ∧ i ≤ l0.length ∧ v11 = .int .i64 (i : Int) ∧ Gy.Hd ((v10 = .int .i64 (-1) ∧ ∀ j, P.length ≤ j → j < i → (R.getD j []).getD k 0 = 0) ∨ (∃ f : Nat, v10 = .int .i64 (f : Int) ∧ firstNz R k P.length = f ∧ f < l0.length ∧ P.length ≤ f ∧ (R.getD f []).getD k 0 ≠ 0)) ∧ wr = wb) (fun _ v11 _ => l0.length - (intOf v11).toNat)
          case atStart => exact ⟨P.length, Nat.le_refl _, HIV.out.2.2, rfl, ⟨.inl ⟨rfl, fun j h1 h2 => by omega⟩⟩, rfl⟩
          case round =>
            obtain ⟨i, h1, h2, rfl, hz, rfl⟩ := hrel
            have HI := Lib.hid (And.intro h1 h2)
            by_cases hil : i < l0.length
            · have t4 := j_lt hil
              have HIL := Lib.hid hil
              have HWI := Lib.hid (up_wrap hil (by have := HP.out.2.2.1; omega))
              have hwi := HWI.out
              have hendi := end_row hil
              rcases hz.out with ⟨rfl, hz1⟩ | ⟨f, rfl, hf1, hf2, hf3, hf4⟩
              · have HZ := Lib.hid hz1
                clear hz hz1
                have hlR : i < R.length := by have := HIV.out.2.1; omega
                obtain ⟨Aj, cj, kj, lj, kc, fz, rdj⟩ := HR.out.at i hlR
                obtain ⟨mj, byj⟩ := HIV.out.1.at hlR
                have ei : R.getD i [] = R[i] := getD_row R i hlR
                rw [mj] at kj lj kc rdj
                generalize R[i] = rj at ei mj byj rdj
                obtain ⟨adj, rfl, hcj⟩ := rdj.2.2 (by have := HKM.out; omega)
                obtain ⟨c, hc, lc⟩ := byj.at k (by rw [mj]; exact HKM.out)
                have kcc := hcj k HKM.out
                have egd : rj.getD k 0 = (c : Int) := by rw [Dense.getD_at rj k (by rw [mj]; exact HKM.out), hc]
                rw [egd] at kcc
                have tk : (k : Int) < (m : Int) := by have := HKM.out; omega
                have HC := Lib.hid (And.intro ei egd)
                clear ei egd mj byj rdj hcj hc lj hlR h1 h2 kj lc hil
                by_cases hc0 : c = 0
                · subst hc0
                  go_wp2_with fail
                  (try rw [HWI.out])
                  exact ⟨⟨i + 1, by have := HI.out.1; omega, HIL.out, by norm_cast, ⟨.inl ⟨rfl, fun j h1 h2 => by
                    by_cases e : j = i
                    · subst e; rw [HC.out.1, HC.out.2]; rfl
                    · exact HZ.out j h1 (by omega)⟩⟩, trivial⟩, hendi⟩
                · have t6 : ((c : Int) == 0) = false := i_beq0 hc0
                  have t7 : ((c : Int) != 0) = true := i_bne0 hc0
                  go_wp2_with fail
                  (try rw [HWI.out])
                  exact ⟨⟨i + 1, by have := HI.out.1; omega, HIL.out, by norm_cast, ⟨.inr ⟨i, rfl, first_eq HI.out.1 (by have := HIV.out.2.1; have := HI.out.2; omega) HZ.out (fun _ => by rw [HC.out.1, HC.out.2]; omega), HIL.out, HI.out.1, by rw [HC.out.1, HC.out.2]; omega⟩⟩, trivial⟩, hendi⟩
              · have HF := Lib.hid (And.intro hf1 (And.intro hf2 (And.intro hf3 hf4)))
                have t5 : decide ((f : Int) < 0) = false := i_lt0 f
                clear hz hf1 hf2 hf3 hf4 hil h1 h2
                go_wp2_with fail
                (try rw [HWI.out])
                exact ⟨⟨i + 1, by have := HI.out.1; omega, HIL.out, by norm_cast, ⟨.inr ⟨f, rfl, HF.out⟩⟩, trivial⟩, hendi⟩
            · have hie : i = l0.length := by omega
              subst hie
              have t4 : decide ((l0.length : Int) < (l0.length : Int)) = false := by simp
              rcases hz.out with ⟨rfl, hz1⟩ | ⟨f, rfl, hf1, hf2, hf3, hf4⟩
              · have HZ := Lib.hid hz1
                clear hz hz1 h1 h2 hil
                go_wp2_with fail
                (try rw [HWJ.out])
                refine ⟨⟨k + 1, HJ.out, by norm_cast, ⟨?_⟩⟩, hend⟩
                have hf := first_eq (R := R) (at_ := k) (top := P.length) (i := l0.length) HIV.out.2.2 (by rw [HIV.out.2.1]; exact Nat.le_refl _) HZ.out (fun h => absurd h (by have := HIV.out.2.1; omega))
                have est : redStep (R, P) k = (R, P) := by
                  unfold redStep
                  simp only [hf]
                  rw [if_neg (by have := HIV.out.2.1; omega)]
                rw [HNX.out, est]
                exact HX.out
              · have t5 : decide ((f : Int) < 0) = false := i_lt0 f
                have HF := Lib.hid hf1
                have hfR : f < R.length := by have := HIV.out.2.1; omega
                have htop : P.length < R.length := by omega
                have htn : P.length < l0.length := by omega
                obtain ⟨Af, cf, kf, lf, kcf, fzf, rdf⟩ := HR.out.at f hfR
                obtain ⟨mf, byf⟩ := HIV.out.1.at hfR
                obtain ⟨At, ct, kt, lt, kct, fzt, rdt⟩ := HR.out.at P.length htop
                obtain ⟨mt, byt⟩ := HIV.out.1.at htop
                have ef : R.getD f [] = R[f] := getD_row R f hfR
                have et : R.getD P.length [] = R[P.length] := getD_row R P.length htop
                rw [mf] at kf lf kcf rdf
                rw [mt] at kt lt kct rdt
                have hef : ElF (okE P0_ w.heap.size b (Value.slice A7 P.length c7).ownBlock) wr (.slice Af m cf) R[f] := HR.out.elem hfR kf rfl
                have het : ElF (okE P0_ w.heap.size b (Value.slice A7 P.length c7).ownBlock) wr (.slice At m ct) R[P.length] := HR.out.elem htop kt rfl
                generalize R[f] = rj at ef mf byf rdf hef
                generalize R[P.length] = rt at et mt byt rdt het
                obtain ⟨adf, rfl, hcf⟩ := rdf.2.2 (by have := HKM.out; omega)
                obtain ⟨c, hc, lc⟩ := byf.at k (by rw [mf]; exact HKM.out)
                have egd : rj.getD k 0 = (c : Int) := by rw [Dense.getD_at rj k (by rw [mf]; exact HKM.out), hc]
                have hc0 : c ≠ 0 := by
                  intro e
                  rw [ef, egd, e] at hf4
                  exact hf4 rfl
                have tk : (k : Int) < (m : Int) := by have := HKM.out; omega
                have tf : (f : Int) < (l0.length : Int) := by omega
                have tt : (P.length : Int) < (l0.length : Int) := by omega
                have HC := Lib.hid (And.intro ef (And.intro egd (And.intro mf (And.intro byf (And.intro lc (And.intro hc0 (And.intro lf (And.intro kf (And.intro et (And.intro kt (And.intro htop (And.intro hfR (And.intro htn (And.intro hf2 hef))))))))))))))
                have hr1 := (HR.out.set f (.slice At m ct) rt het)
                have hex := hef.ext (Ext.set b wr f (.slice At m ct)) HR.out.off
                have hbx : Bx w.heap.size b wr (wr.setCell ⟨b, f, none⟩ (.slice At m ct)) := (Bx.refl _ _ _).setCell HR.out.bas _ _
                have HR1 := Lib.hid (And.intro hr1 (And.intro hex hbx))
                have HKT1 := Lib.hid (show (ks.set f (.slice At m ct))[P.length]? = some (.slice At m ct) by
                  by_cases e : f = P.length
                  · rw [e, List.getElem?_set_self (by have := HR.out.n_pos; omega)]
                  · rw [List.getElem?_set_ne e]; exact kt)
                have HNW := Lib.hid (okE_new HX.out)
                clear hz hf1 hf2 hf3 hf4 hil h1 h2 hr1 hex hbx hef het ef et mf mt byt lt rdt kf kt lf hc egd hcf rdf htop hfR htn
                go_wp2_with fail
                obtain ⟨w1, hw1⟩ : ∃ w1, w1 = wr.setCell ⟨b, f, none⟩ (.slice At m ct) := ⟨_, rfl⟩
                rw [← hw1]
                have HR2 := Lib.hid (show RowsF (okE P0_ w.heap.size b (Value.slice A7 P.length c7).ownBlock) w.heap.size b l0.length cap w1 (ks.set f (.slice At m ct)) (R.set f rt) ∧ ElF (okE P0_ w.heap.size b (Value.slice A7 P.length c7).ownBlock) w1 (.slice (some adf) m cf) rj ∧ Bx w.heap.size b wr w1 by rw [hw1]; exact HR1.out)
                clear hw1 kcf fzf kct fzt
                generalize ks.set f (.slice At m ct) = ks1 at HKT1 HR2
                have hsz1 : w.heap.size ≤ w1.heap.size := Nat.le_trans HX.out.bel.size HR2.out.2.2.size
                have HS1 := Lib.hid hsz1
                have hfr1 : ∀ k', w1.heap.size ≤ k' → okE P0_ w.heap.size b (Value.slice A7 P.length c7).ownBlock k' := fun k' hk' => HNW.out k' (Nat.le_trans HR2.out.2.2.size hk')
                have HFR1 := Lib.hid hfr1
                clear hsz1 hfr1
                have hsc : (scaleL rj (Gy.ginv c)).length = m := (scaleL_length _ _).trans HC.out.2.2.1
                have HRF := Lib.hid (show ∀ w', ElF (okE P0_ w.heap.size b (Value.slice A7 P.length c7).ownBlock) w' (.slice (some adf) m cf) rj → ReadsInt w' .u8 (some adf) m rj from fun w' h => by
                  obtain ⟨A', c', e', _, hF'⟩ := h
                  injection e' with e1 e2 e3
                  have h6 := Gy.reads_of_kd (Kd.F_now hF')
                  rw [← e1, ← e2] at h6
                  exact h6)
                have HCT1 := Lib.hid (fun (w' : World) (h : RowsF (okE P0_ w.heap.size b (Value.slice A7 P.length c7).ownBlock) w.heap.size b l0.length cap w' ks1 (R.set f rt)) => h.cell HKT1.out)
                clear hsc
                have HK0 : Gy.Hd (PutJ (okE P0_ w.heap.size b (Value.slice A7 P.length c7).ownBlock) w.heap.size b l0.length cap w1 ks1 (R.set f rt) P.length (scaleL rj (Gy.ginv c)) (.slice (some adf) m cf) rj false w1.drew) := ⟨Bx.of_below (Gy.drew_below w1) HS1.out, HR2.out.2.1.ext (Ext.of_below (Gy.drew_below w1)) HR2.out.1.off, fun _ => HR2.out.1.below (Gy.drew_below w1), fun h => (by cases h), HR2.out.1.off⟩
                refine Gy.FlowL.flow (by kernel_rfl) (fun i_ => List.getD [(fun v _ => v = .slice (some ⟨b, 0, none⟩) l0.length cap), (fun v _ => v = .int .i64 (P.length : Int)), (fun v _ => v = .slice (some adf) m cf), (fun v _ => v = .int .i64 (m : Int)), (fun v w' => ∃ A, v = .slice A m m ∧ ReadsInt w' .u8 A m (List.replicate m 0) ∧ (∀ ad, A = some ad → 0 < m → ad.block ≠ b)), (fun v _ => v = .slice (some adf) m cf), (fun v _ => v = .slice (some adf) m cf), (fun v _ => v = .int .i64 (k : Int)), (fun v _ => v = .pointer (some (adf.add k))), (fun v _ => v = .int .u8 (c : Int)), (fun v _ => v = .int .u8 ((Gy.ginv c : Nat) : Int)), (fun v w' => ∃ A cq, v = .slice A m cq ∧ ElF (okE P0_ w.heap.size b (Value.slice A7 P.length c7).ownBlock) w' (.slice A m cq) (scaleL rj (Gy.ginv c))), (fun v _ => v = .pointer (some ⟨b, P.length, none⟩)), (fun _ _ => True)] i_ (fun _ _ => True)) (fun L w' => PutJ (okE P0_ w.heap.size b (Value.slice A7 P.length c7).ownBlock) w.heap.size b l0.length cap w1 ks1 (R.set f rt) P.length (scaleL rj (Gy.ginv c)) (.slice (some adf) m cf) rj (L 13) w') (fun w w' => Ext b w w') (by kernel_rfl) HK0.out (Gy.FlowL.mono_list [(fun v _ => v = .slice (some ⟨b, 0, none⟩) l0.length cap), (fun v _ => v = .int .i64 (P.length : Int)), (fun v _ => v = .slice (some adf) m cf), (fun v _ => v = .int .i64 (m : Int)), (fun v w' => ∃ A, v = .slice A m m ∧ ReadsInt w' .u8 A m (List.replicate m 0) ∧ (∀ ad, A = some ad → 0 < m → ad.block ≠ b)), (fun v _ => v = .slice (some adf) m cf), (fun v _ => v = .slice (some adf) m cf), (fun v _ => v = .int .i64 (k : Int)), (fun v _ => v = .pointer (some (adf.add k))), (fun v _ => v = .int .u8 (c : Int)), (fun v _ => v = .int .u8 ((Gy.ginv c : Nat) : Int)), (fun v w' => ∃ A cq, v = .slice A m cq ∧ ElF (okE P0_ w.heap.size b (Value.slice A7 P.length c7).ownBlock) w' (.slice A m cq) (scaleL rj (Gy.ginv c))), (fun v _ => v = .pointer (some ⟨b, P.length, none⟩)), (fun _ _ => True)] ?_) (Gy.FlowL.of_allFrom ⟨?_, ?_, ?_, ?_, ?_, ?_, ?_, ?_, ?_, ?_, ?_, ?_, ?_, ?_, trivial⟩) ?_
                · exact ⟨fun v w w' h hb => h, fun v w w' h hb => h, fun v w w' h hb => h, fun v w w' h hb => h, fun v w' w2 ⟨A, e, h, hn⟩ hb => ⟨A, e, reads_move h (fun ad he h0 => hb.2 _ (reads_block (he ▸ h) h0) (hn ad he h0)), hn⟩, fun v w w' h hb => h, fun v w w' h hb => h, fun v w w' h hb => h, fun v w w' h hb => h, fun v w w' h hb => h, fun v w w' h hb => h, fun v w' w2 ⟨A, c, e, h⟩ hb => ⟨A, c, e, h.ext hb HR2.out.1.off⟩, fun v w w' h hb => h, fun v w w' h hb => h, trivial⟩
                · intro L a w' hD
                  have e6 : a.eval (.tmp 6) = .slice (some ⟨b, 0, none⟩) l0.length cap := hD.same.at_other 6 (by kernel_rfl)
                  exact Gy.FlowL.step_move rfl rfl (Gy.FlowL.wanted_none rfl) e6 hD.J (Ext.refl b w')
                · intro L a w' hD
                  have e9 : a.eval (.tmp 9) = .int .i64 (P.length : Int) := hD.same.at_other 9 (by kernel_rfl)
                  exact Gy.FlowL.step_move rfl rfl (Gy.FlowL.wanted_none rfl) e9 hD.J (Ext.refl b w')
                · intro L a w' hD
                  have e12 : a.eval (.tmp 12) = .slice (some adf) m cf := hD.same.at_other 12 (by kernel_rfl)
                  exact Gy.FlowL.step_move rfl rfl (Gy.FlowL.wanted_none rfl) e12 hD.J (Ext.refl b w')
                · intro L a w' hD
                  have e58 : a.eval (.tmp 58) = .slice (some adf) m cf := hD.at 2 (by kernel_rfl)
                  have f58 := e58; simp only [Act.eval, Array.getD_eq_getD_getElem?] at f58
                  refine Gy.FlowL.step_value rfl (Gy.FlowL.wanted_none rfl) (v := .int .i64 (m : Int)) (w1 := w') ?_ rfl hD.J (Ext.refl b w')
                  simp only [execOp, e58]; go_simp
                · intro L a w' hD
                  have e59 : a.eval (.tmp 59) = .int .i64 (m : Int) := hD.at 3 (by kernel_rfl)
                  have f59 := e59; simp only [Act.eval, Array.getD_eq_getD_getElem?] at f59
                  refine Gy.FlowL.step_value rfl (Gy.FlowL.wanted_none rfl) (v := .slice (some ⟨w'.heap.size, 0, none⟩) m m) (w1 := w'.alloc (.cells (madeCells #[.int .u8 0] m) 5)) ?_ ⟨_, rfl, Gy.made_reads w' _ m (by have := HP.out.2.1; omega), fun ad he _ e => ?_⟩ (hD.J.below (hD.later 13 (by kernel_rfl)) (Gy.alloc_below w' _) HS1.out) (Ext.of_below (Gy.alloc_below w' _))
                  · have hmk := print_make (P := Tryd.prog) 22 5 .u8 1 Tryd.underlying22 info_u8 (by decide) m (by have := HP.out.2.1; omega)
                    simp only [execOp, e59]; go_simp
                  · injection he with he; have h5 := (hD.J.h0 (hD.later 13 (by kernel_rfl))).lt; rw [← he] at e; have e6 : w'.heap.size = b := e; omega
                · intro L a w' hD
                  have e12 : a.eval (.tmp 12) = .slice (some adf) m cf := hD.same.at_other 12 (by kernel_rfl)
                  exact Gy.FlowL.step_move rfl rfl (Gy.FlowL.wanted_none rfl) e12 hD.J (Ext.refl b w')
                · intro L a w' hD
                  have e12 : a.eval (.tmp 12) = .slice (some adf) m cf := hD.same.at_other 12 (by kernel_rfl)
                  exact Gy.FlowL.step_move rfl rfl (Gy.FlowL.wanted_none rfl) e12 hD.J (Ext.refl b w')
                · intro L a w' hD
                  have e8 : a.eval (.tmp 8) = .int .i64 (k : Int) := hD.same.at_other 8 (by kernel_rfl)
                  exact Gy.FlowL.step_move rfl rfl (Gy.FlowL.wanted_none rfl) e8 hD.J (Ext.refl b w')
                · intro L a w' hD
                  have e62 : a.eval (.tmp 62) = .slice (some adf) m cf := hD.at 6 (by kernel_rfl)
                  have e63 : a.eval (.tmp 63) = .int .i64 (k : Int) := hD.at 7 (by kernel_rfl)
                  have f62 := e62; simp only [Act.eval, Array.getD_eq_getD_getElem?] at f62
                  have f63 := e63; simp only [Act.eval, Array.getD_eq_getD_getElem?] at f63
                  refine Gy.FlowL.step_value rfl (Gy.FlowL.wanted_none rfl) (v := .pointer (some (adf.add k))) (w1 := w') ?_ rfl hD.J (Ext.refl b w')
                  simp only [execOp, e62, e63]; go_simp
                · intro L a w' hD
                  have e64 : a.eval (.tmp 64) = .pointer (some (adf.add k)) := hD.at 8 (by kernel_rfl)
                  have k0 := reads_cell (HRF.out w' hD.J.ex) HKM.out HC.out.2.1
                  have f64 := e64; simp only [Act.eval, Array.getD_eq_getD_getElem?] at f64
                  refine Gy.FlowL.step_value rfl (Gy.FlowL.wanted_none rfl) (v := .int .u8 (c : Int)) (w1 := w') ?_ rfl hD.J (Ext.refl b w')
                  simp only [execOp, e64]; go_simp
                · intro L a w' hD
                  have e65 : a.eval (.tmp 65) = .int .u8 (c : Int) := hD.at 9 (by kernel_rfl)
                  have h13 := hD.later 13 (by kernel_rfl)
                  refine Gy.FlowL.step_call (args := #[.int .u8 (c : Int)]) rfl (Gy.FlowL.wanted_none rfl) Tryd.func41 (by kernel_rfl) (by kernel_rfl) rfl (by simp only [List.map_toArray, List.map_cons, List.map_nil, e65]) ?_
                  exact hD.J.inv h13 HS1.out HC.out.2.2.2.2.1 HC.out.2.2.2.2.2.1
                · intro L a w' hD
                  have q60 : (fun v w' => ∃ A, v = .slice A m m ∧ ReadsInt w' .u8 A m (List.replicate m 0) ∧ (∀ ad, A = some ad → 0 < m → ad.block ≠ b)) (a.eval (.tmp 60)) w' := hD.at 4 (by kernel_rfl)
                  obtain ⟨A60, e60, r60, n60⟩ := q60
                  have e61 : a.eval (.tmp 61) = .slice (some adf) m cf := hD.at 5 (by kernel_rfl)
                  have e66 : a.eval (.tmp 66) = .int .u8 ((Gy.ginv c : Nat) : Int) := hD.at 10 (by kernel_rfl)
                  have h13 := hD.later 13 (by kernel_rfl)
                  refine Gy.FlowL.step_call (args := #[.slice A60 m m, .slice (some adf) m cf, .int .u8 ((Gy.ginv c : Nat) : Int)]) rfl (Gy.FlowL.wanted_none rfl) Tryd.func9 (by kernel_rfl) (by kernel_rfl) rfl (by simp only [List.map_toArray, List.map_cons, List.map_nil, e60, e61, e66]) ?_
                  exact hD.J.plus h13 HS1.out HFR1.out r60 (HRF.out w' hD.J.ex) (Nat.le_refl _) HC.out.2.2.2.2.2.2.1 (zeros_by m) HC.out.2.2.2.1 (Gy.ginv_lt HC.out.2.2.2.2.1) (by have := HP.out.2.1; omega) (plus_zeros HC.out.2.2.1 _)
                · intro L a w' hD
                  have e56 : a.eval (.tmp 56) = .slice (some ⟨b, 0, none⟩) l0.length cap := hD.at 0 (by kernel_rfl)
                  have e57 : a.eval (.tmp 57) = .int .i64 (P.length : Int) := hD.at 1 (by kernel_rfl)
                  have f56 := e56; simp only [Act.eval, Array.getD_eq_getD_getElem?] at f56
                  have f57 := e57; simp only [Act.eval, Array.getD_eq_getD_getElem?] at f57
                  refine Gy.FlowL.step_value rfl (Gy.FlowL.wanted_none rfl) (v := .pointer (some ⟨b, P.length, none⟩)) (w1 := w') ?_ rfl hD.J (Ext.refl b w')
                  simp only [execOp, e56, e57]; go_simp
                · intro L a w' hD
                  have e68 : a.eval (.tmp 68) = .pointer (some ⟨b, P.length, none⟩) := hD.at 12 (by kernel_rfl)
                  have q67 : (fun v w' => ∃ A cq, v = .slice A m cq ∧ ElF (okE P0_ w.heap.size b (Value.slice A7 P.length c7).ownBlock) w' (.slice A m cq) (scaleL rj (Gy.ginv c))) (a.eval (.tmp 67)) w' := hD.at 11 (by kernel_rfl)
                  obtain ⟨A67, c67, e67, r67⟩ := q67
                  have hR := hD.J.h0 hD.not
                  have f68 := e68; simp only [Act.eval, Array.getD_eq_getD_getElem?] at f68
                  have f67 := e67; simp only [Act.eval, Array.getD_eq_getD_getElem?] at f67
                  have k0 := HCT1.out w' hR
                  have f0 := hR.free P.length
                  refine Gy.FlowL.step_skip (w1 := w'.setCell ⟨b, P.length, none⟩ (.slice A67 m c67)) rfl (Gy.FlowL.wanted_none rfl) ?_ trivial (hD.J.store hD.not r67) (Ext.set b w' _ _)
                  simp only [execOp, e68, e67]; go_simp
                · intro L a w' hs hJ hL hv
                  have hN1 : PutJ (okE P0_ w.heap.size b (Value.slice A7 P.length c7).ownBlock) w.heap.size b l0.length cap w1 ks1 (R.set f rt) P.length (scaleL rj (Gy.ginv c)) (.slice (some adf) m cf) rj true w' := by
                    have g1 := hL 13 (by decide)
                    rw [g1] at hJ
                    exact hJ
                  have hp := Gy.FlowL.same_puts (by kernel_rfl) hs
                  generalize Gy.FlowL.At _ a = vs at hp
                  obtain ⟨ks2, hR2⟩ := hN1.h1 rfl
                  have htop := HC.out.2.2.2.2.2.2.2.2.2.2.1
                  have hfR := HC.out.2.2.2.2.2.2.2.2.2.2.2.1
                  have en : (R.set f rt).set P.length (scaleL rj (Gy.ginv c)) = normL (swapL R P.length f) P.length k := by
                    unfold normL
                    rw [swapL_at R P.length f htop hfR, HC.out.1, HC.out.2.1, Int.toNat_natCast, ← norm_eq htop hfR, HC.out.2.2.2.2.2.2.2.2.1]
                  rw [en] at hR2
                  have hSl : Slots (normL (swapL R P.length f) P.length k) m := Slots.norm (Slots.swap HIV.out.1 htop hfR) (by rw [swapL_length]; exact htop)
                  have hl2 : (normL (swapL R P.length f) P.length k).length = l0.length := by rw [normL_length, swapL_length]; exact HIV.out.2.1
                  have hbx : Bx w.heap.size b wr w' := HR2.out.2.2.trans hN1.bx
                  have est : redStep (R, P) k = (subL (normL (swapL R P.length f) P.length k) P.length k, P ++ [k]) := by
                    unfold redStep
                    simp only [HF.out]
                    rw [if_pos hfR]
                  have HEST := Lib.hid est
                  clear est en hv hs hJ hN1 hL htop hfR
                  generalize normL (swapL R P.length f) P.length k = R2 at hR2 hSl hl2 HEST
                  obtain ⟨rf0, hrf0⟩ : ∃ rf0, rf0 = R2.getD P.length [] := ⟨_, rfl⟩
                  have HRF0 := Lib.hid hrf0
                  have htop2 : P.length < R2.length := by have := HC.out.2.2.2.2.2.2.2.2.2.2.2.2.1; omega
                  obtain ⟨mf2, byf2⟩ := hSl.at htop2
                  have erf : R2[P.length] = rf0 := by rw [hrf0]; exact (getD_row R2 P.length htop2).symm
                  rw [erf] at mf2 byf2
                  have HR3 := Lib.hid (And.intro hR2 (And.intro hSl (And.intro hl2 (And.intro hbx (And.intro htop2 (And.intro mf2 (And.intro byf2 erf)))))))
                  clear hR2 hSl hl2 hbx hrf0 mf2 byf2 erf
                  obtain ⟨wc, rfl⟩ : ∃ wc, wc = wr := ⟨wr, rfl⟩
                  subst hp
                  simp only [Gy.FlowL.puts, Act.put, List.setIfInBounds_toArray, List.set_cons_zero, List.set_cons_succ]
                  go_wp2_with fail
                  go_loopw [71] (fun v71 wr => ∃ i : Nat, i ≤ l0.length ∧ v71 = .int .i64 (i : Int) ∧ Gy.Hd ((∃ ks3, RowsF (okE P0_ w.heap.size b (Value.slice A7 P.length c7).ownBlock) w.heap.size b l0.length cap wr ks3 (subTo R2 rf0 P.length k i)) ∧ Bx w.heap.size b wc wr)) (fun v71 _ => l0.length - (intOf v71).toNat)
                  case atStart => exact ⟨0, Nat.zero_le _, rfl, ⟨⟨ks2, by rw [subTo_zero]; exact HR3.out.1⟩, HR3.out.2.2.2.1⟩⟩
                  case round =>
                    obtain ⟨i, hi, rfl, hx⟩ := hrel
                    obtain ⟨⟨ks', hR⟩, hB⟩ := hx.out
                    by_cases hil : i < l0.length
                    · have t4 := j_lt hil
                      have hiR : i < R2.length := by have := HR3.out.2.2.1; omega
                      have hifl : i < (subTo R2 rf0 P.length k i).length := by rw [subTo_length]; exact hiR
                      have hffl : P.length < (subTo R2 rf0 P.length k i).length := by rw [subTo_length]; exact HR3.out.2.2.2.2.1
                      obtain ⟨Ai, ci, ki, li, k0, fz, rdi⟩ := hR.at i hifl
                      obtain ⟨Ag, cg, kg, lg, k1, _, rdg⟩ := hR.at P.length hffl
                      have ei := subTo_k (rf := rf0) (f := P.length) (at_ := k) hiR
                      have eg := (subTo_f (rows := R2) (rf := rf0) (at_ := k) (k := i) HR3.out.2.2.2.2.1).trans HR3.out.2.2.2.2.2.2.2
                      obtain ⟨mi, byi⟩ := HR3.out.2.1.at hiR
                      rw [ei, mi] at ki li k0 rdi
                      rw [eg, HR3.out.2.2.2.2.2.1] at kg lg k1 rdg
                      have hnx := subTo_next rf0 P.length k i hiR
                      have hsame : subAt rf0 P.length k i R2[i] = R2[i] → subTo R2 rf0 P.length k (i + 1) = subTo R2 rf0 P.length k i := subTo_same hiR
                      generalize R2[i] = ri at ei mi byi rdi hnx hsame
                      obtain ⟨adi, rfl, hci⟩ := rdi.2.2 (by have := HKM.out; omega)
                      obtain ⟨c', hc', lc'⟩ := byi.at k (by rw [mi]; exact HKM.out)
                      have kc := hci k HKM.out
                      have egd : ri.getD k 0 = (c' : Int) := by rw [Dense.getD_at ri k (by rw [mi]; exact HKM.out), hc']
                      rw [egd] at kc
                      have HD := Lib.hid (And.intro egd (And.intro mi (And.intro byi (And.intro lc' (And.intro li lg)))))
                      have HX3 := Lib.hid (And.intro hR hB)
                      have HIL := Lib.hid hil
                      have HWI := Lib.hid (up_wrap hil (by have := HP.out.2.2.1; omega))
                      have hwi := HWI.out
                      have hendi := end_row hil
                      have HNX3 := Lib.hid (And.intro hnx hsame)
                      have HCF := Lib.hid (fun (w' : World) (h : RowsF (okE P0_ w.heap.size b (Value.slice A7 P.length c7).ownBlock) w.heap.size b l0.length cap w' ks' (subTo R2 rf0 P.length k i)) => h.cell kg)
                      have HST := Lib.hid (fun (w' : World) (h : RowsF (okE P0_ w.heap.size b (Value.slice A7 P.length c7).ownBlock) w.heap.size b l0.length cap w' ks' (subTo R2 rf0 P.length k i)) => h.cell ki)
                      have HRI := Lib.hid (fun (w' : World) (h : RowsF (okE P0_ w.heap.size b (Value.slice A7 P.length c7).ownBlock) w.heap.size b l0.length cap w' ks' (subTo R2 rf0 P.length k i)) => h.reads hifl ki ei)
                      have HRG := Lib.hid (fun (w' : World) (h : RowsF (okE P0_ w.heap.size b (Value.slice A7 P.length c7).ownBlock) w.heap.size b l0.length cap w' ks' (subTo R2 rf0 P.length k i)) => h.reads hffl kg eg)
                      have HEX := Lib.hid (hR.elem hifl ki ei)
                      clear hx hR hB hil hifl hffl kg li lg rdi rdg ei eg mi byi hci hc' egd hnx hsame lc' ki hiR
                      by_cases hif : i = P.length
                      · subst hif
                        have t5 : ((P.length : Int) == (P.length : Int)) = true := by simp
                        have t6 : ((P.length : Int) != (P.length : Int)) = false := by simp
                        have hsm : subTo R2 rf0 P.length k (P.length + 1) = subTo R2 rf0 P.length k P.length := HNX3.out.2 (by unfold subAt; rw [if_neg (by simp)])
                        have HSM := Lib.hid hsm
                        clear hsm
                        go_wp2_with fail
                        (try rw [HWI.out])
                        exact ⟨⟨P.length + 1, HIL.out, by norm_cast, ⟨⟨ks', by rw [HSM.out]; exact HX3.out.1⟩, HX3.out.2⟩⟩, hendi⟩
                      · have t5 : ((i : Int) == (P.length : Int)) = false := i_beq hif
                        have t6 : ((i : Int) != (P.length : Int)) = true := i_bne hif
                        by_cases hc0 : c' = 0
                        · subst hc0
                          have hsm : subTo R2 rf0 P.length k (i + 1) = subTo R2 rf0 P.length k i := HNX3.out.2 (by unfold subAt; rw [HD.out.1, if_neg (by simp)])
                          have HSM := Lib.hid hsm
                          clear hsm
                          go_wp2_with fail
                          (try rw [HWI.out])
                          exact ⟨⟨i + 1, HIL.out, by norm_cast, ⟨⟨ks', by rw [HSM.out]; exact HX3.out.1⟩, HX3.out.2⟩⟩, hendi⟩
                        · have t7 : ((c' : Int) == 0) = false := i_beq0 hc0
                          have t8 : ((c' : Int) != 0) = true := i_bne0 hc0
                          have hst : subTo R2 rf0 P.length k (i + 1) = (subTo R2 rf0 P.length k i).set i (plusL ri rf0 c') := by
                            rw [HNX3.out.1]; unfold subAt; rw [HD.out.1, if_pos ⟨hif, by omega⟩, Int.toNat_natCast]
                          have HST2 := Lib.hid hst
                          clear hst
                          have hsz3 : w.heap.size ≤ wr.heap.size := Nat.le_trans HX.out.bel.size HX3.out.2.size
                          have HS3 := Lib.hid hsz3
                          have hfr3 : ∀ k', wr.heap.size ≤ k' → okE P0_ w.heap.size b (Value.slice A7 P.length c7).ownBlock k' := fun k' hk' => HNW.out k' (Nat.le_trans HX3.out.2.size hk')
                          have HFR3 := Lib.hid hfr3
                          clear hsz3 hfr3
                          go_wp2_with fail
                          have HJ3 : Gy.Hd (PutJ (okE P0_ w.heap.size b (Value.slice A7 P.length c7).ownBlock) w.heap.size b l0.length cap wr ks' (subTo R2 rf0 P.length k i) i (plusL ri rf0 c') (.slice (some adi) m ci) ri false wr.drew) := ⟨Bx.of_below (Gy.drew_below wr) HS3.out, HEX.out.ext (Ext.of_below (Gy.drew_below wr)) HX3.out.1.off, fun _ => HX3.out.1.below (Gy.drew_below wr), fun h => (by cases h), HX3.out.1.off⟩
                          refine Gy.FlowL.flow (by kernel_rfl) (fun i_ => List.getD [(fun v _ => v = .slice (some ⟨b, 0, none⟩) l0.length cap), (fun v _ => v = .int .i64 (i : Int)), (fun v _ => v = .slice (some ⟨b, 0, none⟩) l0.length cap), (fun v _ => v = .int .i64 (i : Int)), (fun v _ => v = .pointer (some ⟨b, i, none⟩)), (fun v _ => v = .slice (some adi) m ci), (fun v _ => v = .slice (some ⟨b, 0, none⟩) l0.length cap), (fun v _ => v = .int .i64 (P.length : Int)), (fun v _ => v = .pointer (some ⟨b, P.length, none⟩)), (fun v _ => v = .slice Ag m cg), (fun v _ => v = .slice (some ⟨b, 0, none⟩) l0.length cap), (fun v _ => v = .int .i64 (i : Int)), (fun v _ => v = .pointer (some ⟨b, i, none⟩)), (fun v _ => v = .slice (some adi) m ci), (fun v _ => v = .int .i64 (k : Int)), (fun v _ => v = .pointer (some (adi.add k))), (fun v _ => v = .int .u8 (c' : Int)), (fun v w' => ∃ A cq, v = .slice A m cq ∧ ElF (okE P0_ w.heap.size b (Value.slice A7 P.length c7).ownBlock) w' (.slice A m cq) (plusL ri rf0 c')), (fun v _ => v = .pointer (some ⟨b, i, none⟩)), (fun _ _ => True)] i_ (fun _ _ => True)) (fun L w' => PutJ (okE P0_ w.heap.size b (Value.slice A7 P.length c7).ownBlock) w.heap.size b l0.length cap wr ks' (subTo R2 rf0 P.length k i) i (plusL ri rf0 c') (.slice (some adi) m ci) ri (L 19) w') (fun w w' => Ext b w w') (by kernel_rfl) HJ3.out (Gy.FlowL.mono_list [(fun v _ => v = .slice (some ⟨b, 0, none⟩) l0.length cap), (fun v _ => v = .int .i64 (i : Int)), (fun v _ => v = .slice (some ⟨b, 0, none⟩) l0.length cap), (fun v _ => v = .int .i64 (i : Int)), (fun v _ => v = .pointer (some ⟨b, i, none⟩)), (fun v _ => v = .slice (some adi) m ci), (fun v _ => v = .slice (some ⟨b, 0, none⟩) l0.length cap), (fun v _ => v = .int .i64 (P.length : Int)), (fun v _ => v = .pointer (some ⟨b, P.length, none⟩)), (fun v _ => v = .slice Ag m cg), (fun v _ => v = .slice (some ⟨b, 0, none⟩) l0.length cap), (fun v _ => v = .int .i64 (i : Int)), (fun v _ => v = .pointer (some ⟨b, i, none⟩)), (fun v _ => v = .slice (some adi) m ci), (fun v _ => v = .int .i64 (k : Int)), (fun v _ => v = .pointer (some (adi.add k))), (fun v _ => v = .int .u8 (c' : Int)), (fun v w' => ∃ A cq, v = .slice A m cq ∧ ElF (okE P0_ w.heap.size b (Value.slice A7 P.length c7).ownBlock) w' (.slice A m cq) (plusL ri rf0 c')), (fun v _ => v = .pointer (some ⟨b, i, none⟩)), (fun _ _ => True)] ?_) (Gy.FlowL.of_allFrom ⟨?_, ?_, ?_, ?_, ?_, ?_, ?_, ?_, ?_, ?_, ?_, ?_, ?_, ?_, ?_, ?_, ?_, ?_, ?_, ?_, trivial⟩) ?_
                          · exact ⟨fun v w w' h hb => h, fun v w w' h hb => h, fun v w w' h hb => h, fun v w w' h hb => h, fun v w w' h hb => h, fun v w w' h hb => h, fun v w w' h hb => h, fun v w w' h hb => h, fun v w w' h hb => h, fun v w w' h hb => h, fun v w w' h hb => h, fun v w w' h hb => h, fun v w w' h hb => h, fun v w w' h hb => h, fun v w w' h hb => h, fun v w w' h hb => h, fun v w w' h hb => h, fun v w' w2 ⟨A, c, e, h⟩ hb => ⟨A, c, e, h.ext hb HX3.out.1.off⟩, fun v w w' h hb => h, fun v w w' h hb => h, trivial⟩
                          · intro L a w' hD
                            have e6 : a.eval (.tmp 6) = .slice (some ⟨b, 0, none⟩) l0.length cap := hD.same.at_other 6 (by kernel_rfl)
                            exact Gy.FlowL.step_move rfl rfl (Gy.FlowL.wanted_none rfl) e6 hD.J (Ext.refl b w')
                          · intro L a w' hD
                            have e13 : a.eval (.tmp 13) = .int .i64 (i : Int) := hD.same.at_other 13 (by kernel_rfl)
                            exact Gy.FlowL.step_move rfl rfl (Gy.FlowL.wanted_none rfl) e13 hD.J (Ext.refl b w')
                          · intro L a w' hD
                            have e6 : a.eval (.tmp 6) = .slice (some ⟨b, 0, none⟩) l0.length cap := hD.same.at_other 6 (by kernel_rfl)
                            exact Gy.FlowL.step_move rfl rfl (Gy.FlowL.wanted_none rfl) e6 hD.J (Ext.refl b w')
                          · intro L a w' hD
                            have e13 : a.eval (.tmp 13) = .int .i64 (i : Int) := hD.same.at_other 13 (by kernel_rfl)
                            exact Gy.FlowL.step_move rfl rfl (Gy.FlowL.wanted_none rfl) e13 hD.J (Ext.refl b w')
                          · intro L a w' hD
                            have e89 : a.eval (.tmp 89) = .slice (some ⟨b, 0, none⟩) l0.length cap := hD.at 2 (by kernel_rfl)
                            have e90 : a.eval (.tmp 90) = .int .i64 (i : Int) := hD.at 3 (by kernel_rfl)
                            have f89 := e89; simp only [Act.eval, Array.getD_eq_getD_getElem?] at f89
                            have f90 := e90; simp only [Act.eval, Array.getD_eq_getD_getElem?] at f90
                            refine Gy.FlowL.step_value rfl (Gy.FlowL.wanted_none rfl) (v := .pointer (some ⟨b, i, none⟩)) (w1 := w') ?_ rfl hD.J (Ext.refl b w')
                            simp only [execOp, e89, e90]; go_simp
                          · intro L a w' hD
                            have e91 : a.eval (.tmp 91) = .pointer (some ⟨b, i, none⟩) := hD.at 4 (by kernel_rfl)
                            have hR := hD.J.h0 (hD.later 19 (by kernel_rfl))
                            have k0 := HST.out w' hR
                            have f91 := e91; simp only [Act.eval, Array.getD_eq_getD_getElem?] at f91
                            refine Gy.FlowL.step_value rfl (Gy.FlowL.wanted_none rfl) (v := .slice (some adi) m ci) (w1 := w') ?_ rfl hD.J (Ext.refl b w')
                            simp only [execOp, e91]; go_simp
                          · intro L a w' hD
                            have e6 : a.eval (.tmp 6) = .slice (some ⟨b, 0, none⟩) l0.length cap := hD.same.at_other 6 (by kernel_rfl)
                            exact Gy.FlowL.step_move rfl rfl (Gy.FlowL.wanted_none rfl) e6 hD.J (Ext.refl b w')
                          · intro L a w' hD
                            have e9 : a.eval (.tmp 9) = .int .i64 (P.length : Int) := hD.same.at_other 9 (by kernel_rfl)
                            exact Gy.FlowL.step_move rfl rfl (Gy.FlowL.wanted_none rfl) e9 hD.J (Ext.refl b w')
                          · intro L a w' hD
                            have e93 : a.eval (.tmp 93) = .slice (some ⟨b, 0, none⟩) l0.length cap := hD.at 6 (by kernel_rfl)
                            have e94 : a.eval (.tmp 94) = .int .i64 (P.length : Int) := hD.at 7 (by kernel_rfl)
                            have f93 := e93; simp only [Act.eval, Array.getD_eq_getD_getElem?] at f93
                            have f94 := e94; simp only [Act.eval, Array.getD_eq_getD_getElem?] at f94
                            refine Gy.FlowL.step_value rfl (Gy.FlowL.wanted_none rfl) (v := .pointer (some ⟨b, P.length, none⟩)) (w1 := w') ?_ rfl hD.J (Ext.refl b w')
                            simp only [execOp, e93, e94]; go_simp
                          · intro L a w' hD
                            have e95 : a.eval (.tmp 95) = .pointer (some ⟨b, P.length, none⟩) := hD.at 8 (by kernel_rfl)
                            have hR := hD.J.h0 (hD.later 19 (by kernel_rfl))
                            have k0 := HCF.out w' hR
                            have f95 := e95; simp only [Act.eval, Array.getD_eq_getD_getElem?] at f95
                            refine Gy.FlowL.step_value rfl (Gy.FlowL.wanted_none rfl) (v := .slice Ag m cg) (w1 := w') ?_ rfl hD.J (Ext.refl b w')
                            simp only [execOp, e95]; go_simp
                          · intro L a w' hD
                            have e6 : a.eval (.tmp 6) = .slice (some ⟨b, 0, none⟩) l0.length cap := hD.same.at_other 6 (by kernel_rfl)
                            exact Gy.FlowL.step_move rfl rfl (Gy.FlowL.wanted_none rfl) e6 hD.J (Ext.refl b w')
                          · intro L a w' hD
                            have e13 : a.eval (.tmp 13) = .int .i64 (i : Int) := hD.same.at_other 13 (by kernel_rfl)
                            exact Gy.FlowL.step_move rfl rfl (Gy.FlowL.wanted_none rfl) e13 hD.J (Ext.refl b w')
                          · intro L a w' hD
                            have e97 : a.eval (.tmp 97) = .slice (some ⟨b, 0, none⟩) l0.length cap := hD.at 10 (by kernel_rfl)
                            have e98 : a.eval (.tmp 98) = .int .i64 (i : Int) := hD.at 11 (by kernel_rfl)
                            have f97 := e97; simp only [Act.eval, Array.getD_eq_getD_getElem?] at f97
                            have f98 := e98; simp only [Act.eval, Array.getD_eq_getD_getElem?] at f98
                            refine Gy.FlowL.step_value rfl (Gy.FlowL.wanted_none rfl) (v := .pointer (some ⟨b, i, none⟩)) (w1 := w') ?_ rfl hD.J (Ext.refl b w')
                            simp only [execOp, e97, e98]; go_simp
                          · intro L a w' hD
                            have e99 : a.eval (.tmp 99) = .pointer (some ⟨b, i, none⟩) := hD.at 12 (by kernel_rfl)
                            have hR := hD.J.h0 (hD.later 19 (by kernel_rfl))
                            have k0 := HST.out w' hR
                            have f99 := e99; simp only [Act.eval, Array.getD_eq_getD_getElem?] at f99
                            refine Gy.FlowL.step_value rfl (Gy.FlowL.wanted_none rfl) (v := .slice (some adi) m ci) (w1 := w') ?_ rfl hD.J (Ext.refl b w')
                            simp only [execOp, e99]; go_simp
                          · intro L a w' hD
                            have e8 : a.eval (.tmp 8) = .int .i64 (k : Int) := hD.same.at_other 8 (by kernel_rfl)
                            exact Gy.FlowL.step_move rfl rfl (Gy.FlowL.wanted_none rfl) e8 hD.J (Ext.refl b w')
                          · intro L a w' hD
                            have e100 : a.eval (.tmp 100) = .slice (some adi) m ci := hD.at 13 (by kernel_rfl)
                            have e101 : a.eval (.tmp 101) = .int .i64 (k : Int) := hD.at 14 (by kernel_rfl)
                            have f100 := e100; simp only [Act.eval, Array.getD_eq_getD_getElem?] at f100
                            have f101 := e101; simp only [Act.eval, Array.getD_eq_getD_getElem?] at f101
                            refine Gy.FlowL.step_value rfl (Gy.FlowL.wanted_none rfl) (v := .pointer (some (adi.add k))) (w1 := w') ?_ rfl hD.J (Ext.refl b w')
                            simp only [execOp, e100, e101]; go_simp
                          · intro L a w' hD
                            have e102 : a.eval (.tmp 102) = .pointer (some (adi.add k)) := hD.at 15 (by kernel_rfl)
                            have hR := hD.J.h0 (hD.later 19 (by kernel_rfl))
                            have k0 := reads_cell (HRI.out w' hR) HKM.out HD.out.1
                            have f102 := e102; simp only [Act.eval, Array.getD_eq_getD_getElem?] at f102
                            refine Gy.FlowL.step_value rfl (Gy.FlowL.wanted_none rfl) (v := .int .u8 (c' : Int)) (w1 := w') ?_ rfl hD.J (Ext.refl b w')
                            simp only [execOp, e102]; go_simp
                          · intro L a w' hD
                            have e92 : a.eval (.tmp 92) = .slice (some adi) m ci := hD.at 5 (by kernel_rfl)
                            have e96 : a.eval (.tmp 96) = .slice Ag m cg := hD.at 9 (by kernel_rfl)
                            have e103 : a.eval (.tmp 103) = .int .u8 (c' : Int) := hD.at 16 (by kernel_rfl)
                            have h19 := hD.later 19 (by kernel_rfl)
                            have hR := hD.J.h0 h19
                            refine Gy.FlowL.step_call (args := #[.slice (some adi) m ci, .slice Ag m cg, .int .u8 (c' : Int)]) rfl (Gy.FlowL.wanted_none rfl) Tryd.func9 (by kernel_rfl) (by kernel_rfl) rfl (by simp only [List.map_toArray, List.map_cons, List.map_nil, e92, e96, e103]) ?_
                            exact hD.J.plus h19 HS3.out HFR3.out (HRI.out w' hR) (HRG.out w' hR) HD.out.2.2.2.2.1 HD.out.2.2.2.2.2 HD.out.2.2.1 HR3.out.2.2.2.2.2.2.1 HD.out.2.2.2.1 (by have := HP.out.2.1; omega) rfl
                          · intro L a w' hD
                            have e87 : a.eval (.tmp 87) = .slice (some ⟨b, 0, none⟩) l0.length cap := hD.at 0 (by kernel_rfl)
                            have e88 : a.eval (.tmp 88) = .int .i64 (i : Int) := hD.at 1 (by kernel_rfl)
                            have f87 := e87; simp only [Act.eval, Array.getD_eq_getD_getElem?] at f87
                            have f88 := e88; simp only [Act.eval, Array.getD_eq_getD_getElem?] at f88
                            refine Gy.FlowL.step_value rfl (Gy.FlowL.wanted_none rfl) (v := .pointer (some ⟨b, i, none⟩)) (w1 := w') ?_ rfl hD.J (Ext.refl b w')
                            simp only [execOp, e87, e88]; go_simp
                          · intro L a w' hD
                            have e105 : a.eval (.tmp 105) = .pointer (some ⟨b, i, none⟩) := hD.at 18 (by kernel_rfl)
                            have q104 : (fun v w' => ∃ A cq, v = .slice A m cq ∧ ElF (okE P0_ w.heap.size b (Value.slice A7 P.length c7).ownBlock) w' (.slice A m cq) (plusL ri rf0 c')) (a.eval (.tmp 104)) w' := hD.at 17 (by kernel_rfl)
                            obtain ⟨A104, c104, e104, r104⟩ := q104
                            have hR := hD.J.h0 hD.not
                            have f105 := e105; simp only [Act.eval, Array.getD_eq_getD_getElem?] at f105
                            have f104 := e104; simp only [Act.eval, Array.getD_eq_getD_getElem?] at f104
                            have k0 := HST.out w' hR
                            have f0 := hR.free i
                            refine Gy.FlowL.step_skip (w1 := w'.setCell ⟨b, i, none⟩ (.slice A104 m c104)) rfl (Gy.FlowL.wanted_none rfl) ?_ trivial (hD.J.store hD.not r104) (Ext.set b w' _ _)
                            simp only [execOp, e105, e104]; go_simp
                          · intro L a w' hs hJ hL hv
                            have hN2 : PutJ (okE P0_ w.heap.size b (Value.slice A7 P.length c7).ownBlock) w.heap.size b l0.length cap wr ks' (subTo R2 rf0 P.length k i) i (plusL ri rf0 c') (.slice (some adi) m ci) ri true w' := by
                              have g1 := hL 19 (by decide)
                              rw [g1] at hJ
                              exact hJ
                            have hp := Gy.FlowL.same_puts (by kernel_rfl) hs
                            obtain ⟨ks4, hR4⟩ := hN2.h1 rfl
                            have HR4 := Lib.hid (And.intro hR4 (HX3.out.2.trans hN2.bx))
                            generalize Gy.FlowL.At _ a = vs2 at hp
                            clear hv hs hJ hL hN2 hR4
                            subst hp
                            simp only [Gy.FlowL.puts, Act.put, List.setIfInBounds_toArray, List.set_cons_zero, List.set_cons_succ]
                            go_wp2_with fail
                            (try rw [HWI.out])
                            exact ⟨⟨i + 1, HIL.out, by norm_cast, ⟨⟨ks4, by rw [HST2.out]; exact HR4.out.1⟩, HR4.out.2⟩⟩, hendi⟩
                    · have hie : i = l0.length := by omega
                      subst hie
                      have t4 : decide ((l0.length : Int) < (l0.length : Int)) = false := by simp
                      have HX3 := Lib.hid (And.intro hR hB)
                      clear hx hR hB hi hil
                      go_wp2_with
                        (at_builtin; refine Kd.R_append (Kd.int .i64) (w0 := wr) w.heap.size rfl (.tmp 107) (.tmp 109) 49 3 (.int .i64 0) 8 rfl Tryd.underlying49 info_int rfl (by decide) (by omega) (.slice A7 P.length c7) (P.map Int.ofNat) (k : Int) [.int .i64 (k : Int)] (fun k => w.heap.size ≤ k) (fun _ => False) rfl rfl ?aP (fun _ h => h.elim) ?aF (pl_keep HX.out.pl HR.out.own HX3.out.2.ext) (Below.refl _ _) ?aS ?aL ?_
                         (case aP => rfl)
                         (case aF => exact fun k' hk' => Nat.le_trans (Nat.le_trans HX.out.bel.size HX3.out.2.size) hk')
                         (case aS => exact Nat.le_trans HX.out.bel.size HX3.out.2.size)
                         (case aL => have := HIV.out.2.2; have := HP.out.2.2.1; rw [List.length_map]; omega)
                         intro v5 w5 hr5 hb5 hg5 hat5
                         have H5 := Lib.hid (And.intro hr5 (And.intro hb5 (And.intro hg5 hat5)))
                         clear hr5 hb5 hg5 hat5)
                      (try rw [HWJ.out])
                      refine ⟨⟨k + 1, HJ.out, by norm_cast, ⟨?_⟩⟩, hend⟩
                      rw [HNX.out, HEST.out]
                      have hsub : subTo R2 rf0 P.length k l0.length = subL R2 P.length k := by unfold subL; rw [← HRF0.out, HR3.out.2.2.1]
                      have hr3 := HX3.out.1
                      rw [hsub] at hr3
                      exact HX.out.next hr3 HX3.out.2 H5.out.1 H5.out.2.1 H5.out.2.2.1 H5.out.2.2.2
        · obtain rfl : k = N := Nat.le_antisymm hk (Nat.le_of_not_lt hlt)
          have t3 : decide ((k : Int) < (k : Int)) = false := by simp
          go_wp2_with fail
          go_ret2
          obtain ⟨ks, hr0⟩ := HX.out.rows
          obtain ⟨inner, hin⟩ := Kd.R_own HX.out.pl
          exact ⟨_, _, rfl, N_of_rows hr0 ⟨.inr hr0.bas, typed_ne hr0.own hin (by decide) rfl⟩ (fun k' hk' => ⟨hk'.1, hk'.2.2⟩), HX.out.pl, HX.out.bel⟩
  · cases h
end Go.Proofs.YtcmigmldecacpaaDoor.Giv
/- Machine-made by a program of this claim: functions of the Go program as Lean functions, and that its calls do what these say. Lean checks it. -/
namespace Go.Proofs.YtcmigmldecacpaaDoor.QWrong
open Go.RowKit Go.Proofs.YtcmigmldecacpaaDoorW.PrintWords Go.Proofs.YtcmigmldecacpaaDoorW.PrintLast Go.Proofs.YtcmigmldecacpaaDoorW.PrintMore
attribute [local go_sem] max2_int min2_int max_two min_two max_three min_three max_four min_four   -- for this text's walks alone
set_option linter.unusedVariables false
set_option linter.unusedSimpArgs false



def errW : Option Int → Value
  | none => .nilIface
  | some c => .iface 0 (.int .i64 c)
theorem errW_none : errW none = .nilIface := rfl
theorem errW_some (c : Int) : errW (some c) = .iface 0 (.int .i64 c) := rfl

-- the values' own types
def rd_L1 (xs : List (List Int)) (i : Int) : (List Int) := xs.getD i.toNat ([] : List Int)
theorem at_L1 {w : World} {A : Option Addr} {n : Nat} {xs : List (List Int)} (h : Kd.C (Kd.slice 5 (Kd.int .u8)) w A n xs) (i : Int) (h0 : 0 ≤ i) (h1 : i < n) : ∃ ad A0 c0, A = some ad ∧ w.cell? (ad.add i.toNat) = some (.slice A0 (rd_L1 xs i).length c0) ∧ (rd_L1 xs i).length ≤ c0 ∧ (Kd.int .u8).C w A0 (rd_L1 xs i).length (rd_L1 xs i) := by
  obtain ⟨ad, c, e, _, hK, hc0⟩ := Kd.C_get h ([] : List Int) i h0 h1
  have hc : ∀ j u, c[j]? = some u → w.cell? (ad.add (i.toNat * 1 + j)) = some u := hc0
  obtain ⟨A0, c0, rfl, l0, g0⟩ := hK
  exact ⟨ad, A0, c0, e, by have hq := hc 0 _ rfl; rwa [Nat.mul_one, Nat.add_zero] at hq, l0, g0⟩

end Go.Proofs.YtcmigmldecacpaaDoor.QWrong
/- Machine-made by a program of this claim: functions of the Go program as Lean functions, and that its calls do what these say. Lean checks it. -/
namespace Go.Proofs.YtcmigmldecacpaaDoor.QWrong
open Go.RowKit Go.Proofs.YtcmigmldecacpaaDoorW.PrintWords Go.Proofs.YtcmigmldecacpaaDoorW.PrintLast Go.Proofs.YtcmigmldecacpaaDoorW.PrintMore
attribute [local go_sem] max2_int min2_int max_two min_two max_three min_three max_four min_four   -- for this text's walks alone
set_option linter.unusedVariables false
set_option linter.unusedSimpArgs false

/-! ### dense_wrong: function 26 -/
mutual
def dense_wrong.j0 : Nat → List (List Int) → List (List Int) → Int → Bool → Option (Bool)
  | 0, _, _, _, _ => none
  | k + 1, x0, x1, x2, x17 => if x17 = true then (some true) else (dense_wrong.l0 k x1 x2 x0 (x0.length : Int) 0)
def dense_wrong.l0 : Nat → List (List Int) → Int → List (List Int) → Int → Int → Option (Bool)
  | 0, _, _, _, _, _ => none
  | k + 1, x1, x2, x18, x19, x20 => if x20 < x19 then (if 0 ≤ x20 then (if x20 < (x18.length : Int) then (if ((rd_L1 x18 x20).length : Int) > x2 then (some true) else (if x20 < (x1.length : Int) then (if 0 < (x1.length : Int) then (if ((rd_L1 x1 x20).length : Int) = ((rd_L1 x1 0).length : Int) then (dense_wrong.l0 k x1 x2 x18 x19 (wrap64 (x20 + 1))) else (some true)) else (none)) else (none))) else (none)) else (none)) else (some false)
end
def dense_wrong.f (k : Nat) (l0 : List (List Int)) (l1 : List (List Int)) (a2 : Int) : Option (Bool) := if a2 < 0 then (dense_wrong.j0 k l0 l1 a2 true) else (dense_wrong.j0 k l0 l1 a2 ((l0.length : Int) != (l1.length : Int)))
theorem dense_wrong.mono_l : ∀ k, (∀ y0 y1 y2 y3, LeO (dense_wrong.j0 k y0 y1 y2 y3) (dense_wrong.j0 (k + 1) y0 y1 y2 y3)) ∧ (∀ y0 y1 y2 y3 y4, LeO (dense_wrong.l0 k y0 y1 y2 y3 y4) (dense_wrong.l0 (k + 1) y0 y1 y2 y3 y4))
  | 0 => ⟨fun _ _ _ _ r h => by simp [dense_wrong.j0] at h, fun _ _ _ _ _ r h => by simp [dense_wrong.l0] at h⟩
  | k + 1 => by
    obtain ⟨ih0, ih1⟩ := dense_wrong.mono_l k
    refine ⟨?_, ?_⟩
    · intro y0 y1 y2 y3
      unfold dense_wrong.j0
      repeat' first
      | (with_reducible exact ih0 _ _ _ _)
      | (with_reducible exact ih1 _ _ _ _ _)
      | (with_reducible exact LeO.refl _)
      | (with_reducible exact LeO.none _)
      | (with_reducible refine LeO.ite ?_ ?_)
      | (with_reducible refine LeO.bind ?_ (fun _ => ?_))
      | exact ih0 _ _ _ _
      | exact ih1 _ _ _ _ _
      | exact LeO.none _
      | refine LeO.ite ?_ ?_
      | refine LeO.bind ?_ (fun _ => ?_)
    · intro y0 y1 y2 y3 y4
      unfold dense_wrong.l0
      repeat' first
      | (with_reducible exact ih0 _ _ _ _)
      | (with_reducible exact ih1 _ _ _ _ _)
      | (with_reducible exact LeO.refl _)
      | (with_reducible exact LeO.none _)
      | (with_reducible refine LeO.ite ?_ ?_)
      | (with_reducible refine LeO.bind ?_ (fun _ => ?_))
      | exact ih0 _ _ _ _
      | exact ih1 _ _ _ _ _
      | exact LeO.none _
      | refine LeO.ite ?_ ?_
      | refine LeO.bind ?_ (fun _ => ?_)
theorem dense_wrong.mono : ∀ a0 a1 a2 k, LeO (dense_wrong.f k a0 a1 a2) (dense_wrong.f (k + 1) a0 a1 a2) := by
  intro a0 a1 a2 k
  obtain ⟨ih0, ih1⟩ := dense_wrong.mono_l k
  unfold dense_wrong.f
  repeat' first
      | (with_reducible exact ih0 _ _ _ _)
      | (with_reducible exact ih1 _ _ _ _ _)
      | (with_reducible exact LeO.refl _)
      | (with_reducible exact LeO.none _)
      | (with_reducible refine LeO.ite ?_ ?_)
      | (with_reducible refine LeO.bind ?_ (fun _ => ?_))
      | exact ih0 _ _ _ _
      | exact ih1 _ _ _ _ _
      | exact LeO.none _
      | refine LeO.ite ?_ ?_
      | refine LeO.bind ?_ (fun _ => ?_)
set_option maxHeartbeats 8000000 in
set_option maxRecDepth 100000 in
theorem dense_wrong.calls (k : Nat) (A0 : Option Addr) (c0 : Nat) (l0 : List (List Int)) (A1 : Option Addr) (c1 : Nat) (l1 : List (List Int)) (a2 : Int) (r : Bool) (w : World) (hr0 : Kd.C (Kd.slice 5 (Kd.int .u8)) w A0 l0.length l0) (hc0 : l0.length ≤ c0) (hr1 : Kd.C (Kd.slice 5 (Kd.int .u8)) w A1 l1.length l1) (hc1 : l1.length ≤ c1) (h : dense_wrong.f k l0 l1 a2 = some r) :
    Calls Tryd.prog 26 #[.slice A0 l0.length c0, .slice A1 l1.length c1, .int .i64 a2] w fun e w' => e = .returned (.bool r) ∧ Drawn0 w w' := by
  have HR0 := Aside0.mk hr0
  have HC0 := Aside0.mk hc0
  clear hr0 hc0
  have HR1 := Aside0.mk hr1
  have HC1 := Aside0.mk hc1
  clear hr1 hc1
  have H : (if a2 < 0 then (dense_wrong.j0 k l0 l1 a2 true) else (dense_wrong.j0 k l0 l1 a2 ((l0.length : Int) != (l1.length : Int)))) = some r := h
  clear h
  have HC4 := Aside0.mk H
  clear H
  go_enter Tryd.func26, Tryd.ntmps26
  go_upto_region 1 with (fail)
  repeat (go_quiet (fail); go_upto_region 1 with (fail))
  go_cut [17] (fun v17 wc => ∃ (kq : Nat) (x17_3 : Bool), v17 = .bool x17_3 ∧ Aside0 (dense_wrong.j0 kq l0 l1 a2 x17_3 = some r) ∧ Aside0 (kq ≤ k) ∧ Drawn0 w wc)
  case first =>
    have H := HC4.out
    clear HC4
    by_cases c5 : a2 < 0
    · rw [if_pos c5] at H
      have c5b0 : decide (a2 < 0) = true := decide_eq_true c5
      clear c5
      (first | rw [c5b0] | (simp only [i64_w, i32_w]; rw [c5b0]) | skip)
      have H' := Aside0.mk H
      clear H
      go_wp2
      repeat (go_quiet (fail); try go_wp2)
      go_meet
      case rel => exact ⟨_, (true), (by first | rfl | (simp; done) | (simp [*]; done)), H', ⟨by first | omega | exact Nat.le_refl _⟩, by repeat (first | exact Drawn0.refl _ | apply Drawn0.step)⟩
    · rw [if_neg c5] at H
      have c5b0 : decide (a2 < 0) = false := decide_eq_false c5
      clear c5
      (first | rw [c5b0] | (simp only [i64_w, i32_w]; rw [c5b0]) | skip)
      have H' := Aside0.mk H
      clear H
      go_wp2
      repeat (go_quiet (fail); try go_wp2)
      go_meet
      case rel => exact ⟨_, (((l0.length : Int) != (l1.length : Int))), (by first | rfl | (simp; done) | (simp [*]; done)), H', ⟨by first | omega | exact Nat.le_refl _⟩, by repeat (first | exact Drawn0.refl _ | apply Drawn0.step)⟩
  case rest =>
    clear HC4
    try clear c1
    try clear c2
    try clear p2
    try clear c5
    try clear c5b0
    obtain ⟨kq, x17_3, rfl, HA, HJ3, ⟨mc3, rfl⟩⟩ := hcut
    cases kq with
    | zero => exact absurd HA.out (by simp [dense_wrong.j0])
    | succ kj3 =>
      have H := HA.out
      clear HA
      simp only [dense_wrong.j0] at H
      by_cases c6 : x17_3 = true
      · subst c6
        have H1 : (some true) = some r := by rw [if_pos rfl] at H; exact H
        clear H
        have H := H1
        clear H1
        obtain rfl := Option.some.inj H
        go_wp2
        repeat (go_quiet (fail); try go_wp2)
        go_ret
        exact ⟨by first | rfl | (simp; done) | (simp [*]; done), by repeat (first | exact Drawn0.refl _ | apply Drawn0.step)⟩
      · replace c6 := Bool.eq_false_iff.mpr c6
        subst c6
        have H1 : (dense_wrong.l0 kj3 l1 a2 l0 (l0.length : Int) 0) = some r := by rw [if_neg (show ¬ (false = true) by decide)] at H; exact H
        clear H
        have H := H1
        clear H1
        have H' := Aside0.mk H
        clear H
        go_wp2
        repeat (go_quiet (fail); try go_wp2)
        go_loopg [20] kj3 (fun kq v20 w' => ∃ (x20_2 : Int), v20 = .int .i64 x20_2 ∧ Aside0 (dense_wrong.l0 kq l1 a2 l0 (l0.length : Int) x20_2 = some r) ∧ Aside0 (kq ≤ kj3) ∧ Drawn0 w w')
        case atStart => exact ⟨(0), (by first | rfl | (simp; done) | (simp [*]; done)), H', ⟨Nat.le_refl _⟩, by repeat (first | exact Drawn0.refl _ | apply Drawn0.step)⟩
        case round =>
          clear H'
          try clear c1
          try clear c2
          try clear p2
          try clear c3
          try clear c5
          try clear c5b0
          try clear c6
          try clear p2
          obtain ⟨x20_2, rfl, HA, HK2, ⟨m2, rfl⟩⟩ := hrel
          cases gk with
          | zero => exact absurd HA.out (by simp [dense_wrong.l0])
          | succ k2 =>
            have H := HA.out
            clear HA
            simp only [dense_wrong.l0] at H
            by_cases c7 : x20_2 < (l0.length : Int)
            · rw [if_pos c7] at H
              have c7b0 : decide (x20_2 < (l0.length : Int)) = true := decide_eq_true c7
              clear c7
              by_cases c8 : 0 ≤ x20_2
              · rw [if_pos c8] at H
                have c8b0 : decide (0 ≤ x20_2) = true := decide_eq_true c8
                clear c8
                by_cases c9 : x20_2 < (l0.length : Int)
                · rw [if_pos c9] at H
                  have c9b0 : decide (x20_2 < (l0.length : Int)) = true := decide_eq_true c9
                  clear c9
                  by_cases c10 : ((rd_L1 l0 x20_2).length : Int) > a2
                  · rw [if_pos c10] at H
                    have c10b0 : decide (a2 < ((rd_L1 l0 x20_2).length : Int)) = true := decide_eq_true c10
                    clear c10
                    obtain rfl := Option.some.inj H
                    have p101 : 0 ≤ (x20_2 : Int) := of_decide_eq_true (by first | (with_reducible assumption) | assumption)
                    have q101 : x20_2 < (l0.length : Int) := of_decide_eq_true (by first | (with_reducible assumption) | assumption)
                    obtain ⟨ad101, A101_0, c101_0, e101, hx101_0, hl101_0, hi101_0⟩ := at_L1 HR0.out x20_2 p101 q101
                    cases e101
                    have HR101_0 := Aside0.mk hi101_0
                    have HC101_0 := Aside0.mk hl101_0
                    clear hi101_0 hl101_0
                    replace p101 := eq_true p101
                    replace q101 := eq_true q101
                    go_wp2
                    repeat (go_quiet (fail); try go_wp2)
                    go_ret
                    exact ⟨by first | rfl | (simp; done) | (simp [*]; done), by repeat (first | exact Drawn0.refl _ | apply Drawn0.step)⟩
                  · rw [if_neg c10] at H
                    have c10b0 : decide (a2 < ((rd_L1 l0 x20_2).length : Int)) = false := decide_eq_false c10
                    clear c10
                    by_cases c11 : x20_2 < (l1.length : Int)
                    · rw [if_pos c11] at H
                      have c11b0 : decide (x20_2 < (l1.length : Int)) = true := decide_eq_true c11
                      clear c11
                      by_cases c12 : 0 < (l1.length : Int)
                      · rw [if_pos c12] at H
                        have c12b0 : decide (0 < (l1.length : Int)) = true := decide_eq_true c12
                        have c12b1 : decide (0 < l1.length) = true := decide_eq_true (by omega)
                        clear c12
                        by_cases c13 : ((rd_L1 l1 x20_2).length : Int) = ((rd_L1 l1 0).length : Int)
                        · rw [if_pos c13] at H
                          have c13b0 : (((rd_L1 l1 x20_2).length : Int) == ((rd_L1 l1 0).length : Int)) = true := beq_iff_eq.mpr c13
                          have c13b1 : (((rd_L1 l1 x20_2).length : Int) != ((rd_L1 l1 0).length : Int)) = false := bne_eq_false_iff_eq.mpr c13
                          have c13b2 : ((rd_L1 l1 x20_2).length == (rd_L1 l1 0).length) = true := by first | simpa using c13 | (simp at c13 ⊢; omega)
                          clear c13
                          have H' := Aside0.mk H
                          clear H
                          have p101 : 0 ≤ (x20_2 : Int) := of_decide_eq_true (by first | (with_reducible assumption) | assumption)
                          have q101 : x20_2 < (l0.length : Int) := of_decide_eq_true (by first | (with_reducible assumption) | assumption)
                          obtain ⟨ad101, A101_0, c101_0, e101, hx101_0, hl101_0, hi101_0⟩ := at_L1 HR0.out x20_2 p101 q101
                          cases e101
                          have HR101_0 := Aside0.mk hi101_0
                          have HC101_0 := Aside0.mk hl101_0
                          clear hi101_0 hl101_0
                          replace p101 := eq_true p101
                          replace q101 := eq_true q101
                          have p102 : 0 ≤ (x20_2 : Int) := of_decide_eq_true (by first | (with_reducible assumption) | assumption)
                          have q102 : x20_2 < (l1.length : Int) := of_decide_eq_true (by first | (with_reducible assumption) | assumption)
                          obtain ⟨ad102, A102_0, c102_0, e102, hx102_0, hl102_0, hi102_0⟩ := at_L1 HR1.out x20_2 p102 q102
                          cases e102
                          have HR102_0 := Aside0.mk hi102_0
                          have HC102_0 := Aside0.mk hl102_0
                          clear hi102_0 hl102_0
                          replace p102 := eq_true p102
                          replace q102 := eq_true q102
                          have p103 : 0 ≤ (0 : Int) := (by omega)
                          have q103 : 0 < (l1.length : Int) := of_decide_eq_true (by first | (with_reducible assumption) | assumption)
                          obtain ⟨ad103, A103_0, c103_0, e103, hx103_0, hl103_0, hi103_0⟩ := at_L1 HR1.out 0 p103 q103
                          obtain rfl : ad102 = ad103 := (by injection e103)
                          have qi103 : (0 < l1.length) = True := eq_true (by omega)
                          (try rw [show ((0 : Int)).toNat = 0 from rfl] at hx103_0)
                          (try rw [Addr.add_zero'] at hx103_0)
                          have HR103_0 := Aside0.mk hi103_0
                          have HC103_0 := Aside0.mk hl103_0
                          clear hi103_0 hl103_0
                          replace p103 := eq_true p103
                          replace q103 := eq_true q103
                          go_wp2
                          repeat (go_quiet (fail); try go_wp2)
                          go_roundg k2
                          case measure => have := HJ3.out; have := HK2.out; omega
                          case rel => exact ⟨(wrap64 (x20_2 + 1)), (by first | rfl | (simp; done) | (simp [*]; done)), H', ⟨by have := HJ3.out; have := HK2.out; omega⟩, by repeat (first | exact Drawn0.refl _ | apply Drawn0.step)⟩
                        · rw [if_neg c13] at H
                          have c13b0 : (((rd_L1 l1 x20_2).length : Int) == ((rd_L1 l1 0).length : Int)) = false := beq_eq_false_iff_ne.mpr c13
                          have c13b1 : (((rd_L1 l1 x20_2).length : Int) != ((rd_L1 l1 0).length : Int)) = true := bne_iff_ne.mpr c13
                          have c13b2 : ((rd_L1 l1 x20_2).length == (rd_L1 l1 0).length) = false := by first | simpa using c13 | (simp at c13 ⊢; omega)
                          obtain rfl := Option.some.inj H
                          have p101 : 0 ≤ (x20_2 : Int) := of_decide_eq_true (by first | (with_reducible assumption) | assumption)
                          have q101 : x20_2 < (l0.length : Int) := of_decide_eq_true (by first | (with_reducible assumption) | assumption)
                          obtain ⟨ad101, A101_0, c101_0, e101, hx101_0, hl101_0, hi101_0⟩ := at_L1 HR0.out x20_2 p101 q101
                          cases e101
                          have HR101_0 := Aside0.mk hi101_0
                          have HC101_0 := Aside0.mk hl101_0
                          clear hi101_0 hl101_0
                          replace p101 := eq_true p101
                          replace q101 := eq_true q101
                          have p102 : 0 ≤ (x20_2 : Int) := of_decide_eq_true (by first | (with_reducible assumption) | assumption)
                          have q102 : x20_2 < (l1.length : Int) := of_decide_eq_true (by first | (with_reducible assumption) | assumption)
                          obtain ⟨ad102, A102_0, c102_0, e102, hx102_0, hl102_0, hi102_0⟩ := at_L1 HR1.out x20_2 p102 q102
                          cases e102
                          have HR102_0 := Aside0.mk hi102_0
                          have HC102_0 := Aside0.mk hl102_0
                          clear hi102_0 hl102_0
                          replace p102 := eq_true p102
                          replace q102 := eq_true q102
                          have p103 : 0 ≤ (0 : Int) := (by omega)
                          have q103 : 0 < (l1.length : Int) := of_decide_eq_true (by first | (with_reducible assumption) | assumption)
                          obtain ⟨ad103, A103_0, c103_0, e103, hx103_0, hl103_0, hi103_0⟩ := at_L1 HR1.out 0 p103 q103
                          obtain rfl : ad102 = ad103 := (by injection e103)
                          have qi103 : (0 < l1.length) = True := eq_true (by omega)
                          (try rw [show ((0 : Int)).toNat = 0 from rfl] at hx103_0)
                          (try rw [Addr.add_zero'] at hx103_0)
                          have HR103_0 := Aside0.mk hi103_0
                          have HC103_0 := Aside0.mk hl103_0
                          clear hi103_0 hl103_0
                          replace p103 := eq_true p103
                          replace q103 := eq_true q103
                          go_wp2
                          repeat (go_quiet (fail); try go_wp2)
                          go_ret
                          exact ⟨by first | rfl | (simp; done) | (simp [*]; done), by repeat (first | exact Drawn0.refl _ | apply Drawn0.step)⟩
                      · rw [if_neg c12] at H
                        exact absurd H (by simp)
                    · rw [if_neg c11] at H
                      exact absurd H (by simp)
                · rw [if_neg c9] at H
                  exact absurd H (by simp)
              · rw [if_neg c8] at H
                exact absurd H (by simp)
            · rw [if_neg c7] at H
              have c7b0 : decide (x20_2 < (l0.length : Int)) = false := decide_eq_false c7
              clear c7
              obtain rfl := Option.some.inj H
              go_wp2
              repeat (go_quiet (fail); try go_wp2)
              go_ret
              exact ⟨by first | rfl | (simp; done) | (simp [*]; done), by repeat (first | exact Drawn0.refl _ | apply Drawn0.step)⟩

end Go.Proofs.YtcmigmldecacpaaDoor.QWrong
/- Which equations are none. -/
namespace Go.Proofs.YtcmigmldecacpaaDoor.Pure
open Go Go.RowKit Go.Proofs.YtcmigmldecacpaaDoor.QWrong Go.Proofs.YtcmigmldecacpaaDoorW.PrintWords Go.Proofs.YtcmigmldecacpaaDoorW.PrintLast

def wrongB (l0 l1 : List (List Int)) (n : Int) : Bool := decide (n < 0) || (decide (l0.length ≠ l1.length) || (l0.any (fun r => decide ((r.length : Int) > n)) || l1.any (fun y => decide (y.length ≠ (l1.headD []).length))))
theorem wrong_l0 (l0 l1 : List (List Int)) (n : Int) (hl : l0.length = l1.length) (hm : l0.length ≤ 9223372036854775807) : ∀ (d i : Nat), i + d = l0.length →
    Ev (fun k => dense_wrong.l0 k l1 n l0 (l0.length : Int) i) ((l0.drop i).any (fun r => decide ((r.length : Int) > n)) || (l1.drop i).any (fun y => decide (y.length ≠ (l1.headD []).length))) := by
  intro d
  induction d with
  | zero =>
    intro i hi
    rw [List.drop_eq_nil_of_le (by omega), List.drop_eq_nil_of_le (by omega)]
    refine Ev.step (fun k => ?_) (Ev.now _)
    simp only [dense_wrong.l0]
    rw [if_neg (by omega)]
    rfl
  | succ d ih =>
    intro i hi
    have hi0 : i < l0.length := by omega
    have hi1 : i < l1.length := by omega
    have r0 : rd_L1 l0 (i : Int) = l0[i] := by unfold rd_L1; rw [Int.toNat_natCast, List.getD_eq_getElem?_getD, List.getElem?_eq_getElem hi0]; rfl
    have r1 : rd_L1 l1 (i : Int) = l1[i] := by unfold rd_L1; rw [Int.toNat_natCast, List.getD_eq_getElem?_getD, List.getElem?_eq_getElem hi1]; rfl
    have r2 : rd_L1 l1 0 = l1.headD [] := by
      cases l1 with
      | nil => simp at hi1
      | cons a t => rfl
    have hw : wrap64 ((i : Int) + 1) = ((i + 1 : Nat) : Int) := by rw [Gy.wrap64_id (by omega) (by omega)]; omega
    rw [List.drop_eq_getElem_cons hi0, List.drop_eq_getElem_cons hi1, List.any_cons, List.any_cons]
    by_cases h1 : (l0[i].length : Int) > n
    · rw [decide_eq_true h1, Bool.true_or, Bool.true_or]
      refine Ev.step (fun k => ?_) (Ev.now _)
      simp only [dense_wrong.l0]
      rw [if_pos (by omega), if_pos (by omega), if_pos (by omega), r0, if_pos h1]
    · rw [decide_eq_false h1, Bool.false_or]
      by_cases h2 : l1[i].length = (l1.headD []).length
      · rw [decide_eq_false (fun h => h h2), Bool.false_or]
        refine Ev.step (fun k => ?_) (ih (i + 1) (by omega))
        simp only [dense_wrong.l0]
        rw [if_pos (by omega), if_pos (by omega), if_pos (by omega), r0, if_neg h1, if_pos (by omega), if_pos (by omega), r1, r2, if_pos (by omega), hw]
      · rw [decide_eq_true h2, Bool.true_or, Bool.or_true]
        refine Ev.step (fun k => ?_) (Ev.now _)
        simp only [dense_wrong.l0]
        rw [if_pos (by omega), if_pos (by omega), if_pos (by omega), r0, if_neg h1, if_pos (by omega), if_pos (by omega), r1, r2, if_neg (by omega)]
theorem wrong_f (l0 l1 : List (List Int)) (n : Int) (hm : l0.length ≤ 9223372036854775807) : Ev (fun k => dense_wrong.f k l0 l1 n) (wrongB l0 l1 n) := by
  have hyes : Ev (fun k => dense_wrong.j0 k l0 l1 n true) true := by
    refine Ev.step (f := fun _ => some true) (fun k => ?_) (Ev.now _)
    simp only [dense_wrong.j0]
    rw [if_pos trivial]
  unfold wrongB
  by_cases h0 : n < 0
  · rw [decide_eq_true h0, Bool.true_or]
    exact Ev.congr (fun k => if_pos h0) hyes
  · rw [decide_eq_false h0, Bool.false_or]
    by_cases h1 : l0.length = l1.length
    · rw [decide_eq_false (fun h => h h1), Bool.false_or]
      have hne : ((l0.length : Int) != (l1.length : Int)) = false := by simp [h1]
      have h2 := wrong_l0 l0 l1 n h1 hm l0.length 0 (by omega)
      rw [List.drop_zero, List.drop_zero] at h2
      refine Ev.congr (f := fun k => dense_wrong.j0 k l0 l1 n false) (fun k => by unfold dense_wrong.f; rw [if_neg h0, hne]) (Ev.step (fun k => ?_) h2)
      simp only [dense_wrong.j0]
      rw [if_neg (by decide)]
      rfl
    · rw [decide_eq_true h1, Bool.true_or]
      have hne : ((l0.length : Int) != (l1.length : Int)) = true := by simp; omega
      exact Ev.congr (fun k => by unfold dense_wrong.f; rw [if_neg h0, hne]) hyes
theorem wrong_calls (A0 : Option Addr) (c0 : Nat) (l0 : List (List Int)) (A1 : Option Addr) (c1 : Nat) (l1 : List (List Int)) (n : Int) (w : World) (hr0 : Kd.C (Kd.slice 5 (Kd.int .u8)) w A0 l0.length l0) (hc0 : l0.length ≤ c0) (hr1 : Kd.C (Kd.slice 5 (Kd.int .u8)) w A1 l1.length l1) (hc1 : l1.length ≤ c1) (hm : l0.length ≤ 9223372036854775807) :
    Calls Tryd.prog 26 #[.slice A0 l0.length c0, .slice A1 l1.length c1, .int .i64 n] w fun e w' => e = .returned (.bool (wrongB l0 l1 n)) ∧ Below w.heap.size w w' := by
  obtain ⟨k, hk⟩ := wrong_f l0 l1 n hm
  exact (dense_wrong.calls k A0 c0 l0 A1 c1 l1 n _ w hr0 hc0 hr1 hc1 (hk k (Nat.le_refl _))).mono fun e w' h => ⟨h.1, h.2.below⟩

end Go.Proofs.YtcmigmldecacpaaDoor.Pure
/- The plain law of eliminations: what is linear stays; the pivots' places are unit vectors; what ranks say. No program is in sight. -/
namespace Go.Proofs.YtcmigmldecacpaaDoor.Lin
open Go Go.RowKit Go.Proofs.YtcmigmldecacpaaDoor.Vec Go.Proofs.YtcmigmldecacpaaDoor.Giv Go.Proofs.YtcmigmldecacpaaDoor.Dense Go.Proofs.YtcmigmldecacpaaDoor.Reduce
set_option linter.unusedSimpArgs false
set_option linter.unusedVariables false

/-! ### places of rows -/
def cl (r : List Int) (j : Nat) : Nat := (r.getD j 0).toNat
theorem cl_lt {r : List Int} (h : By r) (j : Nat) : cl r j < 256 := by_toNat h j
theorem getD_cl {r : List Int} (h : By r) (j : Nat) : r.getD j 0 = (cl r j : Int) := by
  unfold cl
  by_cases hj : j < r.length
  · rw [Dense.getD_at r j hj]
    have := h _ (List.getElem_mem hj)
    omega
  · rw [List.getD_eq_getElem?_getD, List.getElem?_eq_none (by omega)]
    rfl
theorem cl_out {r : List Int} {j : Nat} (h : r.length ≤ j) : cl r j = 0 := by
  unfold cl
  rw [List.getD_eq_getElem?_getD, List.getElem?_eq_none h]
  rfl
theorem cl_plus {a b : List Int} (h : b.length = a.length) (c j : Nat) : cl (plusL a b c) j = cl a j ^^^ Gy.gmul (cl b j) c := by
  by_cases hj : j < a.length
  · unfold cl
    rw [Dense.getD_at _ j (by rw [plusL_length h]; exact hj), Dense.getD_at a j hj, Dense.getD_at b j (by omega), plusL_at c j hj (by omega)]
    unfold addI
    rw [Int.toNat_natCast]
  · rw [cl_out (by rw [plusL_length h]; omega), cl_out (r := a) (by omega), cl_out (r := b) (by omega), Gy.gmul_zero_left]
    rfl
theorem cl_scale (a : List Int) (c j : Nat) : cl (scaleL a c) j = Gy.gmul (cl a j) c := by
  by_cases hj : j < a.length
  · unfold cl
    rw [Dense.getD_at _ j (by rw [scaleL_length]; exact hj), Dense.getD_at a j hj]
    have e : (scaleL a c)[j]'(by rw [scaleL_length]; exact hj) = mulI c a[j] := by unfold scaleL; exact List.getElem_zipWith
    rw [e]
    unfold mulI
    rw [Int.toNat_natCast]
  · rw [cl_out (by rw [scaleL_length]; omega), cl_out (r := a) (by omega), Gy.gmul_zero_left]
theorem cl_ext {a b : List Int} (ha : By a) (hb : By b) (hl : a.length = b.length) (h : ∀ j, j < a.length → cl a j = cl b j) : a = b := by
  refine List.ext_getElem hl fun j h1 h2 => ?_
  rw [← Dense.getD_at a j h1, ← Dense.getD_at b j h2, getD_cl ha, getD_cl hb, h j h1]
theorem cl_app_left {a b : List Int} {j : Nat} (h : j < a.length) : cl (a ++ b) j = cl a j := by
  unfold cl
  rw [Dense.getD_at _ j (by rw [List.length_append]; omega), Dense.getD_at a j h, List.getElem_append_left h]
theorem cl_app_right (a b : List Int) (p : Nat) : cl (a ++ b) (a.length + p) = cl b p := by
  unfold cl
  rw [List.getD_eq_getElem?_getD, List.getD_eq_getElem?_getD, List.getElem?_append_right (by omega)]
  congr 3
  omega
theorem cl_drop (r : List Int) (n p : Nat) : cl (r.drop n) p = cl r (n + p) := by
  unfold cl
  rw [List.getD_eq_getElem?_getD, List.getD_eq_getElem?_getD, List.getElem?_drop]
theorem cl_zeros (n p : Nat) : cl (List.replicate n 0) p = 0 := by
  unfold cl
  rw [List.getD_eq_getElem?_getD, List.getElem?_replicate]
  split <;> rfl
theorem cl_padTo (m : Nat) (r : List Int) (j : Nat) : cl (padTo m r) j = cl r j := by
  unfold padTo
  by_cases h : j < r.length
  · exact cl_app_left h
  · obtain ⟨p, rfl⟩ : ∃ p, j = r.length + p := ⟨j - r.length, by omega⟩
    rw [cl_app_right, cl_zeros, cl_out (by omega)]

/-! ### the rows of each part of a step -/
def rw_ (R : List (List Int)) (i : Nat) : List Int := R.getD i []
theorem rw_at {R : List (List Int)} {i : Nat} (h : i < R.length) : rw_ R i = R[i] := getD_row R i h
theorem rw_set (R : List (List Int)) (i k : Nat) (x : List Int) (hi : i < R.length) : rw_ (R.set i x) k = if k = i then x else rw_ R k := by
  unfold rw_
  rw [List.getD_eq_getElem?_getD, List.getD_eq_getElem?_getD, List.getElem?_set]
  by_cases e : i = k
  · subst e; simp [hi]
  · rw [if_neg e, if_neg (fun h => e h.symm)]
theorem rw_swap (R : List (List Int)) (i j k : Nat) (hi : i < R.length) (hj : j < R.length) : rw_ (swapL R i j) k = if k = j then rw_ R i else if k = i then rw_ R j else rw_ R k := by
  unfold swapL
  rw [rw_set _ _ _ _ (by rw [List.length_set]; exact hj), rw_set _ _ _ _ hi]
  rfl
theorem rw_norm (R : List (List Int)) (t a k : Nat) (ht : t < R.length) : rw_ (normL R t a) k = if k = t then scaleL (rw_ R t) (Gy.ginv (cl (rw_ R t) a)) else rw_ R k := by
  unfold normL
  rw [rw_set _ _ _ _ ht]
  rfl
theorem rw_sub (R : List (List Int)) (f a k : Nat) (hk : k < R.length) : rw_ (subL R f a) k = if k ≠ f ∧ (rw_ R k).getD a 0 ≠ 0 then plusL (rw_ R k) (rw_ R f) (cl (rw_ R k) a) else rw_ R k := by
  have hk' : k < (subL R f a).length := by rw [subL_length]; exact hk
  have := subTo_at (R.getD f []) f a R.length k hk
  rw [if_pos hk] at this
  have e : (subL R f a)[k] = subAt (R.getD f []) f a k R[k] := this
  rw [rw_at hk', e, rw_at hk]
  rfl
theorem Slots.rw {R : List (List Int)} {m : Nat} (h : Slots R m) {i : Nat} (hi : i < R.length) : (rw_ R i).length = m ∧ By (rw_ R i) := by
  rw [rw_at hi]; exact h.at hi
/-! ### the first row that isn't 0 -/
theorem first_spec {R : List (List Int)} {a top : Nat} (ht : top ≤ R.length) : top ≤ firstNz R a top ∧ firstNz R a top ≤ R.length ∧ (∀ j, top ≤ j → j < firstNz R a top → (rw_ R j).getD a 0 = 0) ∧ (firstNz R a top < R.length → (rw_ R (firstNz R a top)).getD a 0 ≠ 0) := by
  unfold firstNz
  have hl : (R.drop top).findIdx (nz a) ≤ (R.drop top).length := List.findIdx_le_length
  have key : ∀ j (hj : j < (R.drop top).length), (R.drop top)[j] = rw_ R (top + j) := fun j hj => by
    rw [List.getElem_drop, rw_at (by rw [List.length_drop] at hj; omega)]
  have hd := List.length_drop (i := top) (l := R)
  refine ⟨by omega, by omega, fun j h1 h2 => ?_, fun h => ?_⟩
  · have hj : j - top < (R.drop top).findIdx (nz a) := by omega
    have h3 := List.not_of_lt_findIdx hj
    have h4 : nz a (R.drop top)[j - top] = false := by simpa using h3
    rw [key _ (by omega), show top + (j - top) = j by omega] at h4
    unfold nz at h4
    simpa using h4
  · have hj : (R.drop top).findIdx (nz a) < (R.drop top).length := by omega
    have h3 := List.findIdx_getElem (w := hj)
    rw [key _ hj] at h3
    exact of_decide_eq_true h3
/-! ### what is linear stays, both ways -/
structure Linear (m : Nat) (Q : List Int → Prop) : Prop where
  plus : ∀ a b c, a.length = m → b.length = m → By a → By b → c < 256 → Q a → Q b → Q (plusL a b c)
  scale : ∀ a c, a.length = m → By a → c < 256 → Q a → Q (scaleL a c)
def All (R : List (List Int)) (Q : List Int → Prop) : Prop := ∀ i, i < R.length → Q (rw_ R i)
theorem swap_all {R : List (List Int)} {Q : List Int → Prop} {i j : Nat} (hi : i < R.length) (hj : j < R.length) : All R Q ↔ All (swapL R i j) Q := by
  constructor
  · intro h k hk
    rw [swapL_length] at hk
    rw [rw_swap R i j k hi hj]
    split
    · exact h i hi
    · split
      · exact h j hj
      · exact h k hk
  · intro h k hk
    have hs := fun k => rw_swap R i j k hi hj
    by_cases e : k = i
    · subst e
      have := h j (by rw [swapL_length]; exact hj)
      rw [hs, if_pos rfl] at this
      exact this
    · by_cases e2 : k = j
      · subst e2
        have := h i (by rw [swapL_length]; exact hi)
        rw [hs] at this
        split at this
        · rename_i h3; exact absurd h3.symm e
        · rw [if_pos rfl] at this; exact this
      · have := h k (by rw [swapL_length]; exact hk)
        rw [hs, if_neg e2, if_neg e] at this
        exact this
theorem scale_back {r : List Int} (hb : By r) {c : Nat} (hc : c < 256) (h0 : c ≠ 0) : scaleL (scaleL r (Gy.ginv c)) c = r := by
  refine cl_ext (scaleL_by (scaleL_by hb (Gy.ginv_lt hc)) hc) hb (by rw [scaleL_length, scaleL_length]) fun j _ => ?_
  rw [cl_scale, cl_scale, Gy.gmul_assoc (cl_lt hb j) (Gy.ginv_lt hc), Gy.gmul_comm (Gy.ginv_lt hc) hc, Gy.gmul_ginv hc h0, Gy.gmul_one_right]
theorem norm_all {R : List (List Int)} {m : Nat} {Q : List Int → Prop} (hQ : Linear m Q) (hS : Slots R m) {t a : Nat} (ht : t < R.length) (h0 : cl (rw_ R t) a ≠ 0) : All R Q ↔ All (normL R t a) Q := by
  obtain ⟨l1, b1⟩ := Slots.rw hS ht
  have hc := cl_lt b1 a
  constructor
  · intro h k hk
    rw [normL_length] at hk
    rw [rw_norm R t a k ht]
    split
    · exact hQ.scale _ _ l1 b1 (Gy.ginv_lt hc) (h t ht)
    · exact h k hk
  · intro h k hk
    have h1 := h k (by rw [normL_length]; exact hk)
    rw [rw_norm R t a k ht] at h1
    by_cases e : k = t
    · subst e
      rw [if_pos rfl] at h1
      have := hQ.scale _ (cl (rw_ R k) a) (by rw [scaleL_length]; exact l1) (scaleL_by b1 (Gy.ginv_lt hc)) hc h1
      rwa [scale_back b1 hc h0] at this
    · rwa [if_neg e] at h1
theorem plus_back {a b : List Int} (ha : By a) (hb : By b) (hl : b.length = a.length) {c : Nat} (hc : c < 256) : plusL (plusL a b c) b c = a := by
  have hl2 : b.length = (plusL a b c).length := by rw [plusL_length hl]; exact hl
  refine cl_ext (plusL_by (plusL_by ha hb hc hl) hb hc hl2) ha (by rw [plusL_length hl2, plusL_length hl]) fun j _ => ?_
  rw [cl_plus hl2, cl_plus hl, Nat.xor_assoc, Nat.xor_self, Nat.xor_zero]
theorem sub_all {R : List (List Int)} {m : Nat} {Q : List Int → Prop} (hQ : Linear m Q) (hS : Slots R m) {f a : Nat} (hf : f < R.length) : All R Q ↔ All (subL R f a) Q := by
  obtain ⟨l1, b1⟩ := Slots.rw hS hf
  constructor
  · intro h k hk
    rw [subL_length] at hk
    obtain ⟨l2, b2⟩ := Slots.rw hS hk
    rw [rw_sub R f a k hk]
    split
    · exact hQ.plus _ _ _ l2 l1 b2 b1 (cl_lt b2 a) (h k hk) (h f hf)
    · exact h k hk
  · intro h k hk
    obtain ⟨l2, b2⟩ := Slots.rw hS hk
    have h1 := h k (by rw [subL_length]; exact hk)
    have h2 := h f (by rw [subL_length]; exact hf)
    rw [rw_sub R f a k hk] at h1
    rw [rw_sub R f a f hf, if_neg (fun h => h.1 rfl)] at h2
    split at h1
    · have := hQ.plus _ _ _ (by rw [plusL_length (by omega)]; exact l2) l1 (plusL_by b2 b1 (cl_lt b2 a) (by omega)) b1 (cl_lt b2 a) h1 h2
      rwa [plus_back b2 b1 (by omega) (cl_lt b2 a)] at this
    · exact h1
theorem step_hit {R : List (List Int)} {P : List Nat} {a : Nat} (h : firstNz R a P.length < R.length) : redStep (R, P) a = (subL (normL (swapL R P.length (firstNz R a P.length)) P.length a) P.length a, P ++ [a]) := by
  unfold redStep
  exact if_pos h
theorem step_miss {R : List (List Int)} {P : List Nat} {a : Nat} (h : ¬ firstNz R a P.length < R.length) : redStep (R, P) a = (R, P) := by
  unfold redStep
  exact if_neg h
theorem step_all {R : List (List Int)} {P : List Nat} {m : Nat} {Q : List Int → Prop} (hQ : Linear m Q) (hS : Slots R m) (hP : P.length ≤ R.length) (a : Nat) : All R Q ↔ All (redStep (R, P) a).1 Q := by
  obtain ⟨f1, f2, f3, f4⟩ := first_spec (R := R) (a := a) hP
  by_cases h : firstNz R a P.length < R.length
  · rw [step_hit h]
    have ht : P.length < R.length := by omega
    have hS2 := Slots.swap hS ht h
    have hl2 : P.length < (swapL R P.length (firstNz R a P.length)).length := by rw [swapL_length]; exact ht
    have h0 : cl (rw_ (swapL R P.length (firstNz R a P.length)) P.length) a ≠ 0 := by
      have e : rw_ (swapL R P.length (firstNz R a P.length)) P.length = rw_ R (firstNz R a P.length) := swapL_at R _ _ ht h
      rw [e]
      have := f4 h
      rw [getD_cl (Slots.rw hS h).2] at this
      omega
    exact (swap_all ht h).trans ((norm_all hQ hS2 hl2 h0).trans (sub_all hQ (Slots.norm hS2 hl2) (by rw [normL_length]; exact hl2)))
  · rw [step_miss h]
theorem red_all {rows : List (List Int)} {m : Nat} {Q : List Int → Prop} (hQ : Linear m Q) (hS : Slots rows m) : ∀ k, All rows Q ↔ All (redTo rows k).1 Q := by
  intro k
  induction k with
  | zero => exact Iff.rfl
  | succ k ih =>
    rw [redTo_succ]
    obtain ⟨h1, h2, h3⟩ := redTo_inv hS k
    exact ih.trans (step_all (R := (redTo rows k).1) (P := (redTo rows k).2) hQ h1 (by rw [h2]; exact h3) k)
/-! ### the pivots' places are unit vectors -/
structure Units (R : List (List Int)) (P : List Nat) (k : Nat) : Prop where
  len : P.length ≤ k
  full : P.length = k → P = List.range k
  one : ∀ t (ht : t < P.length) i, i < R.length → cl (rw_ R i) P[t] = if i = t then 1 else 0
theorem xor_gg {a : Nat} (ha : a < 256) : a ^^^ Gy.gmul 1 a = 0 := by rw [Gy.gmul_one_left ha, Nat.xor_self]
theorem step_units {R : List (List Int)} {P : List Nat} {m k : Nat} (hS : Slots R m) (hP : P.length ≤ R.length) (h : Units R P k) : Units (redStep (R, P) k).1 (redStep (R, P) k).2 (k + 1) := by
  obtain ⟨f1, f2, f3, f4⟩ := first_spec (R := R) (a := k) hP
  by_cases hlt : firstNz R k P.length < R.length
  · rw [step_hit hlt]
    have ht : P.length < R.length := by omega
    have hc0 : cl (rw_ R (firstNz R k P.length)) k ≠ 0 := by
      have := f4 hlt
      rw [getD_cl (Slots.rw hS hlt).2] at this
      omega
    generalize firstNz R k P.length = j at f1 f2 f3 f4 hlt hc0
    generalize hT : P.length = top at f1 f3 ht
    have hS2 := Slots.swap hS ht hlt
    have hl2 : top < (swapL R top j).length := by rw [swapL_length]; exact ht
    have hS3 := Slots.norm (k := k) hS2 hl2
    have hl3 : top < (normL (swapL R top j) top k).length := by rw [normL_length]; exact hl2
    have hlen3 : (normL (swapL R top j) top k).length = R.length := by rw [normL_length, swapL_length]
    -- the rows behind the norm
    have n1 : rw_ (normL (swapL R top j) top k) top = scaleL (rw_ R j) (Gy.ginv (cl (rw_ R j) k)) := by
      rw [rw_norm _ _ _ _ hl2, if_pos rfl]
      have e : rw_ (swapL R top j) top = rw_ R j := swapL_at R _ _ ht hlt
      rw [e]
    have n2 : ∀ i, i ≠ top → rw_ (normL (swapL R top j) top k) i = if i = j then rw_ R top else rw_ R i := fun i hi => by
      rw [rw_norm _ _ _ _ hl2, if_neg hi, rw_swap R top j i ht hlt]
      by_cases e : i = j
      · rw [if_pos e, if_pos e]
      · rw [if_neg e, if_neg e, if_neg hi]
    have oneAt : cl (scaleL (rw_ R j) (Gy.ginv (cl (rw_ R j) k))) k = 1 := by
      rw [cl_scale, Gy.gmul_ginv (cl_lt (Slots.rw hS hlt).2 k) hc0]
    have zeroAt : ∀ t (h' : t < P.length), cl (scaleL (rw_ R j) (Gy.ginv (cl (rw_ R j) k))) P[t] = 0 := fun t h' => by
      rw [cl_scale, h.one t h' j hlt, if_neg (by omega), Gy.gmul_zero_left]
    generalize scaleL (rw_ R j) (Gy.ginv (cl (rw_ R j) k)) = rn at n1 oneAt zeroAt
    have hrn := Slots.rw hS3 hl3
    rw [n1] at hrn
    refine ⟨by rw [List.length_append]; have := h.len; simp; omega, fun e => ?_, fun t ht' i hi => ?_⟩
    · rw [List.length_append] at e
      have e2 : P.length = k := by simpa using e
      rw [List.range_succ, ← h.full e2]
    · rw [subL_length] at hi
      have hi' : i < R.length := by rw [← hlen3]; exact hi
      rw [rw_sub _ _ _ _ hi]
      by_cases et : t < P.length
      · rw [List.getElem_append_left et]
        by_cases ei : i = top
        · subst ei
          rw [if_neg (fun h => h.1 rfl), n1, zeroAt t et, if_neg (by omega)]
        · have hrow := n2 i ei
          have hri := Slots.rw hS3 hi
          have hval : cl (rw_ (normL (swapL R top j) top k) i) P[t] = if i = t then 1 else 0 := by
            rw [hrow]
            split
            · rename_i e
              rw [h.one t et top ht, if_neg (by omega), if_neg (by omega)]
            · exact h.one t et i hi'
          split
          · rw [n1, cl_plus (by rw [hrn.1, hri.1]), zeroAt t et, Gy.gmul_zero_left, Nat.xor_zero, hval]
          · exact hval
      · have et2 : t = P.length := by rw [List.length_append] at ht'; simp at ht'; omega
        have eP : (P ++ [k])[t] = k := by
          subst et2
          simp
        rw [eP, et2, hT]
        by_cases ei : i = top
        · subst ei
          rw [if_neg (fun h => h.1 rfl), n1, oneAt, if_pos rfl]
        · rw [if_neg ei]
          have hri := Slots.rw hS3 hi
          split
          · rw [n1, cl_plus (by rw [hrn.1, hri.1]), oneAt]
            exact xor_gg (cl_lt hri.2 k)
          · rename_i h5
            have h6 : (rw_ (normL (swapL R top j) top k) i).getD k 0 = 0 := by
              by_cases e : (rw_ (normL (swapL R top j) top k) i).getD k 0 = 0
              · exact e
              · exact absurd ⟨ei, e⟩ h5
            unfold cl
            rw [h6]
            rfl
  · rw [step_miss hlt]
    exact ⟨by have := h.len; show P.length ≤ k + 1; omega, fun e => by have := h.len; have e' : P.length = k + 1 := e; omega, h.one⟩
theorem red_units {rows : List (List Int)} {m : Nat} (hS : Slots rows m) : ∀ k, Units (redTo rows k).1 (redTo rows k).2 k := by
  intro k
  induction k with
  | zero => exact ⟨Nat.zero_le _, fun _ => rfl, fun t ht => absurd ht (Nat.not_lt_zero _)⟩
  | succ k ih =>
    rw [redTo_succ]
    obtain ⟨h1, h2, h3⟩ := redTo_inv hS k
    exact step_units (R := (redTo rows k).1) (P := (redTo rows k).2) h1 (by rw [h2]; exact h3) ih
/-- full rank: the rows at the places are unit vectors, those behind them are 0 there -/
theorem full_units {rows : List (List Int)} {m n : Nat} (hS : Slots rows m) (hf : (redTo rows n).2.length = n) : ∀ i j, i < rows.length → j < n → cl (rw_ (redTo rows n).1 i) j = if i = j then 1 else 0 := by
  intro i j hi hj
  have hu := red_units hS n
  have hlen := (redTo_inv hS n).2.1
  have hP := hu.full hf
  have h1 := hu.one j (by rw [hf]; exact hj) i (by rw [hlen]; exact hi)
  have e : (redTo rows n).2[j]'(by rw [hf]; exact hj) = j := by
    have : ∀ (l : List Nat) (h : l = List.range n) (hj' : j < l.length), l[j] = j := by
      intro l h hj'
      subst h
      exact List.getElem_range _
    exact this _ hP _
  rw [e] at h1
  exact h1
end Go.Proofs.YtcmigmldecacpaaDoor.Lin

/- A board in memory. -/
import Derived.Test.YtcmigmldecacpaaVecMore
namespace Gy
open Go Go.RowKit
theorem set_elsewhere {w : World} {b g o o' : Nat} {u v : Value} (h : b ≠ g) (hc : w.cell? ⟨g, o, none⟩ = some u) : (w.setCell ⟨b, o', none⟩ v).cell? ⟨g, o, none⟩ = some u := by
  have e : (w.setCell ⟨b, o', none⟩ v).heap[g]? = w.heap[g]? := Below.heap_setCell w _ _ _ (fun e => h e.symm)
  unfold World.cell? at hc ⊢
  rw [e]; exact hc
end Gy
namespace Go.Proofs.Ytcmigmldecacpaa.Vec
open Go Go.RowKit Go.Proofs.YtcmigmldecacpaaW.PrintWords Go.Proofs.YtcmigmldecacpaaW.PrintMore

/-- a slot's bytes, and that they lie in none of these two blocks -/
def SlotIs (w : World) (g : Nat) (ob : Option Nat) (u : Value) (row : List Int) : Prop :=
  ∃ A c, u = .slice A row.length c ∧ ReadsInt w .u8 A row.length row ∧ (0 < row.length → ∀ ad, A = some ad → ad.block ≠ g ∧ some ad.block ≠ ob)
structure BoardIs (base : Nat) (w : World) (g : Nat) (hv : Value) (ks : List Value) (rows : List (List Int)) : Prop where
  c0 : w.cell? ⟨g, 0, none⟩ = some hv
  f0 : w.frozen? ⟨g, 0, none⟩ = false
  own : w.ownsRow base 31 1 hv ks.length ks
  ne : hv.ownBlock ≠ some g
  len : ks.length = rows.length
  ge : base ≤ g
  le : base ≤ w.heap.size
  el : ∀ (i : Nat) (u : Value) (row : List Int), ks[i]? = some u → rows[i]? = some row → SlotIs w g hv.ownBlock u row
theorem cell_of_heap {w w' : World} {b o : Nat} (h : w'.heap[b]? = w.heap[b]?) : w'.cell? ⟨b, o, none⟩ = w.cell? ⟨b, o, none⟩ := by unfold World.cell?; rw [h]
theorem frozen_of_heap {w w' : World} {b o : Nat} (h : w'.heap[b]? = w.heap[b]?) : w'.frozen? ⟨b, o, none⟩ = w.frozen? ⟨b, o, none⟩ := by unfold World.frozen?; rw [h]
theorem reads_block {w : World} {k : IntKind} {ad : Addr} {n : Nat} {xs : List Int} (h : ReadsInt w k (some ad) n xs) (hn : 0 < n) : ad.block < w.heap.size := by
  obtain ⟨ad2, e, hc⟩ := h.2.2 hn
  injection e with e
  subst e
  have h1 := hc 0 hn
  have hb : (ad.add 0).block = ad.block := by unfold Addr.add; split <;> rfl
  rcases Nat.lt_or_ge ad.block w.heap.size with h' | h'
  · exact h'
  · have : (ad.add 0).block ≥ w.heap.size := by rw [hb]; exact h'
    simp [World.cell?, Array.getElem?_eq_none this] at h1
theorem reads_move {w w' : World} {k : IntKind} {A : Option Addr} {n : Nat} {xs : List Int} (h : ReadsInt w k A n xs) (hm : ∀ ad, A = some ad → 0 < n → w'.heap[ad.block]? = w.heap[ad.block]?) : ReadsInt w' k A n xs := by
  refine ⟨h.1, h.2.1, fun hn => ?_⟩
  obtain ⟨ad, e, hc⟩ := h.2.2 hn
  refine ⟨ad, e, fun j hj => ?_⟩
  have h1 := hc j hj
  have hb : (ad.add j).block = ad.block := by unfold Addr.add; split <;> rfl
  have e2 := hm ad e hn
  unfold World.cell? at h1 ⊢
  rw [hb] at h1 ⊢
  rw [e2]; exact h1
theorem SlotIs.move {w w' : World} {g : Nat} {ob ob' : Option Nat} {u : Value} {row : List Int} (h : SlotIs w g ob u row) (hm : ∀ k, k < w.heap.size → k ≠ g → some k ≠ ob → w'.heap[k]? = w.heap[k]?) (hob : ∀ k, k < w.heap.size → k ≠ g → some k ≠ ob → some k ≠ ob') : SlotIs w' g ob' u row := by
  obtain ⟨A, c, e, hR, hn⟩ := h
  refine ⟨A, c, e, reads_move hR (fun ad e2 h0 => ?_), fun h0 ad e2 => ?_⟩
  · subst e2
    have h1 := hn h0 ad rfl
    exact hm _ (reads_block hR h0) h1.1 h1.2
  · subst e2
    have h1 := hn h0 ad rfl
    exact ⟨h1.1, hob _ (reads_block hR h0) h1.1 h1.2⟩
theorem own_to {w w' : World} {base : Nat} {e : TypeId} {size n : Nat} {v : Value} {xs : List Value} (h : w.ownsRow base e size v n xs) (hm : ∀ k, v.ownBlock = some k → w'.heap[k]? = w.heap[k]?) : w'.ownsRow base e size v n xs := own_move h hm
theorem BoardIs.below {base : Nat} {w w' : World} {g : Nat} {hv : Value} {ks : List Value} {rows : List (List Int)} (h : BoardIs base w g hv ks rows) (hb : Below w.heap.size w w') : BoardIs base w' g hv ks rows := by
  have e := hb.block g (Gy.cell_lt h.c0)
  exact ⟨(cell_of_heap e).trans h.c0, (frozen_of_heap e).trans h.f0, own_to h.own (fun k hk => hb.block k (own_lt h.own k hk)), h.ne, h.len, h.ge, Nat.le_trans h.le hb.size,
    fun i u row h1 h2 => (h.el i u row h1 h2).move (fun k hk _ _ => hb.block k hk) (fun _ _ _ h => h)⟩
/-- a row that was just made, as a slot -/
theorem made_slot {w w' : World} {n : Nat} {xs : List Int} {A : Option Addr} {cap g : Nat} {ob : Option Nat} (h : MadeRow w n xs A cap w') (hn : n = xs.length) (hl : xs.length ≤ 9223372036854775807) (hg : g < w.heap.size) (hob : ∀ k, ob = some k → k < w.heap.size) : SlotIs w' g ob (.slice A xs.length cap) xs := by
  subst hn
  refine ⟨A, cap, rfl, Gy.own_reads h.1 rfl hl, fun h0 ad e => ?_⟩
  subst e
  obtain ⟨g', c', e⟩ := Gy.own_some h.1 h0
  injection e with e1 e2 e3
  injection e1 with e1
  subst e1
  have hb := own_base h.1 g' rfl
  refine ⟨by show g' ≠ g; omega, fun e => ?_⟩
  have := hob g' e.symm
  omega
/-- A slot is written. -/
theorem BoardIs.set {base : Nat} {w : World} {g h : Nat} {cap : Nat} {ks : List Value} {rows : List (List Int)} (hB : BoardIs base w g (.slice (some ⟨h, 0, none⟩) ks.length cap) ks rows) (i : Nat) (u : Value) (row : List Int) (hu : SlotIs w g (some h) u row) :
    BoardIs base (w.setCell ⟨h, i, none⟩ u) g (.slice (some ⟨h, 0, none⟩) ks.length cap) (ks.set i u) (rows.set i row) := by
  have hne : h ≠ g := fun e => hB.ne (by rw [e]; rfl)
  have hh : ∀ k, k ≠ h → (w.setCell ⟨h, i, none⟩ u).heap[k]? = w.heap[k]? := fun k hk => Below.heap_setCell w _ _ _ hk
  have hst := (hB.own.stored i u).1
  refine ⟨(cell_of_heap (hh g hne.symm)).trans hB.c0, (frozen_of_heap (hh g hne.symm)).trans hB.f0, by rw [List.length_set]; exact hst, hB.ne, by rw [List.length_set, List.length_set]; exact hB.len, hB.ge, by rw [Gy.set_size]; exact hB.le, fun j v r h1 h2 => ?_⟩
  have mv : ∀ {v r}, SlotIs w g (some h) v r → SlotIs (w.setCell ⟨h, i, none⟩ u) g (some h) v r := fun hs => hs.move (fun k _ _ hk => hh k (fun e => hk (by rw [e]))) (fun _ _ _ h => h)
  by_cases e : i = j
  · subst e
    rw [List.getElem?_set] at h1 h2
    simp only [if_true] at h1 h2
    split at h1
    · split at h2
      · injection h1 with h1
        injection h2 with h2
        subst h1 h2
        exact mv hu
      · cases h2
    · cases h1
  · rw [List.getElem?_set_ne e] at h1 h2
    exact mv (hB.el j v r h1 h2)
/-- A slot more is appended, and the board holds the new row of slots. -/
theorem BoardIs.app {base : Nat} {w w0 w4 : World} {g : Nat} {hv v1 : Value} {ks : List Value} {rows : List (List Int)} (hB : BoardIs base w g hv ks rows) (u : Value) (row : List Int) (hu : SlotIs w g hv.ownBlock u row)
    (ho : w4.ownsRow base 31 1 v1 (ks ++ [u]).length (ks ++ [u])) (_hb : Below base w0 w4) (hgr : w.grownBy w4 hv.ownBlock) (hat : v1.ownBlock = hv.ownBlock ∨ ∃ b, v1.ownBlock = some b ∧ w.heap.size ≤ b) :
    BoardIs base (w4.setCell ⟨g, 0, none⟩ v1) g v1 (ks ++ [u]) (rows ++ [row]) := by
  have hg := Gy.cell_lt hB.c0
  have e0 : w4.heap[g]? = w.heap[g]? := hgr.block g hg (fun e => hB.ne e.symm)
  have k0 : w4.cell? ⟨g, 0, none⟩ = some hv := (cell_of_heap e0).trans hB.c0
  have ne1 : v1.ownBlock ≠ some g := by
    rcases hat with h | ⟨b, h, hb'⟩
    · rw [h]; exact hB.ne
    · rw [h]; intro e; injection e with e; omega
  have hh : ∀ k, k ≠ g → (w4.setCell ⟨g, 0, none⟩ v1).heap[k]? = w4.heap[k]? := fun k hk => Below.heap_setCell w4 _ _ _ hk
  have hob : ∀ k, k < w.heap.size → k ≠ g → some k ≠ hv.ownBlock → some k ≠ v1.ownBlock := fun k hk _ h => by
    rcases hat with h1 | ⟨b, h1, hb'⟩
    · rw [h1]; exact h
    · rw [h1]; intro e; injection e with e; omega
  have mv : ∀ {v r}, SlotIs w g hv.ownBlock v r → SlotIs (w4.setCell ⟨g, 0, none⟩ v1) g v1.ownBlock v r := fun hs => hs.move (fun k hk hkg hko => by rw [hh k hkg]; exact hgr.block k hk hko) hob
  refine ⟨Gy.cell_set k0 _, ?_, own_to ho (fun k hk => hh k (fun e => ne1 (by rw [hk, e]))), ne1, by simp [hB.len], hB.ge, ?_, fun j v r h1 h2 => ?_⟩
  · rw [Gy.set_frozen, frozen_of_heap e0]; exact hB.f0
  · rw [Gy.set_size]; exact Nat.le_trans hB.le hgr.size
  · by_cases hj : j < ks.length
    · rw [List.getElem?_append_left hj] at h1
      rw [List.getElem?_append_left (by rw [← hB.len]; exact hj)] at h2
      exact mv (hB.el j v r h1 h2)
    · rw [List.getElem?_append_right (by omega)] at h1
      rw [List.getElem?_append_right (by rw [← hB.len]; omega), ← hB.len] at h2
      obtain ⟨e1, e3⟩ := List.getElem?_eq_some_iff.1 h1
      obtain ⟨e2, e4⟩ := List.getElem?_eq_some_iff.1 h2
      have z : j - ks.length = 0 := by simp at e1; omega
      simp only [z, List.getElem_cons_zero] at e3 e4
      subst e3 e4
      exact mv hu
theorem board_new {w : World} : BoardIs w.heap.size (w.alloc (.cells #[.slice none 0 0] 87)) w.heap.size (.slice none 0 0) [] [] := by
  have h := Gy.alloc_at w (.cells #[.slice none 0 0] 87)
  refine ⟨?_, ?_, ⟨rfl, .inl ⟨rfl, rfl⟩⟩, by simp [Value.ownBlock], rfl, Nat.le_refl _, (Gy.alloc_below w _).size, fun i u row h1 h2 => by simp at h1⟩
  · unfold World.cell?; simp only [h]; rfl
  · unfold World.frozen?; simp only [h]; simp
section
variable {P : Program} {ops : Array Oper} {o : Oper} {a : Act} {Q : Exit → Act → World → Prop} {K : Act → World → Prop}
/-- append(v, u), one cell, as a step of a region that draws its order -/
theorem step_append_val {w0 W : World} (base : Nat) (hw : Region.wanted o (yielded ops a.tmps) = true) (s x : Operand) (t e : TypeId) (z : Value) (bytes : Nat)
    (ho : o.op = .call { callee := .builtin .append, args := #[s, x], argTypes := #[t, t] })
    (ht : P.underlying t = some (.slice e)) (hinfo : (P.info? e).map (fun i => (i.zero, i.size, i.bytes)) = some (some z, 1, bytes)) (hz : z.oneCell' = true) (hb0 : 0 < bytes)
    (v : Value) (ks : List Value) (ad : Addr) (c : Nat) (u : Value) (hs : a.eval s = v) (hx : a.eval x = .slice (some ad) 1 c)
    (HO : W.ownsRow base e 1 v ks.length ks) (hc : W.cell? (ad.add 0) = some u) (hu : u.oneCell' = true) (HB : Below base w0 W) (hbase : base ≤ W.heap.size) (hl : (ks.length + 1) * bytes ≤ 140737488355328)
    (h : ∀ v1 w1, w1.ownsRow base e 1 v1 (ks ++ [u]).length (ks ++ [u]) → Below base w0 w1 → W.grownBy w1 v.ownBlock → (v1.ownBlock = v.ownBlock ∨ ∃ b, v1.ownBlock = some b ∧ W.heap.size ≤ b) → K (a.put o.dst v1) w1) :
    if Region.wanted o (yielded ops a.tmps) = true then Oper.wp P o a W K Q else K (a.put o.dst undef) W := by
  obtain ⟨i0, hi, hzz⟩ := Option.map_eq_some_iff.1 hinfo
  simp only [Prod.mk.injEq] at hzz
  obtain ⟨hz0, hz1, hz2⟩ := hzz
  have hlen : ks.length + 1 ≤ 140737488355328 := Nat.le_trans (Nat.le_mul_of_pos_right _ hb0) hl
  obtain ⟨v1, w1, hr, h2, h3, _, h5⟩ := run_append_own_at (P := P) W base t o.type e i0 z 1 bytes ht hi hz0 hz1 hz2 (by cases z <;> first | rfl | cases hz) (by omega) v ks.length ks HO ad 1 c [u] (by simp)
    (fun j q hq => by
      rcases j with _ | j
      · simp at hq; subst hq; exact hc
      · simp at hq) (by intro q hq; simp at hq; subst hq; exact hu) (by simp only [maxLen]; omega) hl hbase
  rw [if_pos hw]
  unfold Oper.wp execOp
  simp only [ho, resolve, invoke, builtin, Sem.run_bind, Sem.run_pure, Result.andThen_ok, List.map_toArray, List.map_cons, List.map_nil, hs, hx, hr]
  have e1 : (ks ++ [u]).length = ks.length + 1 := by simp
  refine h v1 w1 (by rw [e1]; exact h2) (HB.grown h3 hbase (own_base HO)) h3 ?_
  rcases h5 with hat | hat
  · exact .inl hat
  · exact .inr ⟨_, hat, Nat.le_refl _⟩
end
end Go.Proofs.Ytcmigmldecacpaa.Vec

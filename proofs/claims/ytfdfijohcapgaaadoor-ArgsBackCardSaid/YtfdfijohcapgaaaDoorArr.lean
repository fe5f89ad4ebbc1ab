/- Arrays in memory: facts for walks. -/
import Derived.Test.YtfdfijohcapgaaaDoorMem
import Derived.Deep.MidRow
import Derived.Laws.Cover3
namespace Gy
open Go Go.RowKit Go.Proofs.YtfdfijohcapgaaaDoorW.PrintWords Go.Proofs.YtfdfijohcapgaaaDoorW.PrintMore

/-- cells lie in a block of their own, and may be written -/
structure Arr (w : World) (b : Nat) (vs : List Value) : Prop where
  lt : b < w.heap.size
  at_ : w.rangeAt b 0 vs
  fr : ∀ o, w.frozen? ⟨b, o, none⟩ = false
theorem Arr.cell {w : World} {b : Nat} {vs : List Value} (h : Arr w b vs) {i : Nat} {v : Value} (hv : vs[i]? = some v) : w.cell? ⟨b, i, none⟩ = some v := by
  have h1 := h.at_ i v hv
  rw [Nat.zero_add] at h1
  exact h1
theorem Arr.of_block {w w' : World} {b : Nat} {vs : List Value} (h : Arr w b vs) (e : w'.heap[b]? = w.heap[b]?) (hl : b < w'.heap.size) : Arr w' b vs := by
  refine ⟨hl, fun j v hv => ?_, fun o => ?_⟩
  · have := h.at_ j v hv
    unfold World.cell? at this ⊢
    rw [e]; exact this
  · have := h.fr o
    unfold World.frozen? at this ⊢
    rw [e]; exact this
theorem Arr.below {w w' : World} {b : Nat} {vs : List Value} (h : Arr w b vs) (hb : Below w.heap.size w w') : Arr w' b vs :=
  h.of_block (hb.block b h.lt) (Nat.lt_of_lt_of_le h.lt hb.size)
theorem Arr.drewN {w : World} {b : Nat} {vs : List Value} (h : Arr w b vs) (n : Nat) : Arr (w.drewN n) b vs := h.below (pw_below_drewN (Below.refl _ _) n)
theorem Arr.drew {w : World} {b : Nat} {vs : List Value} (h : Arr w b vs) : Arr w.drew b vs := h.drewN 1
theorem Arr.alloc {w : World} {b : Nat} {vs : List Value} (h : Arr w b vs) (o : Obj) : Arr (w.alloc o) b vs := h.below (Gy.alloc_below w o)
theorem Arr.far {w : World} {b : Nat} {vs : List Value} (h : Arr w b vs) {b' : Nat} (hb : b' ≠ b) (o : Nat) (v : Value) : Arr (w.setCell ⟨b', o, none⟩ v) b vs :=
  h.of_block (Below.heap_setCell w _ _ _ (fun e => hb e.symm)) (by rw [Gy.set_size]; exact h.lt)
theorem Arr.set {w : World} {b : Nat} {vs : List Value} (h : Arr w b vs) {i : Nat} (hi : i < vs.length) (v : Value) : Arr (w.setCell ⟨b, i, none⟩ v) b (vs.set i v) := by
  refine ⟨by rw [Gy.set_size]; exact h.lt, fun j u hu => ?_, fun o => by rw [Gy.set_frozen]; exact h.fr o⟩
  rw [Nat.zero_add]
  rw [List.getElem?_set] at hu
  by_cases e : i = j
  · subst e
    rw [if_pos rfl, if_pos hi] at hu
    injection hu with hu
    subst hu
    exact Gy.cell_set (h.cell (List.getElem?_eq_getElem hi)) _
  · rw [if_neg e] at hu
    rw [Gy.set_other _ _ _ _ _ e]
    exact h.cell hu
theorem Arr.fresh (w : World) (vs : List Value) (C : Array Value) (hC : C = vs.toArray) (t : TypeId) : Arr (w.alloc (.cells C t)) w.heap.size vs := by
  subst hC
  have h := Gy.alloc_at w (.cells vs.toArray t)
  refine ⟨by show _ < (w.heap.push _).size; simp, fun j v hv => ?_, fun o => ?_⟩
  · unfold World.cell?
    simp only [h, Nat.zero_add]
    rw [← hv]
    exact List.getElem?_toArray
  · unfold World.frozen?
    simp only [h]
    simp
theorem Arr.of_cells {w : World} {b : Nat} {vs : List Value} {t : TypeId} (h : w.heap[b]? = some (.cells vs.toArray t (0, 0))) : Arr w b vs := by
  refine ⟨?_, fun j v hv => ?_, fun o => ?_⟩
  · rcases Nat.lt_or_ge b w.heap.size with h' | h'
    · exact h'
    · rw [Array.getElem?_eq_none h'] at h; cases h
  · unfold World.cell?
    simp only [h, Nat.zero_add]
    rw [← hv]
    exact List.getElem?_toArray
  · unfold World.frozen?
    simp only [h]
    simp
theorem Arr.there {w : World} {b : Nat} {vs : List Value} (h : Arr w b vs) : w.there b 0 vs.length := fun j hj => by
  rw [Nat.zero_add]
  exact ⟨by rw [h.cell (List.getElem?_eq_getElem hj)]; rfl, h.fr j⟩
theorem Arr.load {P : Program} {w : World} {b : Nat} {vs : List Value} (h : Arr w b vs) {t : TypeId} {d : TypeDesc} (hu : P.underlying t = some d) (hd : d.isRow = true) (hi : (P.info? t).map (·.size) = some vs.length) :
    (Instr.loadAt t (.pointer (some ⟨b, 0, none⟩))).run P w = .ok (.agg vs.toArray) w := run_loadAt_mid w b 0 t vs d h.at_ hu hd hi
theorem Arr.loadV {P : Program} {w : World} {b : Nat} {vs : List Value} (h : Arr w b vs) {t : TypeId} {d : TypeDesc} (hu : P.underlying t = some d) (hd : d.isRow = true) (hi : (P.info? t).map (·.size) = some vs.length) :
    (loadVar t ⟨b, 0, none⟩).run P w = .ok (.agg vs.toArray) w := run_loadVar_mid w b 0 t vs d h.at_ hu hd hi
theorem Arr.store {P : Program} {w : World} {b : Nat} {vs us : List Value} (h : Arr w b vs) (hl : us.length = vs.length) {t : TypeId} (hi : (P.info? t).map (·.size) = some us.length) (h1 : ∀ v ∈ us, v.oneCell' = true) :
    (Instr.storeAt t (.pointer (some ⟨b, 0, none⟩)) (.agg us.toArray)).run P w = .ok () (w.setCells b 0 us) :=
  run_storeAt_mid w b 0 t us.toArray (by rw [List.size_toArray, hl]; exact h.there) (by rw [List.size_toArray]; exact hi) (all_oneCell_toArray h1)
theorem Arr.storeC {P : Program} {w : World} {b : Nat} {vs us : List Value} (h : Arr w b vs) (hl : us.length = vs.length) (h1 : ∀ v ∈ us, v.oneCell' = true) :
    (storeCells ⟨b, 0, none⟩ us).run P w = .ok () (w.setCells b 0 us) := by
  have ht : w.there b 0 us.length := by rw [hl]; exact h.there
  exact run_storeCells_cells (P := P) b 0 us 0 w (fun j hj => by simpa using (ht j hj).1) (fun j hj => by simpa using (ht j hj).2) h1
theorem Arr.there2 {w : World} {b : Nat} {vs : List Value} (h : Arr w b vs) (us : List Value) (hl : us.length = vs.length) : w.there b 0 us.toArray.size := by rw [List.size_toArray, hl]; exact h.there
theorem Arr.put {w : World} {b : Nat} {vs : List Value} (h : Arr w b vs) (us : List Value) (hl : us.length = vs.length) : Arr (w.setCells b 0 us) b us := by
  refine ⟨?_, World.rangeAt_setCells_same w b 0 us (by rw [hl]; exact h.there), fun o => by rw [World.frozen?_setCells]; exact h.fr o⟩
  have : ∀ (us : List Value) (o : Nat) (w : World), (w.setCells b o us).heap.size = w.heap.size := by
    intro us
    induction us with
    | nil => intro o w; rfl
    | cons v r ih => intro o w; exact (ih (o + 1) _).trans (Gy.set_size _ _ _)
  rw [this]; exact h.lt
theorem setCells_block {b b' : Nat} (hb : b' ≠ b) : ∀ (us : List Value) (o : Nat) (w : World), (w.setCells b' o us).heap[b]? = w.heap[b]?
  | [], _, _ => rfl
  | _ :: r, o, w => (setCells_block hb r (o + 1) _).trans (Below.heap_setCell w _ _ _ (fun e => hb e.symm))
theorem setCells_size {b' : Nat} : ∀ (us : List Value) (o : Nat) (w : World), (w.setCells b' o us).heap.size = w.heap.size
  | [], _, _ => rfl
  | _ :: r, o, _ => (setCells_size r (o + 1) _).trans (Gy.set_size _ _ _)
theorem setCells_below {B b : Nat} {a : World} (hb : B ≤ b) : ∀ (vs : List Value) (o : Nat) {w : World}, Below B a w → Below B a (w.setCells b o vs)
  | [], _, _, h => h
  | v :: r, o, _, h => setCells_below hb r (o + 1) (h.setCell (show B ≤ (⟨b, o, none⟩ : Addr).block from hb) v)
theorem Arr.far_cells {w : World} {b : Nat} {vs : List Value} (h : Arr w b vs) {b' : Nat} (hb : b' ≠ b) (o : Nat) (us : List Value) : Arr (w.setCells b' o us) b vs :=
  h.of_block (setCells_block hb us o w) (by rw [setCells_size]; exact h.lt)
theorem Arr.reads {w : World} {b : Nat} {k : IntKind} {xs : List Int} (h : Arr w b (nums k xs)) (hl : xs.length ≤ 9223372036854775807) : ReadsInt w k (some ⟨b, 0, none⟩) xs.length xs := by
  refine ⟨rfl, hl, fun _ => ⟨_, rfl, fun j hj => ?_⟩⟩
  rw [Gy.addr_add]
  refine h.cell ?_
  simp [nums, List.getD_eq_getElem?_getD, hj]
theorem size_alloc' (w : World) (o : Obj) : (w.alloc o).heap.size = w.heap.size + 1 := by
  show (w.heap.push o).size = _
  simp
theorem nums_one (k : IntKind) (xs : List Int) : ∀ v ∈ nums k xs, v.oneCell' = true := by
  intro v hv
  unfold nums at hv
  obtain ⟨x, _, rfl⟩ := List.mem_map.1 hv
  rfl
theorem nums_len (k : IntKind) (xs : List Int) : (nums k xs).length = xs.length := List.length_map _
theorem nums_set (k : IntKind) (xs : List Int) (i : Nat) (x : Int) : (nums k xs).set i (.int k x) = nums k (xs.set i x) := by unfold nums; rw [List.map_set]
theorem nums_getD {k : IntKind} {xs : List Int} {i : Nat} (h : i < xs.length) : (nums k xs)[i]? = some (.int k (xs.getD i 0)) := by
  unfold nums
  rw [List.getElem?_map, List.getElem?_eq_getElem h, List.getD_eq_getElem?_getD, List.getElem?_eq_getElem h]
  rfl
end Gy

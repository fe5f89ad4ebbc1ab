/- Functions that the printer does not print, in the form in which it asks for them: a copy of bytes, so much of a vector and another one, so much of a vector, bytes filled up. -/
import Derived.Test.YtcmigmldecacpaaVecMore
import Derived.Laws.CopyOwn
namespace Go.Proofs.Ytcmigmldecacpaa.Giv
open Go Go.RowKit Go.Proofs.YtcmigmldecacpaaW.PrintWords Go.Proofs.YtcmigmldecacpaaW.PrintLast Go.Proofs.YtcmigmldecacpaaW.PrintMore Go.Proofs.Ytcmigmldecacpaa.Vec

theorem R_bytes {w : World} {base : Nat} {v : Value} {xs : List Int} (h : w.ownsRow base 5 1 v xs.length (nums .u8 xs)) : Kd.R (Kd.int .u8) 5 w base (fun _ => True) v xs :=
  ⟨fun _ _ => trivial, _, h, Kd.reps_scalar xs⟩
theorem below_cell {w w' : World} {a : Addr} {u : Value} (hb : Below w.heap.size w w') (h : w.cell? a = some u) : w'.cell? a = some u := by
  have hlt : a.block < w.heap.size := by
    rcases Nat.lt_or_ge a.block w.heap.size with h' | h'
    · exact h'
    · simp [World.cell?, Array.getElem?_eq_none h'] at h
  rw [hb.cell hlt]; exact h
def okB (l : List Int) : Bool := l.all fun x => decide (0 ≤ x) && decide (x < 256)
theorem okB_by {l : List Int} (h : okB l = true) : By l := by
  intro x hx
  have := List.all_eq_true.1 h x hx
  simp only [Bool.and_eq_true, decide_eq_true_eq] at this
  exact this
theorem by_okB {l : List Int} (h : By l) : okB l = true := by
  refine List.all_eq_true.2 fun x hx => ?_
  have := h x hx
  simp only [Bool.and_eq_true, decide_eq_true_eq]
  exact this
/-! ### bytes.Clone -/
def bytes_Clone.f (l0 : List Int) : Option (List Int) := if l0.length ≤ 100000 then some l0 else none
theorem bytes_Clone.calls (A0 : Option Addr) (c0 : Nat) (l0 r : List Int) (w : World) (hr0 : Kd.C (Kd.int .u8) w A0 l0.length l0) (_hc0 : l0.length ≤ c0) (h : bytes_Clone.f l0 = some r) :
    Calls Try.prog 51 #[.slice A0 l0.length c0] w fun e w' => ∃ v0_ : Value, e = .returned (v0_) ∧ Kd.R (Kd.int .u8) 5 w' w.heap.size (fun _ => True) v0_ r ∧ Below w.heap.size w w' := by
  unfold bytes_Clone.f at h
  split at h
  · obtain rfl := Option.some.inj h
    refine (clone_calls A0 l0.length c0 l0 w (Gy.reads_of_kd hr0) (by omega)).mono ?_
    rintro e w' ⟨v, rfl, ho, hb⟩
    exact ⟨v, rfl, R_bytes ho, hb⟩
  · cases h
/-! ### vector.Axpy, vector.Scale -/
def vector_Axpy.f (l0 l1 : List Int) (a2 : Int) : Option (List Int × Int) :=
  if l0.length = l1.length then (if l0.length ≤ 100000 ∧ okB l0 = true ∧ okB l1 = true ∧ 0 ≤ a2 ∧ a2 < 256 then some (plusL l0 l1 a2.toNat, 0) else none) else some ([], 1)
theorem axpy_apart (A0 : Option Addr) (n0 c0 : Nat) (A1 : Option Addr) (n1 c1 : Nat) (c : Int) (w : World) (h : n0 ≠ n1) :
    Calls Try.prog 54 #[.slice A0 n0 c0, .slice A1 n1 c1, .int .u8 c] w fun e w' => e = .returned (.tuple #[.slice none 0 0, .int .i64 1]) ∧ w = w' := by
  have t1 : ((n0 : Int) == (n1 : Int)) = false := by simp; omega
  have t2 : (n0 == n1) = false := by simp; exact h
  have t3 : ((n0 : Int) != (n1 : Int)) = true := by simp; omega
  clear h
  go_enter Try.func54, Try.ntmps54
  go_wp2
  go_ret2
  exact ⟨rfl, rfl⟩
theorem vector_Axpy.calls (A0 : Option Addr) (c0 : Nat) (l0 : List Int) (A1 : Option Addr) (c1 : Nat) (l1 : List Int) (a2 : Int) (r1 : List Int) (r2 : Int) (w : World) (hr0 : Kd.C (Kd.int .u8) w A0 l0.length l0) (_hc0 : l0.length ≤ c0) (hr1 : Kd.C (Kd.int .u8) w A1 l1.length l1) (_hc1 : l1.length ≤ c1) (h : vector_Axpy.f l0 l1 a2 = some (r1, r2)) :
    Calls Try.prog 54 #[.slice A0 l0.length c0, .slice A1 l1.length c1, .int .u8 a2] w fun e w' => ∃ v0_ : Value, e = .returned (.tuple #[v0_, .int .i64 r2]) ∧ Kd.R (Kd.int .u8) 5 w' w.heap.size (fun _ => True) v0_ r1 ∧ Below w.heap.size w w' := by
  unfold vector_Axpy.f at h
  split at h
  · rename_i hl
    split at h
    · rename_i hc
      obtain ⟨h1, h2, h3, h4, h5⟩ := hc
      obtain ⟨rfl, rfl⟩ := Prod.mk.inj (Option.some.inj h)
      obtain ⟨c, rfl⟩ : ∃ c : Nat, a2 = c := ⟨a2.toNat, by omega⟩
      rw [Int.toNat_natCast]
      have k1 := Gy.reads_of_kd hr1
      rw [← hl] at k1 ⊢
      refine (axpy_calls A0 c0 A1 c1 l0.length c l0 l1 w (Gy.reads_of_kd hr0) k1 (okB_by h2) (okB_by h3) (by omega) h1).mono ?_
      rintro e w' ⟨A', c', rfl, hm⟩
      have hpl := plusL_length hl.symm c
      refine ⟨_, rfl, R_bytes ?_, hm.2⟩
      have := hm.1
      rw [hpl]
      exact this
    · cases h
  · rename_i hl
    obtain ⟨rfl, rfl⟩ := Prod.mk.inj (Option.some.inj h)
    refine (axpy_apart A0 _ c0 A1 _ c1 a2 w hl).mono ?_
    rintro e w' ⟨rfl, rfl⟩
    exact ⟨_, rfl, Kd.R_nil _ _ _ _ _, Below.refl _ _⟩
def vector_Scale.f (l0 : List Int) (a1 : Int) : Option (List Int) :=
  if l0.length ≤ 100000 ∧ okB l0 = true ∧ 0 ≤ a1 ∧ a1 < 256 then some (scaleL l0 a1.toNat) else none
theorem scaleL_length (a : List Int) (c : Nat) : (scaleL a c).length = a.length := by unfold scaleL; rw [List.length_zipWith]; omega
theorem vector_Scale.calls (A0 : Option Addr) (c0 : Nat) (l0 : List Int) (a1 : Int) (r : List Int) (w : World) (hr0 : Kd.C (Kd.int .u8) w A0 l0.length l0) (_hc0 : l0.length ≤ c0) (h : vector_Scale.f l0 a1 = some r) :
    Calls Try.prog 53 #[.slice A0 l0.length c0, .int .u8 a1] w fun e w' => ∃ v0_ : Value, e = .returned (v0_) ∧ Kd.R (Kd.int .u8) 5 w' w.heap.size (fun _ => True) v0_ r ∧ Below w.heap.size w w' := by
  unfold vector_Scale.f at h
  split at h
  · rename_i hc
    obtain ⟨h1, h2, h4, h5⟩ := hc
    obtain rfl := Option.some.inj h
    obtain ⟨c, rfl⟩ : ∃ c : Nat, a1 = c := ⟨a1.toNat, by omega⟩
    rw [Int.toNat_natCast]
    refine (scale_calls A0 c0 l0.length c l0 w (Gy.reads_of_kd hr0) (okB_by h2) (by omega) h1).mono ?_
    rintro e w' ⟨A', c', rfl, hm⟩
    refine ⟨_, rfl, R_bytes ?_, hm.2⟩
    have := hm.1
    rw [scaleL_length]
    exact this
  · cases h
/-! ### Fill -/
def fillL (l : List Int) (n : Nat) : List Int := l.take n ++ List.replicate (n - l.length) 0
theorem fillL_length (l : List Int) (n : Nat) : (fillL l n).length = n := by unfold fillL; rw [List.length_append, List.length_take, List.length_replicate]; omega
theorem splice_fill (l : List Int) (n : Nat) : splice (List.replicate n (Value.int .u8 0)) 0 ((nums .u8 l).take n) = nums .u8 (fillL l n) := by
  have hl : ((nums .u8 l).take n).length = min n l.length := by rw [List.length_take]; unfold nums; rw [List.length_map]
  unfold splice fillL
  rw [List.take_zero, List.nil_append, List.drop_replicate, Nat.zero_add, hl]
  unfold nums
  rw [List.map_append, List.map_take, List.map_replicate]
  congr 2
  omega
theorem own_of_cells {w : World} {base g n : Nat} {e : TypeId} {xs : List Int} (h : w.heap[g]? = some (.cells (nums .u8 xs).toArray e (0, 0))) (hb : base ≤ g) (hn : xs.length = n) (hm : n ≤ 9223372036854775807) : w.ownsRow base e 1 (.slice (some ⟨g, 0, none⟩) n n) n (nums .u8 xs) := by
  subst hn
  refine ⟨by simp [nums], .inr ⟨g, _, _, rfl, hb, h, Nat.le_refl _, hm, by simp [nums], ?_⟩⟩
  simp only [Nat.mul_one]
  rw [List.take_of_length_le (by simp [nums])]
set_option maxHeartbeats 2000000 in
set_option maxRecDepth 100000 in
theorem fill_calls (A0 : Option Addr) (c0 n : Nat) (xs : List Int) (w : World) (hR : ReadsInt w .u8 A0 xs.length xs) (hn : n ≤ 100000) (hx : xs.length ≤ 100000) :
    Calls Try.prog 47 #[.slice A0 xs.length c0, .int .i64 (n : Int)] w fun e w' => ∃ v, e = .returned v ∧ w'.ownsRow w.heap.size 5 1 v n (nums .u8 (fillL xs n)) ∧ Below w.heap.size w w' := by
  have hm := print_make (P := Try.prog) 31 5 .u8 1 Try.underlying31 info_u8 (by decide) n (by omega)
  obtain ⟨CS, hCS⟩ : ∃ CS : List Value, CS = (nums .u8 xs).take n := ⟨_, rfl⟩
  have hlen : CS.length = min xs.length n := by rw [hCS, List.length_take]; unfold nums; rw [List.length_map]; omega
  have hone : ∀ v ∈ CS, v.oneCell' = true := by
    intro v hv
    rw [hCS] at hv
    obtain ⟨x, _, rfl⟩ := List.mem_map.1 (List.mem_of_mem_take hv)
    rfl
  have hpos : 0 < CS.length → ∃ ad, A0 = some ad ∧ ∀ j v, CS[j]? = some v → w.cell? (ad.add j) = some v := by
    intro h0
    obtain ⟨ad, e, hc⟩ := hR.2.2 (by omega)
    refine ⟨ad, e, fun j v hj => ?_⟩
    obtain ⟨hj1, rfl⟩ := List.getElem?_eq_some_iff.1 hj
    rw [hc j (by omega)]
    subst hCS
    simp [nums, List.getD_eq_getElem?_getD, (show j < xs.length by omega)]
  have hcur : (w.alloc (.cells (madeCells #[.int .u8 0] n) 5)).heap[w.heap.size]? = some (.cells (List.replicate n (Value.int .u8 0)).toArray 5 (0, 0)) := by
    rw [Gy.alloc_at, ← toList_madeCells_one]
  have hsp := splice_fill xs n
  rw [← hCS] at hsp
  have HS := Lib.hid (And.intro hsp (And.intro hlen (And.intro hone (And.intro hpos (And.intro hcur hn)))))
  clear hR hx hlen hone hpos hcur hsp hCS hn
  go_enter Try.func47, Try.ntmps47
  go_wp2_with (refine wpList_copy_splice rfl (.tmp 8) (.tmp 9) 31 31 rfl 5 Try.underlying31 (by kernel_rfl) (some ⟨w.heap.size, 0, none⟩) A0 n n xs.length c0 rfl rfl w.heap.size 0 (List.replicate n (Value.int .u8 0)) 5 HS.out.2.2.2.2.1 CS HS.out.2.1 (fun h => ⟨rfl, by
      obtain ⟨ad, e, hc⟩ := HS.out.2.2.2.1 h
      exact ⟨ad, e, fun j v hj => below_cell (Gy.alloc_below w _) (hc j v hj)⟩⟩) (by rw [List.length_replicate]; have := HS.out.2.1; omega) HS.out.2.2.1 w.heap.size w (Gy.alloc_below w _) (Nat.le_refl _) ?_; intro w4 hg4 hb4; have H4 := Lib.hid (And.intro hg4 hb4); clear hg4 hb4)
  go_ret
  have h4 : w4.heap[w.heap.size]? = some (.cells (splice (List.replicate n (Value.int .u8 0)) 0 CS).toArray 5 (0, 0)) := H4.out.1
  rw [HS.out.1] at h4
  exact ⟨_, rfl, own_of_cells h4 (Nat.le_refl _) (fillL_length xs n) (by have := HS.out.2.2.2.2.2; omega), H4.out.2⟩
def geyserref03_Fill.f (l0 : List Int) (a1 : Int) : Option (List Int) := if 0 ≤ a1 ∧ a1 ≤ 100000 ∧ l0.length ≤ 100000 then some (fillL l0 a1.toNat) else none
theorem geyserref03_Fill.calls (A0 : Option Addr) (c0 : Nat) (l0 : List Int) (a1 : Int) (r : List Int) (w : World) (hr0 : Kd.C (Kd.int .u8) w A0 l0.length l0) (_hc0 : l0.length ≤ c0) (h : geyserref03_Fill.f l0 a1 = some r) :
    Calls Try.prog 47 #[.slice A0 l0.length c0, .int .i64 a1] w fun e w' => ∃ v0_ : Value, e = .returned (v0_) ∧ Kd.R (Kd.int .u8) 5 w' w.heap.size (fun _ => True) v0_ r ∧ Below w.heap.size w w' := by
  unfold geyserref03_Fill.f at h
  split at h
  · rename_i hc
    obtain rfl := Option.some.inj h
    obtain ⟨n, rfl⟩ : ∃ n : Nat, a1 = n := ⟨a1.toNat, by omega⟩
    rw [Int.toNat_natCast]
    refine (fill_calls A0 c0 n l0 w (Gy.reads_of_kd hr0) (by omega) hc.2.2).mono ?_
    rintro e w' ⟨v, rfl, ho, hb⟩
    refine ⟨v, rfl, R_bytes ?_, hb⟩
    rw [fillL_length]
    exact ho
  · cases h
end Go.Proofs.Ytcmigmldecacpaa.Giv

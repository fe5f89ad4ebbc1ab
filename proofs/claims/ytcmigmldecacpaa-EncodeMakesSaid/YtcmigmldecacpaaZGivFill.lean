/- Bytes filled up, in the form in which the printer asks for it. -/
import Derived.Test.YtcmigmldecacpaaZGiv
import Derived.Laws.CopyOwn
namespace Go.Proofs.Ytcmigmldecacpaa.Giv
open Go Go.RowKit Go.Proofs.YtcmigmldecacpaaW.PrintWords Go.Proofs.YtcmigmldecacpaaW.PrintLast Go.Proofs.YtcmigmldecacpaaW.PrintMore Go.Proofs.Ytcmigmldecacpaa.Vec

/-! ### Fill -/
def fillL (l : List Int) (n : Nat) : List Int := l.take n ++ List.replicate (n - l.length) 0
theorem fillL_length (l : List Int) (n : Nat) : (fillL l n).length = n := by unfold fillL; rw [List.length_append, List.length_take, List.length_replicate]; omega
theorem splice_fill (l : List Int) (n : Nat) : splice (List.replicate n (Value.int .u8 0)) 0 ((nums .u8 l).take n) = nums .u8 (fillL l n) := by
  have hl : ((nums .u8 l).take n).length = min n l.length := by rw [List.length_take]; unfold nums; rw [List.length_map]
  unfold splice fillL
  rw [List.take_zero, List.nil_append, List.drop_replicate, Nat.zero_add, hl]
  unfold nums
  rw [List.map_append, List.map_take, List.map_replicate]
  congr 2
  omega
theorem own_of_cells {w : World} {base g n : Nat} {e : TypeId} {xs : List Int} (h : w.heap[g]? = some (.cells (nums .u8 xs).toArray e (0, 0))) (hb : base ≤ g) (hn : xs.length = n) (hm : n ≤ 9223372036854775807) : w.ownsRow base e 1 (.slice (some ⟨g, 0, none⟩) n n) n (nums .u8 xs) := by
  subst hn
  refine ⟨by simp [nums], .inr ⟨g, _, _, rfl, hb, h, Nat.le_refl _, hm, by simp [nums], ?_⟩⟩
  simp only [Nat.mul_one]
  rw [List.take_of_length_le (by simp [nums])]
set_option maxHeartbeats 2000000 in
set_option maxRecDepth 100000 in
theorem fill_calls (A0 : Option Addr) (c0 n : Nat) (xs : List Int) (w : World) (hR : ReadsInt w .u8 A0 xs.length xs) (hn : n ≤ 100000) (hx : xs.length ≤ 100000) :
    Calls Try.prog 47 #[.slice A0 xs.length c0, .int .i64 (n : Int)] w fun e w' => ∃ v, e = .returned v ∧ w'.ownsRow w.heap.size 5 1 v n (nums .u8 (fillL xs n)) ∧ Below w.heap.size w w' := by
  have hm := print_make (P := Try.prog) 31 5 .u8 1 Try.underlying31 info_u8 (by decide) n (by omega)
  obtain ⟨CS, hCS⟩ : ∃ CS : List Value, CS = (nums .u8 xs).take n := ⟨_, rfl⟩
  have hlen : CS.length = min xs.length n := by rw [hCS, List.length_take]; unfold nums; rw [List.length_map]; omega
  have hone : ∀ v ∈ CS, v.oneCell' = true := by
    intro v hv
    rw [hCS] at hv
    obtain ⟨x, _, rfl⟩ := List.mem_map.1 (List.mem_of_mem_take hv)
    rfl
  have hpos : 0 < CS.length → ∃ ad, A0 = some ad ∧ ∀ j v, CS[j]? = some v → w.cell? (ad.add j) = some v := by
    intro h0
    obtain ⟨ad, e, hc⟩ := hR.2.2 (by omega)
    refine ⟨ad, e, fun j v hj => ?_⟩
    obtain ⟨hj1, rfl⟩ := List.getElem?_eq_some_iff.1 hj
    rw [hc j (by omega)]
    subst hCS
    simp [nums, List.getD_eq_getElem?_getD, (show j < xs.length by omega)]
  have hcur : (w.alloc (.cells (madeCells #[.int .u8 0] n) 5)).heap[w.heap.size]? = some (.cells (List.replicate n (Value.int .u8 0)).toArray 5 (0, 0)) := by
    rw [Gy.alloc_at, ← toList_madeCells_one]
  have hsp := splice_fill xs n
  rw [← hCS] at hsp
  have HS := Lib.hid (And.intro hsp (And.intro hlen (And.intro hone (And.intro hpos (And.intro hcur hn)))))
  clear hR hx hlen hone hpos hcur hsp hCS hn
  go_enter Try.func47, Try.ntmps47
  go_wp2_with (refine wpList_copy_splice rfl (.tmp 8) (.tmp 9) 31 31 rfl 5 Try.underlying31 (by kernel_rfl) (some ⟨w.heap.size, 0, none⟩) A0 n n xs.length c0 rfl rfl w.heap.size 0 (List.replicate n (Value.int .u8 0)) 5 HS.out.2.2.2.2.1 CS HS.out.2.1 (fun h => ⟨rfl, by
      obtain ⟨ad, e, hc⟩ := HS.out.2.2.2.1 h
      exact ⟨ad, e, fun j v hj => below_cell (Gy.alloc_below w _) (hc j v hj)⟩⟩) (by rw [List.length_replicate]; have := HS.out.2.1; omega) HS.out.2.2.1 w.heap.size w (Gy.alloc_below w _) (Nat.le_refl _) ?_; intro w4 hg4 hb4; have H4 := Lib.hid (And.intro hg4 hb4); clear hg4 hb4)
  go_ret
  have h4 : w4.heap[w.heap.size]? = some (.cells (splice (List.replicate n (Value.int .u8 0)) 0 CS).toArray 5 (0, 0)) := H4.out.1
  rw [HS.out.1] at h4
  exact ⟨_, rfl, own_of_cells h4 (Nat.le_refl _) (fillL_length xs n) (by have := HS.out.2.2.2.2.2; omega), H4.out.2⟩
def geyserref03_Fill.f (l0 : List Int) (a1 : Int) : Option (List Int) := if 0 ≤ a1 ∧ a1 ≤ 100000 ∧ l0.length ≤ 100000 then some (fillL l0 a1.toNat) else none
theorem geyserref03_Fill.calls (A0 : Option Addr) (c0 : Nat) (l0 : List Int) (a1 : Int) (r : List Int) (w : World) (hr0 : Kd.C (Kd.int .u8) w A0 l0.length l0) (_hc0 : l0.length ≤ c0) (h : geyserref03_Fill.f l0 a1 = some r) :
    Calls Try.prog 47 #[.slice A0 l0.length c0, .int .i64 a1] w fun e w' => ∃ v0_ : Value, e = .returned (v0_) ∧ Kd.R (Kd.int .u8) 5 w' w.heap.size (fun _ => True) v0_ r ∧ Below w.heap.size w w' := by
  unfold geyserref03_Fill.f at h
  split at h
  · rename_i hc
    obtain rfl := Option.some.inj h
    obtain ⟨n, rfl⟩ : ∃ n : Nat, a1 = n := ⟨a1.toNat, by omega⟩
    rw [Int.toNat_natCast]
    refine (fill_calls A0 c0 n l0 w (Gy.reads_of_kd hr0) (by omega) hc.2.2).mono ?_
    rintro e w' ⟨v, rfl, ho, hb⟩
    refine ⟨v, rfl, R_bytes ?_, hb⟩
    rw [fillL_length]
    exact ho
  · cases h
end Go.Proofs.Ytcmigmldecacpaa.Giv

/- ReplayBoards: what is few, what is alike; it is awake. -/
import Derived.Test.YtcmigmldecacpaaBoardNew
namespace Go.Proofs.Ytcmigmldecacpaa.Vec
open Go Go.RowKit Go.Proofs.Ytcmigmldecacpaa.QReplayBoards Go.Proofs.YtcmigmldecacpaaW.PrintWords Go.Proofs.YtcmigmldecacpaaW.PrintMore Go.Proofs.YtcmigmldecacpaaW.PrintLast

theorem rdL_at (l : List (List Int)) (i : Nat) (hi : i < l.length) : rd_L1 l (i : Int) = l[i] := by
  unfold rd_L1
  rw [Int.toNat_natCast, List.getD_eq_getElem?_getD, List.getElem?_eq_getElem hi]
  rfl
theorem few_l0 (l : List (List Int)) (hn : l.length ≤ 9223372036854775807) : ∀ (d i k : Nat), i + d = l.length → d < k → i ≤ 40 → (∀ j (h : j < l.length), j < i → l[j].length ≤ 100) →
    ∃ r, geyserlaw12_few.l0 k l (l.length : Int) (i : Int) = some r ∧ (r = true → l.length ≤ 40 ∧ ∀ j (h : j < l.length), l[j].length ≤ 100) := by
  intro d
  induction d with
  | zero =>
    intro i k hi hk h40 hb
    obtain ⟨k, rfl⟩ : ∃ m, k = m + 1 := ⟨k - 1, by omega⟩
    simp only [geyserlaw12_few.l0]
    rw [if_neg (by omega)]
    exact ⟨true, rfl, fun _ => ⟨by omega, fun j h => hb j h (by omega)⟩⟩
  | succ d ih =>
    intro i k hi hk h40 hb
    obtain ⟨k, rfl⟩ : ∃ m, k = m + 1 := ⟨k - 1, by omega⟩
    simp only [geyserlaw12_few.l0]
    rw [if_pos (by omega)]
    by_cases h1 : (i : Int) ≥ 40
    · rw [if_pos h1]; exact ⟨false, rfl, fun h => by cases h⟩
    · rw [if_neg h1, if_pos (by omega), if_pos (by omega), rdL_at l i (by omega)]
      by_cases h2 : ((l[i]'(by omega)).length : Int) > 100
      · rw [if_pos h2]; exact ⟨false, rfl, fun h => by cases h⟩
      · rw [if_neg h2, Gy.wrap64_id (by omega) (by omega), show ((i : Int) + 1) = ((i + 1 : Nat) : Int) from by omega]
        exact ih (i + 1) k (by omega) (by omega) (by omega) (fun j h hj => by
          by_cases e : j = i
          · subst e; omega
          · exact hb j h (by omega))
theorem few_tells (A : Option Addr) (c : Nat) (l : List (List Int)) (w : World) (hC : kvals.C w A l.length l) (hc : l.length ≤ c) (hn : l.length ≤ 9223372036854775807) :
    Calls Try.prog 14 #[.slice A l.length c] w fun e w' => (∃ r, e = .returned (.bool r) ∧ (r = true → l.length ≤ 40 ∧ ∀ j (h : j < l.length), l[j].length ≤ 100)) ∧ Below w.heap.size w w' := by
  obtain ⟨r, h1, h2⟩ := few_l0 l hn l.length 0 (l.length + 1) (by omega) (by omega) (by omega) (fun j _ h => by omega)
  exact (geyserlaw12_few.calls (l.length + 1) A c l r w hC hc h1).mono fun e w' h => ⟨⟨r, h.1, h2⟩, h.2.below⟩
theorem alike_l0 (l : List (List Int)) (n : Nat) (hn : l.length ≤ 9223372036854775807) (h0 : ∀ (h : 0 < l.length), l[0].length = n) : ∀ (d i k : Nat), i + d = l.length → d < k → (∀ j (h : j < l.length), j < i → l[j].length = n) →
    ∃ r i0, geyserlaw12_alike.l0 k l (l.length : Int) (i : Int) = some r ∧ i0 ≤ l.length ∧ (∀ j (h : j < l.length), j < i0 → l[j].length = n) ∧ (r = true ∧ i0 = l.length ∨ r = false ∧ ∃ h : i0 < l.length, l[i0].length ≠ n) := by
  intro d
  induction d with
  | zero =>
    intro i k hi hk hb
    obtain ⟨k, rfl⟩ : ∃ m, k = m + 1 := ⟨k - 1, by omega⟩
    simp only [geyserlaw12_alike.l0]
    rw [if_neg (by omega)]
    exact ⟨true, l.length, rfl, Nat.le_refl _, fun j h hj => hb j h (by omega), .inl ⟨rfl, rfl⟩⟩
  | succ d ih =>
    intro i k hi hk hb
    obtain ⟨k, rfl⟩ : ∃ m, k = m + 1 := ⟨k - 1, by omega⟩
    simp only [geyserlaw12_alike.l0]
    have e0 : rd_L1 l 0 = l[0]'(by omega) := rdL_at l 0 (by omega)
    rw [if_pos (by omega), if_pos (by omega), if_pos (by omega), if_pos (by omega), rdL_at l i (by omega), e0, h0 (by omega)]
    by_cases h2 : ((l[i]'(by omega)).length : Int) = (n : Int)
    · rw [if_pos h2, Gy.wrap64_id (by omega) (by omega), show ((i : Int) + 1) = ((i + 1 : Nat) : Int) from by omega]
      exact ih (i + 1) k (by omega) (by omega) (fun j h hj => by
        by_cases e : j = i
        · subst e; omega
        · exact hb j h (by omega))
    · rw [if_neg h2]
      exact ⟨false, i, rfl, by omega, hb, .inr ⟨rfl, by omega, by omega⟩⟩
theorem alike_tells (l : List (List Int)) (n : Nat) (hn : l.length ≤ 9223372036854775807) (h0 : ∀ (h : 0 < l.length), l[0].length = n) : ∃ r i0, geyserlaw12_alike.f (l.length + 1) l = some r ∧ i0 ≤ l.length ∧ (∀ j (h : j < l.length), j < i0 → l[j].length = n) ∧ (r = true ∧ i0 = l.length ∨ r = false ∧ ∃ h : i0 < l.length, l[i0].length ≠ n) :=
  alike_l0 l n hn h0 l.length 0 (l.length + 1) (by omega) (by omega) (fun j _ h => by omega)
theorem alike_calls (A : Option Addr) (c : Nat) (l : List (List Int)) (r : Bool) (w : World) (hC : kvals.C w A l.length l) (hc : l.length ≤ c) (h : geyserlaw12_alike.f (l.length + 1) l = some r) :
    Calls Try.prog 16 #[.slice A l.length c] w fun e w' => e = .returned (.bool r) ∧ Below w.heap.size w w' :=
  (geyserlaw12_alike.calls (l.length + 1) A c l r w hC hc h).mono fun _ _ h => ⟨h.1, h.2.below⟩
theorem lit_vals (w : World) (f1 f2 : Nat × Nat) : kvals.C ((w.alloc (.cells #[.int .u8 5] 5 f1)).alloc (.cells #[.slice (some ⟨w.heap.size, 0, none⟩) 1 1] 31 f2)) (some ⟨w.heap.size + 1, 0, none⟩) 1 [[5]] := by
  have h1 := Gy.lit_reads .u8 w [5] 5 f1 (by decide) #[.int .u8 5] rfl
  have h2 := lit_cell (w.alloc (.cells #[.int .u8 5] 5 f1)) (.slice (some ⟨w.heap.size, 0, none⟩) 1 1) 31 f2
  rw [size_alloc] at h2
  refine ⟨rfl, by decide, fun _ => ⟨_, rfl, fun j p hp => ?_⟩⟩
  rcases j with _ | j
  · simp at hp
    subst hp
    refine ⟨[.slice (some ⟨w.heap.size, 0, none⟩) 1 1], rfl, ⟨_, 1, rfl, Nat.le_refl _, Kd.C_below h1 (Gy.alloc_below _ _)⟩, fun i u hi => ?_⟩
    rcases i with _ | i
    · simp at hi
      subst hi
      exact h2
    · simp at hi
  · simp at hp
set_option maxHeartbeats 2000000 in
set_option maxRecDepth 100000 in
theorem awake_calls (w : World) : Calls Try.prog 13 #[] w fun e w' => e = .returned (.bool true) ∧ Below w.heap.size w w' := by
  have hsz : ((w.alloc (.cells #[.int .u8 5] 5)).alloc (.cells #[.slice (some ⟨w.heap.size, 0, none⟩) 1 1] 31)).heap.size = w.heap.size + 1 + 1 := by rw [size_alloc, size_alloc]
  have hbb : Below w.heap.size w ((w.alloc (.cells #[.int .u8 5] 5)).alloc (.cells #[.slice (some ⟨w.heap.size, 0, none⟩) 1 1] 31)) := (Gy.alloc_below w (.cells #[.int .u8 5] 5)).trans ((Gy.alloc_below _ (.cells #[.slice (some ⟨w.heap.size, 0, none⟩) 1 1] 31)).mono (Gy.alloc_below w _).size)
  have hnb : Calls Try.prog 15 #[.slice (some ⟨w.heap.size + 1, 0, none⟩) 1 1] ((w.alloc (.cells #[.int .u8 5] 5)).alloc (.cells #[.slice (some ⟨w.heap.size, 0, none⟩) 1 1] 31)) fun e w' => e = .returned (.tuple #[.pointer (some ⟨w.heap.size + 1 + 1, 0, none⟩), .int .i64 0]) ∧ Brd (w.heap.size + 1 + 1) w' (w.heap.size + 1 + 1) [[5]] ∧ Below w.heap.size w w' := by
    have h := newboard_calls (some ⟨w.heap.size + 1, 0, none⟩) 1 [[5]] 1 1 _ (lit_vals w (0, 0) (0, 0)) (by decide) (by decide) (by decide) (fun _ => rfl) (fun i h _ => by
      rcases i with _ | i
      · rfl
      · simp at h) (fun h => by simp at h)
    refine h.mono fun e w' ⟨h1, h2⟩ => ?_
    rw [hsz] at h1 h2
    rcases h1 with ⟨_, h3, h4⟩ | ⟨h3, _⟩
    · exact ⟨h3, h4, hbb.trans (h2.mono (by omega))⟩
    · simp at h3
  have HN := Lib.hid hnb
  clear hsz hbb hnb
  go_enter Try.func13, Try.ntmps13
  go_wp2_with (first
    | (go_at_call 15; (with_reducible refine HN.out.mono ?_); rintro e w1 ⟨rfl, ⟨hv, ks, h1⟩, h2⟩; have hs : Calls Try.prog 19 #[.pointer (some ⟨w.heap.size + 1 + 1, 0, none⟩), .int .i64 0] w1 fun e w' => ∃ A c, e = .returned (.slice A 1 c) ∧ MadeRow w1 1 [5] A c w' := slot_in _ _ hv ks [[5]] 0 w1 h1 (by decide) (by decide); have HS := Lib.hid hs; have H2 := Lib.hid h2; clear hs h1 h2)
    | (go_at_call 19; (with_reducible refine HS.out.mono ?_); rintro e w2 ⟨A2, c2, rfl, h3⟩; have hcv : (convert 31 9 (.slice A2 1 c2)).run Try.prog w2 = .ok (.string ⟨#[5]⟩) w2 := string_of_reads (xs := [5]) Try.underlying31 Try.underlying5 Try.underlying9 (Gy.own_reads (And.left h3) rfl (by decide)); have H3 := Lib.hid (H2.out.trans (And.right h3 |>.mono H2.out.size)); clear h3))
  go_ret
  exact ⟨rfl, H3.out⟩
end Go.Proofs.Ytcmigmldecacpaa.Vec

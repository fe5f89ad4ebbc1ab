/- The reference's name test is the scan. -/
import Derived.Test.YtnoebhnkkigkjaaDoorPathP
namespace Go.Proofs.YtnoebhnkkigkjaaDoor.Path
open Go Go.RowKit Go.Proofs.YtnoebhnkkigkjaaDoor.QPart Go.Proofs.YtnoebhnkkigkjaaDoorW.PrintWords

theorem plainI_iff (c : Int) : plainI c = true ↔ ((97 ≤ c ∧ c ≤ 122) ∨ (48 ≤ c ∧ c ≤ 57) ∨ c = 46 ∨ c = 95 ∨ c = 45) := by
  unfold plainI
  simp only [Bool.or_eq_true, decide_eq_true_eq]
  omega
theorem j2_char (k : Nat) (s : ByteArray) (a i : Int) (h0 : 0 ≤ i) (h1 : i < (s.size : Int)) :
    geyserref14_Path.j2 (k + 1) s a i true = geyserref14_Path.j3 k s a i (!plainI (bt s i)) := by
  have e : ∀ b : Bool, (b = true ↔ plainI (bt s i) = true) → geyserref14_Path.j3 k s a i (!b) = geyserref14_Path.j3 k s a i (!plainI (bt s i)) := fun b h => by
    congr 1
    cases b <;> cases hp : plainI (bt s i) <;> simp_all
  rw [geyserref14_Path.j2, if_pos rfl, if_pos h0, if_pos h1]
  generalize bt s i = c at *
  repeat' split
  all_goals (apply e; rw [plainI_iff]; simp only [beq_iff_eq, true_iff]; omega)
def piece (s : ByteArray) (a i : Nat) : List UInt8 := (s.data.toList.drop a).take (i - a)
theorem j2_part (k : Nat) (s : ByteArray) (a i : Nat) (h0 : a ≤ i) (h1 : i ≤ s.size) (hs : s.size ≤ 1000000) :
    geyserref14_Path.j2 (k + 1) s (a : Int) (i : Int) false = if okPart (decide (a = 0)) (piece s a i) then geyserref14_Path.l0 k s ((i + 1 : Nat) : Int) ((i + 1 : Nat) : Int) else some false := by
  have e : (s.extract a i).toList = piece s a i := by rw [Lib.toList_data, Lib.extract_data]; rfl
  simp only [geyserref14_Path.j2]
  rw [if_neg (by decide), if_pos (by omega), if_pos (by omega), if_pos (by omega), Int.toNat_natCast, Int.toNat_natCast, e, wrap_small _ (by omega) (by omega), show ((i : Int) + 1) = ((i + 1 : Nat) : Int) by omega]
  generalize piece s a i = p
  unfold okPart
  by_cases a1 : p = []
  · rw [if_pos a1]; simp [a1]
  · rw [if_neg a1]
    by_cases a2 : p = [46]
    · rw [if_pos a2]; simp [a2]
    · rw [if_neg a2]
      by_cases a3 : p = [46, 46]
      · rw [if_pos a3]; simp [a3]
      · rw [if_neg a3]
        by_cases a0 : a = 0
        · rw [if_pos (by omega)]
          by_cases a4 : p = [111, 108, 100]
          · rw [if_pos a4]; simp [a0, a4]
          · rw [if_neg a4]
            by_cases a5 : p = [116, 109, 112]
            · rw [if_pos a5]; simp [a0, a5]
            · rw [if_neg a5]; simp [a0, a1, a2, a3, a4, a5]
        · rw [if_neg (by omega)]
          simp [a0, a1, a2, a3]
theorem l0_past (k : Nat) (s : ByteArray) (a : Int) : geyserref14_Path.l0 (k + 1) s a ((s.size + 1 : Nat) : Int) = some true := by
  rw [geyserref14_Path.l0, if_neg (by omega)]
theorem path_l0 (s : ByteArray) (hs : s.size ≤ 1000000) : ∀ (n k a i : Nat), s.size - i ≤ n → 3 * n + 5 ≤ k → a ≤ i → i ≤ s.size →
    geyserref14_Path.l0 k s (a : Int) (i : Int) = some (scanL (decide (a = 0)) (piece s a i) (s.data.toList.drop i)) := by
  intro n
  induction n with
  | zero =>
    intro k a i h1 h2 h3 h4
    obtain ⟨k, rfl⟩ : ∃ k', k = k' + 3 := ⟨k - 3, by omega⟩
    obtain rfl : i = s.size := by omega
    rw [geyserref14_Path.l0, if_pos (by omega), if_neg (by omega), j2_part (k + 1) s a s.size h3 h4 hs]
    have ed : s.data.toList.drop s.size = [] := List.drop_eq_nil_of_le (Nat.le_refl _)
    rw [ed, scanL, l0_past]
    cases okPart (decide (a = 0)) (piece s a s.size) <;> rfl
  | succ n ih =>
    intro k a i h1 h2 h3 h4
    obtain ⟨k, rfl⟩ : ∃ k', k = k' + 3 := ⟨k - 3, by omega⟩
    by_cases hi : i = s.size
    · subst hi
      rw [geyserref14_Path.l0, if_pos (by omega), if_neg (by omega), j2_part (k + 1) s a s.size h3 h4 hs]
      have ed : s.data.toList.drop s.size = [] := List.drop_eq_nil_of_le (Nat.le_refl _)
      rw [ed, scanL, l0_past]
      cases okPart (decide (a = 0)) (piece s a s.size) <;> rfl
    · have hl : i < s.data.toList.length := by have : s.data.toList.length = s.size := rfl; omega
      have ed : s.data.toList.drop i = s.data.toList[i] :: s.data.toList.drop (i + 1) := List.drop_eq_getElem_cons hl
      have eb := bt_data s i hl
      rw [geyserref14_Path.l0, if_pos (by omega), if_pos (by omega), if_pos (by omega), ed, scanL, eb]
      by_cases hc : s.data.toList[i] = 47
      · rw [if_pos hc]
        have e1 : (((s.data.toList[i]).toNat : Int) != 47) = false := by rw [hc]; rfl
        rw [e1, j2_part (k + 1) s a i h3 h4 hs, ih (k + 1) (i + 1) (i + 1) (by omega) (by omega) (Nat.le_refl _) (by omega)]
        have e2 : piece s (i + 1) (i + 1) = [] := by unfold piece; simp
        rw [e2]
        cases okPart (decide (a = 0)) (piece s a i) <;> simp
      · rw [if_neg hc]
        have e1 : (((s.data.toList[i]).toNat : Int) != 47) = true := by
          refine bne_iff_ne.2 fun h => hc ?_
          have h47 : (s.data.toList[i]).toNat = 47 := by omega
          exact UInt8.toNat_inj.1 h47
        rw [e1, j2_char (k + 1) s a i (by omega) (by omega), eb, geyserref14_Path.j3]
        have e2 : piece s a (i + 1) = piece s a i ++ [s.data.toList[i]] := by
          unfold piece
          rw [show i + 1 - a = (i - a) + 1 by omega, List.take_add_one, List.getElem?_drop, show a + (i - a) = i by omega, List.getElem?_eq_getElem hl]
          rfl
        cases hp : plainI ((s.data.toList[i]).toNat : Int) with
        | false => simp
        | true =>
          rw [if_neg (by decide), wrap_small _ (by omega) (by omega), show ((i : Int) + 1) = ((i + 1 : Nat) : Int) by omega, ih k a (i + 1) (by omega) (by omega) (by omega) (by omega), e2]
          simp
theorem path_says (s : ByteArray) (hs : s.size ≤ 1000000) : geyserref14_Path.f (3 * s.size + 10) s = some (right s) := by
  rw [right_list]
  have hj : geyserref14_Path.l0 (3 * s.size + 9) s 0 0 = some (scanL true [] s.data.toList) := by
    have := path_l0 s hs s.size (3 * s.size + 9) 0 0 (by omega) (by omega) (Nat.le_refl _) (Nat.zero_le _)
    simpa [piece] using this
  unfold geyserref14_Path.f
  by_cases h40 : s.size ≤ 40
  · rw [if_neg (by omega)]
    by_cases h4 : 4 ≤ s.size
    · rw [if_pos (by omega), wrap_small _ (by omega) (by omega), if_pos (by omega), if_pos (by omega), geyserref14_Path.j0]
      have e : (((s.size : Int) - 4).toNat) = s.size - 4 := by omega
      have es : ((s.extract (s.size - 4) s.size).toList == ([46, 103, 121, 115] : List UInt8)) = suf s := by
        unfold suf
        rw [decide_eq_true h4, Bool.true_and]
        rw [Lib.toList_data gys]; rfl
      rw [e, es, hj]
      cases suf s <;> simp [h40]
    · rw [if_neg (by omega), geyserref14_Path.j0, if_neg (by decide), hj]
      have : suf s = false := by unfold suf; rw [decide_eq_false h4]; rfl
      rw [this]; simp [h40]
  · rw [if_pos (by omega), geyserref14_Path.j0, if_pos rfl]
    simp [h40]
end Go.Proofs.YtnoebhnkkigkjaaDoor.Path

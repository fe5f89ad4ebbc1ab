/- The plain law under PathRights: what lies between the slashes, and one scan of the name. -/
import Derived.Test.YtnoebhnkkigkjaaDoorPathR
namespace Go.Proofs.YtnoebhnkkigkjaaDoor.Path
open Go Go.RowKit

def splitL : List UInt8 → List (List UInt8)
  | [] => [[]]
  | c :: r => if c = 47 then [] :: splitL r else match splitL r with
    | h :: t => (c :: h) :: t
    | [] => [[c]]
theorem splitL_ne : ∀ l, ∃ h t, splitL l = h :: t
  | [] => ⟨_, _, rfl⟩
  | c :: r => by
    obtain ⟨h, t, e⟩ := splitL_ne r
    by_cases hc : c = 47
    · exact ⟨[], splitL r, by rw [splitL, if_pos hc]⟩
    · exact ⟨c :: h, t, by rw [splitL, if_neg hc, e]⟩
theorem splitL_at : ∀ (l : List UInt8), (Lib.index l [47] = -1 ∧ splitL l = [l]) ∨ ∃ i : Nat, Lib.index l [47] = i ∧ i < l.length ∧ splitL l = l.take i :: splitL (l.drop (i + 1))
  | [] => .inl ⟨rfl, rfl⟩
  | c :: r => by
    have hI := Lib.index_one (c :: r) 47
    rw [Lib.indexByte, ← Lib.index_one r 47] at hI
    by_cases hc : c = 47
    · refine .inr ⟨0, ?_, by simp, ?_⟩
      · rw [hI, if_pos (beq_iff_eq.2 hc)]; try rfl
      · rw [splitL, if_pos hc]; rfl
    · rw [if_neg (fun h => hc (beq_iff_eq.1 h))] at hI
      rcases splitL_at r with ⟨h1, h2⟩ | ⟨i, h1, h2, h3⟩
      · refine .inl ⟨?_, ?_⟩
        · rw [hI, h1]; rfl
        · rw [splitL, if_neg hc, h2]
      · refine .inr ⟨i + 1, ?_, by simp; omega, ?_⟩
        · rw [hI, h1, if_neg (by simp only [beq_iff_eq]; omega)]; omega
        · rw [splitL, if_neg hc, h3]; rfl
theorem splitK_L : ∀ (n : Nat) (l : List UInt8), l.length ≤ n → Lib.splitK [47] 0 (Lib.count l [47]) l = splitL l
  | 0, l, h => by
    obtain rfl : l = [] := List.eq_nil_of_length_eq_zero (by omega)
    rfl
  | n + 1, l, h => by
    rcases splitL_at l with ⟨h1, h2⟩ | ⟨i, h1, h2, h3⟩
    · rw [Lib.count_miss h1, h2]; rfl
    · rw [Lib.count_hit (by decide) h1, Nat.add_comm, Lib.splitK, h1, if_neg (by simp only [beq_iff_eq]; omega), h3]
      have e : ((i : Int)).toNat = i := by omega
      rw [e]
      have := splitK_L n (l.drop (i + 1)) (by rw [List.length_drop]; omega)
      simp only [Nat.add_zero, List.length_cons, List.length_nil, Nat.zero_add]
      rw [this]
theorem pcs_list (s : ByteArray) : (pcs s).map (·.data.toList) = splitL s.data.toList := by
  unfold pcs
  rw [Lib.splitB_data]
  exact splitK_L _ _ (Nat.le_refl _)

/-- a part in the scan -/
def okPart (first : Bool) (p : List UInt8) : Bool := decide (p ≠ []) && (decide (p ≠ [46]) && (decide (p ≠ [46, 46]) && !(first && (decide (p = [111, 108, 100]) || decide (p = [116, 109, 112])))))
def scanL : Bool → List UInt8 → List UInt8 → Bool
  | first, acc, [] => okPart first acc
  | first, acc, c :: r => if c = 47 then okPart first acc && scanL false [] r else plainI (c.toNat : Int) && scanL first (acc ++ [c]) r
theorem scan_split : ∀ (l : List UInt8) (first : Bool) (acc : List UInt8), ∀ h t, splitL l = h :: t →
    scanL first acc l = (plains h && (okPart first (acc ++ h) && t.all fun p => plains p && okPart false p))
  | [], first, acc, h, t, e => by
    simp only [splitL, List.cons.injEq] at e
    obtain ⟨rfl, rfl⟩ := e
    simp [scanL, plains]
  | c :: r, first, acc, h, t, e => by
    obtain ⟨h', t', e'⟩ := splitL_ne r
    by_cases hc : c = 47
    · rw [splitL, if_pos hc, e'] at e
      simp only [List.cons.injEq] at e
      obtain ⟨rfl, rfl⟩ := e
      rw [scanL, if_pos hc, scan_split r false [] h' t' e']
      simp [plains, Bool.and_assoc]
    · rw [splitL, if_neg hc, e'] at e
      simp only [List.cons.injEq] at e
      obtain ⟨rfl, rfl⟩ := e
      rw [scanL, if_neg hc, scan_split r first (acc ++ [c]) h' t' e']
      simp [plains, Bool.and_assoc]
/-- the scan, in the printed form -/
theorem suf_list (s : ByteArray) : suf s = (decide (4 ≤ s.size) && decide (s.data.toList.drop (s.size - 4) = [46, 103, 121, 115])) := by
  unfold suf
  rw [Lib.toList_data, Lib.toList_data, Lib.extract_data]
  have e : (s.data.toList.drop (s.size - 4)).take (s.size - (s.size - 4)) = s.data.toList.drop (s.size - 4) := by
    apply List.take_of_length_le
    rw [List.length_drop]
    have : s.data.toList.length = s.size := rfl
    omega
  rw [e]
  congr 1
  rw [Bool.eq_iff_iff, beq_iff_eq, decide_eq_true_eq]
  exact Iff.rfl
theorem right_list (s : ByteArray) : right s = (decide (s.size ≤ 40) && (!suf s && scanL true [] s.data.toList)) := by
  obtain ⟨h, t, e⟩ := splitL_ne s.data.toList
  have hp := pcs_list s
  rw [e] at hp
  obtain ⟨ph, pt, ep⟩ : ∃ ph pt, pcs s = ph :: pt := by
    cases hc : pcs s with
    | nil => rw [hc] at hp; simp at hp
    | cons a b => exact ⟨a, b, rfl⟩
  rw [ep] at hp
  simp only [List.map_cons, List.cons.injEq] at hp
  obtain ⟨h1, h2⟩ := hp
  unfold right
  rw [scan_split s.data.toList true [] h t e, ep]
  have ea : pt.all partB = t.all fun p => plains p && okPart false p := by
    rw [← h2, List.all_map]
    congr 1
    funext p
    simp [partB, okPart]
  have eh : partB ph = (plains h && (decide (h ≠ []) && (decide (h ≠ [46]) && decide (h ≠ [46, 46])))) := by
    unfold partB; rw [h1]
  rw [List.all_cons, ea, eh, List.headD_cons, Lib.toList_data, h1, List.nil_append]
  have e5 : ∀ x : List UInt8, (h != x) = !decide (h = x) := fun x => by by_cases hx : h = x <;> simp [hx]
  rw [e5, e5]
  generalize (t.all fun p => plains p && okPart false p) = T
  unfold okPart
  generalize decide (s.size ≤ 40) = D
  generalize decide (h = [111, 108, 100]) = B1
  generalize decide (h = [116, 109, 112]) = B2
  generalize decide (h ≠ []) = C1
  generalize decide (h ≠ [46]) = C2
  generalize decide (h ≠ [46, 46]) = C3
  generalize plains h = PH
  generalize suf s = SS
  revert T D B1 B2 C1 C2 C3 PH SS
  decide
/-- what else the law asks of a name that is right -/
theorem right_first (s : ByteArray) (h : right s = true) : suf s = false ∧ ∃ c r, s.data.toList = c :: r ∧ c ≠ 47 ∧ (c = 46 → r ≠ []) := by
  rw [right_list] at h
  simp only [Bool.and_eq_true, Bool.not_eq_true'] at h
  refine ⟨h.2.1, ?_⟩
  have hs := h.2.2
  cases hl : s.data.toList with
  | nil => rw [hl] at hs; simp [scanL, okPart] at hs
  | cons c r =>
    rw [hl] at hs
    refine ⟨c, r, rfl, fun hc => ?_, fun hc hr => ?_⟩
    · subst hc
      simp [scanL, okPart] at hs
    · subst hc; subst hr
      simp [scanL, okPart] at hs
end Go.Proofs.YtnoebhnkkigkjaaDoor.Path

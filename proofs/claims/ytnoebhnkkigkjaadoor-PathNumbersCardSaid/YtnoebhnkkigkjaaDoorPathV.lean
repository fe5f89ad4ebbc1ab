/- Package path: a volume's name; the law PathVolumes. -/
import Derived.Test.YtnoebhnkkigkjaaDoorPathA
import Derived.Lib.ItoaLen
namespace Go.Proofs.YtnoebhnkkigkjaaDoor.Path
open Go Go.RowKit Go.Shelf Go.Proofs.YtnoebhnkkigkjaaDoor.QPart Go.Proofs.YtnoebhnkkigkjaaDoorW.PrintWords Go.Proofs.YtnoebhnkkigkjaaDoorW.PrintLast Go.Proofs.YtnoebhnkkigkjaaDoorW.PrintMore

theorem decDigits_ne (u : Nat) : Lib.decDigits u ≠ [] := by
  rw [Lib.decDigits]
  split
  · simp
  · simp
theorem dig_no {n : Int} (h : n < 0 ∨ n > 999) : dig n = ⟨#[]⟩ := if_pos h
theorem dig_yes {n : Int} (h : ¬ (n < 0 ∨ n > 999)) : (dig n).data.toList = Lib.itoa n ∧ Lib.itoa n ≠ [] := by
  have e : dig n = ⟨(Lib.itoa n).toArray⟩ := if_neg h
  refine ⟨by rw [e], ?_⟩
  unfold Lib.itoa
  rw [if_neg (by omega)]
  exact decDigits_ne _
/-- a volume's name -/
def vol (n : Int) : ByteArray := if n < 0 ∨ n > 999 then ⟨#[]⟩ else dig n ++ gys
set_option maxHeartbeats 4000000 in
set_option maxRecDepth 100000 in
theorem volume_calls (n : Int) (h0 : -9223372036854775808 ≤ n) (h1 : n ≤ 9223372036854775807) (w : World) (G : Good w) :
    Calls Tryd.prog 32 #[.int .i64 n] w fun e w' => e = .returned (.string (vol n)) ∧ Below w.heap.size w w' := by
  have G' := Lib.hid G
  clear G
  by_cases hn : n < 0 ∨ n > 999
  · have e : Hid (dig n = ⟨#[]⟩) := Lib.hid (dig_no hn)
    have ev : vol n = ⟨#[]⟩ := if_pos hn
    rw [ev]
    go_enter Tryd.func32, Tryd.ntmps32
    go_wp2_with (go_at_call 62; refine (digits_calls n h0 h1 _ G'.out).mono ?_; rw [e.out]; rintro e w1 ⟨rfl, hd⟩; have hb1 := Lib.hid hd; clear hd)
    go_ret
    exact ⟨rfl, hb1.out⟩
  · have ev : vol n = dig n ++ gys := if_neg hn
    rw [ev]
    have hd0 := dig_yes hn
    obtain ⟨d, hd⟩ : ∃ d, dig n = d := ⟨_, rfl⟩
    rw [hd] at hd0 ⊢
    have hne : (d.toList == ([] : List UInt8)) = false := by
      rw [Lib.toList_data, hd0.1]
      exact beq_eq_false_iff_ne.2 hd0.2
    have hsz : ¬ 9223372036854775807 < d.size + 4 := by
      have h1 : d.size = d.data.toList.length := rfl
      have h2 := Lib.itoa_length_le n (by omega) (by omega)
      rw [hd0.1] at h1
      omega
    have e := Lib.hid hd
    clear hd hd0 ev
    go_enter Tryd.func32, Tryd.ntmps32
    go_wp2_with (go_at_call 62; refine (digits_calls n h0 h1 _ G'.out).mono ?_; rw [e.out]; rintro e w1 ⟨rfl, hd⟩; have hb1 := Lib.hid hd; clear hd)
    go_ret
    exact ⟨rfl, hb1.out⟩
theorem beq_of (a : ByteArray) (b : ByteArray) (h : a = b) : (a.toList == b.toList) = true := by rw [beq_bytes]; simp [h]
theorem ba_ext {a b : ByteArray} (h : a.data.toList = b.data.toList) : a = b := by
  have := beq_bytes a b
  rw [Lib.toList_data, Lib.toList_data, h] at this
  simpa using this
/-- the plain law -/
theorem num_law (s : ByteArray) (hs : s.size ≤ 9223372036854775807) : num s = -1 ∨ (0 ≤ num s ∧ num s ≤ 999 ∧ vol (num s) = s) := by
  have H : ∀ v, Lib.atoiAll (cut s).data.toList = .ok v → suf s = true → dig v = cut s → 0 ≤ v ∧ v ≤ 999 ∧ vol v = s := by
    intro v h h1 h2
    have hv : ¬ (v < 0 ∨ v > 999) := fun hn => by
      rw [← h2, dig_no hn] at h
      simp [Lib.atoiAll] at h
    refine ⟨by omega, by omega, ?_⟩
    have ev : vol v = dig v ++ gys := if_neg hv
    rw [ev, h2]
    have h3 := h1
    unfold suf at h3
    simp only [Bool.and_eq_true, decide_eq_true_eq, beq_iff_eq] at h3
    obtain ⟨h4, h5⟩ := h3
    have ec : cut s = s.extract 0 (s.size - 4) := if_pos h1
    rw [Lib.toList_data, Lib.toList_data] at h5
    apply ba_ext
    rw [ec]
    have e1 : (s.extract 0 (s.size - 4) ++ gys).data.toList = (s.extract 0 (s.size - 4)).data.toList ++ gys.data.toList := by simp
    rw [e1, ← h5, Lib.extract_data, Lib.extract_data]
    have el : (s.data.toList.drop (s.size - 4)).take (s.size - (s.size - 4)) = s.data.toList.drop (s.size - 4) := by
      apply List.take_of_length_le
      rw [List.length_drop]
      have : s.data.toList.length = s.size := rfl
      omega
    rw [el]
    simp only [Nat.sub_zero, List.drop_zero]
    exact List.take_append_drop _ _
  unfold num
  rcases h : Lib.atoiAll (cut s).data.toList with v | _ | _
  next =>
    simp only
    by_cases hc : suf s = true ∧ dig v = cut s
    · rw [if_pos hc]
      exact .inr (H v h hc.1 hc.2)
    · rw [if_neg hc]; exact .inl rfl
  next => exact .inl rfl
  next => exact .inl rfl
end Go.Proofs.YtnoebhnkkigkjaaDoor.Path

/- The law PathRights: it answers true. -/
import Derived.Test.YtnoebhnkkigkjaaDoorPathQ
import Derived.Test.YtnoebhnkkigkjaaDoorPathA
namespace Go.Proofs.YtnoebhnkkigkjaaDoor.Path
open Go Go.RowKit Go.Shelf Go.Proofs.YtnoebhnkkigkjaaDoor.QPart Go.Proofs.YtnoebhnkkigkjaaDoorW.PrintWords Go.Proofs.YtnoebhnkkigkjaaDoorW.PrintLast Go.Proofs.YtnoebhnkkigkjaaDoorW.PrintMore
theorem num_no (s : ByteArray) (h : suf s = false) : num s = -1 := by
  unfold num
  rcases Lib.atoiAll (cut s).data.toList with v | _ | _
  next => simp only; rw [if_neg (by rw [h]; simp)]
  next => rfl
  next => rfl
set_option maxHeartbeats 4000000 in
set_option maxRecDepth 100000 in
theorem rights (s : ByteArray) (hs0 : s.size ≤ 9223372036854775807) (w : World) (G : Good w) :
    Calls Tryd.prog 6 #[.string s] w fun e w' => e = .returned (.bool true) ∧ Below w.heap.size w w' := by
  have G' := Lib.hid G
  clear G
  by_cases hs : s.size ≤ 500
  · have g1 : ¬ ((s.size : Int) > 500) := by omega
    have HP := Lib.hid (path_says s (by omega))
    cases hr : right s with
    | false =>
      have HR := Lib.hid hr
      rw [hr] at HP
      clear hr
      go_enter Tryd.func6, Tryd.ntmps6
      go_wp2_with (first
        | (go_at_call 28; refine (awake_calls _ G'.out).mono ?_; rintro e w1 ⟨rfl, hd⟩; have hb1 := Lib.hid hd; clear hd)
        | (go_at_call 29; refine (right_calls _ (by omega) _ (G'.out.below hb1.out)).mono ?_; rw [HR.out]; rintro e w2 ⟨rfl, hd⟩; have hb2 := Lib.hid hd; clear hd)
        | (go_at_call 31; refine (geyserref14_Path.calls _ _ _ _ HP.out).mono ?_; rintro e w3 ⟨rfl, hd⟩; have hb3 := Lib.hid hd.below; clear hd))
      go_ret
      exact ⟨rfl, (hb1.out.trans (hb2.out.mono hb1.out.size)).trans (hb3.out.mono (Nat.le_trans hb1.out.size hb2.out.size))⟩
    | true =>
      have HR := Lib.hid hr
      rw [hr] at HP
      obtain ⟨h1, c, r, h2, h3, h4⟩ := right_first s hr
      have HN := Lib.hid (num_no s h1)
      have hz : 0 < s.data.toList.length := by rw [h2]; simp
      have hz' : 0 < s.size := hz
      have hb0 := bt_data s 0 hz
      have e0 : s.data.toList[0] = c := by simp only [h2]; rfl
      rw [e0] at hb0
      have hbr : ∀ h : 0 < s.size, ((s[0]'h).toNat : Int) = bt s 0 := bt_at s 0
      have n47 : ¬ (bt s 0 = 47) := fun h => h3 (by
        have h47 : c.toNat = 47 := by have h' : bt s ((0 : Nat) : Int) = 47 := h; omega
        exact UInt8.toNat_inj.1 h47)
      have n46 : Hid (bt s 0 = 46 → ¬ (s.size : Int) < 2) := Lib.hid fun h => by
        have h46 : c.toNat = 46 := by have h' : bt s ((0 : Nat) : Int) = 46 := h; omega
        have hc : c = 46 := UInt8.toNat_inj.1 h46
        have hrn := h4 hc
        have hsz : s.size = (c :: r).length := by rw [← h2]; rfl
        cases r with
        | nil => exact absurd rfl hrn
        | cons => simp at hsz; omega
      clear hr h2 h3 h4 h1 e0 hb0
      have n47b : (bt s 0 == 47) = false := beq_eq_false_iff_ne.2 n47
      generalize bt s 0 = b at *
      have q0 : (0 : Int) < (s.size : Int) := by omega
      clear hz
      by_cases b46 : b = 46
      · have n2 := n46.out b46
        have b46b : (b == 46) = true := beq_iff_eq.2 b46
        go_enter Tryd.func6, Tryd.ntmps6
        go_wp2_with (first
          | (go_at_call 28; refine (awake_calls _ G'.out).mono ?_; rintro e w1 ⟨rfl, hd⟩; have hb1 := Lib.hid hd; clear hd)
          | (go_at_call 29; refine (right_calls _ (by omega) _ (G'.out.below hb1.out)).mono ?_; rw [HR.out]; rintro e w2 ⟨rfl, hd⟩; have hb2 := Lib.hid hd; clear hd)
          | (go_at_call 30; refine (number_calls _ (by omega) _ ((G'.out.below hb1.out).below hb2.out)).mono ?_; rw [HN.out]; rintro e w4 ⟨rfl, hd⟩; have hb4 := Lib.hid hd; clear hd)
          | (go_at_call 31; refine (geyserref14_Path.calls _ _ _ _ HP.out).mono ?_; rintro e w3 ⟨rfl, hd⟩; have hb3 := Lib.hid hd.below; clear hd))
        go_ret
        exact ⟨rfl, ((hb1.out.trans (hb2.out.mono hb1.out.size)).trans (hb4.out.mono (Nat.le_trans hb1.out.size hb2.out.size))).trans (hb3.out.mono (Nat.le_trans (Nat.le_trans hb1.out.size hb2.out.size) hb4.out.size))⟩
      · have b46b : (b == 46) = false := beq_eq_false_iff_ne.2 b46
        go_enter Tryd.func6, Tryd.ntmps6
        go_wp2_with (first
          | (go_at_call 28; refine (awake_calls _ G'.out).mono ?_; rintro e w1 ⟨rfl, hd⟩; have hb1 := Lib.hid hd; clear hd)
          | (go_at_call 29; refine (right_calls _ (by omega) _ (G'.out.below hb1.out)).mono ?_; rw [HR.out]; rintro e w2 ⟨rfl, hd⟩; have hb2 := Lib.hid hd; clear hd)
          | (go_at_call 30; refine (number_calls _ (by omega) _ ((G'.out.below hb1.out).below hb2.out)).mono ?_; rw [HN.out]; rintro e w4 ⟨rfl, hd⟩; have hb4 := Lib.hid hd; clear hd)
          | (go_at_call 31; refine (geyserref14_Path.calls _ _ _ _ HP.out).mono ?_; rintro e w3 ⟨rfl, hd⟩; have hb3 := Lib.hid hd.below; clear hd))
        go_ret
        exact ⟨rfl, ((hb1.out.trans (hb2.out.mono hb1.out.size)).trans (hb4.out.mono (Nat.le_trans hb1.out.size hb2.out.size))).trans (hb3.out.mono (Nat.le_trans (Nat.le_trans hb1.out.size hb2.out.size) hb4.out.size))⟩
  · have g1 : ((s.size : Int) > 500) := by omega
    go_enter Tryd.func6, Tryd.ntmps6
    go_wp2_with ((go_at_call 28; first | (refine (awake_calls _ (G'.out.below hb1.out)).mono ?_; rintro e w2 ⟨rfl, hd⟩; have hb2 := Lib.hid hd; clear hd) | (refine (awake_calls _ G'.out).mono ?_; rintro e w1 ⟨rfl, hd⟩; have hb1 := Lib.hid hd; clear hd)))
    go_ret
    exact ⟨rfl, hb1.out.trans (hb2.out.mono hb1.out.size)⟩
end Go.Proofs.YtnoebhnkkigkjaaDoor.Path

/- The law PathVolumes: it answers true. -/
import Derived.Test.YtnoebhnkkigkjaaDoorPathV
namespace Go.Proofs.YtnoebhnkkigkjaaDoor.Path
open Go Go.RowKit Go.Shelf Go.Proofs.YtnoebhnkkigkjaaDoor.QPart Go.Proofs.YtnoebhnkkigkjaaDoorW.PrintWords Go.Proofs.YtnoebhnkkigkjaaDoorW.PrintLast Go.Proofs.YtnoebhnkkigkjaaDoorW.PrintMore
set_option maxHeartbeats 4000000 in
set_option maxRecDepth 100000 in
theorem volumes (s : ByteArray) (hs0 : s.size ≤ 9223372036854775807) (w : World) (G : Good w) :
    Calls Tryd.prog 7 #[.string s] w fun e w' => e = .returned (.bool true) ∧ Below w.heap.size w w' := by
  have G' := Lib.hid G
  clear G
  by_cases hs : s.size ≤ 500
  · have g1 : ¬ ((s.size : Int) > 500) := by omega
    obtain ⟨n, hn⟩ : ∃ n, num s = n := ⟨_, rfl⟩
    have hl := num_law s (by omega)
    rw [hn] at hl
    have HN := Lib.hid hn
    clear hn
    rcases hl with rfl | ⟨ha, hb, hv⟩
    · go_enter Tryd.func7, Tryd.ntmps7
      go_wp2_with (first
        | (go_at_call 28; refine (awake_calls _ G'.out).mono ?_; rintro e w1 ⟨rfl, hd⟩; have hb1 := Lib.hid hd; clear hd)
        | (go_at_call 30; refine (number_calls _ (by omega) _ (G'.out.below hb1.out)).mono ?_; rw [HN.out]; rintro e w2 ⟨rfl, hd⟩; have hb2 := Lib.hid hd; clear hd))
      go_ret
      exact ⟨rfl, hb1.out.trans (hb2.out.mono hb1.out.size)⟩
    · have g2 : ¬ (n = -1) := by omega
      have g3 : n ≥ 0 := ha
      have hq : (s.toList == s.toList) = true := beq_of s s rfl
      have HV := Lib.hid hv
      clear hv
      go_enter Tryd.func7, Tryd.ntmps7
      go_wp2_with (first
        | (go_at_call 28; refine (awake_calls _ G'.out).mono ?_; rintro e w1 ⟨rfl, hd⟩; have hb1 := Lib.hid hd; clear hd)
        | (go_at_call 30; refine (number_calls _ (by omega) _ (G'.out.below hb1.out)).mono ?_; rw [HN.out]; rintro e w2 ⟨rfl, hd⟩; have hb2 := Lib.hid hd; clear hd)
        | (go_at_call 32; refine (volume_calls _ (by omega) (by omega) _ ((G'.out.below hb1.out).below hb2.out)).mono ?_; rw [HV.out]; rintro e w3 ⟨rfl, hd⟩; have hb3 := Lib.hid hd; clear hd))
      go_ret
      exact ⟨rfl, (hb1.out.trans (hb2.out.mono hb1.out.size)).trans (hb3.out.mono (Nat.le_trans hb1.out.size hb2.out.size))⟩
  · have g1 : ((s.size : Int) > 500) := by omega
    go_enter Tryd.func7, Tryd.ntmps7
    go_wp2_with ((go_at_call 28; first | (refine (awake_calls _ (G'.out.below hb1.out)).mono ?_; rintro e w2 ⟨rfl, hd⟩; have hb2 := Lib.hid hd; clear hd) | (refine (awake_calls _ G'.out).mono ?_; rintro e w1 ⟨rfl, hd⟩; have hb1 := Lib.hid hd; clear hd)))
    go_ret
    exact ⟨rfl, hb1.out.trans (hb2.out.mono hb1.out.size)⟩
end Go.Proofs.YtnoebhnkkigkjaaDoor.Path

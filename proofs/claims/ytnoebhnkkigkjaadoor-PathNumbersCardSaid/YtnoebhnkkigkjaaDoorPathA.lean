/- The door of layer 15 is awake. -/
import Derived.Test.YtnoebhnkkigkjaaDoorPathR
namespace Go.Proofs.YtnoebhnkkigkjaaDoor.Path
open Go Go.RowKit Go.Shelf Go.Proofs.YtnoebhnkkigkjaaDoor.QPart Go.Proofs.YtnoebhnkkigkjaaDoorW.PrintWords Go.Proofs.YtnoebhnkkigkjaaDoorW.PrintLast Go.Proofs.YtnoebhnkkigkjaaDoorW.PrintMore
theorem itoa7 : Lib.itoa 7 = [55] := by
  unfold Lib.itoa
  rw [if_neg (by decide)]
  rw [show (7 : Int).toNat = 7 from rfl, Lib.decDigits, dif_pos (by decide)]
  rfl
theorem dig7 : dig 7 = ⟨#[55]⟩ := by
  unfold dig
  rw [if_neg (by decide), itoa7]
theorem cut7 : cut ⟨#[55, 46, 103, 121, 115]⟩ = ⟨#[55]⟩ := by kernel_rfl
theorem suf7 : suf ⟨#[55, 46, 103, 121, 115]⟩ = true := by kernel_rfl
theorem atoi7 : Lib.atoiAll [55] = .ok 7 := by kernel_rfl
theorem num7 : num ⟨#[55, 46, 103, 121, 115]⟩ = 7 := by
  unfold num
  rw [cut7, suf7]
  have : Lib.atoiAll (ByteArray.mk #[55]).data.toList = .ok 7 := atoi7
  rw [this]
  simp only [dig7]
  simp
theorem rightAB : right ⟨#[97, 47, 98]⟩ = true := by kernel_rfl
set_option maxHeartbeats 4000000 in
set_option maxRecDepth 100000 in
theorem awake_calls (w : World) (G : Good w) :
    Calls Tryd.prog 28 #[] w fun e w' => e = .returned (.bool true) ∧ Below w.heap.size w w' := by
  have G' := Lib.hid G
  clear G
  go_enter Tryd.func28, Tryd.ntmps28
  go_wp2_with (first
    | (go_at_call 29; refine (right_calls _ (by decide) _ G'.out).mono ?_; rw [rightAB]; rintro e w1 ⟨rfl, hd⟩; have hb1 := Lib.hid hd; clear hd)
    | (go_at_call 30; refine (number_calls _ (by decide) _ (G'.out.below hb1.out)).mono ?_; rw [num7]; rintro e w2 ⟨rfl, hd⟩; have hb2 := Lib.hid hd; clear hd))
  go_ret
  exact ⟨rfl, hb1.out.trans (hb2.out.mono hb1.out.size)⟩
end Go.Proofs.YtnoebhnkkigkjaaDoor.Path

/- Machine-made by a program of this claim: functions of the Go program as Lean functions, and that its calls do what these say. Lean checks it. -/
import Derived.Test.YtcmigmldecacpaaQReplayPlaysx0
import Derived.Test.YtcmigmldecacpaaQReplayPlaysx1
import Derived.Test.YtcmigmldecacpaaGiv
import Derived.Test.YtcmigmldecacpaaGivPlay
namespace Go.Proofs.Ytcmigmldecacpaa.QReplayPlays
open Go.RowKit Go.Proofs.YtcmigmldecacpaaW.PrintWords Go.Proofs.YtcmigmldecacpaaW.PrintLast Go.Proofs.YtcmigmldecacpaaW.PrintMore Go.Proofs.Ytcmigmldecacpaa.Giv
attribute [local go_sem] max2_int min2_int max_two min_two max_three min_three max_four min_four   -- for this text's walks alone
set_option linter.unusedVariables false
set_option linter.unusedSimpArgs false

/-! ### geyserlaw12_ReplayPlays: function 4 -/
mutual
def geyserlaw12_ReplayPlays.j0 : Nat → List (List Int) → Bool → List (S42) → List Int → Option (Bool)
  | 0, _, _, _, _ => none
  | k + 1, x1, x31, x112000, x112001 => if x31 = true then ((geyserlaw12_awake.f).bind fun t114 => (some t114)) else ((replay_Play.f x112000 x112001 x1).bind fun bt115 => ((geyserlaw12_alike.f k x1).bind fun t119 => ((some (([] : List (List Int)) : List (List Int))).bind fun y120 => (if y120.length + x1.length < 5864062014805 then (geyserlaw12_ReplayPlays.l0 k bt115.1 bt115.2 t119 (y120 ++ x1) (x112000.length : Int) 0 x112000 x112001) else (none)))))
def geyserlaw12_ReplayPlays.j3 : Nat → List (List Int) → Int → Bool → List (List Int) → List (S42) → List Int → Option (Bool)
  | 0, _, _, _, _, _, _ => none
  | k + 1, x5, x6, x7, x8, x112000, x112001 => geyserlaw12_ReplayPlays.l1 k x5 x6 x7 x8 (x112001.length : Int) 0 x112000 x112001
def geyserlaw12_ReplayPlays.l1 : Nat → List (List Int) → Int → Bool → List (List Int) → Int → Int → List (S42) → List Int → Option (Bool)
  | 0, _, _, _, _, _, _, _, _ => none
  | k + 1, x5, x6, x7, x8, x126, x127, x112000, x112001 => if x127 < x126 then (if x7 = true then (if 0 ≤ x127 then (if x127 < (x112001.length : Int) then (if (rd x112001 x127) ≥ 0 then (geyserlaw12_ReplayPlays.l1 k x5 x6 (decide ((rd x112001 x127) < (x8.length : Int))) x8 x126 (wrap64 (x127 + 1)) x112000 x112001) else (geyserlaw12_ReplayPlays.l1 k x5 x6 false x8 x126 (wrap64 (x127 + 1)) x112000 x112001)) else (none)) else (none)) else (geyserlaw12_ReplayPlays.l1 k x5 x6 false x8 x126 (wrap64 (x127 + 1)) x112000 x112001)) else (if x7 = true then (if x6 = 0 then (geyserlaw12_ReplayPlays.j5 k x5 x8 ((x5.length : Int) != (x112001.length : Int)) x112000 x112001) else (geyserlaw12_ReplayPlays.j5 k x5 x8 true x112000 x112001)) else (if x6 = 1 then (some ((x5.length : Int) == 0)) else (some false)))
def geyserlaw12_ReplayPlays.j5 : Nat → List (List Int) → List (List Int) → Bool → List (S42) → List Int → Option (Bool)
  | 0, _, _, _, _, _ => none
  | k + 1, x5, x8, x168, x112000, x112001 => if x168 = true then (some false) else (geyserlaw12_ReplayPlays.l2 k x5 x8 (x5.length : Int) 0 x112000 x112001)
def geyserlaw12_ReplayPlays.l2 : Nat → List (List Int) → List (List Int) → Int → Int → List (S42) → List Int → Option (Bool)
  | 0, _, _, _, _, _, _ => none
  | k + 1, x5, x8, x170, x171, x112000, x112001 => if x171 < x170 then (if 0 ≤ x171 then (if x171 < (x5.length : Int) then (if x171 < (x112001.length : Int) then (if 0 ≤ (rd x112001 x171) then (if (rd x112001 x171) < (x8.length : Int) then (if (strOfNums (rd_L2 x5 x171)).toList = (strOfNums (rd_L2 x8 (rd x112001 x171))).toList then (geyserlaw12_ReplayPlays.l2 k x5 x8 x170 (wrap64 (x171 + 1)) x112000 x112001) else (some false)) else (none)) else (none)) else (none)) else (none)) else (none)) else (some true)
def geyserlaw12_ReplayPlays.l0 : Nat → List (List Int) → Int → Bool → List (List Int) → Int → Int → List (S42) → List Int → Option (Bool)
  | 0, _, _, _, _, _, _, _, _ => none
  | k + 1, x5, x6, x7, x8, x46, x47, x112000, x112001 => if x47 < x46 then (if 0 ≤ x47 then (if x47 < (x112000.length : Int) then (if x7 = true then (if ((rd_T42 x112000 x47).f0) ≥ 0 then (if ((rd_T42 x112000 x47).f0) < (x8.length : Int) then (if ((rd_T42 x112000 x47).f1) ≥ 0 then (geyserlaw12_ReplayPlays.j2 k x5 x6 (decide (((rd_T42 x112000 x47).f1) < (x8.length : Int))) x8 x46 x47 x112000 x112001 ((rd_T42 x112000 x47).f0) ((rd_T42 x112000 x47).f1) ((rd_T42 x112000 x47).f2)) else (geyserlaw12_ReplayPlays.j2 k x5 x6 false x8 x46 x47 x112000 x112001 ((rd_T42 x112000 x47).f0) ((rd_T42 x112000 x47).f1) ((rd_T42 x112000 x47).f2))) else (geyserlaw12_ReplayPlays.j2 k x5 x6 false x8 x46 x47 x112000 x112001 ((rd_T42 x112000 x47).f0) ((rd_T42 x112000 x47).f1) ((rd_T42 x112000 x47).f2))) else (geyserlaw12_ReplayPlays.j2 k x5 x6 false x8 x46 x47 x112000 x112001 ((rd_T42 x112000 x47).f0) ((rd_T42 x112000 x47).f1) ((rd_T42 x112000 x47).f2))) else (geyserlaw12_ReplayPlays.j2 k x5 x6 false x8 x46 x47 x112000 x112001 ((rd_T42 x112000 x47).f0) ((rd_T42 x112000 x47).f1) ((rd_T42 x112000 x47).f2))) else (none)) else (none)) else (geyserlaw12_ReplayPlays.j3 k x5 x6 x7 x8 x112000 x112001)
def geyserlaw12_ReplayPlays.j2 : Nat → List (List Int) → Int → Bool → List (List Int) → Int → Int → List (S42) → List Int → Int → Int → Int → Option (Bool)
  | 0, _, _, _, _, _, _, _, _, _, _, _ => none
  | k + 1, x5, x6, x7, x8, x46, x47, x112000, x112001, x128000, x128001, x128002 => if x7 = true then (if x128000 = x128001 then (if 0 ≤ x128000 then (if x128000 < (x8.length : Int) then (if 0 ≤ ((rd_L2 x8 x128000).length : Int) then (if (((rd_L2 x8 x128000).length : Int) : Int).toNat ≤ 281474976710656 then ((geyserref03_Plus.f k (List.replicate (((rd_L2 x8 x128000).length : Int) : Int).toNat 0) (rd_L2 x8 x128000) x128002).bind fun t133 => (geyserlaw12_ReplayPlays.l0 k x5 x6 x7 (x8.set (x128000 : Int).toNat t133) x46 (wrap64 (x47 + 1)) x112000 x112001)) else (none)) else (none)) else (none)) else (none)) else (if 0 ≤ x128000 then (if x128000 < (x8.length : Int) then (if 0 ≤ x128001 then (if x128001 < (x8.length : Int) then ((geyserref03_Plus.f k (rd_L2 x8 x128000) (rd_L2 x8 x128001) x128002).bind fun t139 => (geyserlaw12_ReplayPlays.l0 k x5 x6 x7 (x8.set (x128000 : Int).toNat t139) x46 (wrap64 (x47 + 1)) x112000 x112001)) else (none)) else (none)) else (none)) else (none))) else (geyserlaw12_ReplayPlays.j3 k x5 x6 x7 x8 x112000 x112001)
end
def geyserlaw12_ReplayPlays.f (k : Nat) (l0_0 : List (S42)) (l0_1 : List Int) (l1 : List (List Int)) : Option (Bool) := (geyserlaw12_awake.f).bind fun t112 => (if t112 = true then ((geyserlaw12_few.f k l1).bind fun t113 => (if t113 = true then (if (l0_0.length : Int) > 200 then (geyserlaw12_ReplayPlays.j0 k l1 true l0_0 l0_1) else (geyserlaw12_ReplayPlays.j0 k l1 (decide ((l0_1.length : Int) > 100)) l0_0 l0_1)) else (geyserlaw12_ReplayPlays.j0 k l1 true l0_0 l0_1))) else (geyserlaw12_ReplayPlays.j0 k l1 true l0_0 l0_1))
theorem geyserlaw12_ReplayPlays.mono_l : ∀ k, (∀ y0 y1 y2 y3, LeO (geyserlaw12_ReplayPlays.j0 k y0 y1 y2 y3) (geyserlaw12_ReplayPlays.j0 (k + 1) y0 y1 y2 y3)) ∧ (∀ y0 y1 y2 y3 y4 y5, LeO (geyserlaw12_ReplayPlays.j3 k y0 y1 y2 y3 y4 y5) (geyserlaw12_ReplayPlays.j3 (k + 1) y0 y1 y2 y3 y4 y5)) ∧ (∀ y0 y1 y2 y3 y4 y5 y6 y7, LeO (geyserlaw12_ReplayPlays.l1 k y0 y1 y2 y3 y4 y5 y6 y7) (geyserlaw12_ReplayPlays.l1 (k + 1) y0 y1 y2 y3 y4 y5 y6 y7)) ∧ (∀ y0 y1 y2 y3 y4, LeO (geyserlaw12_ReplayPlays.j5 k y0 y1 y2 y3 y4) (geyserlaw12_ReplayPlays.j5 (k + 1) y0 y1 y2 y3 y4)) ∧ (∀ y0 y1 y2 y3 y4 y5, LeO (geyserlaw12_ReplayPlays.l2 k y0 y1 y2 y3 y4 y5) (geyserlaw12_ReplayPlays.l2 (k + 1) y0 y1 y2 y3 y4 y5)) ∧ (∀ y0 y1 y2 y3 y4 y5 y6 y7, LeO (geyserlaw12_ReplayPlays.l0 k y0 y1 y2 y3 y4 y5 y6 y7) (geyserlaw12_ReplayPlays.l0 (k + 1) y0 y1 y2 y3 y4 y5 y6 y7)) ∧ (∀ y0 y1 y2 y3 y4 y5 y6 y7 y8 y9 y10, LeO (geyserlaw12_ReplayPlays.j2 k y0 y1 y2 y3 y4 y5 y6 y7 y8 y9 y10) (geyserlaw12_ReplayPlays.j2 (k + 1) y0 y1 y2 y3 y4 y5 y6 y7 y8 y9 y10))
  | 0 => ⟨fun _ _ _ _ r h => by simp [geyserlaw12_ReplayPlays.j0] at h, fun _ _ _ _ _ _ r h => by simp [geyserlaw12_ReplayPlays.j3] at h, fun _ _ _ _ _ _ _ _ r h => by simp [geyserlaw12_ReplayPlays.l1] at h, fun _ _ _ _ _ r h => by simp [geyserlaw12_ReplayPlays.j5] at h, fun _ _ _ _ _ _ r h => by simp [geyserlaw12_ReplayPlays.l2] at h, fun _ _ _ _ _ _ _ _ r h => by simp [geyserlaw12_ReplayPlays.l0] at h, fun _ _ _ _ _ _ _ _ _ _ _ r h => by simp [geyserlaw12_ReplayPlays.j2] at h⟩
  | k + 1 => by
    obtain ⟨ih0, ih1, ih2, ih3, ih4, ih5, ih6⟩ := geyserlaw12_ReplayPlays.mono_l k
    refine ⟨?_, ?_, ?_, ?_, ?_, ?_, ?_⟩
    · intro y0 y1 y2 y3
      unfold geyserlaw12_ReplayPlays.j0
      repeat' first
      | (with_reducible exact ih0 _ _ _ _)
      | (with_reducible exact ih1 _ _ _ _ _ _)
      | (with_reducible exact ih2 _ _ _ _ _ _ _ _)
      | (with_reducible exact ih3 _ _ _ _ _)
      | (with_reducible exact ih4 _ _ _ _ _ _)
      | (with_reducible exact ih5 _ _ _ _ _ _ _ _)
      | (with_reducible exact ih6 _ _ _ _ _ _ _ _ _ _ _)
      | (with_reducible exact geyserlaw12_alike.mono _ _)
      | (with_reducible exact geyserlaw12_few.mono _ _)
      | (with_reducible exact geyserref03_Plus.mono _ _ _ _)
      | (with_reducible exact LeO.refl _)
      | (with_reducible exact LeO.none _)
      | (with_reducible refine LeO.ite ?_ ?_)
      | (with_reducible refine LeO.bind ?_ (fun _ => ?_))
      | exact ih0 _ _ _ _
      | exact ih1 _ _ _ _ _ _
      | exact ih2 _ _ _ _ _ _ _ _
      | exact ih3 _ _ _ _ _
      | exact ih4 _ _ _ _ _ _
      | exact ih5 _ _ _ _ _ _ _ _
      | exact ih6 _ _ _ _ _ _ _ _ _ _ _
      | exact geyserlaw12_alike.mono _ _
      | exact geyserlaw12_few.mono _ _
      | exact geyserref03_Plus.mono _ _ _ _
      | exact LeO.none _
      | refine LeO.ite ?_ ?_
      | refine LeO.bind ?_ (fun _ => ?_)
    · intro y0 y1 y2 y3 y4 y5
      unfold geyserlaw12_ReplayPlays.j3
      repeat' first
      | (with_reducible exact ih0 _ _ _ _)
      | (with_reducible exact ih1 _ _ _ _ _ _)
      | (with_reducible exact ih2 _ _ _ _ _ _ _ _)
      | (with_reducible exact ih3 _ _ _ _ _)
      | (with_reducible exact ih4 _ _ _ _ _ _)
      | (with_reducible exact ih5 _ _ _ _ _ _ _ _)
      | (with_reducible exact ih6 _ _ _ _ _ _ _ _ _ _ _)
      | (with_reducible exact geyserlaw12_alike.mono _ _)
      | (with_reducible exact geyserlaw12_few.mono _ _)
      | (with_reducible exact geyserref03_Plus.mono _ _ _ _)
      | (with_reducible exact LeO.refl _)
      | (with_reducible exact LeO.none _)
      | (with_reducible refine LeO.ite ?_ ?_)
      | (with_reducible refine LeO.bind ?_ (fun _ => ?_))
      | exact ih0 _ _ _ _
      | exact ih1 _ _ _ _ _ _
      | exact ih2 _ _ _ _ _ _ _ _
      | exact ih3 _ _ _ _ _
      | exact ih4 _ _ _ _ _ _
      | exact ih5 _ _ _ _ _ _ _ _
      | exact ih6 _ _ _ _ _ _ _ _ _ _ _
      | exact geyserlaw12_alike.mono _ _
      | exact geyserlaw12_few.mono _ _
      | exact geyserref03_Plus.mono _ _ _ _
      | exact LeO.none _
      | refine LeO.ite ?_ ?_
      | refine LeO.bind ?_ (fun _ => ?_)
    · intro y0 y1 y2 y3 y4 y5 y6 y7
      unfold geyserlaw12_ReplayPlays.l1
      repeat' first
      | (with_reducible exact ih0 _ _ _ _)
      | (with_reducible exact ih1 _ _ _ _ _ _)
      | (with_reducible exact ih2 _ _ _ _ _ _ _ _)
      | (with_reducible exact ih3 _ _ _ _ _)
      | (with_reducible exact ih4 _ _ _ _ _ _)
      | (with_reducible exact ih5 _ _ _ _ _ _ _ _)
      | (with_reducible exact ih6 _ _ _ _ _ _ _ _ _ _ _)
      | (with_reducible exact geyserlaw12_alike.mono _ _)
      | (with_reducible exact geyserlaw12_few.mono _ _)
      | (with_reducible exact geyserref03_Plus.mono _ _ _ _)
      | (with_reducible exact LeO.refl _)
      | (with_reducible exact LeO.none _)
      | (with_reducible refine LeO.ite ?_ ?_)
      | (with_reducible refine LeO.bind ?_ (fun _ => ?_))
      | exact ih0 _ _ _ _
      | exact ih1 _ _ _ _ _ _
      | exact ih2 _ _ _ _ _ _ _ _
      | exact ih3 _ _ _ _ _
      | exact ih4 _ _ _ _ _ _
      | exact ih5 _ _ _ _ _ _ _ _
      | exact ih6 _ _ _ _ _ _ _ _ _ _ _
      | exact geyserlaw12_alike.mono _ _
      | exact geyserlaw12_few.mono _ _
      | exact geyserref03_Plus.mono _ _ _ _
      | exact LeO.none _
      | refine LeO.ite ?_ ?_
      | refine LeO.bind ?_ (fun _ => ?_)
    · intro y0 y1 y2 y3 y4
      unfold geyserlaw12_ReplayPlays.j5
      repeat' first
      | (with_reducible exact ih0 _ _ _ _)
      | (with_reducible exact ih1 _ _ _ _ _ _)
      | (with_reducible exact ih2 _ _ _ _ _ _ _ _)
      | (with_reducible exact ih3 _ _ _ _ _)
      | (with_reducible exact ih4 _ _ _ _ _ _)
      | (with_reducible exact ih5 _ _ _ _ _ _ _ _)
      | (with_reducible exact ih6 _ _ _ _ _ _ _ _ _ _ _)
      | (with_reducible exact geyserlaw12_alike.mono _ _)
      | (with_reducible exact geyserlaw12_few.mono _ _)
      | (with_reducible exact geyserref03_Plus.mono _ _ _ _)
      | (with_reducible exact LeO.refl _)
      | (with_reducible exact LeO.none _)
      | (with_reducible refine LeO.ite ?_ ?_)
      | (with_reducible refine LeO.bind ?_ (fun _ => ?_))
      | exact ih0 _ _ _ _
      | exact ih1 _ _ _ _ _ _
      | exact ih2 _ _ _ _ _ _ _ _
      | exact ih3 _ _ _ _ _
      | exact ih4 _ _ _ _ _ _
      | exact ih5 _ _ _ _ _ _ _ _
      | exact ih6 _ _ _ _ _ _ _ _ _ _ _
      | exact geyserlaw12_alike.mono _ _
      | exact geyserlaw12_few.mono _ _
      | exact geyserref03_Plus.mono _ _ _ _
      | exact LeO.none _
      | refine LeO.ite ?_ ?_
      | refine LeO.bind ?_ (fun _ => ?_)
    · intro y0 y1 y2 y3 y4 y5
      unfold geyserlaw12_ReplayPlays.l2
      repeat' first
      | (with_reducible exact ih0 _ _ _ _)
      | (with_reducible exact ih1 _ _ _ _ _ _)
      | (with_reducible exact ih2 _ _ _ _ _ _ _ _)
      | (with_reducible exact ih3 _ _ _ _ _)
      | (with_reducible exact ih4 _ _ _ _ _ _)
      | (with_reducible exact ih5 _ _ _ _ _ _ _ _)
      | (with_reducible exact ih6 _ _ _ _ _ _ _ _ _ _ _)
      | (with_reducible exact geyserlaw12_alike.mono _ _)
      | (with_reducible exact geyserlaw12_few.mono _ _)
      | (with_reducible exact geyserref03_Plus.mono _ _ _ _)
      | (with_reducible exact LeO.refl _)
      | (with_reducible exact LeO.none _)
      | (with_reducible refine LeO.ite ?_ ?_)
      | (with_reducible refine LeO.bind ?_ (fun _ => ?_))
      | exact ih0 _ _ _ _
      | exact ih1 _ _ _ _ _ _
      | exact ih2 _ _ _ _ _ _ _ _
      | exact ih3 _ _ _ _ _
      | exact ih4 _ _ _ _ _ _
      | exact ih5 _ _ _ _ _ _ _ _
      | exact ih6 _ _ _ _ _ _ _ _ _ _ _
      | exact geyserlaw12_alike.mono _ _
      | exact geyserlaw12_few.mono _ _
      | exact geyserref03_Plus.mono _ _ _ _
      | exact LeO.none _
      | refine LeO.ite ?_ ?_
      | refine LeO.bind ?_ (fun _ => ?_)
    · intro y0 y1 y2 y3 y4 y5 y6 y7
      unfold geyserlaw12_ReplayPlays.l0
      repeat' first
      | (with_reducible exact ih0 _ _ _ _)
      | (with_reducible exact ih1 _ _ _ _ _ _)
      | (with_reducible exact ih2 _ _ _ _ _ _ _ _)
      | (with_reducible exact ih3 _ _ _ _ _)
      | (with_reducible exact ih4 _ _ _ _ _ _)
      | (with_reducible exact ih5 _ _ _ _ _ _ _ _)
      | (with_reducible exact ih6 _ _ _ _ _ _ _ _ _ _ _)
      | (with_reducible exact geyserlaw12_alike.mono _ _)
      | (with_reducible exact geyserlaw12_few.mono _ _)
      | (with_reducible exact geyserref03_Plus.mono _ _ _ _)
      | (with_reducible exact LeO.refl _)
      | (with_reducible exact LeO.none _)
      | (with_reducible refine LeO.ite ?_ ?_)
      | (with_reducible refine LeO.bind ?_ (fun _ => ?_))
      | exact ih0 _ _ _ _
      | exact ih1 _ _ _ _ _ _
      | exact ih2 _ _ _ _ _ _ _ _
      | exact ih3 _ _ _ _ _
      | exact ih4 _ _ _ _ _ _
      | exact ih5 _ _ _ _ _ _ _ _
      | exact ih6 _ _ _ _ _ _ _ _ _ _ _
      | exact geyserlaw12_alike.mono _ _
      | exact geyserlaw12_few.mono _ _
      | exact geyserref03_Plus.mono _ _ _ _
      | exact LeO.none _
      | refine LeO.ite ?_ ?_
      | refine LeO.bind ?_ (fun _ => ?_)
    · intro y0 y1 y2 y3 y4 y5 y6 y7 y8 y9 y10
      unfold geyserlaw12_ReplayPlays.j2
      repeat' first
      | (with_reducible exact ih0 _ _ _ _)
      | (with_reducible exact ih1 _ _ _ _ _ _)
      | (with_reducible exact ih2 _ _ _ _ _ _ _ _)
      | (with_reducible exact ih3 _ _ _ _ _)
      | (with_reducible exact ih4 _ _ _ _ _ _)
      | (with_reducible exact ih5 _ _ _ _ _ _ _ _)
      | (with_reducible exact ih6 _ _ _ _ _ _ _ _ _ _ _)
      | (with_reducible exact geyserlaw12_alike.mono _ _)
      | (with_reducible exact geyserlaw12_few.mono _ _)
      | (with_reducible exact geyserref03_Plus.mono _ _ _ _)
      | (with_reducible exact LeO.refl _)
      | (with_reducible exact LeO.none _)
      | (with_reducible refine LeO.ite ?_ ?_)
      | (with_reducible refine LeO.bind ?_ (fun _ => ?_))
      | exact ih0 _ _ _ _
      | exact ih1 _ _ _ _ _ _
      | exact ih2 _ _ _ _ _ _ _ _
      | exact ih3 _ _ _ _ _
      | exact ih4 _ _ _ _ _ _
      | exact ih5 _ _ _ _ _ _ _ _
      | exact ih6 _ _ _ _ _ _ _ _ _ _ _
      | exact geyserlaw12_alike.mono _ _
      | exact geyserlaw12_few.mono _ _
      | exact geyserref03_Plus.mono _ _ _ _
      | exact LeO.none _
      | refine LeO.ite ?_ ?_
      | refine LeO.bind ?_ (fun _ => ?_)
theorem geyserlaw12_ReplayPlays.mono : ∀ a0 a1 a2 k, LeO (geyserlaw12_ReplayPlays.f k a0 a1 a2) (geyserlaw12_ReplayPlays.f (k + 1) a0 a1 a2) := by
  intro a0 a1 a2 k
  obtain ⟨ih0, ih1, ih2, ih3, ih4, ih5, ih6⟩ := geyserlaw12_ReplayPlays.mono_l k
  unfold geyserlaw12_ReplayPlays.f
  repeat' first
      | (with_reducible exact ih0 _ _ _ _)
      | (with_reducible exact ih1 _ _ _ _ _ _)
      | (with_reducible exact ih2 _ _ _ _ _ _ _ _)
      | (with_reducible exact ih3 _ _ _ _ _)
      | (with_reducible exact ih4 _ _ _ _ _ _)
      | (with_reducible exact ih5 _ _ _ _ _ _ _ _)
      | (with_reducible exact ih6 _ _ _ _ _ _ _ _ _ _ _)
      | (with_reducible exact geyserlaw12_alike.mono _ _)
      | (with_reducible exact geyserlaw12_few.mono _ _)
      | (with_reducible exact geyserref03_Plus.mono _ _ _ _)
      | (with_reducible exact LeO.refl _)
      | (with_reducible exact LeO.none _)
      | (with_reducible refine LeO.ite ?_ ?_)
      | (with_reducible refine LeO.bind ?_ (fun _ => ?_))
      | exact ih0 _ _ _ _
      | exact ih1 _ _ _ _ _ _
      | exact ih2 _ _ _ _ _ _ _ _
      | exact ih3 _ _ _ _ _
      | exact ih4 _ _ _ _ _ _
      | exact ih5 _ _ _ _ _ _ _ _
      | exact ih6 _ _ _ _ _ _ _ _ _ _ _
      | exact geyserlaw12_alike.mono _ _
      | exact geyserlaw12_few.mono _ _
      | exact geyserref03_Plus.mono _ _ _ _
      | exact LeO.none _
      | refine LeO.ite ?_ ?_
      | refine LeO.bind ?_ (fun _ => ?_)
def geyserlaw12_ReplayPlays.T13 : Bool × List (List Nat × List Nat) := (true, [([], []), ([], []), ([1], [1]), ([], []), ([], []), ([4], [4]), ([3, 5], [3, 5]), ([6], [6]), ([7], [7]), ([8, 8], [8]), ([], []), ([], []), ([11], [11]), ([10, 12], [10, 12]), ([13], [13]), ([], []), ([15], [15]), ([9, 14, 16], [9, 14, 16]), ([0, 2, 0, 1, 2, 3, 4, 5, 6, 7, 8, 9, 10, 11, 12, 13, 14, 15, 16, 17], [0, 2]), ([18, 17, 17, 0, 1, 2, 3, 4, 5, 6, 7, 8, 9, 10, 11, 12, 13, 14, 15, 16, 17], [17, 18])])
def geyserlaw12_ReplayPlays.B13 : List Nat := [0, 0, 2, 0, 0, 16, 56, 120, 248, 504, 0, 0, 2048, 7168, 15360, 0, 32768, 131064, 262143, 524287]
theorem geyserlaw12_ReplayPlays.tab13 : rtab .any (opsOf Try.f4 13) = geyserlaw12_ReplayPlays.T13 := by kernel_rfl
theorem geyserlaw12_ReplayPlays.bits13 : waitsOk geyserlaw12_ReplayPlays.T13.2 geyserlaw12_ReplayPlays.B13 = true := by kernel_rfl
def geyserlaw12_ReplayPlays.T14 : Bool × List (List Nat × List Nat) := (true, [([], []), ([], []), ([1], [1]), ([], []), ([], []), ([4], [4]), ([3, 5], [3, 5]), ([6], [6]), ([], []), ([], []), ([9], [9]), ([8, 10], [8, 10]), ([11], [11]), ([], []), ([13], [13]), ([7, 12, 14], [7, 12, 14]), ([0, 2, 0, 1, 2, 3, 4, 5, 6, 7, 8, 9, 10, 11, 12, 13, 14, 15], [0, 2]), ([16, 15, 15, 0, 1, 2, 3, 4, 5, 6, 7, 8, 9, 10, 11, 12, 13, 14, 15], [15, 16])])
def geyserlaw12_ReplayPlays.B14 : List Nat := [0, 0, 2, 0, 0, 16, 56, 120, 0, 0, 512, 1792, 3840, 0, 8192, 32760, 65535, 131071]
theorem geyserlaw12_ReplayPlays.tab14 : rtab .any (opsOf Try.f4 14) = geyserlaw12_ReplayPlays.T14 := by kernel_rfl
theorem geyserlaw12_ReplayPlays.bits14 : waitsOk geyserlaw12_ReplayPlays.T14.2 geyserlaw12_ReplayPlays.B14 = true := by kernel_rfl
def geyserlaw12_ReplayPlays.T28 : Bool × List (List Nat × List Nat) := (true, [([], []), ([], []), ([0, 1], [0, 1]), ([2], [2]), ([3], [3]), ([], []), ([], []), ([6], [6]), ([], []), ([7, 8], [7, 8]), ([9], [9]), ([5, 10], [5, 10]), ([11], [11]), ([12], [12]), ([4, 13], [4, 13])])
def geyserlaw12_ReplayPlays.B28 : List Nat := [0, 0, 3, 7, 15, 0, 0, 64, 0, 448, 960, 2016, 4064, 8160, 16383]
theorem geyserlaw12_ReplayPlays.tab28 : rtab .any (opsOf Try.f4 28) = geyserlaw12_ReplayPlays.T28 := by kernel_rfl
theorem geyserlaw12_ReplayPlays.bits28 : waitsOk geyserlaw12_ReplayPlays.T28.2 geyserlaw12_ReplayPlays.B28 = true := by kernel_rfl
set_option maxHeartbeats 8000000 in
set_option maxRecDepth 100000 in
theorem geyserlaw12_ReplayPlays.calls (k : Nat) (A0_0 : Option Addr) (c0_0 : Nat) (l0_0 : List (S42)) (A0_1 : Option Addr) (c0_1 : Nat) (l0_1 : List Int) (P1_ : Nat → Prop) (A1 : Option Addr) (c1 : Nat) (l1 : List (List Int)) (r : Bool) (w : World) (hr0_0 : Kd.C k42 w A0_0 l0_0.length l0_0) (hc0_0 : l0_0.length ≤ c0_0) (hr0_1 : Kd.C (Kd.int .i64) w A0_1 l0_1.length l0_1) (hc0_1 : l0_1.length ≤ c0_1) (hs1 : Kd.V (Kd.slice 5 (Kd.int .u8)) 31 w w.heap.size (fun k_ => P1_ k_) (.slice A1 l1.length c1) l1) (h : geyserlaw12_ReplayPlays.f k l0_0 l0_1 l1 = some r) :
    Calls Try.prog 4 #[.agg #[.slice A0_0 l0_0.length c0_0, .slice A0_1 l0_1.length c0_1], .slice A1 l1.length c1] w fun e w' => e = .returned (.bool r) ∧ Below w.heap.size w w' := by
  have hu38 := Try.underlying38
  have hu42 := Try.underlying42
  have HR0_0 := Aside0.mk hr0_0
  have HC0_0 := Aside0.mk hc0_0
  clear hr0_0 hc0_0
  have HR0_1 := Aside0.mk hr0_1
  have HC0_1 := Aside0.mk hc0_1
  clear hr0_1 hc0_1
  have HO1 := Aside0.mk (show Kd.V (Kd.slice 5 (Kd.int .u8)) 31 w w.heap.size (fun k_ => (P1_ k_ ∨ w.heap.size ≤ k_)) (.slice A1 l1.length c1) l1 from Kd.V_mono hs1 (fun k_ hk => .inl hk))
  have HB := Aside0.mk (Below.refl w.heap.size w)
  have H : ((geyserlaw12_awake.f).bind fun t112 => (if t112 = true then ((geyserlaw12_few.f k l1).bind fun t113 => (if t113 = true then (if (l0_0.length : Int) > 200 then (geyserlaw12_ReplayPlays.j0 k l1 true l0_0 l0_1) else (geyserlaw12_ReplayPlays.j0 k l1 (decide ((l0_1.length : Int) > 100)) l0_0 l0_1)) else (geyserlaw12_ReplayPlays.j0 k l1 true l0_0 l0_1))) else (geyserlaw12_ReplayPlays.j0 k l1 true l0_0 l0_1))) = some r := h
  clear h
  have HC3 := Aside0.mk H
  clear H
  go_enter Try.func4, Try.ntmps4
  go_upto_region 1 with (first | ((with_reducible refine gate_dst (N := 2) rfl ?_); (try (refine gate_guard (by rfl) ?_; dsimp only)); refine box_event ?hg (N := 2) ?hd (cs := #[.slice A0_0 l0_0.length c0_0, .slice A0_1 l0_1.length c0_1]) (t := 38) ?hr ?_; (case hd => rfl); (case hg => rfl); (case hr => first | (go_simp; done) | (go_simp; rfl)); intro gb111 hg w4 hbox hb; have n0_ := Aside0.mk (Kd.V_below (Kd.V_elderB (by (with_reducible repeat (first | apply Kd.V_alloc | apply Kd.V_drewN | apply Kd.V_drew)); exact HO1.out) gb111 (Nat.le_of_eq hg.symm)) hb); have n1_ := Aside0.mk (below_step (by repeat (first | (with_reducible first | exact HB.out | apply below_alloc | apply pw_below_drewN | apply below_drew1) | exact HB.out)) hb); have n2_ := Aside0.mk (hbox); have n3_ := Aside0.mk ((by rw [hg]; exact (below_size (by repeat (first | (with_reducible first | exact HB.out | apply below_alloc | apply pw_below_drewN | apply below_drew1) | exact HB.out))) : w.heap.size ≤ gb111)); have n4_ := Aside0.mk ((by rw [hg]; exact (below_size (by repeat (first | (with_reducible first | exact HB.out | apply below_alloc | apply pw_below_drewN | apply below_drew1) | exact HB.out))) : w.heap.size ≤ gb111)); clear HO1; clear HB; have HO1 := n0_; have HB := n1_; have BK111 := n2_; have GW111 := n3_; have GE111 := n4_; clear n0_ n1_ n2_ n3_ n4_; clear hb hbox hg))
  (try simp only [Act.put, List.setIfInBounds_toArray, List.set_cons_zero, List.set_cons_succ])
  go_cut [31] (fun v31 wc => ∃ (kq : Nat) (x31_2 : Bool), v31 = .bool x31_2 ∧ Aside0 (geyserlaw12_ReplayPlays.j0 kq l1 x31_2 l0_0 l0_1 = some r) ∧ Aside0 (kq ≤ k) ∧ Aside0 (Kd.V (Kd.slice 5 (Kd.int .u8)) 31 wc w.heap.size (fun k_ => (P1_ k_ ∨ w.heap.size ≤ k_) ∧ k_ ≠ gb111) (.slice A1 l1.length c1) l1) ∧ Aside0 (wc.heap[gb111]? = some (.cells #[(.slice A0_0 l0_0.length c0_0), (.slice A0_1 l0_1.length c0_1)] 38 (0, 0))) ∧ Aside0 (Below w.heap.size w wc))
  case first =>
    have H := HC3.out
    clear HC3
    replace H := Option.bind_eq_some_iff.mp H
    obtain ⟨t112, A50, H⟩ := H
    replace H : (if t112 = true then ((geyserlaw12_few.f k l1).bind fun t113 => (if t113 = true then (if (l0_0.length : Int) > 200 then (geyserlaw12_ReplayPlays.j0 k l1 true l0_0 l0_1) else (geyserlaw12_ReplayPlays.j0 k l1 (decide ((l0_1.length : Int) > 100)) l0_0 l0_1)) else (geyserlaw12_ReplayPlays.j0 k l1 true l0_0 l0_1))) else (geyserlaw12_ReplayPlays.j0 k l1 true l0_0 l0_1)) = some r := H
    have A5 := Aside0.mk A50
    clear A50
    by_cases c6 : t112 = true
    · subst c6
      have H1 : ((geyserlaw12_few.f k l1).bind fun t113 => (if t113 = true then (if (l0_0.length : Int) > 200 then (geyserlaw12_ReplayPlays.j0 k l1 true l0_0 l0_1) else (geyserlaw12_ReplayPlays.j0 k l1 (decide ((l0_1.length : Int) > 100)) l0_0 l0_1)) else (geyserlaw12_ReplayPlays.j0 k l1 true l0_0 l0_1))) = some r := by rw [if_pos rfl] at H; exact H
      clear H
      have H := H1
      clear H1
      replace H := Option.bind_eq_some_iff.mp H
      obtain ⟨t113, A70, H⟩ := H
      replace H : (if t113 = true then (if (l0_0.length : Int) > 200 then (geyserlaw12_ReplayPlays.j0 k l1 true l0_0 l0_1) else (geyserlaw12_ReplayPlays.j0 k l1 (decide ((l0_1.length : Int) > 100)) l0_0 l0_1)) else (geyserlaw12_ReplayPlays.j0 k l1 true l0_0 l0_1)) = some r := H
      have A7 := Aside0.mk A70
      clear A70
      by_cases c8 : t113 = true
      · subst c8
        have H1 : (if (l0_0.length : Int) > 200 then (geyserlaw12_ReplayPlays.j0 k l1 true l0_0 l0_1) else (geyserlaw12_ReplayPlays.j0 k l1 (decide ((l0_1.length : Int) > 100)) l0_0 l0_1)) = some r := by rw [if_pos rfl] at H; exact H
        clear H
        have H := H1
        clear H1
        by_cases c9 : (l0_0.length : Int) > 200
        · rw [if_pos c9] at H
          have c9b0 : decide (200 < (l0_0.length : Int)) = true := decide_eq_true c9
          have c9b1 : decide (200 < l0_0.length) = true := decide_eq_true (by omega)
          clear c9
          (first | rw [c9b0] | (simp only [i64_w, i32_w]; rw [c9b0]) | skip)
          have H' := Aside0.mk H
          clear H
          go_wp2_with (first | ((with_reducible refine gate_callee (f := 13) rfl ?_); refine goesL_ (some 13) rfl rfl Try.func13 (by kernel_rfl) rfl #[] rfl (by (try simp only [List.map_toArray, List.map_cons, List.map_nil]); first | done | rfl | (simp only [List.length_drop, List.length_take]; rfl)) ?_; (with_reducible refine (geyserlaw12_awake.calls  true _ A5.out).mono ?_); rintro e w10 ⟨rfl, hb⟩; refine ⟨_, rfl, ?_⟩; have n0_ := Aside0.mk (Kd.V_below (by (with_reducible repeat (first | apply Kd.V_alloc | apply Kd.V_drewN | apply Kd.V_drew)); exact HO1.out) hb); have n1_ := Aside0.mk (blk_below (g := gb111) (o := .cells #[.slice A0_0 l0_0.length c0_0, .slice A0_1 l0_1.length c0_1] 38 (0, 0)) (by (with_reducible repeat (first | refine blk_drewN ?_ _ | refine blk_drew ?_ | refine blk_alloc ?_ _)); exact BK111.out) hb); have n2_ := Aside0.mk (below_step (by repeat (first | (with_reducible first | exact HB.out | apply below_alloc | apply pw_below_drewN | apply below_drew1 | refine below_set ?_ GE111.out) | exact HB.out)) hb); clear HO1; clear BK111; clear HB; have HO1 := n0_; have BK111 := n1_; have HB := n2_; clear n0_ n1_ n2_; (try clear hb); (try clear hb2); (try clear hk); (try clear hi)) | (go_at_call 14; (with_reducible refine (geyserlaw12_few.calls k _ _ l1 true _ ?side1 ?side2 A7.out).mono ?_); (case side1 => repeat (first | exact (Kd.V_reads' HO1.out).2.2 | (with_reducible refine Kd.C_alloc ?_ _) | (with_reducible refine Kd.C_drewN ?_ _) | (with_reducible refine Kd.C_drew ?_))); (case side2 => exact (Kd.V_reads' HO1.out).2.1); rintro e w' ⟨rfl, ⟨nd, rfl⟩⟩; have hcz11_0 : w10.cell? ⟨gb111, 0, none⟩ = some (.slice A0_0 l0_0.length c0_0) := (blk_cell BK111.out 0).trans rfl; have hcz11_1 : w10.cell? ⟨gb111, 1, none⟩ = some (.slice A0_1 l0_1.length c0_1) := (blk_cell BK111.out 1).trans rfl; have hfz11_0 := blk_frozen BK111.out 0; have hfz11_1 := blk_frozen BK111.out 1))
          go_meet
          case rel => exact ⟨_, (true), (by first | rfl | (simp; done) | (simp [*]; done)), H', ⟨by first | omega | exact Nat.le_refl _⟩, ⟨by (with_reducible repeat (first | apply Kd.V_alloc | apply Kd.V_drewN | apply Kd.V_drew)); exact HO1.out⟩, ⟨by (with_reducible repeat (first | refine blk_drewN ?_ _ | refine blk_drew ?_ | refine blk_alloc ?_ _)); exact BK111.out⟩, ⟨by repeat (first | (with_reducible first | exact HB.out | apply below_alloc | apply pw_below_drewN | apply below_drew1 | refine below_set ?_ GE111.out) | exact HB.out)⟩⟩
        · rw [if_neg c9] at H
          have c9b0 : decide (200 < (l0_0.length : Int)) = false := decide_eq_false c9
          have c9b1 : decide (200 < l0_0.length) = false := decide_eq_false (by omega)
          clear c9
          (first | rw [c9b0] | (simp only [i64_w, i32_w]; rw [c9b0]) | skip)
          have H' := Aside0.mk H
          clear H
          go_wp2_with (first | ((with_reducible refine gate_callee (f := 13) rfl ?_); refine goesL_ (some 13) rfl rfl Try.func13 (by kernel_rfl) rfl #[] rfl (by (try simp only [List.map_toArray, List.map_cons, List.map_nil]); first | done | rfl | (simp only [List.length_drop, List.length_take]; rfl)) ?_; (with_reducible refine (geyserlaw12_awake.calls  true _ A5.out).mono ?_); rintro e w12 ⟨rfl, hb⟩; refine ⟨_, rfl, ?_⟩; have n0_ := Aside0.mk (Kd.V_below (by (with_reducible repeat (first | apply Kd.V_alloc | apply Kd.V_drewN | apply Kd.V_drew)); exact HO1.out) hb); have n1_ := Aside0.mk (blk_below (g := gb111) (o := .cells #[.slice A0_0 l0_0.length c0_0, .slice A0_1 l0_1.length c0_1] 38 (0, 0)) (by (with_reducible repeat (first | refine blk_drewN ?_ _ | refine blk_drew ?_ | refine blk_alloc ?_ _)); exact BK111.out) hb); have n2_ := Aside0.mk (below_step (by repeat (first | (with_reducible first | exact HB.out | apply below_alloc | apply pw_below_drewN | apply below_drew1 | refine below_set ?_ GE111.out) | exact HB.out)) hb); clear HO1; clear BK111; clear HB; have HO1 := n0_; have BK111 := n1_; have HB := n2_; clear n0_ n1_ n2_; (try clear hb); (try clear hb2); (try clear hk); (try clear hi)) | (go_at_call 14; (with_reducible refine (geyserlaw12_few.calls k _ _ l1 true _ ?side1 ?side2 A7.out).mono ?_); (case side1 => repeat (first | exact (Kd.V_reads' HO1.out).2.2 | (with_reducible refine Kd.C_alloc ?_ _) | (with_reducible refine Kd.C_drewN ?_ _) | (with_reducible refine Kd.C_drew ?_))); (case side2 => exact (Kd.V_reads' HO1.out).2.1); rintro e w' ⟨rfl, ⟨nd, rfl⟩⟩; have hcz13_0 : w12.cell? ⟨gb111, 0, none⟩ = some (.slice A0_0 l0_0.length c0_0) := (blk_cell BK111.out 0).trans rfl; have hcz13_1 : w12.cell? ⟨gb111, 1, none⟩ = some (.slice A0_1 l0_1.length c0_1) := (blk_cell BK111.out 1).trans rfl; have hfz13_0 := blk_frozen BK111.out 0; have hfz13_1 := blk_frozen BK111.out 1))
          go_meet
          case rel => exact ⟨_, (decide ((l0_1.length : Int) > 100)), (by first | rfl | (simp; done) | (simp [*]; done)), H', ⟨by first | omega | exact Nat.le_refl _⟩, ⟨by (with_reducible repeat (first | apply Kd.V_alloc | apply Kd.V_drewN | apply Kd.V_drew)); exact HO1.out⟩, ⟨by (with_reducible repeat (first | refine blk_drewN ?_ _ | refine blk_drew ?_ | refine blk_alloc ?_ _)); exact BK111.out⟩, ⟨by repeat (first | (with_reducible first | exact HB.out | apply below_alloc | apply pw_below_drewN | apply below_drew1 | refine below_set ?_ GE111.out) | exact HB.out)⟩⟩
      · replace c8 := Bool.eq_false_iff.mpr c8
        subst c8
        have H1 : (geyserlaw12_ReplayPlays.j0 k l1 true l0_0 l0_1) = some r := by rw [if_neg (show ¬ (false = true) by decide)] at H; exact H
        clear H
        have H := H1
        clear H1
        have H' := Aside0.mk H
        clear H
        go_wp2_with (first | ((with_reducible refine gate_callee (f := 13) rfl ?_); refine goesL_ (some 13) rfl rfl Try.func13 (by kernel_rfl) rfl #[] rfl (by (try simp only [List.map_toArray, List.map_cons, List.map_nil]); first | done | rfl | (simp only [List.length_drop, List.length_take]; rfl)) ?_; (with_reducible refine (geyserlaw12_awake.calls  true _ A5.out).mono ?_); rintro e w14 ⟨rfl, hb⟩; refine ⟨_, rfl, ?_⟩; have n0_ := Aside0.mk (Kd.V_below (by (with_reducible repeat (first | apply Kd.V_alloc | apply Kd.V_drewN | apply Kd.V_drew)); exact HO1.out) hb); have n1_ := Aside0.mk (blk_below (g := gb111) (o := .cells #[.slice A0_0 l0_0.length c0_0, .slice A0_1 l0_1.length c0_1] 38 (0, 0)) (by (with_reducible repeat (first | refine blk_drewN ?_ _ | refine blk_drew ?_ | refine blk_alloc ?_ _)); exact BK111.out) hb); have n2_ := Aside0.mk (below_step (by repeat (first | (with_reducible first | exact HB.out | apply below_alloc | apply pw_below_drewN | apply below_drew1 | refine below_set ?_ GE111.out) | exact HB.out)) hb); clear HO1; clear BK111; clear HB; have HO1 := n0_; have BK111 := n1_; have HB := n2_; clear n0_ n1_ n2_; (try clear hb); (try clear hb2); (try clear hk); (try clear hi)) | (go_at_call 14; (with_reducible refine (geyserlaw12_few.calls k _ _ l1 false _ ?side1 ?side2 A7.out).mono ?_); (case side1 => repeat (first | exact (Kd.V_reads' HO1.out).2.2 | (with_reducible refine Kd.C_alloc ?_ _) | (with_reducible refine Kd.C_drewN ?_ _) | (with_reducible refine Kd.C_drew ?_))); (case side2 => exact (Kd.V_reads' HO1.out).2.1); rintro e w' ⟨rfl, ⟨nd, rfl⟩⟩))
        go_meet
        case rel => exact ⟨_, (true), (by first | rfl | (simp; done) | (simp [*]; done)), H', ⟨by first | omega | exact Nat.le_refl _⟩, ⟨by (with_reducible repeat (first | apply Kd.V_alloc | apply Kd.V_drewN | apply Kd.V_drew)); exact HO1.out⟩, ⟨by (with_reducible repeat (first | refine blk_drewN ?_ _ | refine blk_drew ?_ | refine blk_alloc ?_ _)); exact BK111.out⟩, ⟨by repeat (first | (with_reducible first | exact HB.out | apply below_alloc | apply pw_below_drewN | apply below_drew1 | refine below_set ?_ GE111.out) | exact HB.out)⟩⟩
    · replace c6 := Bool.eq_false_iff.mpr c6
      subst c6
      have H1 : (geyserlaw12_ReplayPlays.j0 k l1 true l0_0 l0_1) = some r := by rw [if_neg (show ¬ (false = true) by decide)] at H; exact H
      clear H
      have H := H1
      clear H1
      have H' := Aside0.mk H
      clear H
      go_wp2_with (first | ((with_reducible refine gate_callee (f := 13) rfl ?_); refine goesL_ (some 13) rfl rfl Try.func13 (by kernel_rfl) rfl #[] rfl (by (try simp only [List.map_toArray, List.map_cons, List.map_nil]); first | done | rfl | (simp only [List.length_drop, List.length_take]; rfl)) ?_; (with_reducible refine (geyserlaw12_awake.calls  false _ A5.out).mono ?_); rintro e w15 ⟨rfl, hb⟩; refine ⟨_, rfl, ?_⟩; have n0_ := Aside0.mk (Kd.V_below (by (with_reducible repeat (first | apply Kd.V_alloc | apply Kd.V_drewN | apply Kd.V_drew)); exact HO1.out) hb); have n1_ := Aside0.mk (blk_below (g := gb111) (o := .cells #[.slice A0_0 l0_0.length c0_0, .slice A0_1 l0_1.length c0_1] 38 (0, 0)) (by (with_reducible repeat (first | refine blk_drewN ?_ _ | refine blk_drew ?_ | refine blk_alloc ?_ _)); exact BK111.out) hb); have n2_ := Aside0.mk (below_step (by repeat (first | (with_reducible first | exact HB.out | apply below_alloc | apply pw_below_drewN | apply below_drew1 | refine below_set ?_ GE111.out) | exact HB.out)) hb); clear HO1; clear BK111; clear HB; have HO1 := n0_; have BK111 := n1_; have HB := n2_; clear n0_ n1_ n2_; (try clear hb); (try clear hb2); (try clear hk); (try clear hi)))
      go_meet
      case rel => exact ⟨_, (true), (by first | rfl | (simp; done) | (simp [*]; done)), H', ⟨by first | omega | exact Nat.le_refl _⟩, ⟨by (with_reducible repeat (first | apply Kd.V_alloc | apply Kd.V_drewN | apply Kd.V_drew)); exact HO1.out⟩, ⟨by (with_reducible repeat (first | refine blk_drewN ?_ _ | refine blk_drew ?_ | refine blk_alloc ?_ _)); exact BK111.out⟩, ⟨by repeat (first | (with_reducible first | exact HB.out | apply below_alloc | apply pw_below_drewN | apply below_drew1 | refine below_set ?_ GE111.out) | exact HB.out)⟩⟩
  case rest =>
    clear HC3
    try clear c1
    try clear p2
    try clear c4
    try clear c6
    try clear c8
    try clear c9
    try clear c9b0
    try clear c9b1
    try clear c13
    try clear hcz11_0
    try clear hcz11_1
    try clear hcz13_0
    try clear hcz13_1
    try clear hfz11_0
    try clear hfz11_1
    try clear hfz13_0
    try clear hfz13_1
    obtain ⟨kq, x31_2, rfl, HA, HJ2, HO_1, BK111, HB⟩ := hcut
    cases kq with
    | zero => exact absurd HA.out (by simp [geyserlaw12_ReplayPlays.j0])
    | succ kj2 =>
      have H := HA.out
      clear HA
      simp only [geyserlaw12_ReplayPlays.j0] at H
      by_cases c16 : x31_2 = true
      · subst c16
        have H1 : ((geyserlaw12_awake.f).bind fun t114 => (some t114)) = some r := by rw [if_pos rfl] at H; exact H
        clear H
        have H := H1
        clear H1
        replace H := Option.bind_eq_some_iff.mp H
        obtain ⟨t114, A170, H⟩ := H
        replace H : (some t114) = some r := H
        have A17 := Aside0.mk A170
        clear A170
        obtain rfl := Option.some.inj H
        go_wp2_with (first | ((with_reducible refine gate_callee (f := 13) rfl ?_); refine goesL_ (some 32) rfl rfl Try.func13 (by kernel_rfl) rfl #[] rfl (by (try simp only [List.map_toArray, List.map_cons, List.map_nil]); first | done | rfl | (simp only [List.length_drop, List.length_take]; rfl)) ?_; (with_reducible refine (geyserlaw12_awake.calls  t114 _ A17.out).mono ?_); rintro e w18 ⟨rfl, hb⟩; refine ⟨_, rfl, ?_⟩; have n0_ := Aside0.mk (Kd.V_below (by (with_reducible repeat (first | apply Kd.V_alloc | apply Kd.V_drewN | apply Kd.V_drew)); exact HO_1.out) hb); have n1_ := Aside0.mk (blk_below (g := gb111) (o := .cells #[.slice A0_0 l0_0.length c0_0, .slice A0_1 l0_1.length c0_1] 38 (0, 0)) (by (with_reducible repeat (first | refine blk_drewN ?_ _ | refine blk_drew ?_ | refine blk_alloc ?_ _)); exact BK111.out) hb); have n2_ := Aside0.mk (below_step (by repeat (first | (with_reducible first | exact HB.out | apply below_alloc | apply pw_below_drewN | apply below_drew1 | refine below_set ?_ GE111.out) | exact HB.out)) hb); clear HO_1; clear BK111; clear HB; have HO_1 := n0_; have BK111 := n1_; have HB := n2_; clear n0_ n1_ n2_; (try clear hb); (try clear hb2); (try clear hk); (try clear hi)))
        go_ret
        exact ⟨by first | rfl | (simp [errW_none, errW_some] <;> rfl) | (simp [*, errW_none, errW_some] <;> rfl), by repeat (first | (with_reducible first | exact HB.out | apply below_alloc | apply pw_below_drewN | apply below_drew1 | refine below_set ?_ GE111.out) | exact HB.out)⟩
      · replace c16 := Bool.eq_false_iff.mpr c16
        subst c16
        have H1 : ((replay_Play.f l0_0 l0_1 l1).bind fun bt115 => ((geyserlaw12_alike.f kj2 l1).bind fun t119 => ((some (([] : List (List Int)) : List (List Int))).bind fun y120 => (if y120.length + l1.length < 5864062014805 then (geyserlaw12_ReplayPlays.l0 kj2 bt115.1 bt115.2 t119 (y120 ++ l1) (l0_0.length : Int) 0 l0_0 l0_1) else (none))))) = some r := by rw [if_neg (show ¬ (false = true) by decide)] at H; exact H
        clear H
        have H := H1
        clear H1
        replace H := Option.bind_eq_some_iff.mp H
        obtain ⟨⟨t115, t118⟩, A190, H⟩ := H
        replace H : ((geyserlaw12_alike.f kj2 l1).bind fun t119 => ((some (([] : List (List Int)) : List (List Int))).bind fun y120 => (if y120.length + l1.length < 5864062014805 then (geyserlaw12_ReplayPlays.l0 kj2 t115 t118 t119 (y120 ++ l1) (l0_0.length : Int) 0 l0_0 l0_1) else (none)))) = some r := H
        have A19 := Aside0.mk A190
        clear A190
        replace H := Option.bind_eq_some_iff.mp H
        obtain ⟨t119, A200, H⟩ := H
        replace H : ((some (([] : List (List Int)) : List (List Int))).bind fun y120 => (if y120.length + l1.length < 5864062014805 then (geyserlaw12_ReplayPlays.l0 kj2 t115 t118 t119 (y120 ++ l1) (l0_0.length : Int) 0 l0_0 l0_1) else (none))) = some r := H
        have A20 := Aside0.mk A200
        clear A200
        obtain ⟨y120, hy120⟩ : ∃ y_ : List (List Int), y_ = (([] : List (List Int))) := ⟨_, rfl⟩
        replace H : (if y120.length + l1.length < 5864062014805 then (geyserlaw12_ReplayPlays.l0 kj2 t115 t118 t119 (y120 ++ l1) (l0_0.length : Int) 0 l0_0 l0_1) else (none)) = some r := by first | (rw [hy120]; with_reducible exact H) | (have H2_ := (Option.bind_some _ _).symm.trans H; rw [hy120]; with_reducible exact H2_) | (have H2_ := (Option.bind_some _ _).symm.trans H; with_reducible exact H2_) | with_reducible exact H | (rw [hy120]; exact H) | exact H
        have Ny120 := Aside0.mk hy120
        clear hy120
        by_cases c21 : y120.length + l1.length < 5864062014805
        · rw [if_pos c21] at H
          have LMc21 := Aside0.mk c21
          clear c21
          obtain ⟨y123, hy123⟩ : ∃ y_ : List (List Int), y_ = (y120 ++ l1) := ⟨_, rfl⟩
          replace H : (geyserlaw12_ReplayPlays.l0 kj2 t115 t118 t119 y123 (l0_0.length : Int) 0 l0_0 l0_1) = some r := by first | (rw [hy123]; with_reducible exact H) | (have H2_ := (Option.bind_some _ _).symm.trans H; rw [hy123]; with_reducible exact H2_) | (have H2_ := (Option.bind_some _ _).symm.trans H; with_reducible exact H2_) | with_reducible exact H | (rw [hy123]; exact H) | exact H
          have Ny123 := Aside0.mk hy123
          clear hy123
          have HC22 := Aside0.mk H
          clear H
          have hcz23_0 : wc.cell? ⟨gb111, 0, none⟩ = some (.slice A0_0 l0_0.length c0_0) := (blk_cell BK111.out 0).trans rfl
          have hcz23_1 : wc.cell? ⟨gb111, 1, none⟩ = some (.slice A0_1 l0_1.length c0_1) := (blk_cell BK111.out 1).trans rfl
          have hfz23_0 := blk_frozen BK111.out 0
          have hfz23_1 := blk_frozen BK111.out 1
          go_upto_block 0 with (first | ((with_reducible refine gate_callee (f := 21) rfl ?_); refine goesL_ (some 36) rfl rfl Try.func21 (by kernel_rfl) rfl #[.agg #[.slice A0_0 l0_0.length c0_0, .slice A0_1 l0_1.length c0_1], .slice A1 l1.length c1] rfl (by (try simp only [List.map_toArray, List.map_cons, List.map_nil]); first | done | rfl | (simp only [List.length_drop, List.length_take]; rfl)) ?_; (with_reducible refine (replay_Play.calls _ _ l0_0 _ _ l0_1 _ _ l1 t115 t118 _ ?side1 ?side2 ?side3 ?side4 ?side5 ?side6 A19.out).mono ?_); (case side1 => repeat (first | exact (Kd.C_below HR0_0.out HB.out) | (with_reducible refine Kd.C_alloc ?_ _) | (with_reducible refine Kd.C_drewN ?_ _) | (with_reducible refine Kd.C_drew ?_))); (case side2 => exact HC0_0.out); (case side3 => repeat (first | exact (Kd.C_below HR0_1.out HB.out) | (with_reducible refine Kd.C_alloc ?_ _) | (with_reducible refine Kd.C_drewN ?_ _) | (with_reducible refine Kd.C_drew ?_))); (case side4 => exact HC0_1.out); (case side5 => repeat (first | exact (Kd.V_reads' HO_1.out).2.2 | (with_reducible refine Kd.C_alloc ?_ _) | (with_reducible refine Kd.C_drewN ?_ _) | (with_reducible refine Kd.C_drew ?_))); (case side6 => exact (Kd.V_reads' HO_1.out).2.1); rintro e w24 ⟨v116, rfl, ho0, hb⟩; refine ⟨_, rfl, ?_⟩; have n0_ := Aside0.mk (Kd.V_elder' (by (with_reducible repeat (first | apply Kd.V_alloc | apply Kd.V_drewN | apply Kd.V_drew)); exact HO_1.out) (Kd.S_base ho0) hb); have n1_ := Aside0.mk (Kd.N_lower (Kd.N_mono (ok' := fun k_ => (P1_ k_ ∨ w.heap.size ≤ k_) ∧ k_ ≠ gb111) (Kd.S_N (Kd.S_bound ho0)) (fun k_ hk_ => ⟨(.inr (Nat.le_trans (below_size (by repeat (first | (with_reducible first | exact HB.out | apply below_alloc | apply pw_below_drewN | apply below_drew1 | refine below_set ?_ GE111.out) | exact HB.out))) hk_.2.1)), (Kd.freshB (g := gb111) (o := .cells #[.slice A0_0 l0_0.length c0_0, .slice A0_1 l0_1.length c0_1] 38 (0, 0)) (by (with_reducible repeat (first | refine blk_drewN ?_ _ | refine blk_drew ?_ | refine blk_alloc ?_ _)); exact BK111.out) k_ hk_.2.1)⟩)) (below_size (by repeat (first | (with_reducible first | exact HB.out | apply below_alloc | apply pw_below_drewN | apply below_drew1 | refine below_set ?_ GE111.out) | exact HB.out)))); have n2_ := Aside0.mk (blk_below (g := gb111) (o := .cells #[.slice A0_0 l0_0.length c0_0, .slice A0_1 l0_1.length c0_1] 38 (0, 0)) (by (with_reducible repeat (first | refine blk_drewN ?_ _ | refine blk_drew ?_ | refine blk_alloc ?_ _)); exact BK111.out) hb); have n3_ := Aside0.mk (below_step (by repeat (first | (with_reducible first | exact HB.out | apply below_alloc | apply pw_below_drewN | apply below_drew1 | refine below_set ?_ GE111.out) | exact HB.out)) hb); clear HO_1; clear BK111; clear HB; have HO_1 := n0_; have HO117 := n1_; have BK111 := n2_; have HB := n3_; clear n0_ n1_ n2_ n3_; (try clear hb); (try clear hb2); (try clear hk); (try clear hi); (try clear ho0)) | ((with_reducible refine gate_callee (f := 16) rfl ?_); refine goesL_ (some 40) rfl rfl Try.func16 (by kernel_rfl) rfl #[.slice A1 l1.length c1] rfl (by (try simp only [List.map_toArray, List.map_cons, List.map_nil]); first | done | rfl | (simp only [List.length_drop, List.length_take]; rfl)) ?_; (with_reducible refine (geyserlaw12_alike.calls kj2 _ _ l1 t119 _ ?side1 ?side2 A20.out).mono ?_); (case side1 => repeat (first | exact (Kd.V_reads' HO_1.out).2.2 | (with_reducible refine Kd.C_alloc ?_ _) | (with_reducible refine Kd.C_drewN ?_ _) | (with_reducible refine Kd.C_drew ?_))); (case side2 => exact (Kd.V_reads' HO_1.out).2.1); rintro e w' ⟨rfl, ⟨nd, rfl⟩⟩; refine ⟨_, rfl, ?_⟩) | ((with_reducible refine gate_dst (N := 41) rfl ?_); (try (refine gate_guard (by rfl) ?_; dsimp only)); refine Kd.N_lit (Kd.slice 5 (Kd.int .u8)) _ 31 ?hg (N' := 41) ?hd (xs := ([] : List (List Int))) (inner := []) (ok := (fun k_ => (P1_ k_ ∨ w.heap.size ≤ k_) ∧ some k_ ≠ (v116 : Value).ownBlock ∧ k_ ≠ gb111)) (okp := (fun k_ => (P1_ k_ ∨ w.heap.size ≤ k_) ∧ some k_ ≠ (v116 : Value).ownBlock ∧ k_ ≠ gb111)) ?hr ?hp (fun _ hk => hk) ((show ∀ k_, w24.heap.size ≤ k_ → (fun k_ => (P1_ k_ ∨ w.heap.size ≤ k_) ∧ some k_ ≠ (v116 : Value).ownBlock ∧ k_ ≠ gb111) k_ from fun k_ hk => ⟨(.inr (Nat.le_trans (below_size (by repeat (first | (with_reducible first | exact HB.out | apply below_alloc | apply pw_below_drewN | apply below_drew1 | refine below_set ?_ GE111.out) | exact HB.out))) hk)), Kd.fresh' (Kd.N_lt (by (with_reducible repeat (first | apply Kd.N_alloc | apply Kd.N_drewN | apply Kd.N_drew)); exact HO117.out)) k_ hk, Kd.freshB (g := gb111) (o := .cells #[.slice A0_0 l0_0.length c0_0, .slice A0_1 l0_1.length c0_1] 38 (0, 0)) (by (with_reducible repeat (first | refine blk_drewN ?_ _ | refine blk_drew ?_ | refine blk_alloc ?_ _)); exact BK111.out) k_ hk⟩) _ (Nat.le_refl _)) (Below.refl _ _) (Nat.le_refl _) (by simp) ?_; (case hd => rfl); (case hg => rfl); (case hr => first | (go_simp; done) | (go_simp; rfl)); (case hp => exact (Reps.none _ _)); intro v121 w25 ho26 hb hg_ hnew_; clear hg_ hnew_; (first | rw [← Ny120.out] at ho26 | (simp only [Int.reduceToNat] at ho26; rw [← Ny120.out] at ho26)); have n0_ := Aside0.mk (Kd.V_elder' (by (with_reducible repeat (first | apply Kd.V_alloc | apply Kd.V_drewN | apply Kd.V_drew)); exact HO_1.out) (Kd.N_base ho26) hb); have n1_ := Aside0.mk (Kd.N_elder' (by (with_reducible repeat (first | apply Kd.N_alloc | apply Kd.N_drewN | apply Kd.N_drew)); exact HO117.out) (Kd.N_base ho26) hb); have n2_ := Aside0.mk (Kd.N_lower ho26 (below_size (by repeat (first | (with_reducible first | exact HB.out | apply below_alloc | apply pw_below_drewN | apply below_drew1 | refine below_set ?_ GE111.out) | exact HB.out)))); have n3_ := Aside0.mk (blk_below (g := gb111) (o := .cells #[.slice A0_0 l0_0.length c0_0, .slice A0_1 l0_1.length c0_1] 38 (0, 0)) (by (with_reducible repeat (first | refine blk_drewN ?_ _ | refine blk_drew ?_ | refine blk_alloc ?_ _)); exact BK111.out) hb); have n4_ := Aside0.mk (below_step (by repeat (first | (with_reducible first | exact HB.out | apply below_alloc | apply pw_below_drewN | apply below_drew1 | refine below_set ?_ GE111.out) | exact HB.out)) hb); clear HO_1; clear HO117; clear BK111; clear HB; have HO_1 := n0_; have HO117 := n1_; have HO122 := n2_; have BK111 := n3_; have HB := n4_; clear n0_ n1_ n2_ n3_ n4_; clear hb ho26) | ((with_reducible refine gate_builtin (b := .append) (xs := #[.tmp 41, .tmp 42]) rfl ?_); (try (refine gate_guard (by rfl) ?_; dsimp only)); at_builtin; refine Kd.N_append_rows (Kd.slice 5 (Kd.int .u8)) (w0 := w) w.heap.size rfl (.tmp 41) (.tmp 42) 22 31 (.slice none 0 0) 24 rfl Try.underlying22 info31 rfl (by decide) (by omega) v121 y120 l1 _ _ _ (fun k_ => (P1_ k_ ∨ w.heap.size ≤ k_) ∧ some k_ ≠ (v116 : Value).ownBlock ∧ k_ ≠ gb111) (fun k_ => ((fun k_ => (P1_ k_ ∨ w.heap.size ≤ k_) ∧ some k_ ≠ (v116 : Value).ownBlock ∧ k_ ≠ gb111)) k_ ∧ some k_ ≠ (v121 : Value).ownBlock) rfl rfl ?aO ?aR (fun _ hk => hk) ?aF ?aB ?aS ?aL ?_; (case aR => exact (by skip; exact Kd.V_F (Kd.V_mono (ok' := (fun k_ => ((fun k_ => (P1_ k_ ∨ w.heap.size ≤ k_) ∧ some k_ ≠ (v116 : Value).ownBlock ∧ k_ ≠ gb111)) k_ ∧ some k_ ≠ (v121 : Value).ownBlock)) (HO_1.out) (fun k_ hk => ⟨⟨hk.1.1.1, ⟨hk.1.2, hk.1.1.2⟩⟩, hk.2⟩)))); (case aB => exact (by repeat (first | (with_reducible first | exact HB.out | apply below_alloc | apply pw_below_drewN | apply below_drew1 | refine below_set ?_ GE111.out) | exact HB.out))); (case aF => exact (fun k_ hk => ⟨(.inr (Nat.le_trans (below_size (by repeat (first | (with_reducible first | exact HB.out | apply below_alloc | apply pw_below_drewN | apply below_drew1 | refine below_set ?_ GE111.out) | exact HB.out))) hk)), Kd.fresh' (Kd.N_lt (by (with_reducible repeat (first | apply Kd.N_alloc | apply Kd.N_drewN | apply Kd.N_drew)); exact HO117.out)) k_ hk, Kd.freshB (g := gb111) (o := .cells #[.slice A0_0 l0_0.length c0_0, .slice A0_1 l0_1.length c0_1] 38 (0, 0)) (by (with_reducible repeat (first | refine blk_drewN ?_ _ | refine blk_drew ?_ | refine blk_alloc ?_ _)); exact BK111.out) k_ hk⟩)); (case aO => exact (by (with_reducible repeat (first | apply Kd.N_alloc | apply Kd.N_drewN | apply Kd.N_drew)); exact HO122.out)); (case aS => exact (below_size (by repeat (first | (with_reducible first | exact HB.out | apply below_alloc | apply pw_below_drewN | apply below_drew1 | refine below_set ?_ GE111.out) | exact HB.out)))); (case aL => have := LMc21.out; omega); intro v124 w27 ho hb hg hat; rw [← Ny123.out] at ho; have n0_ := Aside0.mk (Kd.V_afterv (ok := (fun k_ => (P1_ k_ ∨ w.heap.size ≤ k_) ∧ some k_ ≠ (v116 : Value).ownBlock ∧ k_ ≠ gb111)) (by (with_reducible repeat (first | apply Kd.V_alloc | apply Kd.V_drewN | apply Kd.V_drew)); exact Kd.V_mono HO_1.out (fun _ hk => ⟨⟨hk.1.1.1, ⟨hk.1.2, hk.1.1.2⟩⟩, hk.2⟩)) hg hat); have n1_ := Aside0.mk (blk_grown (g := gb111) (o := .cells #[.slice A0_0 l0_0.length c0_0, .slice A0_1 l0_1.length c0_1] 38 (0, 0)) (by (with_reducible repeat (first | refine blk_drewN ?_ _ | refine blk_drew ?_ | refine blk_alloc ?_ _)); exact BK111.out) hg (Kd.N_ne HO122.out BK111.out (by decide))); have n2_ := Aside0.mk (Kd.N_afterv (ok := (fun k_ => (P1_ k_ ∨ w.heap.size ≤ k_) ∧ k_ ≠ gb111)) (by (with_reducible repeat (first | apply Kd.N_alloc | apply Kd.N_drewN | apply Kd.N_drew)); exact HO117.out) hg hat); have n3_ := Aside0.mk (hb); have n4_ := Aside0.mk (ho); clear HO_1; clear BK111; clear HO117; clear HB; clear HO122; have HO_1 := n0_; have BK111 := n1_; have HO117 := n2_; have HB := n3_; have HO125 := n4_; clear n0_ n1_ n2_ n3_ n4_; clear ho hb hg hat; have hcz28_0 : w27.cell? ⟨gb111, 0, none⟩ = some (.slice A0_0 l0_0.length c0_0) := (blk_cell BK111.out 0).trans rfl; have hcz28_1 : w27.cell? ⟨gb111, 1, none⟩ = some (.slice A0_1 l0_1.length c0_1) := (blk_cell BK111.out 1).trans rfl; have hfz28_0 := blk_frozen BK111.out 0; have hfz28_1 := blk_frozen BK111.out 1))
          (try simp only [Act.put, List.setIfInBounds_toArray, List.set_cons_zero, List.set_cons_succ])
          go_cut [7] (fun v7 wc => ∃ (kq : Nat) (x7_21 : Bool) (x8_21 : List (List Int)), v7 = .bool x7_21 ∧ Aside0 (geyserlaw12_ReplayPlays.j3 kq t115 t118 x7_21 x8_21 l0_0 l0_1 = some r) ∧ Aside0 (kq ≤ kj2) ∧ Aside0 (Kd.N (Kd.slice 5 (Kd.int .u8)) 31 wc w.heap.size (fun k_ => (P1_ k_ ∨ w.heap.size ≤ k_) ∧ some k_ ≠ (v124 : Value).ownBlock ∧ k_ ≠ gb111) v116 t115) ∧ Aside0 (Kd.N (Kd.slice 5 (Kd.int .u8)) 31 wc w.heap.size (fun k_ => (P1_ k_ ∨ w.heap.size ≤ k_) ∧ some k_ ≠ (v116 : Value).ownBlock ∧ k_ ≠ gb111) v124 x8_21) ∧ Aside0 (wc.heap[gb111]? = some (.cells #[(.slice A0_0 l0_0.length c0_0), (.slice A0_1 l0_1.length c0_1)] 38 (0, 0))) ∧ Aside0 (Below w.heap.size w wc))
          case first =>
            have H := HC22.out
            clear HC22
            have H' := Aside0.mk H
            clear H
            go_wp2
            go_loopg [7, 47] kj2 (fun kq v7 v47 w' => ∃ (x7_2 : Bool) (x8_2 : List (List Int)) (x47_2 : Int), v7 = .bool x7_2 ∧ v47 = .int .i64 x47_2 ∧ Aside0 (geyserlaw12_ReplayPlays.l0 kq t115 t118 x7_2 x8_2 (l0_0.length : Int) x47_2 l0_0 l0_1 = some r) ∧ Aside0 (kq ≤ kj2) ∧ Aside0 (Kd.N (Kd.slice 5 (Kd.int .u8)) 31 w' w.heap.size (fun k_ => (P1_ k_ ∨ w.heap.size ≤ k_) ∧ some k_ ≠ (v124 : Value).ownBlock ∧ k_ ≠ gb111) v116 t115) ∧ Aside0 (Kd.N (Kd.slice 5 (Kd.int .u8)) 31 w' w.heap.size (fun k_ => (P1_ k_ ∨ w.heap.size ≤ k_) ∧ some k_ ≠ (v116 : Value).ownBlock ∧ k_ ≠ gb111) v124 x8_2) ∧ Aside0 (w'.heap[gb111]? = some (.cells #[(.slice A0_0 l0_0.length c0_0), (.slice A0_1 l0_1.length c0_1)] 38 (0, 0))) ∧ Aside0 (Below w.heap.size w w'))
            case atStart => exact ⟨(t119), (y123), (0), (by first | rfl | (simp; done) | (simp [*]; done)), (by first | rfl | (simp; done) | (simp [*]; done)), H', ⟨Nat.le_refl _⟩, ⟨by (with_reducible repeat (first | apply Kd.N_alloc | apply Kd.N_drewN | apply Kd.N_drew)); exact Kd.N_mono HO117.out (fun _ hk => ⟨hk.1.1, ⟨hk.2, hk.1.2⟩⟩)⟩, ⟨by (with_reducible repeat (first | apply Kd.N_alloc | apply Kd.N_drewN | apply Kd.N_drew)); exact HO125.out⟩, ⟨by (with_reducible repeat (first | refine blk_drewN ?_ _ | refine blk_drew ?_ | refine blk_alloc ?_ _)); exact BK111.out⟩, ⟨by repeat (first | (with_reducible first | exact HB.out | apply below_alloc | apply pw_below_drewN | apply below_drew1 | refine below_set ?_ GE111.out) | exact HB.out)⟩⟩
            case round =>
              clear H'
              try clear c1
              try clear c2
              try clear p2
              try clear c4
              try clear c6
              try clear c8
              try clear c9
              try clear c9b0
              try clear c9b1
              try clear c13
              try clear c16
              try clear c21
              try clear hcz11_0
              try clear hcz11_1
              try clear hcz13_0
              try clear hcz13_1
              try clear hcz23_0
              try clear hcz23_1
              try clear hcz28_0
              try clear hcz28_1
              try clear hfz11_0
              try clear hfz11_1
              try clear hfz13_0
              try clear hfz13_1
              try clear hfz23_0
              try clear hfz23_1
              try clear hfz28_0
              try clear hfz28_1
              try clear p2
              obtain ⟨x7_2, x8_2, x47_2, rfl, rfl, HA, HK2, HO_5, HO_8, BK111, HB⟩ := hrel
              cases gk with
              | zero => exact absurd HA.out (by simp [geyserlaw12_ReplayPlays.l0])
              | succ k2 =>
                have H := HA.out
                clear HA
                simp only [geyserlaw12_ReplayPlays.l0] at H
                by_cases c29 : x47_2 < (l0_0.length : Int)
                · rw [if_pos c29] at H
                  have c29b0 : decide (x47_2 < (l0_0.length : Int)) = true := decide_eq_true c29
                  clear c29
                  (first | rw [c29b0] | (simp only [i64_w, i32_w]; rw [c29b0]) | skip)
                  by_cases c30 : 0 ≤ x47_2
                  · rw [if_pos c30] at H
                    have c30b0 : decide (0 ≤ x47_2) = true := decide_eq_true c30
                    clear c30
                    by_cases c31 : x47_2 < (l0_0.length : Int)
                    · rw [if_pos c31] at H
                      have c31b0 : decide (x47_2 < (l0_0.length : Int)) = true := decide_eq_true c31
                      clear c31
                      have HC32 := Aside0.mk H
                      clear H
                      have hcz33_0 : wr.cell? ⟨gb111, 0, none⟩ = some (.slice A0_0 l0_0.length c0_0) := (blk_cell BK111.out 0).trans rfl
                      have hcz33_1 : wr.cell? ⟨gb111, 1, none⟩ = some (.slice A0_1 l0_1.length c0_1) := (blk_cell BK111.out 1).trans rfl
                      have hfz33_0 := blk_frozen BK111.out 0
                      have hfz33_1 := blk_frozen BK111.out 1
                      have p126 : 0 ≤ (x47_2 : Int) := of_decide_eq_true (by first | (with_reducible assumption) | assumption)
                      have q126 : x47_2 < (l0_0.length : Int) := of_decide_eq_true (by first | (with_reducible assumption) | assumption)
                      obtain ⟨ad126, e126, hx126_0, hx126_1, hx126_2⟩ := at_T42 HR0_0.out x47_2 p126 q126
                      cases e126
                      (first | (replace hx126_0 := (HB.out.cell (World.block_lt_of_cell? w _ hx126_0)).trans hx126_0) | skip)
                      (first | (replace hx126_1 := (HB.out.cell (World.block_lt_of_cell? w _ hx126_1)).trans hx126_1) | skip)
                      (first | (replace hx126_2 := (HB.out.cell (World.block_lt_of_cell? w _ hx126_2)).trans hx126_2) | skip)
                      replace p126 := eq_true p126
                      replace q126 := eq_true q126
                      go_upto_region 10 with (first | ((with_reducible refine gate_dst (N := 10) rfl ?_); (try (refine gate_guard (by rfl) ?_; dsimp only)); refine box_event ?hg (N := 10) ?hd (cs := #[.int .i64 0, .int .i64 0, .int .u8 0]) (t := 42) ?hr ?_; (case hd => rfl); (case hg => rfl); (case hr => first | (go_simp; done) | (go_simp; rfl)); intro gb127 hg w34 hbox hb; have n0_ := Aside0.mk (Kd.N_below (Kd.N_elderB (by (with_reducible repeat (first | apply Kd.N_alloc | apply Kd.N_drewN | apply Kd.N_drew)); exact HO_5.out) gb127 (Nat.le_of_eq hg.symm)) hb); have n1_ := Aside0.mk (Kd.N_below (Kd.N_elderB (by (with_reducible repeat (first | apply Kd.N_alloc | apply Kd.N_drewN | apply Kd.N_drew)); exact HO_8.out) gb127 (Nat.le_of_eq hg.symm)) hb); have n2_ := Aside0.mk (blk_below (g := gb111) (o := .cells #[.slice (some ad126) l0_0.length c0_0, .slice A0_1 l0_1.length c0_1] 38 (0, 0)) (by (with_reducible repeat (first | refine blk_drewN ?_ _ | refine blk_drew ?_ | refine blk_alloc ?_ _)); exact BK111.out) hb); have n3_ := Aside0.mk (below_step (by repeat (first | (with_reducible first | exact HB.out | apply below_alloc | apply pw_below_drewN | apply below_drew1 | refine below_set ?_ GE111.out) | exact HB.out)) hb); have n4_ := Aside0.mk (hbox); have n5_ := Aside0.mk ((by rw [hg]; exact (below_size (by repeat (first | (with_reducible first | exact HB.out | apply below_alloc | apply pw_below_drewN | apply below_drew1 | refine below_set ?_ GE111.out) | exact HB.out))) : w.heap.size ≤ gb127)); have n6_ := Aside0.mk ((by rw [hg]; exact (below_size (by repeat (first | (with_reducible first | exact HB.out | apply below_alloc | apply pw_below_drewN | apply below_drew1 | refine below_set ?_ GE111.out) | exact HB.out))) : w.heap.size ≤ gb127)); have n7_ := Aside0.mk ((by rw [hg]; exact Nat.ne_of_lt (blk_lt (g := gb111) (o := .cells #[.slice (some ad126) l0_0.length c0_0, .slice A0_1 l0_1.length c0_1] 38 (0, 0)) (by (with_reducible repeat (first | refine blk_drewN ?_ _ | refine blk_drew ?_ | refine blk_alloc ?_ _)); exact BK111.out)) : gb111 ≠ gb127)); have n8_ := Aside0.mk ((by rw [hg]; exact Nat.ne_of_gt (blk_lt (g := gb111) (o := .cells #[.slice (some ad126) l0_0.length c0_0, .slice A0_1 l0_1.length c0_1] 38 (0, 0)) (by (with_reducible repeat (first | refine blk_drewN ?_ _ | refine blk_drew ?_ | refine blk_alloc ?_ _)); exact BK111.out)) : gb127 ≠ gb111)); clear HO_5; clear HO_8; clear BK111; clear HB; have HO_5 := n0_; have HO_8 := n1_; have BK111 := n2_; have HB := n3_; have BK127 := n4_; have GW127 := n5_; have GE127 := n6_; have NB111_127 := n7_; have NB127_111 := n8_; clear n0_ n1_ n2_ n3_ n4_ n5_ n6_ n7_ n8_; clear hb hbox hg; have hnb35 := NB127_111.out; have hnc35 := NB111_127.out; have hcz36_0 : w34.cell? ⟨gb127, 0, none⟩ = some (.int .i64 0) := (blk_cell BK127.out 0).trans rfl; have hcz36_1 : w34.cell? ⟨gb127, 1, none⟩ = some (.int .i64 0) := (blk_cell BK127.out 1).trans rfl; have hcz36_2 : w34.cell? ⟨gb127, 2, none⟩ = some (.int .u8 0) := (blk_cell BK127.out 2).trans rfl; have hfz36_0 := blk_frozen BK127.out 0; have hfz36_1 := blk_frozen BK127.out 1; have hfz36_2 := blk_frozen BK127.out 2))
                      (try simp only [Act.put, List.setIfInBounds_toArray, List.set_cons_zero, List.set_cons_succ])
                      go_cut [7] (fun v7 wc => ∃ (kq : Nat) (x7_31 : Bool), v7 = .bool x7_31 ∧ Aside0 (geyserlaw12_ReplayPlays.j2 kq t115 t118 x7_31 x8_2 (l0_0.length : Int) x47_2 l0_0 l0_1 ((rd_T42 l0_0 x47_2).f0) ((rd_T42 l0_0 x47_2).f1) ((rd_T42 l0_0 x47_2).f2) = some r) ∧ Aside0 (kq ≤ k2) ∧ Aside0 (Kd.N (Kd.slice 5 (Kd.int .u8)) 31 wc w.heap.size (fun k_ => (P1_ k_ ∨ w.heap.size ≤ k_) ∧ some k_ ≠ (v124 : Value).ownBlock ∧ k_ ≠ gb111 ∧ k_ ≠ gb127) v116 t115) ∧ Aside0 (Kd.N (Kd.slice 5 (Kd.int .u8)) 31 wc w.heap.size (fun k_ => (P1_ k_ ∨ w.heap.size ≤ k_) ∧ some k_ ≠ (v116 : Value).ownBlock ∧ k_ ≠ gb111 ∧ k_ ≠ gb127) v124 x8_2) ∧ Aside0 (wc.heap[gb111]? = some (.cells #[(.slice (some ad126) l0_0.length c0_0), (.slice A0_1 l0_1.length c0_1)] 38 (0, 0))) ∧ Aside0 (wc.heap[gb127]? = some (.cells #[.int .i64 ((rd_T42 l0_0 x47_2).f0), .int .i64 ((rd_T42 l0_0 x47_2).f1), .int .u8 ((rd_T42 l0_0 x47_2).f2)] 42 (0, 0))) ∧ Aside0 (Below w.heap.size w wc))
                      case first =>
                        have H := HC32.out
                        clear HC32
                        by_cases c37 : x7_2 = true
                        · subst c37
                          have H1 : (if ((rd_T42 l0_0 x47_2).f0) ≥ 0 then (if ((rd_T42 l0_0 x47_2).f0) < (x8_2.length : Int) then (if ((rd_T42 l0_0 x47_2).f1) ≥ 0 then (geyserlaw12_ReplayPlays.j2 k2 t115 t118 (decide (((rd_T42 l0_0 x47_2).f1) < (x8_2.length : Int))) x8_2 (l0_0.length : Int) x47_2 l0_0 l0_1 ((rd_T42 l0_0 x47_2).f0) ((rd_T42 l0_0 x47_2).f1) ((rd_T42 l0_0 x47_2).f2)) else (geyserlaw12_ReplayPlays.j2 k2 t115 t118 false x8_2 (l0_0.length : Int) x47_2 l0_0 l0_1 ((rd_T42 l0_0 x47_2).f0) ((rd_T42 l0_0 x47_2).f1) ((rd_T42 l0_0 x47_2).f2))) else (geyserlaw12_ReplayPlays.j2 k2 t115 t118 false x8_2 (l0_0.length : Int) x47_2 l0_0 l0_1 ((rd_T42 l0_0 x47_2).f0) ((rd_T42 l0_0 x47_2).f1) ((rd_T42 l0_0 x47_2).f2))) else (geyserlaw12_ReplayPlays.j2 k2 t115 t118 false x8_2 (l0_0.length : Int) x47_2 l0_0 l0_1 ((rd_T42 l0_0 x47_2).f0) ((rd_T42 l0_0 x47_2).f1) ((rd_T42 l0_0 x47_2).f2))) = some r := by rw [if_pos rfl] at H; exact H
                          clear H
                          have H := H1
                          clear H1
                          by_cases c38 : ((rd_T42 l0_0 x47_2).f0) ≥ 0
                          · rw [if_pos c38] at H
                            have c38b0 : decide (0 ≤ ((rd_T42 l0_0 x47_2).f0)) = true := decide_eq_true c38
                            clear c38
                            (first | rw [c38b0] | (simp only [i64_w, i32_w]; rw [c38b0]) | skip)
                            by_cases c39 : ((rd_T42 l0_0 x47_2).f0) < (x8_2.length : Int)
                            · rw [if_pos c39] at H
                              have c39b0 : decide (((rd_T42 l0_0 x47_2).f0) < (x8_2.length : Int)) = true := decide_eq_true c39
                              clear c39
                              by_cases c40 : ((rd_T42 l0_0 x47_2).f1) ≥ 0
                              · rw [if_pos c40] at H
                                have c40b0 : decide (0 ≤ ((rd_T42 l0_0 x47_2).f1)) = true := decide_eq_true c40
                                clear c40
                                have H' := Aside0.mk H
                                clear H
                                have hnb41 := NB127_111.out
                                have hnc41 := NB111_127.out
                                have hcz42_0 : w34.cell? ⟨gb127, 0, none⟩ = some (.int .i64 0) := (blk_cell BK127.out 0).trans rfl
                                have hcz42_1 : w34.cell? ⟨gb127, 1, none⟩ = some (.int .i64 0) := (blk_cell BK127.out 1).trans rfl
                                have hcz42_2 : w34.cell? ⟨gb127, 2, none⟩ = some (.int .u8 0) := (blk_cell BK127.out 2).trans rfl
                                have hfz42_0 := blk_frozen BK127.out 0
                                have hfz42_1 := blk_frozen BK127.out 1
                                have hfz42_2 := blk_frozen BK127.out 2
                                obtain ⟨Ao43, co43, eo43⟩ := Kd.N_slice HO_8.out
                                subst eo43
                                go_wp2
                                go_meet
                                case rel => exact ⟨_, (decide (((rd_T42 l0_0 x47_2).f1) < (x8_2.length : Int))), (by first | rfl | (simp; done) | (simp [*]; done)), H', ⟨by have := HJ2.out; have := HK2.out; first | omega | exact Nat.le_refl _⟩, ⟨by (with_reducible repeat (first | apply Kd.N_alloc | apply Kd.N_drewN | apply Kd.N_drew)); exact Kd.N_mono (Kd.N_far (p := ⟨gb127, 2, none⟩) (Kd.N_far (p := ⟨gb127, 1, none⟩) (Kd.N_far (p := ⟨gb127, 0, none⟩) (Kd.N_mono HO_5.out (fun k_ hk => (⟨hk, hk.2⟩ : _ ∧ k_ ≠ gb127))) (fun _ hk => hk.2) (.int .i64 ((rd_T42 l0_0 x47_2).f0))) (fun _ hk => hk.2) (.int .i64 ((rd_T42 l0_0 x47_2).f1))) (fun _ hk => hk.2) (.int .u8 ((rd_T42 l0_0 x47_2).f2))) (fun _ hk => ⟨hk.1.1.1, ⟨hk.1.1.2.1, ⟨hk.1.1.2.2, hk.1.2⟩⟩⟩)⟩, ⟨by (with_reducible repeat (first | apply Kd.N_alloc | apply Kd.N_drewN | apply Kd.N_drew)); exact Kd.N_mono (Kd.N_far (p := ⟨gb127, 2, none⟩) (Kd.N_far (p := ⟨gb127, 1, none⟩) (Kd.N_far (p := ⟨gb127, 0, none⟩) (Kd.N_mono HO_8.out (fun k_ hk => (⟨hk, hk.2⟩ : _ ∧ k_ ≠ gb127))) (fun _ hk => hk.2) (.int .i64 ((rd_T42 l0_0 x47_2).f0))) (fun _ hk => hk.2) (.int .i64 ((rd_T42 l0_0 x47_2).f1))) (fun _ hk => hk.2) (.int .u8 ((rd_T42 l0_0 x47_2).f2))) (fun _ hk => ⟨hk.1.1.1, ⟨hk.1.1.2.1, ⟨hk.1.1.2.2, hk.1.2⟩⟩⟩)⟩, ⟨by (with_reducible repeat (first | refine blk_drewN ?_ _ | refine blk_drew ?_ | refine blk_alloc ?_ _)); refine blk_far ?_ NB111_127.out _; (with_reducible repeat (first | refine blk_drewN ?_ _ | refine blk_drew ?_ | refine blk_alloc ?_ _)); refine blk_far ?_ NB111_127.out _; (with_reducible repeat (first | refine blk_drewN ?_ _ | refine blk_drew ?_ | refine blk_alloc ?_ _)); refine blk_far ?_ NB111_127.out _; (with_reducible repeat (first | refine blk_drewN ?_ _ | refine blk_drew ?_ | refine blk_alloc ?_ _)); exact BK111.out⟩, ⟨by (with_reducible repeat (first | refine blk_drewN ?_ _ | refine blk_drew ?_ | refine blk_alloc ?_ _)); refine blk_put (cs := #[.int .i64 ((rd_T42 l0_0 x47_2).f0), .int .i64 ((rd_T42 l0_0 x47_2).f1), .int .u8 0]) ?_ 2 _ rfl; (with_reducible repeat (first | refine blk_drewN ?_ _ | refine blk_drew ?_ | refine blk_alloc ?_ _)); refine blk_put (cs := #[.int .i64 ((rd_T42 l0_0 x47_2).f0), .int .i64 0, .int .u8 0]) ?_ 1 _ rfl; (with_reducible repeat (first | refine blk_drewN ?_ _ | refine blk_drew ?_ | refine blk_alloc ?_ _)); refine blk_put (cs := #[.int .i64 0, .int .i64 0, .int .u8 0]) ?_ 0 _ rfl; (with_reducible repeat (first | refine blk_drewN ?_ _ | refine blk_drew ?_ | refine blk_alloc ?_ _)); exact BK127.out⟩, ⟨by repeat (first | (with_reducible first | exact HB.out | apply below_alloc | apply pw_below_drewN | apply below_drew1 | refine below_set ?_ GE111.out | refine below_set ?_ GE127.out) | exact HB.out)⟩⟩
                              · rw [if_neg c40] at H
                                have c40b0 : decide (0 ≤ ((rd_T42 l0_0 x47_2).f1)) = false := decide_eq_false c40
                                clear c40
                                have H' := Aside0.mk H
                                clear H
                                have hnb44 := NB127_111.out
                                have hnc44 := NB111_127.out
                                have hcz45_0 : w34.cell? ⟨gb127, 0, none⟩ = some (.int .i64 0) := (blk_cell BK127.out 0).trans rfl
                                have hcz45_1 : w34.cell? ⟨gb127, 1, none⟩ = some (.int .i64 0) := (blk_cell BK127.out 1).trans rfl
                                have hcz45_2 : w34.cell? ⟨gb127, 2, none⟩ = some (.int .u8 0) := (blk_cell BK127.out 2).trans rfl
                                have hfz45_0 := blk_frozen BK127.out 0
                                have hfz45_1 := blk_frozen BK127.out 1
                                have hfz45_2 := blk_frozen BK127.out 2
                                obtain ⟨Ao46, co46, eo46⟩ := Kd.N_slice HO_8.out
                                subst eo46
                                go_wp2
                                go_meet
                                case rel => exact ⟨_, (false), (by first | rfl | (simp; done) | (simp [*]; done)), H', ⟨by have := HJ2.out; have := HK2.out; first | omega | exact Nat.le_refl _⟩, ⟨by (with_reducible repeat (first | apply Kd.N_alloc | apply Kd.N_drewN | apply Kd.N_drew)); exact Kd.N_mono (Kd.N_far (p := ⟨gb127, 2, none⟩) (Kd.N_far (p := ⟨gb127, 1, none⟩) (Kd.N_far (p := ⟨gb127, 0, none⟩) (Kd.N_mono HO_5.out (fun k_ hk => (⟨hk, hk.2⟩ : _ ∧ k_ ≠ gb127))) (fun _ hk => hk.2) (.int .i64 ((rd_T42 l0_0 x47_2).f0))) (fun _ hk => hk.2) (.int .i64 ((rd_T42 l0_0 x47_2).f1))) (fun _ hk => hk.2) (.int .u8 ((rd_T42 l0_0 x47_2).f2))) (fun _ hk => ⟨hk.1.1.1, ⟨hk.1.1.2.1, ⟨hk.1.1.2.2, hk.1.2⟩⟩⟩)⟩, ⟨by (with_reducible repeat (first | apply Kd.N_alloc | apply Kd.N_drewN | apply Kd.N_drew)); exact Kd.N_mono (Kd.N_far (p := ⟨gb127, 2, none⟩) (Kd.N_far (p := ⟨gb127, 1, none⟩) (Kd.N_far (p := ⟨gb127, 0, none⟩) (Kd.N_mono HO_8.out (fun k_ hk => (⟨hk, hk.2⟩ : _ ∧ k_ ≠ gb127))) (fun _ hk => hk.2) (.int .i64 ((rd_T42 l0_0 x47_2).f0))) (fun _ hk => hk.2) (.int .i64 ((rd_T42 l0_0 x47_2).f1))) (fun _ hk => hk.2) (.int .u8 ((rd_T42 l0_0 x47_2).f2))) (fun _ hk => ⟨hk.1.1.1, ⟨hk.1.1.2.1, ⟨hk.1.1.2.2, hk.1.2⟩⟩⟩)⟩, ⟨by (with_reducible repeat (first | refine blk_drewN ?_ _ | refine blk_drew ?_ | refine blk_alloc ?_ _)); refine blk_far ?_ NB111_127.out _; (with_reducible repeat (first | refine blk_drewN ?_ _ | refine blk_drew ?_ | refine blk_alloc ?_ _)); refine blk_far ?_ NB111_127.out _; (with_reducible repeat (first | refine blk_drewN ?_ _ | refine blk_drew ?_ | refine blk_alloc ?_ _)); refine blk_far ?_ NB111_127.out _; (with_reducible repeat (first | refine blk_drewN ?_ _ | refine blk_drew ?_ | refine blk_alloc ?_ _)); exact BK111.out⟩, ⟨by (with_reducible repeat (first | refine blk_drewN ?_ _ | refine blk_drew ?_ | refine blk_alloc ?_ _)); refine blk_put (cs := #[.int .i64 ((rd_T42 l0_0 x47_2).f0), .int .i64 ((rd_T42 l0_0 x47_2).f1), .int .u8 0]) ?_ 2 _ rfl; (with_reducible repeat (first | refine blk_drewN ?_ _ | refine blk_drew ?_ | refine blk_alloc ?_ _)); refine blk_put (cs := #[.int .i64 ((rd_T42 l0_0 x47_2).f0), .int .i64 0, .int .u8 0]) ?_ 1 _ rfl; (with_reducible repeat (first | refine blk_drewN ?_ _ | refine blk_drew ?_ | refine blk_alloc ?_ _)); refine blk_put (cs := #[.int .i64 0, .int .i64 0, .int .u8 0]) ?_ 0 _ rfl; (with_reducible repeat (first | refine blk_drewN ?_ _ | refine blk_drew ?_ | refine blk_alloc ?_ _)); exact BK127.out⟩, ⟨by repeat (first | (with_reducible first | exact HB.out | apply below_alloc | apply pw_below_drewN | apply below_drew1 | refine below_set ?_ GE111.out | refine below_set ?_ GE127.out) | exact HB.out)⟩⟩
                            · rw [if_neg c39] at H
                              have c39b0 : decide (((rd_T42 l0_0 x47_2).f0) < (x8_2.length : Int)) = false := decide_eq_false c39
                              clear c39
                              have H' := Aside0.mk H
                              clear H
                              have hnb47 := NB127_111.out
                              have hnc47 := NB111_127.out
                              have hcz48_0 : w34.cell? ⟨gb127, 0, none⟩ = some (.int .i64 0) := (blk_cell BK127.out 0).trans rfl
                              have hcz48_1 : w34.cell? ⟨gb127, 1, none⟩ = some (.int .i64 0) := (blk_cell BK127.out 1).trans rfl
                              have hcz48_2 : w34.cell? ⟨gb127, 2, none⟩ = some (.int .u8 0) := (blk_cell BK127.out 2).trans rfl
                              have hfz48_0 := blk_frozen BK127.out 0
                              have hfz48_1 := blk_frozen BK127.out 1
                              have hfz48_2 := blk_frozen BK127.out 2
                              obtain ⟨Ao49, co49, eo49⟩ := Kd.N_slice HO_8.out
                              subst eo49
                              go_wp2
                              go_meet
                              case rel => exact ⟨_, (false), (by first | rfl | (simp; done) | (simp [*]; done)), H', ⟨by have := HJ2.out; have := HK2.out; first | omega | exact Nat.le_refl _⟩, ⟨by (with_reducible repeat (first | apply Kd.N_alloc | apply Kd.N_drewN | apply Kd.N_drew)); exact Kd.N_mono (Kd.N_far (p := ⟨gb127, 2, none⟩) (Kd.N_far (p := ⟨gb127, 1, none⟩) (Kd.N_far (p := ⟨gb127, 0, none⟩) (Kd.N_mono HO_5.out (fun k_ hk => (⟨hk, hk.2⟩ : _ ∧ k_ ≠ gb127))) (fun _ hk => hk.2) (.int .i64 ((rd_T42 l0_0 x47_2).f0))) (fun _ hk => hk.2) (.int .i64 ((rd_T42 l0_0 x47_2).f1))) (fun _ hk => hk.2) (.int .u8 ((rd_T42 l0_0 x47_2).f2))) (fun _ hk => ⟨hk.1.1.1, ⟨hk.1.1.2.1, ⟨hk.1.1.2.2, hk.1.2⟩⟩⟩)⟩, ⟨by (with_reducible repeat (first | apply Kd.N_alloc | apply Kd.N_drewN | apply Kd.N_drew)); exact Kd.N_mono (Kd.N_far (p := ⟨gb127, 2, none⟩) (Kd.N_far (p := ⟨gb127, 1, none⟩) (Kd.N_far (p := ⟨gb127, 0, none⟩) (Kd.N_mono HO_8.out (fun k_ hk => (⟨hk, hk.2⟩ : _ ∧ k_ ≠ gb127))) (fun _ hk => hk.2) (.int .i64 ((rd_T42 l0_0 x47_2).f0))) (fun _ hk => hk.2) (.int .i64 ((rd_T42 l0_0 x47_2).f1))) (fun _ hk => hk.2) (.int .u8 ((rd_T42 l0_0 x47_2).f2))) (fun _ hk => ⟨hk.1.1.1, ⟨hk.1.1.2.1, ⟨hk.1.1.2.2, hk.1.2⟩⟩⟩)⟩, ⟨by (with_reducible repeat (first | refine blk_drewN ?_ _ | refine blk_drew ?_ | refine blk_alloc ?_ _)); refine blk_far ?_ NB111_127.out _; (with_reducible repeat (first | refine blk_drewN ?_ _ | refine blk_drew ?_ | refine blk_alloc ?_ _)); refine blk_far ?_ NB111_127.out _; (with_reducible repeat (first | refine blk_drewN ?_ _ | refine blk_drew ?_ | refine blk_alloc ?_ _)); refine blk_far ?_ NB111_127.out _; (with_reducible repeat (first | refine blk_drewN ?_ _ | refine blk_drew ?_ | refine blk_alloc ?_ _)); exact BK111.out⟩, ⟨by (with_reducible repeat (first | refine blk_drewN ?_ _ | refine blk_drew ?_ | refine blk_alloc ?_ _)); refine blk_put (cs := #[.int .i64 ((rd_T42 l0_0 x47_2).f0), .int .i64 ((rd_T42 l0_0 x47_2).f1), .int .u8 0]) ?_ 2 _ rfl; (with_reducible repeat (first | refine blk_drewN ?_ _ | refine blk_drew ?_ | refine blk_alloc ?_ _)); refine blk_put (cs := #[.int .i64 ((rd_T42 l0_0 x47_2).f0), .int .i64 0, .int .u8 0]) ?_ 1 _ rfl; (with_reducible repeat (first | refine blk_drewN ?_ _ | refine blk_drew ?_ | refine blk_alloc ?_ _)); refine blk_put (cs := #[.int .i64 0, .int .i64 0, .int .u8 0]) ?_ 0 _ rfl; (with_reducible repeat (first | refine blk_drewN ?_ _ | refine blk_drew ?_ | refine blk_alloc ?_ _)); exact BK127.out⟩, ⟨by repeat (first | (with_reducible first | exact HB.out | apply below_alloc | apply pw_below_drewN | apply below_drew1 | refine below_set ?_ GE111.out | refine below_set ?_ GE127.out) | exact HB.out)⟩⟩
                          · rw [if_neg c38] at H
                            have c38b0 : decide (0 ≤ ((rd_T42 l0_0 x47_2).f0)) = false := decide_eq_false c38
                            clear c38
                            (first | rw [c38b0] | (simp only [i64_w, i32_w]; rw [c38b0]) | skip)
                            have H' := Aside0.mk H
                            clear H
                            have hnb50 := NB127_111.out
                            have hnc50 := NB111_127.out
                            have hcz51_0 : w34.cell? ⟨gb127, 0, none⟩ = some (.int .i64 0) := (blk_cell BK127.out 0).trans rfl
                            have hcz51_1 : w34.cell? ⟨gb127, 1, none⟩ = some (.int .i64 0) := (blk_cell BK127.out 1).trans rfl
                            have hcz51_2 : w34.cell? ⟨gb127, 2, none⟩ = some (.int .u8 0) := (blk_cell BK127.out 2).trans rfl
                            have hfz51_0 := blk_frozen BK127.out 0
                            have hfz51_1 := blk_frozen BK127.out 1
                            have hfz51_2 := blk_frozen BK127.out 2
                            go_wp2
                            go_meet
                            case rel => exact ⟨_, (false), (by first | rfl | (simp; done) | (simp [*]; done)), H', ⟨by have := HJ2.out; have := HK2.out; first | omega | exact Nat.le_refl _⟩, ⟨by (with_reducible repeat (first | apply Kd.N_alloc | apply Kd.N_drewN | apply Kd.N_drew)); exact Kd.N_mono (Kd.N_far (p := ⟨gb127, 2, none⟩) (Kd.N_far (p := ⟨gb127, 1, none⟩) (Kd.N_far (p := ⟨gb127, 0, none⟩) (Kd.N_mono HO_5.out (fun k_ hk => (⟨hk, hk.2⟩ : _ ∧ k_ ≠ gb127))) (fun _ hk => hk.2) (.int .i64 ((rd_T42 l0_0 x47_2).f0))) (fun _ hk => hk.2) (.int .i64 ((rd_T42 l0_0 x47_2).f1))) (fun _ hk => hk.2) (.int .u8 ((rd_T42 l0_0 x47_2).f2))) (fun _ hk => ⟨hk.1.1.1, ⟨hk.1.1.2.1, ⟨hk.1.1.2.2, hk.1.2⟩⟩⟩)⟩, ⟨by (with_reducible repeat (first | apply Kd.N_alloc | apply Kd.N_drewN | apply Kd.N_drew)); exact Kd.N_mono (Kd.N_far (p := ⟨gb127, 2, none⟩) (Kd.N_far (p := ⟨gb127, 1, none⟩) (Kd.N_far (p := ⟨gb127, 0, none⟩) (Kd.N_mono HO_8.out (fun k_ hk => (⟨hk, hk.2⟩ : _ ∧ k_ ≠ gb127))) (fun _ hk => hk.2) (.int .i64 ((rd_T42 l0_0 x47_2).f0))) (fun _ hk => hk.2) (.int .i64 ((rd_T42 l0_0 x47_2).f1))) (fun _ hk => hk.2) (.int .u8 ((rd_T42 l0_0 x47_2).f2))) (fun _ hk => ⟨hk.1.1.1, ⟨hk.1.1.2.1, ⟨hk.1.1.2.2, hk.1.2⟩⟩⟩)⟩, ⟨by (with_reducible repeat (first | refine blk_drewN ?_ _ | refine blk_drew ?_ | refine blk_alloc ?_ _)); refine blk_far ?_ NB111_127.out _; (with_reducible repeat (first | refine blk_drewN ?_ _ | refine blk_drew ?_ | refine blk_alloc ?_ _)); refine blk_far ?_ NB111_127.out _; (with_reducible repeat (first | refine blk_drewN ?_ _ | refine blk_drew ?_ | refine blk_alloc ?_ _)); refine blk_far ?_ NB111_127.out _; (with_reducible repeat (first | refine blk_drewN ?_ _ | refine blk_drew ?_ | refine blk_alloc ?_ _)); exact BK111.out⟩, ⟨by (with_reducible repeat (first | refine blk_drewN ?_ _ | refine blk_drew ?_ | refine blk_alloc ?_ _)); refine blk_put (cs := #[.int .i64 ((rd_T42 l0_0 x47_2).f0), .int .i64 ((rd_T42 l0_0 x47_2).f1), .int .u8 0]) ?_ 2 _ rfl; (with_reducible repeat (first | refine blk_drewN ?_ _ | refine blk_drew ?_ | refine blk_alloc ?_ _)); refine blk_put (cs := #[.int .i64 ((rd_T42 l0_0 x47_2).f0), .int .i64 0, .int .u8 0]) ?_ 1 _ rfl; (with_reducible repeat (first | refine blk_drewN ?_ _ | refine blk_drew ?_ | refine blk_alloc ?_ _)); refine blk_put (cs := #[.int .i64 0, .int .i64 0, .int .u8 0]) ?_ 0 _ rfl; (with_reducible repeat (first | refine blk_drewN ?_ _ | refine blk_drew ?_ | refine blk_alloc ?_ _)); exact BK127.out⟩, ⟨by repeat (first | (with_reducible first | exact HB.out | apply below_alloc | apply pw_below_drewN | apply below_drew1 | refine below_set ?_ GE111.out | refine below_set ?_ GE127.out) | exact HB.out)⟩⟩
                        · replace c37 := Bool.eq_false_iff.mpr c37
                          subst c37
                          have H1 : (geyserlaw12_ReplayPlays.j2 k2 t115 t118 false x8_2 (l0_0.length : Int) x47_2 l0_0 l0_1 ((rd_T42 l0_0 x47_2).f0) ((rd_T42 l0_0 x47_2).f1) ((rd_T42 l0_0 x47_2).f2)) = some r := by rw [if_neg (show ¬ (false = true) by decide)] at H; exact H
                          clear H
                          have H := H1
                          clear H1
                          have H' := Aside0.mk H
                          clear H
                          go_wp2
                          go_meet
                          case rel => exact ⟨_, (false), (by first | rfl | (simp; done) | (simp [*]; done)), H', ⟨by have := HJ2.out; have := HK2.out; first | omega | exact Nat.le_refl _⟩, ⟨by (with_reducible repeat (first | apply Kd.N_alloc | apply Kd.N_drewN | apply Kd.N_drew)); exact Kd.N_mono (Kd.N_far (p := ⟨gb127, 2, none⟩) (Kd.N_far (p := ⟨gb127, 1, none⟩) (Kd.N_far (p := ⟨gb127, 0, none⟩) (Kd.N_mono HO_5.out (fun k_ hk => (⟨hk, hk.2⟩ : _ ∧ k_ ≠ gb127))) (fun _ hk => hk.2) (.int .i64 ((rd_T42 l0_0 x47_2).f0))) (fun _ hk => hk.2) (.int .i64 ((rd_T42 l0_0 x47_2).f1))) (fun _ hk => hk.2) (.int .u8 ((rd_T42 l0_0 x47_2).f2))) (fun _ hk => ⟨hk.1.1.1, ⟨hk.1.1.2.1, ⟨hk.1.1.2.2, hk.1.2⟩⟩⟩)⟩, ⟨by (with_reducible repeat (first | apply Kd.N_alloc | apply Kd.N_drewN | apply Kd.N_drew)); exact Kd.N_mono (Kd.N_far (p := ⟨gb127, 2, none⟩) (Kd.N_far (p := ⟨gb127, 1, none⟩) (Kd.N_far (p := ⟨gb127, 0, none⟩) (Kd.N_mono HO_8.out (fun k_ hk => (⟨hk, hk.2⟩ : _ ∧ k_ ≠ gb127))) (fun _ hk => hk.2) (.int .i64 ((rd_T42 l0_0 x47_2).f0))) (fun _ hk => hk.2) (.int .i64 ((rd_T42 l0_0 x47_2).f1))) (fun _ hk => hk.2) (.int .u8 ((rd_T42 l0_0 x47_2).f2))) (fun _ hk => ⟨hk.1.1.1, ⟨hk.1.1.2.1, ⟨hk.1.1.2.2, hk.1.2⟩⟩⟩)⟩, ⟨by (with_reducible repeat (first | refine blk_drewN ?_ _ | refine blk_drew ?_ | refine blk_alloc ?_ _)); refine blk_far ?_ NB111_127.out _; (with_reducible repeat (first | refine blk_drewN ?_ _ | refine blk_drew ?_ | refine blk_alloc ?_ _)); refine blk_far ?_ NB111_127.out _; (with_reducible repeat (first | refine blk_drewN ?_ _ | refine blk_drew ?_ | refine blk_alloc ?_ _)); refine blk_far ?_ NB111_127.out _; (with_reducible repeat (first | refine blk_drewN ?_ _ | refine blk_drew ?_ | refine blk_alloc ?_ _)); exact BK111.out⟩, ⟨by (with_reducible repeat (first | refine blk_drewN ?_ _ | refine blk_drew ?_ | refine blk_alloc ?_ _)); refine blk_put (cs := #[.int .i64 ((rd_T42 l0_0 x47_2).f0), .int .i64 ((rd_T42 l0_0 x47_2).f1), .int .u8 0]) ?_ 2 _ rfl; (with_reducible repeat (first | refine blk_drewN ?_ _ | refine blk_drew ?_ | refine blk_alloc ?_ _)); refine blk_put (cs := #[.int .i64 ((rd_T42 l0_0 x47_2).f0), .int .i64 0, .int .u8 0]) ?_ 1 _ rfl; (with_reducible repeat (first | refine blk_drewN ?_ _ | refine blk_drew ?_ | refine blk_alloc ?_ _)); refine blk_put (cs := #[.int .i64 0, .int .i64 0, .int .u8 0]) ?_ 0 _ rfl; (with_reducible repeat (first | refine blk_drewN ?_ _ | refine blk_drew ?_ | refine blk_alloc ?_ _)); exact BK127.out⟩, ⟨by repeat (first | (with_reducible first | exact HB.out | apply below_alloc | apply pw_below_drewN | apply below_drew1 | refine below_set ?_ GE111.out | refine below_set ?_ GE127.out) | exact HB.out)⟩⟩
                      case rest =>
                        clear HC32
                        try clear c1
                        try clear p1
                        try clear q1
                        try clear hx1
                        try clear c2
                        try clear p2
                        try clear c3
                        try clear c4
                        try clear c5
                        try clear c6
                        try clear c8
                        try clear c9
                        try clear c9b0
                        try clear c9b1
                        try clear p12
                        try clear q12
                        try clear hx12
                        try clear c13
                        try clear c16
                        try clear c21
                        try clear c29
                        try clear c29b0
                        try clear c30
                        try clear c30b0
                        try clear c31
                        try clear c31b0
                        try clear c35
                        try clear c37
                        try clear c38
                        try clear c38b0
                        try clear c39
                        try clear c39b0
                        try clear c40
                        try clear c40b0
                        try clear c41
                        try clear c44
                        try clear c47
                        try clear c50
                        try clear hcz11_0
                        try clear hcz11_1
                        try clear hcz13_0
                        try clear hcz13_1
                        try clear hcz23_0
                        try clear hcz23_1
                        try clear hcz28_0
                        try clear hcz28_1
                        try clear hcz33_0
                        try clear hcz33_1
                        try clear hcz36_0
                        try clear hcz36_1
                        try clear hcz36_2
                        try clear hcz42_0
                        try clear hcz42_1
                        try clear hcz42_2
                        try clear hcz45_0
                        try clear hcz45_1
                        try clear hcz45_2
                        try clear hcz48_0
                        try clear hcz48_1
                        try clear hcz48_2
                        try clear hcz51_0
                        try clear hcz51_1
                        try clear hcz51_2
                        try clear hfz11_0
                        try clear hfz11_1
                        try clear hfz13_0
                        try clear hfz13_1
                        try clear hfz23_0
                        try clear hfz23_1
                        try clear hfz28_0
                        try clear hfz28_1
                        try clear hfz33_0
                        try clear hfz33_1
                        try clear hfz36_0
                        try clear hfz36_1
                        try clear hfz36_2
                        try clear hfz42_0
                        try clear hfz42_1
                        try clear hfz42_2
                        try clear hfz45_0
                        try clear hfz45_1
                        try clear hfz45_2
                        try clear hfz48_0
                        try clear hfz48_1
                        try clear hfz48_2
                        try clear hfz51_0
                        try clear hfz51_1
                        try clear hfz51_2
                        try clear hx126_0
                        try clear hx126_1
                        try clear hx126_2
                        try clear p126
                        try clear p2
                        try clear q126
                        obtain ⟨kq, x7_31, rfl, HA, HJ31, HO_5, HO_8, BK111, BK127, HB⟩ := hcut
                        cases kq with
                        | zero => exact absurd HA.out (by simp [geyserlaw12_ReplayPlays.j2])
                        | succ kj31 =>
                          have H := HA.out
                          clear HA
                          simp only [geyserlaw12_ReplayPlays.j2] at H
                          by_cases c52 : x7_31 = true
                          · subst c52
                            have H1 : (if ((rd_T42 l0_0 x47_2).f0) = ((rd_T42 l0_0 x47_2).f1) then (if 0 ≤ ((rd_T42 l0_0 x47_2).f0) then (if ((rd_T42 l0_0 x47_2).f0) < (x8_2.length : Int) then (if 0 ≤ ((rd_L2 x8_2 ((rd_T42 l0_0 x47_2).f0)).length : Int) then (if (((rd_L2 x8_2 ((rd_T42 l0_0 x47_2).f0)).length : Int) : Int).toNat ≤ 281474976710656 then ((geyserref03_Plus.f kj31 (List.replicate (((rd_L2 x8_2 ((rd_T42 l0_0 x47_2).f0)).length : Int) : Int).toNat 0) (rd_L2 x8_2 ((rd_T42 l0_0 x47_2).f0)) ((rd_T42 l0_0 x47_2).f2)).bind fun t133 => (geyserlaw12_ReplayPlays.l0 kj31 t115 t118 true (x8_2.set (((rd_T42 l0_0 x47_2).f0) : Int).toNat t133) (l0_0.length : Int) (wrap64 (x47_2 + 1)) l0_0 l0_1)) else (none)) else (none)) else (none)) else (none)) else (if 0 ≤ ((rd_T42 l0_0 x47_2).f0) then (if ((rd_T42 l0_0 x47_2).f0) < (x8_2.length : Int) then (if 0 ≤ ((rd_T42 l0_0 x47_2).f1) then (if ((rd_T42 l0_0 x47_2).f1) < (x8_2.length : Int) then ((geyserref03_Plus.f kj31 (rd_L2 x8_2 ((rd_T42 l0_0 x47_2).f0)) (rd_L2 x8_2 ((rd_T42 l0_0 x47_2).f1)) ((rd_T42 l0_0 x47_2).f2)).bind fun t139 => (geyserlaw12_ReplayPlays.l0 kj31 t115 t118 true (x8_2.set (((rd_T42 l0_0 x47_2).f0) : Int).toNat t139) (l0_0.length : Int) (wrap64 (x47_2 + 1)) l0_0 l0_1)) else (none)) else (none)) else (none)) else (none))) = some r := by rw [if_pos rfl] at H; exact H
                            clear H
                            have H := H1
                            clear H1
                            by_cases c53 : ((rd_T42 l0_0 x47_2).f0) = ((rd_T42 l0_0 x47_2).f1)
                            · rw [if_pos c53] at H
                              have c53b0 : (((rd_T42 l0_0 x47_2).f0) == ((rd_T42 l0_0 x47_2).f1)) = true := beq_iff_eq.mpr c53
                              have c53b1 : (((rd_T42 l0_0 x47_2).f0) != ((rd_T42 l0_0 x47_2).f1)) = false := bne_eq_false_iff_eq.mpr c53
                              clear c53
                              by_cases c54 : 0 ≤ ((rd_T42 l0_0 x47_2).f0)
                              · rw [if_pos c54] at H
                                have c54b0 : decide (0 ≤ ((rd_T42 l0_0 x47_2).f0)) = true := decide_eq_true c54
                                clear c54
                                by_cases c55 : ((rd_T42 l0_0 x47_2).f0) < (x8_2.length : Int)
                                · rw [if_pos c55] at H
                                  have c55b0 : decide (((rd_T42 l0_0 x47_2).f0) < (x8_2.length : Int)) = true := decide_eq_true c55
                                  clear c55
                                  by_cases c56 : 0 ≤ ((rd_L2 x8_2 ((rd_T42 l0_0 x47_2).f0)).length : Int)
                                  · rw [if_pos c56] at H
                                    have c56b0 := eq_true c56
                                    have c56b1 : decide (0 ≤ ((rd_L2 x8_2 ((rd_T42 l0_0 x47_2).f0)).length : Int)) = true := decide_eq_true c56
                                    clear c56
                                    by_cases c57 : (((rd_L2 x8_2 ((rd_T42 l0_0 x47_2).f0)).length : Int) : Int).toNat ≤ 281474976710656
                                    · rw [if_pos c57] at H
                                      have c57b0 := eq_true c57
                                      have c57b1 : decide ((((rd_L2 x8_2 ((rd_T42 l0_0 x47_2).f0)).length : Int) : Int).toNat ≤ 281474976710656) = true := decide_eq_true c57
                                      clear c57
                                      obtain ⟨y129, hy129⟩ : ∃ y_ : List Int, y_ = (List.replicate (((rd_L2 x8_2 ((rd_T42 l0_0 x47_2).f0)).length : Int) : Int).toNat 0) := ⟨_, rfl⟩
                                      replace H : ((geyserref03_Plus.f kj31 y129 (rd_L2 x8_2 ((rd_T42 l0_0 x47_2).f0)) ((rd_T42 l0_0 x47_2).f2)).bind fun t133 => (geyserlaw12_ReplayPlays.l0 kj31 t115 t118 true (x8_2.set (((rd_T42 l0_0 x47_2).f0) : Int).toNat t133) (l0_0.length : Int) (wrap64 (x47_2 + 1)) l0_0 l0_1)) = some r := by first | (rw [hy129]; with_reducible exact H) | (have H2_ := (Option.bind_some _ _).symm.trans H; rw [hy129]; with_reducible exact H2_) | (have H2_ := (Option.bind_some _ _).symm.trans H; with_reducible exact H2_) | with_reducible exact H | (rw [hy129]; exact H) | exact H
                                      have Ny129 := Aside0.mk hy129
                                      clear hy129
                                      replace H := Option.bind_eq_some_iff.mp H
                                      obtain ⟨t133, A580, H⟩ := H
                                      replace H : (geyserlaw12_ReplayPlays.l0 kj31 t115 t118 true (x8_2.set (((rd_T42 l0_0 x47_2).f0) : Int).toNat t133) (l0_0.length : Int) (wrap64 (x47_2 + 1)) l0_0 l0_1) = some r := H
                                      have A58 := Aside0.mk A580
                                      clear A580
                                      obtain ⟨y136, hy136⟩ : ∃ y_ : List (List Int), y_ = (x8_2.set (((rd_T42 l0_0 x47_2).f0) : Int).toNat t133) := ⟨_, rfl⟩
                                      replace H : (geyserlaw12_ReplayPlays.l0 kj31 t115 t118 true y136 (l0_0.length : Int) (wrap64 (x47_2 + 1)) l0_0 l0_1) = some r := by first | (rw [hy136]; with_reducible exact H) | (have H2_ := (Option.bind_some _ _).symm.trans H; rw [hy136]; with_reducible exact H2_) | (have H2_ := (Option.bind_some _ _).symm.trans H; with_reducible exact H2_) | with_reducible exact H | (rw [hy136]; exact H) | exact H
                                      have Ny136 := Aside0.mk hy136
                                      clear hy136
                                      have H' := Aside0.mk H
                                      clear H
                                      have hnb60 := NB127_111.out
                                      have hnc60 := NB111_127.out
                                      have hcz61_0 : wc.cell? ⟨gb127, 0, none⟩ = some (.int .i64 ((rd_T42 l0_0 x47_2).f0)) := (blk_cell BK127.out 0).trans rfl
                                      have hcz61_1 : wc.cell? ⟨gb127, 1, none⟩ = some (.int .i64 ((rd_T42 l0_0 x47_2).f1)) := (blk_cell BK127.out 1).trans rfl
                                      have hcz61_2 : wc.cell? ⟨gb127, 2, none⟩ = some (.int .u8 ((rd_T42 l0_0 x47_2).f2)) := (blk_cell BK127.out 2).trans rfl
                                      have hfz61_0 := blk_frozen BK127.out 0
                                      have hfz61_1 := blk_frozen BK127.out 1
                                      have hfz61_2 := blk_frozen BK127.out 2
                                      try go_wp2
                                      have n0_ := Aside0.mk (Kd.N_drew HO_5.out)
                                      have n1_ := Aside0.mk (Kd.N_drew HO_8.out)
                                      have n2_ := Aside0.mk (blk_drew BK111.out)
                                      have n3_ := Aside0.mk (blk_drew BK127.out)
                                      have n4_ := Aside0.mk (below_drew1 HB.out)
                                      clear HO_5
                                      clear HO_8
                                      clear BK111
                                      clear BK127
                                      clear HB
                                      have HO_5 := n0_
                                      have HO_8 := n1_
                                      have BK111 := n2_
                                      have BK127 := n3_
                                      have HB := n4_
                                      clear n0_ n1_ n2_ n3_ n4_
                                      obtain ⟨Ao63, co63, eo63⟩ := Kd.N_slice HO_8.out
                                      (first | subst eo63 | (injection eo63 with f1_ f2_ f3_; have f4_ := f1_.symm; have f5_ := f3_.symm; clear f1_ f2_ f3_; subst f4_; subst f5_))
                                      have p128 : 0 ≤ (((rd_T42 l0_0 x47_2).f0) : Int) := of_decide_eq_true (by first | (with_reducible assumption) | assumption)
                                      have q128 : ((rd_T42 l0_0 x47_2).f0) < (x8_2.length : Int) := of_decide_eq_true (by first | (with_reducible assumption) | assumption)
                                      obtain ⟨ad128, A128_0, c128_0, e128, hx128_0, hl128_0, hi128_0⟩ := at_L2 (Kd.N_reads' HO_8.out).2.2 ((rd_T42 l0_0 x47_2).f0) p128 q128
                                      cases e128
                                      obtain ⟨ce128, hce128, hMe128, hcc128⟩ := Kd.N_get HO_8.out [] ((rd_T42 l0_0 x47_2).f0) p128 (by first | exact q128 | exact of_decide_eq_true (by first | (with_reducible assumption) | assumption) | (have e_ := (Kd.N_reads' HO_8.out).1; omega))
                                      obtain ⟨ua128_0, uc128_0, rfl, ul128_0, ge128_0⟩ := Kd.FK_slice_open hMe128
                                      have hv128_0 := hcc128 0 _ rfl
                                      rw [Nat.add_zero, show ((Kd.slice 5 (Kd.int .u8))).sz = 1 from rfl, Nat.mul_one] at hv128_0
                                      replace hv128_0 := Option.some.inj (hv128_0.symm.trans hx128_0)
                                      injection hv128_0 with hva_ hvn_ hvc_
                                      rw [hva_] at ge128_0
                                      rw [hvc_] at ul128_0
                                      have HL128_0 := Aside0.mk (show Kd.V (Kd.int .u8) 5 _ w.heap.size _ _ (rd_L2 x8_2 ((rd_T42 l0_0 x47_2).f0)) from Kd.V_mk ul128_0 ge128_0)
                                      clear hva_ hvn_ hvc_ ge128_0 ul128_0
                                      clear hcc128 hce128
                                      have HR128_0 := Aside0.mk hi128_0
                                      have HC128_0 := Aside0.mk hl128_0
                                      clear hi128_0 hl128_0
                                      replace p128 := eq_true p128
                                      replace q128 := eq_true q128
                                      have p132 : 0 ≤ (((rd_T42 l0_0 x47_2).f0) : Int) := of_decide_eq_true (by first | (with_reducible assumption) | assumption)
                                      have q132 : ((rd_T42 l0_0 x47_2).f0) < (x8_2.length : Int) := of_decide_eq_true (by first | (with_reducible assumption) | assumption)
                                      obtain ⟨ad132, A132_0, c132_0, e132, hx132_0, hl132_0, hi132_0⟩ := at_L2 (Kd.N_reads' HO_8.out).2.2 ((rd_T42 l0_0 x47_2).f0) p132 q132
                                      obtain rfl : ad128 = ad132 := (by injection e132)
                                      obtain ⟨ce132, hce132, hMe132, hcc132⟩ := Kd.N_get HO_8.out [] ((rd_T42 l0_0 x47_2).f0) p132 (by first | exact q132 | exact of_decide_eq_true (by first | (with_reducible assumption) | assumption) | (have e_ := (Kd.N_reads' HO_8.out).1; omega))
                                      obtain ⟨ua132_0, uc132_0, rfl, ul132_0, ge132_0⟩ := Kd.FK_slice_open hMe132
                                      have hv132_0 := hcc132 0 _ rfl
                                      rw [Nat.add_zero, show ((Kd.slice 5 (Kd.int .u8))).sz = 1 from rfl, Nat.mul_one] at hv132_0
                                      replace hv132_0 := Option.some.inj (hv132_0.symm.trans hx132_0)
                                      injection hv132_0 with hva_ hvn_ hvc_
                                      rw [hva_] at ge132_0
                                      rw [hvc_] at ul132_0
                                      have HL132_0 := Aside0.mk (show Kd.V (Kd.int .u8) 5 _ w.heap.size _ _ (rd_L2 x8_2 ((rd_T42 l0_0 x47_2).f0)) from Kd.V_mk ul132_0 ge132_0)
                                      clear hva_ hvn_ hvc_ ge132_0 ul132_0
                                      clear hcc132 hce132
                                      have HR132_0 := Aside0.mk hi132_0
                                      have HC132_0 := Aside0.mk hl132_0
                                      clear hi132_0 hl132_0
                                      replace p132 := eq_true p132
                                      replace q132 := eq_true q132
                                      have ea_ := Option.some.inj (hx128_0.symm.trans hx132_0)
                                      injection ea_ with ea_ en_ ec_
                                      subst ea_
                                      subst ec_
                                      clear en_
                                      refine start_ (n := 20) (S := fun w' => w'.cell? ⟨gb127, 0, none⟩ = some (.int .i64 ((rd_T42 l0_0 x47_2).f0)) ∧ w'.cell? ⟨gb127, 1, none⟩ = some (.int .i64 ((rd_T42 l0_0 x47_2).f1)) ∧ w'.cell? ⟨gb127, 2, none⟩ = some (.int .u8 ((rd_T42 l0_0 x47_2).f2)) ∧ w'.cell? (ad128.add (((rd_T42 l0_0 x47_2).f0)).toNat) = some (.slice A128_0 (rd_L2 x8_2 ((rd_T42 l0_0 x47_2).f0)).length c128_0) ∧ w'.cell? (ad128.add (((rd_T42 l0_0 x47_2).f0)).toNat) = some (.slice A128_0 (rd_L2 x8_2 ((rd_T42 l0_0 x47_2).f0)).length c128_0)) (ds := [19]) #[false, false, false, false, false, false, false, false, false, false, false, false, false, false, false, false, false, false, false, false] (by kernel_rfl) rfl rfl ⟨(blk_cell BK127.out 0).trans rfl, (blk_cell BK127.out 1).trans rfl, (blk_cell BK127.out 2).trans rfl, hx128_0, hx132_0⟩ (fun hHeld => ?_); refine with_tabW geyserlaw12_ReplayPlays.tab13 geyserlaw12_ReplayPlays.bits13 (fun HT_ HW_ => ?_)
                                      generalize wc.drew = w62 at HO_5 HO_8 BK111 BK127 HB HL128_0 HL132_0 HR128_0 HR132_0 hx128_0 hx132_0 hHeld ⊢
                                      refine pure_ (i := 0) (N := some 87) (v := ?_) (a' := ?_) #[true, false, false, false, false, false, false, false, false, false, false, false, false, false, false, false, false, false, false, false] rfl rfl (any_of HT_.out (by kernel_rfl)) (fun _ _ _ h => h) (Or.inl ⟨by rfl, ?_⟩) ?_ ?_
                                      rotate_left
                                      · intro w'
                                        go_simp
                                        with_reducible rfl
                                      rotate_left
                                      · simp only [Act.put, List.setIfInBounds_toArray, List.set_cons_zero, List.set_cons_succ, i64_w, i32_w]
                                        rfl
                                      refine pure_ (i := 1) (N := some 88) (v := ?_) (a' := ?_) #[true, true, false, false, false, false, false, false, false, false, false, false, false, false, false, false, false, false, false, false] rfl rfl (any_of HT_.out (by kernel_rfl)) (fun _ _ _ h => h) (Or.inl ⟨by rfl, ?_⟩) ?_ ?_
                                      rotate_left
                                      · intro w'
                                        go_simp
                                        with_reducible rfl
                                      rotate_left
                                      · simp only [Act.put, List.setIfInBounds_toArray, List.set_cons_zero, List.set_cons_succ, i64_w, i32_w]
                                        rfl
                                      refine pure_ (i := 3) (N := some 90) (v := ?_) (a' := ?_) #[true, true, false, true, false, false, false, false, false, false, false, false, false, false, false, false, false, false, false, false] rfl rfl (any_of HT_.out (by kernel_rfl)) (fun _ _ _ h => h) (Or.inl ⟨by rfl, ?_⟩) ?_ ?_
                                      rotate_left
                                      · intro w'
                                        go_simp
                                        with_reducible rfl
                                      rotate_left
                                      · simp only [Act.put, List.setIfInBounds_toArray, List.set_cons_zero, List.set_cons_succ, i64_w, i32_w]
                                        rfl
                                      refine pure_ (i := 4) (N := some 91) (v := ?_) (a' := ?_) #[true, true, false, true, true, false, false, false, false, false, false, false, false, false, false, false, false, false, false, false] rfl rfl (any_of HT_.out (by kernel_rfl)) (fun _ _ _ h => h) (Or.inl ⟨by rfl, ?_⟩) ?_ ?_
                                      rotate_left
                                      · intro w'
                                        go_simp
                                        with_reducible rfl
                                      rotate_left
                                      · simp only [Act.put, List.setIfInBounds_toArray, List.set_cons_zero, List.set_cons_succ, i64_w, i32_w]
                                        rfl
                                      refine pure_ (i := 10) (N := some 97) (v := ?_) (a' := ?_) #[true, true, false, true, true, false, false, false, false, false, true, false, false, false, false, false, false, false, false, false] rfl rfl (any_of HT_.out (by kernel_rfl)) (fun _ _ _ h => h) (Or.inl ⟨by rfl, ?_⟩) ?_ ?_
                                      rotate_left
                                      · intro w'
                                        go_simp
                                        with_reducible rfl
                                      rotate_left
                                      · simp only [Act.put, List.setIfInBounds_toArray, List.set_cons_zero, List.set_cons_succ, i64_w, i32_w]
                                        rfl
                                      refine pure_ (i := 11) (N := some 98) (v := ?_) (a' := ?_) #[true, true, false, true, true, false, false, false, false, false, true, true, false, false, false, false, false, false, false, false] rfl rfl (any_of HT_.out (by kernel_rfl)) (fun _ _ _ h => h) (Or.inl ⟨by rfl, ?_⟩) ?_ ?_
                                      rotate_left
                                      · intro w'
                                        go_simp
                                        with_reducible rfl
                                      rotate_left
                                      · simp only [Act.put, List.setIfInBounds_toArray, List.set_cons_zero, List.set_cons_succ, i64_w, i32_w]
                                        rfl
                                      refine pure_ (i := 15) (N := some 102) (v := ?_) (a' := ?_) #[true, true, false, true, true, false, false, false, false, false, true, true, false, false, false, true, false, false, false, false] rfl rfl (any_of HT_.out (by kernel_rfl)) (fun _ _ _ h => h) (Or.inl ⟨by rfl, ?_⟩) ?_ ?_
                                      rotate_left
                                      · intro w'
                                        go_simp
                                        with_reducible rfl
                                      rotate_left
                                      · simp only [Act.put, List.setIfInBounds_toArray, List.set_cons_zero, List.set_cons_succ, i64_w, i32_w]
                                        rfl
                                      refine take_ (i := 2) (N := some 89) (v := ?_) (a' := ?_) #[true, true, true, true, true, false, false, false, false, false, true, true, false, false, false, true, false, false, false, false] rfl rfl (take_ofW HT_.out HW_.out (by kernel_rfl)) (fun _ _ _ h => h) (Or.inl ⟨by rfl, ?_⟩) hHeld ?_ ?_
                                      rotate_left
                                      · rintro w' ⟨s0, s1, s2, s3, s4⟩
                                        go_simp
                                        with_reducible rfl
                                      rotate_left
                                      · simp only [Act.put, List.setIfInBounds_toArray, List.set_cons_zero, List.set_cons_succ, i64_w, i32_w]
                                        rfl
                                      refine take_ (i := 5) (N := some 92) (v := ?_) (a' := ?_) #[true, true, true, true, true, true, false, false, false, false, true, true, false, false, false, true, false, false, false, false] rfl rfl (take_ofW HT_.out HW_.out (by kernel_rfl)) (fun _ _ _ h => h) (Or.inl ⟨by rfl, ?_⟩) hHeld ?_ ?_
                                      rotate_left
                                      · rintro w' ⟨s0, s1, s2, s3, s4⟩
                                        go_simp
                                        with_reducible rfl
                                      rotate_left
                                      · simp only [Act.put, List.setIfInBounds_toArray, List.set_cons_zero, List.set_cons_succ, i64_w, i32_w]
                                        rfl
                                      refine pure_ (i := 6) (N := some 93) (v := ?_) (a' := ?_) #[true, true, true, true, true, true, true, false, false, false, true, true, false, false, false, true, false, false, false, false] rfl rfl (any_of HT_.out (by kernel_rfl)) (fun _ _ _ h => h) (Or.inl ⟨by rfl, ?_⟩) ?_ ?_
                                      rotate_left
                                      · intro w'
                                        go_simp
                                        with_reducible rfl
                                      rotate_left
                                      · simp only [Act.put, List.setIfInBounds_toArray, List.set_cons_zero, List.set_cons_succ, i64_w, i32_w]
                                        rfl
                                      refine take_ (i := 7) (N := some 94) (v := ?_) (a' := ?_) #[true, true, true, true, true, true, true, true, false, false, true, true, false, false, false, true, false, false, false, false] rfl rfl (take_ofW HT_.out HW_.out (by kernel_rfl)) (fun _ _ _ h => h) (Or.inl ⟨by rfl, ?_⟩) hHeld ?_ ?_
                                      rotate_left
                                      · rintro w' ⟨s0, s1, s2, s3, s4⟩
                                        go_simp
                                        with_reducible rfl
                                      rotate_left
                                      · simp only [Act.put, List.setIfInBounds_toArray, List.set_cons_zero, List.set_cons_succ, i64_w, i32_w]
                                        rfl
                                      refine pure_ (i := 8) (N := some 95) (v := ?_) (a' := ?_) #[true, true, true, true, true, true, true, true, true, false, true, true, false, false, false, true, false, false, false, false] rfl rfl (any_of HT_.out (by kernel_rfl)) (fun _ _ _ h => h) (Or.inl ⟨by rfl, ?_⟩) ?_ ?_
                                      rotate_left
                                      · intro w'
                                        go_simp
                                        with_reducible rfl
                                      rotate_left
                                      · simp only [Act.put, List.setIfInBounds_toArray, List.set_cons_zero, List.set_cons_succ, i64_w, i32_w]
                                        rfl
                                      refine take_ (i := 12) (N := some 99) (v := ?_) (a' := ?_) #[true, true, true, true, true, true, true, true, true, false, true, true, true, false, false, true, false, false, false, false] rfl rfl (take_ofW HT_.out HW_.out (by kernel_rfl)) (fun _ _ _ h => h) (Or.inl ⟨by rfl, ?_⟩) hHeld ?_ ?_
                                      rotate_left
                                      · rintro w' ⟨s0, s1, s2, s3, s4⟩
                                        go_simp
                                        with_reducible rfl
                                      rotate_left
                                      · simp only [Act.put, List.setIfInBounds_toArray, List.set_cons_zero, List.set_cons_succ, i64_w, i32_w]
                                        rfl
                                      refine pure_ (i := 13) (N := some 100) (v := ?_) (a' := ?_) #[true, true, true, true, true, true, true, true, true, false, true, true, true, true, false, true, false, false, false, false] rfl rfl (any_of HT_.out (by kernel_rfl)) (fun _ _ _ h => h) (Or.inl ⟨by rfl, ?_⟩) ?_ ?_
                                      rotate_left
                                      · intro w'
                                        go_simp
                                        with_reducible rfl
                                      rotate_left
                                      · simp only [Act.put, List.setIfInBounds_toArray, List.set_cons_zero, List.set_cons_succ, i64_w, i32_w]
                                        rfl
                                      refine take_ (i := 14) (N := some 101) (v := ?_) (a' := ?_) #[true, true, true, true, true, true, true, true, true, false, true, true, true, true, true, true, false, false, false, false] rfl rfl (take_ofW HT_.out HW_.out (by kernel_rfl)) (fun _ _ _ h => h) (Or.inl ⟨by rfl, ?_⟩) hHeld ?_ ?_
                                      rotate_left
                                      · rintro w' ⟨s0, s1, s2, s3, s4⟩
                                        go_simp
                                        with_reducible rfl
                                      rotate_left
                                      · simp only [Act.put, List.setIfInBounds_toArray, List.set_cons_zero, List.set_cons_succ, i64_w, i32_w]
                                        rfl
                                      refine take_ (i := 16) (N := some 103) (v := ?_) (a' := ?_) #[true, true, true, true, true, true, true, true, true, false, true, true, true, true, true, true, true, false, false, false] rfl rfl (take_ofW HT_.out HW_.out (by kernel_rfl)) (fun _ _ _ h => h) (Or.inl ⟨by rfl, ?_⟩) hHeld ?_ ?_
                                      rotate_left
                                      · rintro w' ⟨s0, s1, s2, s3, s4⟩
                                        go_simp
                                        with_reducible rfl
                                      rotate_left
                                      · simp only [Act.put, List.setIfInBounds_toArray, List.set_cons_zero, List.set_cons_succ, i64_w, i32_w]
                                        rfl
                                      refine one_ (i := 9) (N := some 96) #[true, true, true, true, true, true, true, true, true, true, true, true, true, true, true, true, true, false, false, false] rfl rfl (one_of HT_.out (by kernel_rfl)) (by decide) (fun K hK => ?_)
                                      refine Kd.R_make_step (Kd.int .u8) _ 5 (by rfl) (N := 96) rfl 31 _ _ rfl ((rd_L2 x8_2 ((rd_T42 l0_0 x47_2).f0)).length : Int) rfl rfl Try.underlying31 (.int .u8 0) 1 info5 rfl (by decide) (by omega) 0 (ok := fun _ => True) (okp := fun _ => True) rfl (fun _ hk => hk) trivial (of_decide_eq_true (by first | (with_reducible assumption) | assumption)) (Nat.le_trans (Nat.mul_le_mul_right _ (of_decide_eq_true (by first | (with_reducible assumption) | assumption) : ((rd_L2 x8_2 ((rd_T42 l0_0 x47_2).f0)).length : Int).toNat ≤ 281474976710656)) (by omega)) (Below.refl _ _) (Nat.le_refl _) ?_
                                      intro v130 w64 ho65 hb hg_ hnew_
                                      have HS3_ := (hb.cell (World.block_lt_of_cell? _ _ (hHeld.2.2.2.1))).trans (hHeld.2.2.2.1)
                                      have HS4_ := (hb.cell (World.block_lt_of_cell? _ _ (hHeld.2.2.2.2))).trans (hHeld.2.2.2.2)
                                      clear hg_ hnew_
                                      (first | rw [← Ny129.out] at ho65 | (simp only [Int.reduceToNat] at ho65; rw [← Ny129.out] at ho65))
                                      have n0_ := Aside0.mk (Kd.N_elder' (by (with_reducible repeat (first | apply Kd.N_alloc | apply Kd.N_drewN | apply Kd.N_drew)); exact HO_5.out) (Kd.R_base ho65) hb)
                                      have n1_ := Aside0.mk (Kd.N_elder' (by (with_reducible repeat (first | apply Kd.N_alloc | apply Kd.N_drewN | apply Kd.N_drew)); exact HO_8.out) (Kd.R_base ho65) hb)
                                      have n2_ := Aside0.mk (Kd.V_elder' (by (with_reducible repeat (first | apply Kd.V_alloc | apply Kd.V_drewN | apply Kd.V_drew)); exact HL128_0.out) (Kd.R_base ho65) hb)
                                      have n3_ := Aside0.mk (Kd.V_elder' (by (with_reducible repeat (first | apply Kd.V_alloc | apply Kd.V_drewN | apply Kd.V_drew)); exact HL132_0.out) (Kd.R_base ho65) hb)
                                      have n4_ := Aside0.mk (Kd.R_lower (Kd.R_newM (M := fun k_ => (w.heap.size ≤ k_)) ho65 (below_size (by repeat (first | (with_reducible first | exact HB.out | apply below_alloc | apply pw_below_drewN | apply below_drew1 | refine below_set ?_ GE111.out | refine below_set ?_ GE127.out) | exact HB.out))) (fun k_ h_ => h_)) (below_size (by repeat (first | (with_reducible first | exact HB.out | apply below_alloc | apply pw_below_drewN | apply below_drew1 | refine below_set ?_ GE111.out | refine below_set ?_ GE127.out) | exact HB.out))))
                                      have n5_ := Aside0.mk (blk_below (g := gb111) (o := .cells #[.slice (some ad126) l0_0.length c0_0, .slice A0_1 l0_1.length c0_1] 38 (0, 0)) (by (with_reducible repeat (first | refine blk_drewN ?_ _ | refine blk_drew ?_ | refine blk_alloc ?_ _)); exact BK111.out) hb)
                                      have n6_ := Aside0.mk (blk_below (g := gb127) (o := .cells #[.int .i64 ((rd_T42 l0_0 x47_2).f0), .int .i64 ((rd_T42 l0_0 x47_2).f1), .int .u8 ((rd_T42 l0_0 x47_2).f2)] 42 (0, 0)) (by (with_reducible repeat (first | refine blk_drewN ?_ _ | refine blk_drew ?_ | refine blk_alloc ?_ _)); exact BK127.out) hb)
                                      have n7_ := Aside0.mk (Kd.C_below (by repeat (first | (with_reducible exact HR128_0.out) | (with_reducible refine Kd.C_alloc ?_ _) | (with_reducible refine Kd.C_drewN ?_ _) | (with_reducible refine Kd.C_drew ?_) | exact HR128_0.out)) hb)
                                      have n8_ := Aside0.mk (Kd.C_below (by repeat (first | (with_reducible exact HR132_0.out) | (with_reducible refine Kd.C_alloc ?_ _) | (with_reducible refine Kd.C_drewN ?_ _) | (with_reducible refine Kd.C_drew ?_) | exact HR132_0.out)) hb)
                                      have n9_ := Aside0.mk (below_step (by repeat (first | (with_reducible first | exact HB.out | apply below_alloc | apply pw_below_drewN | apply below_drew1 | refine below_set ?_ GE111.out | refine below_set ?_ GE127.out) | exact HB.out)) hb)
                                      clear HO_5
                                      clear HO_8
                                      clear HL128_0
                                      clear HL132_0
                                      clear BK111
                                      clear BK127
                                      clear HR128_0
                                      clear HR132_0
                                      clear HB
                                      have HO_5 := n0_
                                      have HO_8 := n1_
                                      have HL128_0 := n2_
                                      have HL132_0 := n3_
                                      have HO131 := n4_
                                      have BK111 := n5_
                                      have BK127 := n6_
                                      have HR128_0 := n7_
                                      have HR132_0 := n8_
                                      have HB := n9_
                                      clear n0_ n1_ n2_ n3_ n4_ n5_ n6_ n7_ n8_ n9_
                                      clear hb ho65
                                      obtain ⟨Ao66, co66, eo66⟩ := Kd.R_slice HO131.out
                                      (first | subst eo66 | (injection eo66 with f1_ f2_ f3_; have f4_ := f1_.symm; have f5_ := f3_.symm; clear f1_ f2_ f3_; subst f4_; subst f5_))
                                      refine hK.out _ _ ⟨(blk_cell BK127.out 0).trans rfl, (blk_cell BK127.out 1).trans rfl, (blk_cell BK127.out 2).trans rfl, HS3_, HS4_⟩ (fun hHeld => ?_)
                                      clear hK K
                                      refine norm_ (a' := ?_) ?_ ?_
                                      rotate_left
                                      · show Act.put _ (some 96) _ = _
                                        simp only [Act.put, List.setIfInBounds_toArray, List.set_cons_zero, List.set_cons_succ, i64_w, i32_w]
                                        rfl
                                      refine one_ (i := 17) (N := some 104) #[true, true, true, true, true, true, true, true, true, true, true, true, true, true, true, true, true, true, false, false] rfl rfl (one_of HT_.out (by kernel_rfl)) (by decide) (fun K hK => ?_)
                                      refine goes_ Try.func20 (by kernel_rfl) rfl #[.slice Ao66 y129.length co66, .slice A128_0 (rd_L2 x8_2 ((rd_T42 l0_0 x47_2).f0)).length c128_0, .int .u8 ((rd_T42 l0_0 x47_2).f2)] (by rfl) rfl rfl (by (try simp only [List.map_toArray, List.map_cons, List.map_nil]); first | done | rfl | (simp only [List.length_drop, List.length_take]; rfl)) ?_
                                      with_reducible refine (geyserref03_Plus.calls kj31 _ _ y129 _ _ (rd_L2 x8_2 ((rd_T42 l0_0 x47_2).f0)) ((rd_T42 l0_0 x47_2).f2) t133 _ ?side1 ?side2 ?side3 ?side4 A58.out).mono ?_
                                      (case side1 => repeat (first | exact (Kd.R_reads' HO131.out).2.2 | (with_reducible refine Kd.C_alloc ?_ _) | (with_reducible refine Kd.C_drewN ?_ _) | (with_reducible refine Kd.C_drew ?_)))
                                      (case side2 => exact (Kd.R_reads' HO131.out).2.1)
                                      (case side3 => repeat (first | exact (by repeat (first | (with_reducible exact HR132_0.out) | (with_reducible refine Kd.C_alloc ?_ _) | (with_reducible refine Kd.C_drewN ?_ _) | (with_reducible refine Kd.C_drew ?_) | exact HR132_0.out)) | (with_reducible refine Kd.C_alloc ?_ _) | (with_reducible refine Kd.C_drewN ?_ _) | (with_reducible refine Kd.C_drew ?_)))
                                      (case side4 => exact HC132_0.out)
                                      rintro e w67 ⟨v134, rfl, ho0, hb⟩
                                      have HS3_ := (hb.cell (World.block_lt_of_cell? _ _ (hHeld.2.2.2.1))).trans (hHeld.2.2.2.1)
                                      have HS4_ := (hb.cell (World.block_lt_of_cell? _ _ (hHeld.2.2.2.2))).trans (hHeld.2.2.2.2)
                                      refine ⟨_, rfl, ?_⟩
                                      have n0_ := Aside0.mk (Kd.N_elder' (by (with_reducible repeat (first | apply Kd.N_alloc | apply Kd.N_drewN | apply Kd.N_drew)); exact HO_5.out) (Kd.R_base ho0) hb)
                                      have n1_ := Aside0.mk (Kd.N_elder' (by (with_reducible repeat (first | apply Kd.N_alloc | apply Kd.N_drewN | apply Kd.N_drew)); exact HO_8.out) (Kd.R_base ho0) hb)
                                      have n2_ := Aside0.mk (Kd.V_elder' (by (with_reducible repeat (first | apply Kd.V_alloc | apply Kd.V_drewN | apply Kd.V_drew)); exact HL128_0.out) (Kd.R_base ho0) hb)
                                      have n3_ := Aside0.mk (Kd.V_elder' (by (with_reducible repeat (first | apply Kd.V_alloc | apply Kd.V_drewN | apply Kd.V_drew)); exact HL132_0.out) (Kd.R_base ho0) hb)
                                      have n4_ := Aside0.mk (Kd.R_elder' (by (with_reducible repeat (first | apply Kd.R_alloc | apply Kd.R_drewN | apply Kd.R_drew)); exact HO131.out) (Kd.R_base ho0) hb)
                                      have n5_ := Aside0.mk (Kd.R_lower (Kd.R_new' (Kd.R_newM (M := fun k_ => (w.heap.size ≤ k_)) ho0 (below_size (by repeat (first | (with_reducible first | exact HB.out | apply below_alloc | apply pw_below_drewN | apply below_drew1 | refine below_set ?_ GE111.out | refine below_set ?_ GE127.out) | exact HB.out))) (fun k_ h_ => h_)) (Kd.R_lt (by (with_reducible repeat (first | apply Kd.R_alloc | apply Kd.R_drewN | apply Kd.R_drew)); exact HO131.out))) (below_size (by repeat (first | (with_reducible first | exact HB.out | apply below_alloc | apply pw_below_drewN | apply below_drew1 | refine below_set ?_ GE111.out | refine below_set ?_ GE127.out) | exact HB.out))))
                                      have n6_ := Aside0.mk (blk_below (g := gb111) (o := .cells #[.slice (some ad126) l0_0.length c0_0, .slice A0_1 l0_1.length c0_1] 38 (0, 0)) (by (with_reducible repeat (first | refine blk_drewN ?_ _ | refine blk_drew ?_ | refine blk_alloc ?_ _)); exact BK111.out) hb)
                                      have n7_ := Aside0.mk (blk_below (g := gb127) (o := .cells #[.int .i64 ((rd_T42 l0_0 x47_2).f0), .int .i64 ((rd_T42 l0_0 x47_2).f1), .int .u8 ((rd_T42 l0_0 x47_2).f2)] 42 (0, 0)) (by (with_reducible repeat (first | refine blk_drewN ?_ _ | refine blk_drew ?_ | refine blk_alloc ?_ _)); exact BK127.out) hb)
                                      have n8_ := Aside0.mk (Kd.C_below (by repeat (first | (with_reducible exact HR128_0.out) | (with_reducible refine Kd.C_alloc ?_ _) | (with_reducible refine Kd.C_drewN ?_ _) | (with_reducible refine Kd.C_drew ?_) | exact HR128_0.out)) hb)
                                      have n9_ := Aside0.mk (Kd.C_below (by repeat (first | (with_reducible exact HR132_0.out) | (with_reducible refine Kd.C_alloc ?_ _) | (with_reducible refine Kd.C_drewN ?_ _) | (with_reducible refine Kd.C_drew ?_) | exact HR132_0.out)) hb)
                                      have n10_ := Aside0.mk (below_step (by repeat (first | (with_reducible first | exact HB.out | apply below_alloc | apply pw_below_drewN | apply below_drew1 | refine below_set ?_ GE111.out | refine below_set ?_ GE127.out) | exact HB.out)) hb)
                                      clear HO_5
                                      clear HO_8
                                      clear HL128_0
                                      clear HL132_0
                                      clear HO131
                                      clear BK111
                                      clear BK127
                                      clear HR128_0
                                      clear HR132_0
                                      clear HB
                                      have HO_5 := n0_
                                      have HO_8 := n1_
                                      have HL128_0 := n2_
                                      have HL132_0 := n3_
                                      have HO131 := n4_
                                      have HO135 := n5_
                                      obtain ⟨Aq_v134, cq_v134, eq_v134⟩ := Kd.R_slice HO135.out
                                      subst eq_v134
                                      have BK111 := n6_
                                      have BK127 := n7_
                                      have HR128_0 := n8_
                                      have HR132_0 := n9_
                                      have HB := n10_
                                      clear n0_ n1_ n2_ n3_ n4_ n5_ n6_ n7_ n8_ n9_ n10_
                                      (try clear hb)
                                      (try clear hb2)
                                      (try clear hk)
                                      (try clear hi)
                                      (try clear ho0)
                                      have p59 : 0 ≤ (((rd_T42 l0_0 x47_2).f0) : Int) := of_decide_eq_true (by first | (with_reducible assumption) | assumption)
                                      have q59 : (((rd_T42 l0_0 x47_2).f0) : Int) < ((x8_2.length : Int) : Int) := of_decide_eq_true (by first | (with_reducible assumption) | assumption)
                                      obtain ⟨go59, co59, eo59, gb59, gl59, cl59, HG59⟩ := Kd.N_form HO_8.out (by omega)
                                      (first | cases eo59 | (injection eo59 with ea_ en_ ec_; (first | subst ea_ | (injection ea_ with ea_; subst ea_)); subst ec_; clear en_))
                                      have GB59 := Aside0.mk gb59
                                      have GG59 := Aside0.mk HG59
                                      clear gb59 gl59 HG59
                                      (first | simp only [add_plain] at hx128_0 | skip)
                                      (first | simp only [add_plain] at hx132_0 | skip)
                                      obtain ⟨ce59, hcl59, hM59, hcc59, hfr59⟩ := Kd.N_elem HO_8.out [] (((rd_T42 l0_0 x47_2).f0) : Int) p59 q59
                                      obtain ⟨ua59_0, uc59_0, rfl, ul59_0, ge59_0⟩ := Kd.FK_slice_open hM59
                                      have hx59_0 := hcc59 0 _ rfl
                                      have hf59_0 := hfr59 0
                                      (try simp only [show ((Kd.slice 5 (Kd.int .u8))).sz = 1 from rfl, Nat.mul_one, Nat.add_zero] at hx59_0)
                                      (try simp only [show ((Kd.slice 5 (Kd.int .u8))).sz = 1 from rfl, Nat.mul_one, Nat.add_zero] at hf59_0)
                                      (try clear hM59); clear hcl59 hcc59 hfr59
                                      replace p59 := eq_true p59
                                      replace q59 := eq_true q59
                                      have HX68 := Aside0.mk (show Kd.N (Kd.slice 5 (Kd.int .u8)) 31 _ w.heap.size (fun k_ => (P1_ k_ ∨ w.heap.size ≤ k_) ∧ some k_ ≠ (v116 : Value).ownBlock ∧ some k_ ≠ (.slice Ao66 y129.length co66 : Value).ownBlock ∧ some k_ ≠ ((.slice Aq_v134 t133.length cq_v134) : Value).ownBlock ∧ k_ ≠ gb111 ∧ k_ ≠ gb127) (.slice (some ⟨go59, 0, none⟩) x8_2.length co63) x8_2 from (Kd.N_mono (HO_8.out) (fun k_ hk => ⟨hk.1.1.1, ⟨hk.1.1.2.1, ⟨hk.1.2, ⟨hk.2, ⟨hk.1.1.2.2.1, hk.1.1.2.2.2⟩⟩⟩⟩⟩)))
                                      replace HX68 := Aside0.mk (show Kd.N (Kd.slice 5 (Kd.int .u8)) 31 _ w.heap.size (fun k_ => (P1_ k_ ∨ w.heap.size ≤ k_) ∧ some k_ ≠ (v116 : Value).ownBlock ∧ some k_ ≠ (.slice Ao66 y129.length co66 : Value).ownBlock ∧ k_ ≠ gb111 ∧ k_ ≠ gb127) (.slice (some ⟨go59, 0, none⟩) x8_2.length co63) x8_2 from Kd.N_mono HX68.out (fun k_ hk => ⟨hk.1, ⟨hk.2.1, ⟨hk.2.2.1, ⟨hk.2.2.2.2.1, hk.2.2.2.2.2⟩⟩⟩⟩))
                                      obtain ⟨ce68, hcl68, hM68, hcc68, hfr68⟩ := Kd.N_elem HX68.out [] (((rd_T42 l0_0 x47_2).f0) : Int) (of_decide_eq_true (by first | (with_reducible assumption) | assumption)) (by have h_ : (((rd_T42 l0_0 x47_2).f0) : Int) < ((x8_2.length : Int) : Int) := of_decide_eq_true (by first | (with_reducible assumption) | assumption); first | exact h_ | (have e_ := (Kd.N_reads' HO_8.out).1; omega) | simpa using h_)
                                      obtain ⟨ua68_0, uc68_0, rfl, ul68_0, ge68_0⟩ := Kd.FK_slice_open hM68
                                      have HP68 := (Kd.N_seg HX68.out (((rd_T42 l0_0 x47_2).f0) : Int) (of_decide_eq_true (by first | (with_reducible assumption) | assumption)) (by have h_ : (((rd_T42 l0_0 x47_2).f0) : Int) < ((x8_2.length : Int) : Int) := of_decide_eq_true (by first | (with_reducible assumption) | assumption); first | exact h_ | (have e_ := (Kd.N_reads' HO_8.out).1; omega) | simpa using h_) (seg := [(.slice Aq_v134 t133.length cq_v134)]) (j := 0) hcl68 hcc68 (show 1 ≤ 1 from by decide) (x' := t133) (FK_own (Kd.R_mono (ok' := (fun k_ => ((fun k_ => (P1_ k_ ∨ w.heap.size ≤ k_) ∧ some k_ ≠ (v116 : Value).ownBlock ∧ some k_ ≠ (.slice Ao66 y129.length co66 : Value).ownBlock ∧ k_ ≠ gb111 ∧ k_ ≠ gb127)) k_ ∧ k_ ≠ go59)) (Kd.R_types (Kd.R_types (Kd.R_apart' (Kd.R_apart' (HO135.out) (Kd.N_typed HO_5.out) (by decide)) (Kd.N_typed HO_8.out) (by decide)) BK111.out (by decide)) BK127.out (by decide)) (fun k_ hk => ⟨⟨(.inr (hk.1.1.1.1.1.1)), ⟨hk.1.1.1.2, ⟨hk.1.1.1.1.2, ⟨hk.1.2, hk.2⟩⟩⟩⟩, fun e_ => (hk.1.1.2) (by rw [e_]; rfl)⟩))) (fun _ hk => hk)).1
                                      (try simp only [show ((Kd.slice 5 (Kd.int .u8))).sz = 1 from rfl, Nat.mul_one, Nat.add_zero] at HP68)
                                      rw [← Ny136.out] at HP68
                                      have HQ68 := Aside0.mk HP68
                                      (try clear hM68); clear hcl68 hcc68 hfr68 HP68
                                      refine hK.out _ _ ⟨(blk_cell BK127.out 0).trans rfl, (blk_cell BK127.out 1).trans rfl, (blk_cell BK127.out 2).trans rfl, HS3_, HS4_⟩ (fun hHeld => ?_)
                                      clear hK K
                                      refine norm_ (a' := ?_) ?_ ?_
                                      rotate_left
                                      · show Act.put _ (some 104) _ = _
                                        simp only [Act.put, List.setIfInBounds_toArray, List.set_cons_zero, List.set_cons_succ, i64_w, i32_w]
                                        rfl
                                      refine pure_ (i := 18) (N := some 105) (v := ?_) (a' := ?_) #[true, true, true, true, true, true, true, true, true, true, true, true, true, true, true, true, true, true, true, false] rfl rfl (any_of HT_.out (by kernel_rfl)) (fun _ _ _ h => h) (Or.inl ⟨by rfl, ?_⟩) ?_ ?_
                                      rotate_left
                                      · intro w'
                                        go_simp
                                        with_reducible rfl
                                      rotate_left
                                      · simp only [Act.put, List.setIfInBounds_toArray, List.set_cons_zero, List.set_cons_succ, i64_w, i32_w]
                                        rfl
                                      refine last_ (i := 19) (N := none) #[true, true, true, true, true, true, true, true, true, true, true, true, true, true, true, true, true, true, true, true] rfl rfl (one_of HT_.out (by kernel_rfl)) (by decide) (fun K hK => ?_)
                                      refine skip_ (w1 := ?_) (by rfl) rfl ?_ ?_
                                      rotate_left
                                      · go_simp
                                        rfl
                                      refine hK.out _ _ ?_
                                      clear hK K
                                      refine done_ (done_of HT_.out (by kernel_rfl)) ?_
                                      try go_wp2
                                      go_roundg kj31
                                      case measure => have := HJ2.out; have := HK2.out; have := HJ31.out; omega
                                      case rel => exact ⟨(true), (y136), (wrap64 (x47_2 + 1)), (by first | rfl | (simp; done) | (simp [*]; done)), (by first | rfl | (simp; done) | (simp [*]; done)), H', ⟨by have := HJ2.out; have := HK2.out; have := HJ31.out; omega⟩, ⟨by (with_reducible repeat (first | apply Kd.N_alloc | apply Kd.N_drewN | apply Kd.N_drew)); exact Kd.N_mono (Kd.N_far (p := ⟨go59, (((rd_T42 l0_0 x47_2).f0) : Int).toNat, none⟩) (Kd.N_mono HO_5.out (fun k_ hk => (⟨hk, fun e_ => hk.1.1.2.1 (by rw [e_]; rfl)⟩ : _ ∧ k_ ≠ go59))) (fun _ hk => hk.2) ((.slice Aq_v134 t133.length cq_v134))) (fun _ hk => ⟨hk.1.1.1.1, ⟨hk.1.1.1.2.1, hk.1.1.1.2.2.1⟩⟩)⟩, ⟨by (with_reducible repeat (first | apply Kd.N_alloc | apply Kd.N_drewN | apply Kd.N_drew)); exact Kd.N_mono HQ68.out (fun _ hk => ⟨hk.1, ⟨hk.2.1, hk.2.2.2.1⟩⟩)⟩, ⟨by (with_reducible repeat (first | refine blk_drewN ?_ _ | refine blk_drew ?_ | refine blk_alloc ?_ _)); refine blk_far ?_ (by have h_ := Kd.N_away HO_8.out (fun _ hk => by first | exact hk.2.2.2.1 | exact hk.2.2.1 | exact hk.2.1 | exact hk.2.2.2 | exact hk.2.2 | exact hk.1.1.2.2.1 | exact hk.1.2.2.1 | exact hk.1.2.1 | exact hk.1.2.2 | exact hk.2); intro e_; exact h_ (by rw [e_]; rfl)) _; (with_reducible repeat (first | refine blk_drewN ?_ _ | refine blk_drew ?_ | refine blk_alloc ?_ _)); exact BK111.out⟩, ⟨by repeat (first | (with_reducible first | exact HB.out | apply below_alloc | apply pw_below_drewN | apply below_drew1 | refine below_set ?_ GB59.out | refine below_set ?_ GE111.out | refine below_set ?_ GE127.out) | exact HB.out)⟩⟩
                                    · rw [if_neg c57] at H
                                      exact absurd H (by simp)
                                  · rw [if_neg c56] at H
                                    exact absurd H (by simp)
                                · rw [if_neg c55] at H
                                  exact absurd H (by simp)
                              · rw [if_neg c54] at H
                                exact absurd H (by simp)
                            · rw [if_neg c53] at H
                              have c53b0 : (((rd_T42 l0_0 x47_2).f0) == ((rd_T42 l0_0 x47_2).f1)) = false := beq_eq_false_iff_ne.mpr c53
                              have c53b1 : (((rd_T42 l0_0 x47_2).f0) != ((rd_T42 l0_0 x47_2).f1)) = true := bne_iff_ne.mpr c53
                              by_cases c69 : 0 ≤ ((rd_T42 l0_0 x47_2).f0)
                              · rw [if_pos c69] at H
                                have c69b0 : decide (0 ≤ ((rd_T42 l0_0 x47_2).f0)) = true := decide_eq_true c69
                                clear c69
                                by_cases c70 : ((rd_T42 l0_0 x47_2).f0) < (x8_2.length : Int)
                                · rw [if_pos c70] at H
                                  have c70b0 : decide (((rd_T42 l0_0 x47_2).f0) < (x8_2.length : Int)) = true := decide_eq_true c70
                                  clear c70
                                  by_cases c71 : 0 ≤ ((rd_T42 l0_0 x47_2).f1)
                                  · rw [if_pos c71] at H
                                    have c71b0 : decide (0 ≤ ((rd_T42 l0_0 x47_2).f1)) = true := decide_eq_true c71
                                    clear c71
                                    by_cases c72 : ((rd_T42 l0_0 x47_2).f1) < (x8_2.length : Int)
                                    · rw [if_pos c72] at H
                                      have c72b0 : decide (((rd_T42 l0_0 x47_2).f1) < (x8_2.length : Int)) = true := decide_eq_true c72
                                      clear c72
                                      replace H := Option.bind_eq_some_iff.mp H
                                      obtain ⟨t139, A730, H⟩ := H
                                      replace H : (geyserlaw12_ReplayPlays.l0 kj31 t115 t118 true (x8_2.set (((rd_T42 l0_0 x47_2).f0) : Int).toNat t139) (l0_0.length : Int) (wrap64 (x47_2 + 1)) l0_0 l0_1) = some r := H
                                      have A73 := Aside0.mk A730
                                      clear A730
                                      obtain ⟨y142, hy142⟩ : ∃ y_ : List (List Int), y_ = (x8_2.set (((rd_T42 l0_0 x47_2).f0) : Int).toNat t139) := ⟨_, rfl⟩
                                      replace H : (geyserlaw12_ReplayPlays.l0 kj31 t115 t118 true y142 (l0_0.length : Int) (wrap64 (x47_2 + 1)) l0_0 l0_1) = some r := by first | (rw [hy142]; with_reducible exact H) | (have H2_ := (Option.bind_some _ _).symm.trans H; rw [hy142]; with_reducible exact H2_) | (have H2_ := (Option.bind_some _ _).symm.trans H; with_reducible exact H2_) | with_reducible exact H | (rw [hy142]; exact H) | exact H
                                      have Ny142 := Aside0.mk hy142
                                      clear hy142
                                      have H' := Aside0.mk H
                                      clear H
                                      have hnb75 := NB127_111.out
                                      have hnc75 := NB111_127.out
                                      have hcz76_0 : wc.cell? ⟨gb127, 0, none⟩ = some (.int .i64 ((rd_T42 l0_0 x47_2).f0)) := (blk_cell BK127.out 0).trans rfl
                                      have hcz76_1 : wc.cell? ⟨gb127, 1, none⟩ = some (.int .i64 ((rd_T42 l0_0 x47_2).f1)) := (blk_cell BK127.out 1).trans rfl
                                      have hcz76_2 : wc.cell? ⟨gb127, 2, none⟩ = some (.int .u8 ((rd_T42 l0_0 x47_2).f2)) := (blk_cell BK127.out 2).trans rfl
                                      have hfz76_0 := blk_frozen BK127.out 0
                                      have hfz76_1 := blk_frozen BK127.out 1
                                      have hfz76_2 := blk_frozen BK127.out 2
                                      try go_wp2
                                      have n0_ := Aside0.mk (Kd.N_drew HO_5.out)
                                      have n1_ := Aside0.mk (Kd.N_drew HO_8.out)
                                      have n2_ := Aside0.mk (blk_drew BK111.out)
                                      have n3_ := Aside0.mk (blk_drew BK127.out)
                                      have n4_ := Aside0.mk (below_drew1 HB.out)
                                      clear HO_5
                                      clear HO_8
                                      clear BK111
                                      clear BK127
                                      clear HB
                                      have HO_5 := n0_
                                      have HO_8 := n1_
                                      have BK111 := n2_
                                      have BK127 := n3_
                                      have HB := n4_
                                      clear n0_ n1_ n2_ n3_ n4_
                                      obtain ⟨Ao78, co78, eo78⟩ := Kd.N_slice HO_8.out
                                      (first | subst eo78 | (injection eo78 with f1_ f2_ f3_; have f4_ := f1_.symm; have f5_ := f3_.symm; clear f1_ f2_ f3_; subst f4_; subst f5_))
                                      have p137 : 0 ≤ (((rd_T42 l0_0 x47_2).f0) : Int) := of_decide_eq_true (by first | (with_reducible assumption) | assumption)
                                      have q137 : ((rd_T42 l0_0 x47_2).f0) < (x8_2.length : Int) := of_decide_eq_true (by first | (with_reducible assumption) | assumption)
                                      obtain ⟨ad137, A137_0, c137_0, e137, hx137_0, hl137_0, hi137_0⟩ := at_L2 (Kd.N_reads' HO_8.out).2.2 ((rd_T42 l0_0 x47_2).f0) p137 q137
                                      cases e137
                                      obtain ⟨ce137, hce137, hMe137, hcc137⟩ := Kd.N_get HO_8.out [] ((rd_T42 l0_0 x47_2).f0) p137 (by first | exact q137 | exact of_decide_eq_true (by first | (with_reducible assumption) | assumption) | (have e_ := (Kd.N_reads' HO_8.out).1; omega))
                                      obtain ⟨ua137_0, uc137_0, rfl, ul137_0, ge137_0⟩ := Kd.FK_slice_open hMe137
                                      have hv137_0 := hcc137 0 _ rfl
                                      rw [Nat.add_zero, show ((Kd.slice 5 (Kd.int .u8))).sz = 1 from rfl, Nat.mul_one] at hv137_0
                                      replace hv137_0 := Option.some.inj (hv137_0.symm.trans hx137_0)
                                      injection hv137_0 with hva_ hvn_ hvc_
                                      rw [hva_] at ge137_0
                                      rw [hvc_] at ul137_0
                                      have HL137_0 := Aside0.mk (show Kd.V (Kd.int .u8) 5 _ w.heap.size _ _ (rd_L2 x8_2 ((rd_T42 l0_0 x47_2).f0)) from Kd.V_mk ul137_0 ge137_0)
                                      clear hva_ hvn_ hvc_ ge137_0 ul137_0
                                      clear hcc137 hce137
                                      have HR137_0 := Aside0.mk hi137_0
                                      have HC137_0 := Aside0.mk hl137_0
                                      clear hi137_0 hl137_0
                                      replace p137 := eq_true p137
                                      replace q137 := eq_true q137
                                      have p138 : 0 ≤ (((rd_T42 l0_0 x47_2).f1) : Int) := of_decide_eq_true (by first | (with_reducible assumption) | assumption)
                                      have q138 : ((rd_T42 l0_0 x47_2).f1) < (x8_2.length : Int) := of_decide_eq_true (by first | (with_reducible assumption) | assumption)
                                      obtain ⟨ad138, A138_0, c138_0, e138, hx138_0, hl138_0, hi138_0⟩ := at_L2 (Kd.N_reads' HO_8.out).2.2 ((rd_T42 l0_0 x47_2).f1) p138 q138
                                      obtain rfl : ad137 = ad138 := (by injection e138)
                                      obtain ⟨ce138, hce138, hMe138, hcc138⟩ := Kd.N_get HO_8.out [] ((rd_T42 l0_0 x47_2).f1) p138 (by first | exact q138 | exact of_decide_eq_true (by first | (with_reducible assumption) | assumption) | (have e_ := (Kd.N_reads' HO_8.out).1; omega))
                                      obtain ⟨ua138_0, uc138_0, rfl, ul138_0, ge138_0⟩ := Kd.FK_slice_open hMe138
                                      have hv138_0 := hcc138 0 _ rfl
                                      rw [Nat.add_zero, show ((Kd.slice 5 (Kd.int .u8))).sz = 1 from rfl, Nat.mul_one] at hv138_0
                                      replace hv138_0 := Option.some.inj (hv138_0.symm.trans hx138_0)
                                      injection hv138_0 with hva_ hvn_ hvc_
                                      rw [hva_] at ge138_0
                                      rw [hvc_] at ul138_0
                                      have HL138_0 := Aside0.mk (show Kd.V (Kd.int .u8) 5 _ w.heap.size _ _ (rd_L2 x8_2 ((rd_T42 l0_0 x47_2).f1)) from Kd.V_mk ul138_0 ge138_0)
                                      clear hva_ hvn_ hvc_ ge138_0 ul138_0
                                      clear hcc138 hce138
                                      have HR138_0 := Aside0.mk hi138_0
                                      have HC138_0 := Aside0.mk hl138_0
                                      clear hi138_0 hl138_0
                                      replace p138 := eq_true p138
                                      replace q138 := eq_true q138
                                      refine start_ (n := 18) (S := fun w' => w'.cell? ⟨gb127, 0, none⟩ = some (.int .i64 ((rd_T42 l0_0 x47_2).f0)) ∧ w'.cell? ⟨gb127, 1, none⟩ = some (.int .i64 ((rd_T42 l0_0 x47_2).f1)) ∧ w'.cell? ⟨gb127, 2, none⟩ = some (.int .u8 ((rd_T42 l0_0 x47_2).f2)) ∧ w'.cell? (ad137.add (((rd_T42 l0_0 x47_2).f0)).toNat) = some (.slice A137_0 (rd_L2 x8_2 ((rd_T42 l0_0 x47_2).f0)).length c137_0) ∧ w'.cell? (ad137.add (((rd_T42 l0_0 x47_2).f1)).toNat) = some (.slice A138_0 (rd_L2 x8_2 ((rd_T42 l0_0 x47_2).f1)).length c138_0)) (ds := [17]) #[false, false, false, false, false, false, false, false, false, false, false, false, false, false, false, false, false, false] (by kernel_rfl) rfl rfl ⟨(blk_cell BK127.out 0).trans rfl, (blk_cell BK127.out 1).trans rfl, (blk_cell BK127.out 2).trans rfl, hx137_0, hx138_0⟩ (fun hHeld => ?_); refine with_tabW geyserlaw12_ReplayPlays.tab14 geyserlaw12_ReplayPlays.bits14 (fun HT_ HW_ => ?_)
                                      generalize wc.drew = w77 at HO_5 HO_8 BK111 BK127 HB HL137_0 HL138_0 HR137_0 HR138_0 hx137_0 hx138_0 hHeld ⊢
                                      refine pure_ (i := 0) (N := some 106) (v := ?_) (a' := ?_) #[true, false, false, false, false, false, false, false, false, false, false, false, false, false, false, false, false, false] rfl rfl (any_of HT_.out (by kernel_rfl)) (fun _ _ _ h => h) (Or.inl ⟨by rfl, ?_⟩) ?_ ?_
                                      rotate_left
                                      · intro w'
                                        go_simp
                                        with_reducible rfl
                                      rotate_left
                                      · simp only [Act.put, List.setIfInBounds_toArray, List.set_cons_zero, List.set_cons_succ, i64_w, i32_w]
                                        rfl
                                      refine pure_ (i := 1) (N := some 107) (v := ?_) (a' := ?_) #[true, true, false, false, false, false, false, false, false, false, false, false, false, false, false, false, false, false] rfl rfl (any_of HT_.out (by kernel_rfl)) (fun _ _ _ h => h) (Or.inl ⟨by rfl, ?_⟩) ?_ ?_
                                      rotate_left
                                      · intro w'
                                        go_simp
                                        with_reducible rfl
                                      rotate_left
                                      · simp only [Act.put, List.setIfInBounds_toArray, List.set_cons_zero, List.set_cons_succ, i64_w, i32_w]
                                        rfl
                                      refine pure_ (i := 3) (N := some 109) (v := ?_) (a' := ?_) #[true, true, false, true, false, false, false, false, false, false, false, false, false, false, false, false, false, false] rfl rfl (any_of HT_.out (by kernel_rfl)) (fun _ _ _ h => h) (Or.inl ⟨by rfl, ?_⟩) ?_ ?_
                                      rotate_left
                                      · intro w'
                                        go_simp
                                        with_reducible rfl
                                      rotate_left
                                      · simp only [Act.put, List.setIfInBounds_toArray, List.set_cons_zero, List.set_cons_succ, i64_w, i32_w]
                                        rfl
                                      refine pure_ (i := 4) (N := some 110) (v := ?_) (a' := ?_) #[true, true, false, true, true, false, false, false, false, false, false, false, false, false, false, false, false, false] rfl rfl (any_of HT_.out (by kernel_rfl)) (fun _ _ _ h => h) (Or.inl ⟨by rfl, ?_⟩) ?_ ?_
                                      rotate_left
                                      · intro w'
                                        go_simp
                                        with_reducible rfl
                                      rotate_left
                                      · simp only [Act.put, List.setIfInBounds_toArray, List.set_cons_zero, List.set_cons_succ, i64_w, i32_w]
                                        rfl
                                      refine pure_ (i := 8) (N := some 114) (v := ?_) (a' := ?_) #[true, true, false, true, true, false, false, false, true, false, false, false, false, false, false, false, false, false] rfl rfl (any_of HT_.out (by kernel_rfl)) (fun _ _ _ h => h) (Or.inl ⟨by rfl, ?_⟩) ?_ ?_
                                      rotate_left
                                      · intro w'
                                        go_simp
                                        with_reducible rfl
                                      rotate_left
                                      · simp only [Act.put, List.setIfInBounds_toArray, List.set_cons_zero, List.set_cons_succ, i64_w, i32_w]
                                        rfl
                                      refine pure_ (i := 9) (N := some 115) (v := ?_) (a' := ?_) #[true, true, false, true, true, false, false, false, true, true, false, false, false, false, false, false, false, false] rfl rfl (any_of HT_.out (by kernel_rfl)) (fun _ _ _ h => h) (Or.inl ⟨by rfl, ?_⟩) ?_ ?_
                                      rotate_left
                                      · intro w'
                                        go_simp
                                        with_reducible rfl
                                      rotate_left
                                      · simp only [Act.put, List.setIfInBounds_toArray, List.set_cons_zero, List.set_cons_succ, i64_w, i32_w]
                                        rfl
                                      refine pure_ (i := 13) (N := some 119) (v := ?_) (a' := ?_) #[true, true, false, true, true, false, false, false, true, true, false, false, false, true, false, false, false, false] rfl rfl (any_of HT_.out (by kernel_rfl)) (fun _ _ _ h => h) (Or.inl ⟨by rfl, ?_⟩) ?_ ?_
                                      rotate_left
                                      · intro w'
                                        go_simp
                                        with_reducible rfl
                                      rotate_left
                                      · simp only [Act.put, List.setIfInBounds_toArray, List.set_cons_zero, List.set_cons_succ, i64_w, i32_w]
                                        rfl
                                      refine take_ (i := 2) (N := some 108) (v := ?_) (a' := ?_) #[true, true, true, true, true, false, false, false, true, true, false, false, false, true, false, false, false, false] rfl rfl (take_ofW HT_.out HW_.out (by kernel_rfl)) (fun _ _ _ h => h) (Or.inl ⟨by rfl, ?_⟩) hHeld ?_ ?_
                                      rotate_left
                                      · rintro w' ⟨s0, s1, s2, s3, s4⟩
                                        go_simp
                                        with_reducible rfl
                                      rotate_left
                                      · simp only [Act.put, List.setIfInBounds_toArray, List.set_cons_zero, List.set_cons_succ, i64_w, i32_w]
                                        rfl
                                      refine take_ (i := 5) (N := some 111) (v := ?_) (a' := ?_) #[true, true, true, true, true, true, false, false, true, true, false, false, false, true, false, false, false, false] rfl rfl (take_ofW HT_.out HW_.out (by kernel_rfl)) (fun _ _ _ h => h) (Or.inl ⟨by rfl, ?_⟩) hHeld ?_ ?_
                                      rotate_left
                                      · rintro w' ⟨s0, s1, s2, s3, s4⟩
                                        go_simp
                                        with_reducible rfl
                                      rotate_left
                                      · simp only [Act.put, List.setIfInBounds_toArray, List.set_cons_zero, List.set_cons_succ, i64_w, i32_w]
                                        rfl
                                      refine pure_ (i := 6) (N := some 112) (v := ?_) (a' := ?_) #[true, true, true, true, true, true, true, false, true, true, false, false, false, true, false, false, false, false] rfl rfl (any_of HT_.out (by kernel_rfl)) (fun _ _ _ h => h) (Or.inl ⟨by rfl, ?_⟩) ?_ ?_
                                      rotate_left
                                      · intro w'
                                        go_simp
                                        with_reducible rfl
                                      rotate_left
                                      · simp only [Act.put, List.setIfInBounds_toArray, List.set_cons_zero, List.set_cons_succ, i64_w, i32_w]
                                        rfl
                                      refine take_ (i := 7) (N := some 113) (v := ?_) (a' := ?_) #[true, true, true, true, true, true, true, true, true, true, false, false, false, true, false, false, false, false] rfl rfl (take_ofW HT_.out HW_.out (by kernel_rfl)) (fun _ _ _ h => h) (Or.inl ⟨by rfl, ?_⟩) hHeld ?_ ?_
                                      rotate_left
                                      · rintro w' ⟨s0, s1, s2, s3, s4⟩
                                        go_simp
                                        with_reducible rfl
                                      rotate_left
                                      · simp only [Act.put, List.setIfInBounds_toArray, List.set_cons_zero, List.set_cons_succ, i64_w, i32_w]
                                        rfl
                                      refine take_ (i := 10) (N := some 116) (v := ?_) (a' := ?_) #[true, true, true, true, true, true, true, true, true, true, true, false, false, true, false, false, false, false] rfl rfl (take_ofW HT_.out HW_.out (by kernel_rfl)) (fun _ _ _ h => h) (Or.inl ⟨by rfl, ?_⟩) hHeld ?_ ?_
                                      rotate_left
                                      · rintro w' ⟨s0, s1, s2, s3, s4⟩
                                        go_simp
                                        with_reducible rfl
                                      rotate_left
                                      · simp only [Act.put, List.setIfInBounds_toArray, List.set_cons_zero, List.set_cons_succ, i64_w, i32_w]
                                        rfl
                                      refine pure_ (i := 11) (N := some 117) (v := ?_) (a' := ?_) #[true, true, true, true, true, true, true, true, true, true, true, true, false, true, false, false, false, false] rfl rfl (any_of HT_.out (by kernel_rfl)) (fun _ _ _ h => h) (Or.inl ⟨by rfl, ?_⟩) ?_ ?_
                                      rotate_left
                                      · intro w'
                                        go_simp
                                        with_reducible rfl
                                      rotate_left
                                      · simp only [Act.put, List.setIfInBounds_toArray, List.set_cons_zero, List.set_cons_succ, i64_w, i32_w]
                                        rfl
                                      refine take_ (i := 12) (N := some 118) (v := ?_) (a' := ?_) #[true, true, true, true, true, true, true, true, true, true, true, true, true, true, false, false, false, false] rfl rfl (take_ofW HT_.out HW_.out (by kernel_rfl)) (fun _ _ _ h => h) (Or.inl ⟨by rfl, ?_⟩) hHeld ?_ ?_
                                      rotate_left
                                      · rintro w' ⟨s0, s1, s2, s3, s4⟩
                                        go_simp
                                        with_reducible rfl
                                      rotate_left
                                      · simp only [Act.put, List.setIfInBounds_toArray, List.set_cons_zero, List.set_cons_succ, i64_w, i32_w]
                                        rfl
                                      refine take_ (i := 14) (N := some 120) (v := ?_) (a' := ?_) #[true, true, true, true, true, true, true, true, true, true, true, true, true, true, true, false, false, false] rfl rfl (take_ofW HT_.out HW_.out (by kernel_rfl)) (fun _ _ _ h => h) (Or.inl ⟨by rfl, ?_⟩) hHeld ?_ ?_
                                      rotate_left
                                      · rintro w' ⟨s0, s1, s2, s3, s4⟩
                                        go_simp
                                        with_reducible rfl
                                      rotate_left
                                      · simp only [Act.put, List.setIfInBounds_toArray, List.set_cons_zero, List.set_cons_succ, i64_w, i32_w]
                                        rfl
                                      refine one_ (i := 15) (N := some 121) #[true, true, true, true, true, true, true, true, true, true, true, true, true, true, true, true, false, false] rfl rfl (one_of HT_.out (by kernel_rfl)) (by decide) (fun K hK => ?_)
                                      refine goes_ Try.func20 (by kernel_rfl) rfl #[.slice A137_0 (rd_L2 x8_2 ((rd_T42 l0_0 x47_2).f0)).length c137_0, .slice A138_0 (rd_L2 x8_2 ((rd_T42 l0_0 x47_2).f1)).length c138_0, .int .u8 ((rd_T42 l0_0 x47_2).f2)] (by rfl) rfl rfl (by (try simp only [List.map_toArray, List.map_cons, List.map_nil]); first | done | rfl | (simp only [List.length_drop, List.length_take]; rfl)) ?_
                                      with_reducible refine (geyserref03_Plus.calls kj31 _ _ (rd_L2 x8_2 ((rd_T42 l0_0 x47_2).f0)) _ _ (rd_L2 x8_2 ((rd_T42 l0_0 x47_2).f1)) ((rd_T42 l0_0 x47_2).f2) t139 _ ?side1 ?side2 ?side3 ?side4 A73.out).mono ?_
                                      (case side1 => repeat (first | exact (by repeat (first | (with_reducible exact HR137_0.out) | (with_reducible refine Kd.C_alloc ?_ _) | (with_reducible refine Kd.C_drewN ?_ _) | (with_reducible refine Kd.C_drew ?_) | exact HR137_0.out)) | (with_reducible refine Kd.C_alloc ?_ _) | (with_reducible refine Kd.C_drewN ?_ _) | (with_reducible refine Kd.C_drew ?_)))
                                      (case side2 => exact HC137_0.out)
                                      (case side3 => repeat (first | exact (by repeat (first | (with_reducible exact HR138_0.out) | (with_reducible refine Kd.C_alloc ?_ _) | (with_reducible refine Kd.C_drewN ?_ _) | (with_reducible refine Kd.C_drew ?_) | exact HR138_0.out)) | (with_reducible refine Kd.C_alloc ?_ _) | (with_reducible refine Kd.C_drewN ?_ _) | (with_reducible refine Kd.C_drew ?_)))
                                      (case side4 => exact HC138_0.out)
                                      rintro e w79 ⟨v140, rfl, ho0, hb⟩
                                      have HS3_ := (hb.cell (World.block_lt_of_cell? _ _ (hHeld.2.2.2.1))).trans (hHeld.2.2.2.1)
                                      have HS4_ := (hb.cell (World.block_lt_of_cell? _ _ (hHeld.2.2.2.2))).trans (hHeld.2.2.2.2)
                                      refine ⟨_, rfl, ?_⟩
                                      have n0_ := Aside0.mk (Kd.N_elder' (by (with_reducible repeat (first | apply Kd.N_alloc | apply Kd.N_drewN | apply Kd.N_drew)); exact HO_5.out) (Kd.R_base ho0) hb)
                                      have n1_ := Aside0.mk (Kd.N_elder' (by (with_reducible repeat (first | apply Kd.N_alloc | apply Kd.N_drewN | apply Kd.N_drew)); exact HO_8.out) (Kd.R_base ho0) hb)
                                      have n2_ := Aside0.mk (Kd.V_elder' (by (with_reducible repeat (first | apply Kd.V_alloc | apply Kd.V_drewN | apply Kd.V_drew)); exact HL137_0.out) (Kd.R_base ho0) hb)
                                      have n3_ := Aside0.mk (Kd.V_elder' (by (with_reducible repeat (first | apply Kd.V_alloc | apply Kd.V_drewN | apply Kd.V_drew)); exact HL138_0.out) (Kd.R_base ho0) hb)
                                      have n4_ := Aside0.mk (Kd.R_lower (Kd.R_newM (M := fun k_ => (w.heap.size ≤ k_)) ho0 (below_size (by repeat (first | (with_reducible first | exact HB.out | apply below_alloc | apply pw_below_drewN | apply below_drew1 | refine below_set ?_ GE111.out | refine below_set ?_ GE127.out) | exact HB.out))) (fun k_ h_ => h_)) (below_size (by repeat (first | (with_reducible first | exact HB.out | apply below_alloc | apply pw_below_drewN | apply below_drew1 | refine below_set ?_ GE111.out | refine below_set ?_ GE127.out) | exact HB.out))))
                                      have n5_ := Aside0.mk (blk_below (g := gb111) (o := .cells #[.slice (some ad126) l0_0.length c0_0, .slice A0_1 l0_1.length c0_1] 38 (0, 0)) (by (with_reducible repeat (first | refine blk_drewN ?_ _ | refine blk_drew ?_ | refine blk_alloc ?_ _)); exact BK111.out) hb)
                                      have n6_ := Aside0.mk (blk_below (g := gb127) (o := .cells #[.int .i64 ((rd_T42 l0_0 x47_2).f0), .int .i64 ((rd_T42 l0_0 x47_2).f1), .int .u8 ((rd_T42 l0_0 x47_2).f2)] 42 (0, 0)) (by (with_reducible repeat (first | refine blk_drewN ?_ _ | refine blk_drew ?_ | refine blk_alloc ?_ _)); exact BK127.out) hb)
                                      have n7_ := Aside0.mk (Kd.C_below (by repeat (first | (with_reducible exact HR137_0.out) | (with_reducible refine Kd.C_alloc ?_ _) | (with_reducible refine Kd.C_drewN ?_ _) | (with_reducible refine Kd.C_drew ?_) | exact HR137_0.out)) hb)
                                      have n8_ := Aside0.mk (Kd.C_below (by repeat (first | (with_reducible exact HR138_0.out) | (with_reducible refine Kd.C_alloc ?_ _) | (with_reducible refine Kd.C_drewN ?_ _) | (with_reducible refine Kd.C_drew ?_) | exact HR138_0.out)) hb)
                                      have n9_ := Aside0.mk (below_step (by repeat (first | (with_reducible first | exact HB.out | apply below_alloc | apply pw_below_drewN | apply below_drew1 | refine below_set ?_ GE111.out | refine below_set ?_ GE127.out) | exact HB.out)) hb)
                                      clear HO_5
                                      clear HO_8
                                      clear HL137_0
                                      clear HL138_0
                                      clear BK111
                                      clear BK127
                                      clear HR137_0
                                      clear HR138_0
                                      clear HB
                                      have HO_5 := n0_
                                      have HO_8 := n1_
                                      have HL137_0 := n2_
                                      have HL138_0 := n3_
                                      have HO141 := n4_
                                      obtain ⟨Aq_v140, cq_v140, eq_v140⟩ := Kd.R_slice HO141.out
                                      subst eq_v140
                                      have BK111 := n5_
                                      have BK127 := n6_
                                      have HR137_0 := n7_
                                      have HR138_0 := n8_
                                      have HB := n9_
                                      clear n0_ n1_ n2_ n3_ n4_ n5_ n6_ n7_ n8_ n9_
                                      (try clear hb)
                                      (try clear hb2)
                                      (try clear hk)
                                      (try clear hi)
                                      (try clear ho0)
                                      have p74 : 0 ≤ (((rd_T42 l0_0 x47_2).f0) : Int) := of_decide_eq_true (by first | (with_reducible assumption) | assumption)
                                      have q74 : (((rd_T42 l0_0 x47_2).f0) : Int) < ((x8_2.length : Int) : Int) := of_decide_eq_true (by first | (with_reducible assumption) | assumption)
                                      obtain ⟨go74, co74, eo74, gb74, gl74, cl74, HG74⟩ := Kd.N_form HO_8.out (by omega)
                                      (first | cases eo74 | (injection eo74 with ea_ en_ ec_; (first | subst ea_ | (injection ea_ with ea_; subst ea_)); subst ec_; clear en_))
                                      have GB74 := Aside0.mk gb74
                                      have GG74 := Aside0.mk HG74
                                      clear gb74 gl74 HG74
                                      (first | simp only [add_plain] at hx137_0 | skip)
                                      (first | simp only [add_plain] at hx138_0 | skip)
                                      obtain ⟨ce74, hcl74, hM74, hcc74, hfr74⟩ := Kd.N_elem HO_8.out [] (((rd_T42 l0_0 x47_2).f0) : Int) p74 q74
                                      obtain ⟨ua74_0, uc74_0, rfl, ul74_0, ge74_0⟩ := Kd.FK_slice_open hM74
                                      have hx74_0 := hcc74 0 _ rfl
                                      have hf74_0 := hfr74 0
                                      (try simp only [show ((Kd.slice 5 (Kd.int .u8))).sz = 1 from rfl, Nat.mul_one, Nat.add_zero] at hx74_0)
                                      (try simp only [show ((Kd.slice 5 (Kd.int .u8))).sz = 1 from rfl, Nat.mul_one, Nat.add_zero] at hf74_0)
                                      (try clear hM74); clear hcl74 hcc74 hfr74
                                      replace p74 := eq_true p74
                                      replace q74 := eq_true q74
                                      have HX80 := Aside0.mk (show Kd.N (Kd.slice 5 (Kd.int .u8)) 31 _ w.heap.size (fun k_ => (P1_ k_ ∨ w.heap.size ≤ k_) ∧ some k_ ≠ (v116 : Value).ownBlock ∧ some k_ ≠ ((.slice Aq_v140 t139.length cq_v140) : Value).ownBlock ∧ k_ ≠ gb111 ∧ k_ ≠ gb127) (.slice (some ⟨go74, 0, none⟩) x8_2.length co78) x8_2 from (Kd.N_mono (HO_8.out) (fun k_ hk => ⟨hk.1.1, ⟨hk.1.2.1, ⟨hk.2, ⟨hk.1.2.2.1, hk.1.2.2.2⟩⟩⟩⟩)))
                                      replace HX80 := Aside0.mk (show Kd.N (Kd.slice 5 (Kd.int .u8)) 31 _ w.heap.size (fun k_ => (P1_ k_ ∨ w.heap.size ≤ k_) ∧ some k_ ≠ (v116 : Value).ownBlock ∧ k_ ≠ gb111 ∧ k_ ≠ gb127) (.slice (some ⟨go74, 0, none⟩) x8_2.length co78) x8_2 from Kd.N_mono HX80.out (fun k_ hk => ⟨hk.1, ⟨hk.2.1, ⟨hk.2.2.2.1, hk.2.2.2.2⟩⟩⟩))
                                      obtain ⟨ce80, hcl80, hM80, hcc80, hfr80⟩ := Kd.N_elem HX80.out [] (((rd_T42 l0_0 x47_2).f0) : Int) (of_decide_eq_true (by first | (with_reducible assumption) | assumption)) (by have h_ : (((rd_T42 l0_0 x47_2).f0) : Int) < ((x8_2.length : Int) : Int) := of_decide_eq_true (by first | (with_reducible assumption) | assumption); first | exact h_ | (have e_ := (Kd.N_reads' HO_8.out).1; omega) | simpa using h_)
                                      obtain ⟨ua80_0, uc80_0, rfl, ul80_0, ge80_0⟩ := Kd.FK_slice_open hM80
                                      have HP80 := (Kd.N_seg HX80.out (((rd_T42 l0_0 x47_2).f0) : Int) (of_decide_eq_true (by first | (with_reducible assumption) | assumption)) (by have h_ : (((rd_T42 l0_0 x47_2).f0) : Int) < ((x8_2.length : Int) : Int) := of_decide_eq_true (by first | (with_reducible assumption) | assumption); first | exact h_ | (have e_ := (Kd.N_reads' HO_8.out).1; omega) | simpa using h_) (seg := [(.slice Aq_v140 t139.length cq_v140)]) (j := 0) hcl80 hcc80 (show 1 ≤ 1 from by decide) (x' := t139) (FK_own (Kd.R_mono (ok' := (fun k_ => ((fun k_ => (P1_ k_ ∨ w.heap.size ≤ k_) ∧ some k_ ≠ (v116 : Value).ownBlock ∧ k_ ≠ gb111 ∧ k_ ≠ gb127)) k_ ∧ k_ ≠ go74)) (Kd.R_types (Kd.R_types (Kd.R_apart' (Kd.R_apart' (HO141.out) (Kd.N_typed HO_5.out) (by decide)) (Kd.N_typed HO_8.out) (by decide)) BK111.out (by decide)) BK127.out (by decide)) (fun k_ hk => ⟨⟨(.inr (hk.1.1.1.1.1)), ⟨hk.1.1.1.2, ⟨hk.1.2, hk.2⟩⟩⟩, fun e_ => (hk.1.1.2) (by rw [e_]; rfl)⟩))) (fun _ hk => hk)).1
                                      (try simp only [show ((Kd.slice 5 (Kd.int .u8))).sz = 1 from rfl, Nat.mul_one, Nat.add_zero] at HP80)
                                      rw [← Ny142.out] at HP80
                                      have HQ80 := Aside0.mk HP80
                                      (try clear hM80); clear hcl80 hcc80 hfr80 HP80
                                      refine hK.out _ _ ⟨(blk_cell BK127.out 0).trans rfl, (blk_cell BK127.out 1).trans rfl, (blk_cell BK127.out 2).trans rfl, HS3_, HS4_⟩ (fun hHeld => ?_)
                                      clear hK K
                                      refine norm_ (a' := ?_) ?_ ?_
                                      rotate_left
                                      · show Act.put _ (some 121) _ = _
                                        simp only [Act.put, List.setIfInBounds_toArray, List.set_cons_zero, List.set_cons_succ, i64_w, i32_w]
                                        rfl
                                      refine pure_ (i := 16) (N := some 122) (v := ?_) (a' := ?_) #[true, true, true, true, true, true, true, true, true, true, true, true, true, true, true, true, true, false] rfl rfl (any_of HT_.out (by kernel_rfl)) (fun _ _ _ h => h) (Or.inl ⟨by rfl, ?_⟩) ?_ ?_
                                      rotate_left
                                      · intro w'
                                        go_simp
                                        with_reducible rfl
                                      rotate_left
                                      · simp only [Act.put, List.setIfInBounds_toArray, List.set_cons_zero, List.set_cons_succ, i64_w, i32_w]
                                        rfl
                                      refine last_ (i := 17) (N := none) #[true, true, true, true, true, true, true, true, true, true, true, true, true, true, true, true, true, true] rfl rfl (one_of HT_.out (by kernel_rfl)) (by decide) (fun K hK => ?_)
                                      refine skip_ (w1 := ?_) (by rfl) rfl ?_ ?_
                                      rotate_left
                                      · go_simp
                                        rfl
                                      refine hK.out _ _ ?_
                                      clear hK K
                                      refine done_ (done_of HT_.out (by kernel_rfl)) ?_
                                      try go_wp2
                                      go_roundg kj31
                                      case measure => have := HJ2.out; have := HK2.out; have := HJ31.out; omega
                                      case rel => exact ⟨(true), (y142), (wrap64 (x47_2 + 1)), (by first | rfl | (simp; done) | (simp [*]; done)), (by first | rfl | (simp; done) | (simp [*]; done)), H', ⟨by have := HJ2.out; have := HK2.out; have := HJ31.out; omega⟩, ⟨by (with_reducible repeat (first | apply Kd.N_alloc | apply Kd.N_drewN | apply Kd.N_drew)); exact Kd.N_mono (Kd.N_far (p := ⟨go74, (((rd_T42 l0_0 x47_2).f0) : Int).toNat, none⟩) (Kd.N_mono HO_5.out (fun k_ hk => (⟨hk, fun e_ => hk.1.2.1 (by rw [e_]; rfl)⟩ : _ ∧ k_ ≠ go74))) (fun _ hk => hk.2) ((.slice Aq_v140 t139.length cq_v140))) (fun _ hk => ⟨hk.1.1.1, ⟨hk.1.1.2.1, hk.1.1.2.2.1⟩⟩)⟩, ⟨by (with_reducible repeat (first | apply Kd.N_alloc | apply Kd.N_drewN | apply Kd.N_drew)); exact Kd.N_mono HQ80.out (fun _ hk => ⟨hk.1, ⟨hk.2.1, hk.2.2.1⟩⟩)⟩, ⟨by (with_reducible repeat (first | refine blk_drewN ?_ _ | refine blk_drew ?_ | refine blk_alloc ?_ _)); refine blk_far ?_ (by have h_ := Kd.N_away HO_8.out (fun _ hk => by first | exact hk.2.2.1 | exact hk.2.2.1 | exact hk.2.1 | exact hk.2.2.2 | exact hk.2.2 | exact hk.1.1.2.2.1 | exact hk.1.2.2.1 | exact hk.1.2.1 | exact hk.1.2.2 | exact hk.2); intro e_; exact h_ (by rw [e_]; rfl)) _; (with_reducible repeat (first | refine blk_drewN ?_ _ | refine blk_drew ?_ | refine blk_alloc ?_ _)); exact BK111.out⟩, ⟨by repeat (first | (with_reducible first | exact HB.out | apply below_alloc | apply pw_below_drewN | apply below_drew1 | refine below_set ?_ GB74.out | refine below_set ?_ GE111.out | refine below_set ?_ GE127.out) | exact HB.out)⟩⟩
                                    · rw [if_neg c72] at H
                                      exact absurd H (by simp)
                                  · rw [if_neg c71] at H
                                    exact absurd H (by simp)
                                · rw [if_neg c70] at H
                                  exact absurd H (by simp)
                              · rw [if_neg c69] at H
                                exact absurd H (by simp)
                          · replace c52 := Bool.eq_false_iff.mpr c52
                            subst c52
                            have H1 : (geyserlaw12_ReplayPlays.j3 kj31 t115 t118 false x8_2 l0_0 l0_1) = some r := by rw [if_neg (show ¬ (false = true) by decide)] at H; exact H
                            clear H
                            have H := H1
                            clear H1
                            have H' := Aside0.mk H
                            clear H
                            go_wp2
                            go_meet
                            case rel => exact ⟨_, (false), (x8_2), (by first | rfl | (simp; done) | (simp [*]; done)), H', ⟨by have := HJ2.out; have := HK2.out; have := HJ31.out; first | omega | exact Nat.le_refl _⟩, ⟨by (with_reducible repeat (first | apply Kd.N_alloc | apply Kd.N_drewN | apply Kd.N_drew)); exact Kd.N_mono HO_5.out (fun _ hk => ⟨hk.1, ⟨hk.2.1, hk.2.2.1⟩⟩)⟩, ⟨by (with_reducible repeat (first | apply Kd.N_alloc | apply Kd.N_drewN | apply Kd.N_drew)); exact Kd.N_mono HO_8.out (fun _ hk => ⟨hk.1, ⟨hk.2.1, hk.2.2.1⟩⟩)⟩, ⟨by (with_reducible repeat (first | refine blk_drewN ?_ _ | refine blk_drew ?_ | refine blk_alloc ?_ _)); exact BK111.out⟩, ⟨by repeat (first | (with_reducible first | exact HB.out | apply below_alloc | apply pw_below_drewN | apply below_drew1 | refine below_set ?_ GE111.out | refine below_set ?_ GE127.out) | exact HB.out)⟩⟩
                    · rw [if_neg c31] at H
                      exact absurd H (by simp)
                  · rw [if_neg c30] at H
                    exact absurd H (by simp)
                · rw [if_neg c29] at H
                  have c29b0 : decide (x47_2 < (l0_0.length : Int)) = false := decide_eq_false c29
                  clear c29
                  (first | rw [c29b0] | (simp only [i64_w, i32_w]; rw [c29b0]) | skip)
                  have H' := Aside0.mk H
                  clear H
                  go_wp2
                  go_meet
                  case rel => exact ⟨_, (x7_2), (x8_2), (by first | rfl | (simp; done) | (simp [*]; done)), H', ⟨by have := HJ2.out; have := HK2.out; first | omega | exact Nat.le_refl _⟩, ⟨by (with_reducible repeat (first | apply Kd.N_alloc | apply Kd.N_drewN | apply Kd.N_drew)); exact HO_5.out⟩, ⟨by (with_reducible repeat (first | apply Kd.N_alloc | apply Kd.N_drewN | apply Kd.N_drew)); exact HO_8.out⟩, ⟨by (with_reducible repeat (first | refine blk_drewN ?_ _ | refine blk_drew ?_ | refine blk_alloc ?_ _)); exact BK111.out⟩, ⟨by repeat (first | (with_reducible first | exact HB.out | apply below_alloc | apply pw_below_drewN | apply below_drew1 | refine below_set ?_ GE111.out) | exact HB.out)⟩⟩
          case rest =>
            clear HC22
            try clear c1
            try clear p1
            try clear q1
            try clear hx1
            try clear c2
            try clear p2
            try clear c3
            try clear c5
            try clear p5
            try clear q5
            try clear hx5
            try clear hf5
            try clear c6
            try clear p6
            try clear c7
            try clear p7
            try clear q7
            try clear hx7
            try clear hf7
            try clear c8
            try clear c12
            try clear hx12
            try clear c13
            try clear p13
            try clear q13
            try clear hx13
            try clear c20
            try clear c29
            try clear c29b0
            try clear c30
            try clear c31
            try clear c52
            try clear c53
            try clear c53b0
            try clear c53b1
            try clear c54
            try clear c55
            try clear c56
            try clear c57
            try clear c59
            try clear p59
            try clear q59
            try clear hx59
            try clear hf59
            try clear p64
            try clear c68
            try clear c69
            try clear c69b0
            try clear c70
            try clear c70b0
            try clear c71
            try clear c71b0
            try clear c72
            try clear c72b0
            try clear c74
            try clear p74
            try clear q74
            try clear hx74
            try clear hf74
            try clear c75
            try clear c80
            try clear hcz76_0
            try clear hcz76_1
            try clear hcz76_2
            try clear hfz76_0
            try clear hfz76_1
            try clear hfz76_2
            try clear hx128_0
            try clear hx132_0
            try clear hx137_0
            try clear hx138_0
            try clear hx59_0
            try clear hx74_0
            try clear p137
            try clear p138
            try clear p59
            try clear p74
            try clear q137
            try clear q138
            try clear q59
            try clear q74
            obtain ⟨kq, x7_21, x8_21, rfl, HA, HJ21, HO_5, HO_8, BK111, HB⟩ := hcut
            cases kq with
            | zero => exact absurd HA.out (by simp [geyserlaw12_ReplayPlays.j3])
            | succ kj21 =>
              have H := HA.out
              clear HA
              simp only [geyserlaw12_ReplayPlays.j3] at H
              have H' := Aside0.mk H
              clear H
              have hcz81_0 : wc.cell? ⟨gb111, 0, none⟩ = some (.slice A0_0 l0_0.length c0_0) := (blk_cell BK111.out 0).trans rfl
              have hcz81_1 : wc.cell? ⟨gb111, 1, none⟩ = some (.slice A0_1 l0_1.length c0_1) := (blk_cell BK111.out 1).trans rfl
              have hfz81_0 := blk_frozen BK111.out 0
              have hfz81_1 := blk_frozen BK111.out 1
              go_wp2
              go_loopg [7, 127] kj21 (fun kq v7 v127 w' => ∃ (x7_3 : Bool) (x127_3 : Int), v7 = .bool x7_3 ∧ v127 = .int .i64 x127_3 ∧ Aside0 (geyserlaw12_ReplayPlays.l1 kq t115 t118 x7_3 x8_21 (l0_1.length : Int) x127_3 l0_0 l0_1 = some r) ∧ Aside0 (kq ≤ kj21) ∧ Aside0 (Kd.N (Kd.slice 5 (Kd.int .u8)) 31 w' w.heap.size (fun k_ => (P1_ k_ ∨ w.heap.size ≤ k_) ∧ some k_ ≠ (v124 : Value).ownBlock ∧ k_ ≠ gb111) v116 t115) ∧ Aside0 (Kd.N (Kd.slice 5 (Kd.int .u8)) 31 w' w.heap.size (fun k_ => (P1_ k_ ∨ w.heap.size ≤ k_) ∧ some k_ ≠ (v116 : Value).ownBlock ∧ k_ ≠ gb111) v124 x8_21) ∧ Aside0 (w'.heap[gb111]? = some (.cells #[(.slice A0_0 l0_0.length c0_0), (.slice A0_1 l0_1.length c0_1)] 38 (0, 0))) ∧ Aside0 (Below w.heap.size w w'))
              case atStart => exact ⟨(x7_21), (0), (by first | rfl | (simp; done) | (simp [*]; done)), (by first | rfl | (simp; done) | (simp [*]; done)), H', ⟨Nat.le_refl _⟩, ⟨by (with_reducible repeat (first | apply Kd.N_alloc | apply Kd.N_drewN | apply Kd.N_drew)); exact HO_5.out⟩, ⟨by (with_reducible repeat (first | apply Kd.N_alloc | apply Kd.N_drewN | apply Kd.N_drew)); exact HO_8.out⟩, ⟨by (with_reducible repeat (first | refine blk_drewN ?_ _ | refine blk_drew ?_ | refine blk_alloc ?_ _)); exact BK111.out⟩, ⟨by repeat (first | (with_reducible first | exact HB.out | apply below_alloc | apply pw_below_drewN | apply below_drew1 | refine below_set ?_ GE111.out) | exact HB.out)⟩⟩
              case round =>
                clear H'
                try clear c1
                try clear p1
                try clear q1
                try clear hx1
                try clear c2
                try clear p2
                try clear c3
                try clear c5
                try clear p5
                try clear q5
                try clear hx5
                try clear hf5
                try clear c6
                try clear p6
                try clear c7
                try clear p7
                try clear q7
                try clear hx7
                try clear hf7
                try clear c8
                try clear c12
                try clear hx12
                try clear c13
                try clear p13
                try clear q13
                try clear hx13
                try clear c20
                try clear c29
                try clear c29b0
                try clear c30
                try clear c31
                try clear c52
                try clear c53
                try clear c53b0
                try clear c53b1
                try clear c54
                try clear c55
                try clear c56
                try clear c57
                try clear c59
                try clear p59
                try clear q59
                try clear hx59
                try clear hf59
                try clear p64
                try clear c68
                try clear c69
                try clear c69b0
                try clear c70
                try clear c70b0
                try clear c71
                try clear c71b0
                try clear c72
                try clear c72b0
                try clear c74
                try clear p74
                try clear q74
                try clear hx74
                try clear hf74
                try clear c75
                try clear c80
                try clear hcz76_0
                try clear hcz76_1
                try clear hcz76_2
                try clear hcz81_0
                try clear hcz81_1
                try clear hfz76_0
                try clear hfz76_1
                try clear hfz76_2
                try clear hfz81_0
                try clear hfz81_1
                try clear hx128_0
                try clear hx132_0
                try clear hx137_0
                try clear hx138_0
                try clear hx59_0
                try clear hx74_0
                try clear p1
                try clear p13
                try clear p137
                try clear p138
                try clear p2
                try clear p5
                try clear p59
                try clear p6
                try clear p64
                try clear p7
                try clear p74
                try clear q1
                try clear q13
                try clear q137
                try clear q138
                try clear q5
                try clear q59
                try clear q7
                try clear q74
                obtain ⟨x7_3, x127_3, rfl, rfl, HA, HK3, HO_5, HO_8, BK111, HB⟩ := hrel
                cases gk with
                | zero => exact absurd HA.out (by simp [geyserlaw12_ReplayPlays.l1])
                | succ k3 =>
                  have H := HA.out
                  clear HA
                  simp only [geyserlaw12_ReplayPlays.l1] at H
                  by_cases c82 : x127_3 < (l0_1.length : Int)
                  · rw [if_pos c82] at H
                    have c82b0 : decide (x127_3 < (l0_1.length : Int)) = true := decide_eq_true c82
                    clear c82
                    by_cases c83 : x7_3 = true
                    · subst c83
                      have H1 : (if 0 ≤ x127_3 then (if x127_3 < (l0_1.length : Int) then (if (rd l0_1 x127_3) ≥ 0 then (geyserlaw12_ReplayPlays.l1 k3 t115 t118 (decide ((rd l0_1 x127_3) < (x8_21.length : Int))) x8_21 (l0_1.length : Int) (wrap64 (x127_3 + 1)) l0_0 l0_1) else (geyserlaw12_ReplayPlays.l1 k3 t115 t118 false x8_21 (l0_1.length : Int) (wrap64 (x127_3 + 1)) l0_0 l0_1)) else (none)) else (none)) = some r := by rw [if_pos rfl] at H; exact H
                      clear H
                      have H := H1
                      clear H1
                      by_cases c84 : 0 ≤ x127_3
                      · rw [if_pos c84] at H
                        have c84b0 : decide (0 ≤ x127_3) = true := decide_eq_true c84
                        clear c84
                        by_cases c85 : x127_3 < (l0_1.length : Int)
                        · rw [if_pos c85] at H
                          have c85b0 : decide (x127_3 < (l0_1.length : Int)) = true := decide_eq_true c85
                          clear c85
                          by_cases c86 : (rd l0_1 x127_3) ≥ 0
                          · rw [if_pos c86] at H
                            have c86b0 : decide (0 ≤ (rd l0_1 x127_3)) = true := decide_eq_true c86
                            clear c86
                            have H' := Aside0.mk H
                            clear H
                            have hcz87_0 : wr.cell? ⟨gb111, 0, none⟩ = some (.slice A0_0 l0_0.length c0_0) := (blk_cell BK111.out 0).trans rfl
                            have hcz87_1 : wr.cell? ⟨gb111, 1, none⟩ = some (.slice A0_1 l0_1.length c0_1) := (blk_cell BK111.out 1).trans rfl
                            have hfz87_0 := blk_frozen BK111.out 0
                            have hfz87_1 := blk_frozen BK111.out 1
                            have p143 : 0 ≤ (x127_3 : Int) := of_decide_eq_true (by first | (with_reducible assumption) | assumption)
                            have q143 : x127_3 < (l0_1.length : Int) := of_decide_eq_true (by first | (with_reducible assumption) | assumption)
                            obtain ⟨ad143, e143, hx143_0⟩ := Kd.at_int HR0_1.out x127_3 p143 q143
                            cases e143
                            (first | (replace hx143_0 := (HB.out.cell (World.block_lt_of_cell? w _ hx143_0)).trans hx143_0) | skip)
                            replace p143 := eq_true p143
                            replace q143 := eq_true q143
                            have p144 : 0 ≤ (x127_3 : Int) := of_decide_eq_true (by first | (with_reducible assumption) | assumption)
                            have q144 : x127_3 < (l0_1.length : Int) := of_decide_eq_true (by first | (with_reducible assumption) | assumption)
                            obtain ⟨ad144, e144, hx144_0⟩ := Kd.at_int HR0_1.out x127_3 p144 q144
                            obtain rfl : ad143 = ad144 := (by injection e144)
                            (first | (replace hx144_0 := (HB.out.cell (World.block_lt_of_cell? w _ hx144_0)).trans hx144_0) | skip)
                            replace p144 := eq_true p144
                            replace q144 := eq_true q144
                            obtain ⟨Ao88, co88, eo88⟩ := Kd.N_slice HO_8.out
                            subst eo88
                            go_wp2
                            go_roundg k3
                            case measure => have := HJ2.out; have := HJ21.out; have := HK3.out; omega
                            case rel => exact ⟨(decide ((rd l0_1 x127_3) < (x8_21.length : Int))), (wrap64 (x127_3 + 1)), (by first | rfl | (simp; done) | (simp [*]; done)), (by first | rfl | (simp; done) | (simp [*]; done)), H', ⟨by have := HJ2.out; have := HJ21.out; have := HK3.out; omega⟩, ⟨by (with_reducible repeat (first | apply Kd.N_alloc | apply Kd.N_drewN | apply Kd.N_drew)); exact HO_5.out⟩, ⟨by (with_reducible repeat (first | apply Kd.N_alloc | apply Kd.N_drewN | apply Kd.N_drew)); exact HO_8.out⟩, ⟨by (with_reducible repeat (first | refine blk_drewN ?_ _ | refine blk_drew ?_ | refine blk_alloc ?_ _)); exact BK111.out⟩, ⟨by repeat (first | (with_reducible first | exact HB.out | apply below_alloc | apply pw_below_drewN | apply below_drew1 | refine below_set ?_ GE111.out) | exact HB.out)⟩⟩
                          · rw [if_neg c86] at H
                            have c86b0 : decide (0 ≤ (rd l0_1 x127_3)) = false := decide_eq_false c86
                            clear c86
                            have H' := Aside0.mk H
                            clear H
                            have hcz89_0 : wr.cell? ⟨gb111, 0, none⟩ = some (.slice A0_0 l0_0.length c0_0) := (blk_cell BK111.out 0).trans rfl
                            have hcz89_1 : wr.cell? ⟨gb111, 1, none⟩ = some (.slice A0_1 l0_1.length c0_1) := (blk_cell BK111.out 1).trans rfl
                            have hfz89_0 := blk_frozen BK111.out 0
                            have hfz89_1 := blk_frozen BK111.out 1
                            have p143 : 0 ≤ (x127_3 : Int) := of_decide_eq_true (by first | (with_reducible assumption) | assumption)
                            have q143 : x127_3 < (l0_1.length : Int) := of_decide_eq_true (by first | (with_reducible assumption) | assumption)
                            obtain ⟨ad143, e143, hx143_0⟩ := Kd.at_int HR0_1.out x127_3 p143 q143
                            cases e143
                            (first | (replace hx143_0 := (HB.out.cell (World.block_lt_of_cell? w _ hx143_0)).trans hx143_0) | skip)
                            replace p143 := eq_true p143
                            replace q143 := eq_true q143
                            go_wp2
                            go_roundg k3
                            case measure => have := HJ2.out; have := HJ21.out; have := HK3.out; omega
                            case rel => exact ⟨(false), (wrap64 (x127_3 + 1)), (by first | rfl | (simp; done) | (simp [*]; done)), (by first | rfl | (simp; done) | (simp [*]; done)), H', ⟨by have := HJ2.out; have := HJ21.out; have := HK3.out; omega⟩, ⟨by (with_reducible repeat (first | apply Kd.N_alloc | apply Kd.N_drewN | apply Kd.N_drew)); exact HO_5.out⟩, ⟨by (with_reducible repeat (first | apply Kd.N_alloc | apply Kd.N_drewN | apply Kd.N_drew)); exact HO_8.out⟩, ⟨by (with_reducible repeat (first | refine blk_drewN ?_ _ | refine blk_drew ?_ | refine blk_alloc ?_ _)); exact BK111.out⟩, ⟨by repeat (first | (with_reducible first | exact HB.out | apply below_alloc | apply pw_below_drewN | apply below_drew1 | refine below_set ?_ GE111.out) | exact HB.out)⟩⟩
                        · rw [if_neg c85] at H
                          exact absurd H (by simp)
                      · rw [if_neg c84] at H
                        exact absurd H (by simp)
                    · replace c83 := Bool.eq_false_iff.mpr c83
                      subst c83
                      have H1 : (geyserlaw12_ReplayPlays.l1 k3 t115 t118 false x8_21 (l0_1.length : Int) (wrap64 (x127_3 + 1)) l0_0 l0_1) = some r := by rw [if_neg (show ¬ (false = true) by decide)] at H; exact H
                      clear H
                      have H := H1
                      clear H1
                      have H' := Aside0.mk H
                      clear H
                      go_wp2
                      go_roundg k3
                      case measure => have := HJ2.out; have := HJ21.out; have := HK3.out; omega
                      case rel => exact ⟨(false), (wrap64 (x127_3 + 1)), (by first | rfl | (simp; done) | (simp [*]; done)), (by first | rfl | (simp; done) | (simp [*]; done)), H', ⟨by have := HJ2.out; have := HJ21.out; have := HK3.out; omega⟩, ⟨by (with_reducible repeat (first | apply Kd.N_alloc | apply Kd.N_drewN | apply Kd.N_drew)); exact HO_5.out⟩, ⟨by (with_reducible repeat (first | apply Kd.N_alloc | apply Kd.N_drewN | apply Kd.N_drew)); exact HO_8.out⟩, ⟨by (with_reducible repeat (first | refine blk_drewN ?_ _ | refine blk_drew ?_ | refine blk_alloc ?_ _)); exact BK111.out⟩, ⟨by repeat (first | (with_reducible first | exact HB.out | apply below_alloc | apply pw_below_drewN | apply below_drew1 | refine below_set ?_ GE111.out) | exact HB.out)⟩⟩
                  · rw [if_neg c82] at H
                    have c82b0 : decide (x127_3 < (l0_1.length : Int)) = false := decide_eq_false c82
                    clear c82
                    by_cases c90 : x7_3 = true
                    · subst c90
                      have H1 : (if t118 = 0 then (geyserlaw12_ReplayPlays.j5 k3 t115 x8_21 ((t115.length : Int) != (l0_1.length : Int)) l0_0 l0_1) else (geyserlaw12_ReplayPlays.j5 k3 t115 x8_21 true l0_0 l0_1)) = some r := by rw [if_pos rfl] at H; exact H
                      clear H
                      have H := H1
                      clear H1
                      have HC91 := Aside0.mk H
                      clear H
                      go_upto_region 23 with (fail)
                      go_cut [168] (fun v168 wc => ∃ (kq : Nat) (x168_90 : Bool), v168 = .bool x168_90 ∧ Aside0 (geyserlaw12_ReplayPlays.j5 kq t115 x8_21 x168_90 l0_0 l0_1 = some r) ∧ Aside0 (kq ≤ k3) ∧ Aside0 (Kd.N (Kd.slice 5 (Kd.int .u8)) 31 wc w.heap.size (fun k_ => (P1_ k_ ∨ w.heap.size ≤ k_) ∧ some k_ ≠ (v124 : Value).ownBlock ∧ k_ ≠ gb111) v116 t115) ∧ Aside0 (Kd.N (Kd.slice 5 (Kd.int .u8)) 31 wc w.heap.size (fun k_ => (P1_ k_ ∨ w.heap.size ≤ k_) ∧ some k_ ≠ (v116 : Value).ownBlock ∧ k_ ≠ gb111) v124 x8_21) ∧ Aside0 (wc.heap[gb111]? = some (.cells #[(.slice A0_0 l0_0.length c0_0), (.slice A0_1 l0_1.length c0_1)] 38 (0, 0))) ∧ Aside0 (Below w.heap.size w wc))
                      case first =>
                        have H := HC91.out
                        clear HC91
                        by_cases c92 : t118 = 0
                        · rw [if_pos c92] at H
                          have c92b0 : (t118 == 0) = true := beq_iff_eq.mpr c92
                          have c92b1 : (t118 != 0) = false := bne_eq_false_iff_eq.mpr c92
                          clear c92
                          (first | rw [c92b0] | (simp only [i64_w, i32_w]; rw [c92b0]) | skip)
                          have H' := Aside0.mk H
                          clear H
                          obtain ⟨Ao93, co93, eo93⟩ := Kd.N_slice HO_5.out
                          subst eo93
                          have hcz94_0 : wr.cell? ⟨gb111, 0, none⟩ = some (.slice A0_0 l0_0.length c0_0) := (blk_cell BK111.out 0).trans rfl
                          have hcz94_1 : wr.cell? ⟨gb111, 1, none⟩ = some (.slice A0_1 l0_1.length c0_1) := (blk_cell BK111.out 1).trans rfl
                          have hfz94_0 := blk_frozen BK111.out 0
                          have hfz94_1 := blk_frozen BK111.out 1
                          go_wp2
                          go_meet
                          case rel => exact ⟨_, (((t115.length : Int) != (l0_1.length : Int))), (by first | rfl | (simp; done) | (simp [*]; done)), H', ⟨by have := HJ2.out; have := HJ21.out; have := HK3.out; first | omega | exact Nat.le_refl _⟩, ⟨by (with_reducible repeat (first | apply Kd.N_alloc | apply Kd.N_drewN | apply Kd.N_drew)); exact HO_5.out⟩, ⟨by (with_reducible repeat (first | apply Kd.N_alloc | apply Kd.N_drewN | apply Kd.N_drew)); exact HO_8.out⟩, ⟨by (with_reducible repeat (first | refine blk_drewN ?_ _ | refine blk_drew ?_ | refine blk_alloc ?_ _)); exact BK111.out⟩, ⟨by repeat (first | (with_reducible first | exact HB.out | apply below_alloc | apply pw_below_drewN | apply below_drew1 | refine below_set ?_ GE111.out) | exact HB.out)⟩⟩
                        · rw [if_neg c92] at H
                          have c92b0 : (t118 == 0) = false := beq_eq_false_iff_ne.mpr c92
                          have c92b1 : (t118 != 0) = true := bne_iff_ne.mpr c92
                          (first | rw [c92b0] | (simp only [i64_w, i32_w]; rw [c92b0]) | skip)
                          have H' := Aside0.mk H
                          clear H
                          go_wp2
                          go_meet
                          case rel => exact ⟨_, (true), (by first | rfl | (simp; done) | (simp [*]; done)), H', ⟨by have := HJ2.out; have := HJ21.out; have := HK3.out; first | omega | exact Nat.le_refl _⟩, ⟨by (with_reducible repeat (first | apply Kd.N_alloc | apply Kd.N_drewN | apply Kd.N_drew)); exact HO_5.out⟩, ⟨by (with_reducible repeat (first | apply Kd.N_alloc | apply Kd.N_drewN | apply Kd.N_drew)); exact HO_8.out⟩, ⟨by (with_reducible repeat (first | refine blk_drewN ?_ _ | refine blk_drew ?_ | refine blk_alloc ?_ _)); exact BK111.out⟩, ⟨by repeat (first | (with_reducible first | exact HB.out | apply below_alloc | apply pw_below_drewN | apply below_drew1 | refine below_set ?_ GE111.out) | exact HB.out)⟩⟩
                      case rest =>
                        clear HC91
                        try clear c1
                        try clear p1
                        try clear q1
                        try clear hx1
                        try clear c2
                        try clear p2
                        try clear c3
                        try clear c5
                        try clear p5
                        try clear q5
                        try clear hx5
                        try clear hf5
                        try clear c6
                        try clear p6
                        try clear c7
                        try clear p7
                        try clear q7
                        try clear hx7
                        try clear hf7
                        try clear c8
                        try clear c9
                        try clear c12
                        try clear hx12
                        try clear c13
                        try clear p13
                        try clear q13
                        try clear hx13
                        try clear p14
                        try clear q14
                        try clear hx14
                        try clear c20
                        try clear c29
                        try clear c29b0
                        try clear c30
                        try clear c31
                        try clear c52
                        try clear c53
                        try clear c53b0
                        try clear c53b1
                        try clear c54
                        try clear c55
                        try clear c56
                        try clear c57
                        try clear c59
                        try clear p59
                        try clear q59
                        try clear hx59
                        try clear hf59
                        try clear p64
                        try clear c68
                        try clear c69
                        try clear c69b0
                        try clear c70
                        try clear c70b0
                        try clear c71
                        try clear c71b0
                        try clear c72
                        try clear c72b0
                        try clear c74
                        try clear p74
                        try clear q74
                        try clear hx74
                        try clear hf74
                        try clear c75
                        try clear c80
                        try clear c82
                        try clear c82b0
                        try clear c83
                        try clear c84
                        try clear c84b0
                        try clear c85
                        try clear c85b0
                        try clear c86
                        try clear c86b0
                        try clear c90
                        try clear c92
                        try clear c92b0
                        try clear c92b1
                        try clear hcz76_0
                        try clear hcz76_1
                        try clear hcz76_2
                        try clear hcz81_0
                        try clear hcz81_1
                        try clear hcz87_0
                        try clear hcz87_1
                        try clear hcz89_0
                        try clear hcz89_1
                        try clear hcz94_0
                        try clear hcz94_1
                        try clear hfz76_0
                        try clear hfz76_1
                        try clear hfz76_2
                        try clear hfz81_0
                        try clear hfz81_1
                        try clear hfz87_0
                        try clear hfz87_1
                        try clear hfz89_0
                        try clear hfz89_1
                        try clear hfz94_0
                        try clear hfz94_1
                        try clear hx128_0
                        try clear hx132_0
                        try clear hx137_0
                        try clear hx138_0
                        try clear hx143_0
                        try clear hx144_0
                        try clear hx59_0
                        try clear hx74_0
                        try clear p1
                        try clear p13
                        try clear p137
                        try clear p138
                        try clear p143
                        try clear p144
                        try clear p2
                        try clear p5
                        try clear p59
                        try clear p6
                        try clear p64
                        try clear p7
                        try clear p74
                        try clear q1
                        try clear q13
                        try clear q137
                        try clear q138
                        try clear q143
                        try clear q144
                        try clear q5
                        try clear q59
                        try clear q7
                        try clear q74
                        obtain ⟨kq, x168_90, rfl, HA, HJ90, HO_5, HO_8, BK111, HB⟩ := hcut
                        cases kq with
                        | zero => exact absurd HA.out (by simp [geyserlaw12_ReplayPlays.j5])
                        | succ kj90 =>
                          have H := HA.out
                          clear HA
                          simp only [geyserlaw12_ReplayPlays.j5] at H
                          by_cases c95 : x168_90 = true
                          · subst c95
                            have H1 : (some false) = some r := by rw [if_pos rfl] at H; exact H
                            clear H
                            have H := H1
                            clear H1
                            obtain rfl := Option.some.inj H
                            go_wp2
                            go_ret
                            exact ⟨by first | rfl | (simp [errW_none, errW_some] <;> rfl) | (simp [*, errW_none, errW_some] <;> rfl), by repeat (first | (with_reducible first | exact HB.out | apply below_alloc | apply pw_below_drewN | apply below_drew1 | refine below_set ?_ GE111.out) | exact HB.out)⟩
                          · replace c95 := Bool.eq_false_iff.mpr c95
                            subst c95
                            have H1 : (geyserlaw12_ReplayPlays.l2 kj90 t115 x8_21 (t115.length : Int) 0 l0_0 l0_1) = some r := by rw [if_neg (show ¬ (false = true) by decide)] at H; exact H
                            clear H
                            have H := H1
                            clear H1
                            have H' := Aside0.mk H
                            clear H
                            obtain ⟨Ao96, co96, eo96⟩ := Kd.N_slice HO_5.out
                            subst eo96
                            go_wp2
                            go_loopg [171] kj90 (fun kq v171 w' => ∃ (x171_5 : Int), v171 = .int .i64 x171_5 ∧ Aside0 (geyserlaw12_ReplayPlays.l2 kq t115 x8_21 (t115.length : Int) x171_5 l0_0 l0_1 = some r) ∧ Aside0 (kq ≤ kj90) ∧ Aside0 (Kd.N (Kd.slice 5 (Kd.int .u8)) 31 w' w.heap.size (fun k_ => (P1_ k_ ∨ w.heap.size ≤ k_) ∧ some k_ ≠ (v124 : Value).ownBlock ∧ k_ ≠ gb111) (.slice Ao96 t115.length co96) t115) ∧ Aside0 (Kd.N (Kd.slice 5 (Kd.int .u8)) 31 w' w.heap.size (fun k_ => (P1_ k_ ∨ w.heap.size ≤ k_) ∧ some k_ ≠ ((.slice Ao96 t115.length co96) : Value).ownBlock ∧ k_ ≠ gb111) v124 x8_21) ∧ Aside0 (w'.heap[gb111]? = some (.cells #[(.slice A0_0 l0_0.length c0_0), (.slice A0_1 l0_1.length c0_1)] 38 (0, 0))) ∧ Aside0 (Below w.heap.size w w'))
                            case atStart => exact ⟨(0), (by first | rfl | (simp; done) | (simp [*]; done)), H', ⟨Nat.le_refl _⟩, ⟨by (with_reducible repeat (first | apply Kd.N_alloc | apply Kd.N_drewN | apply Kd.N_drew)); exact HO_5.out⟩, ⟨by (with_reducible repeat (first | apply Kd.N_alloc | apply Kd.N_drewN | apply Kd.N_drew)); exact HO_8.out⟩, ⟨by (with_reducible repeat (first | refine blk_drewN ?_ _ | refine blk_drew ?_ | refine blk_alloc ?_ _)); exact BK111.out⟩, ⟨by repeat (first | (with_reducible first | exact HB.out | apply below_alloc | apply pw_below_drewN | apply below_drew1 | refine below_set ?_ GE111.out) | exact HB.out)⟩⟩
                            case round =>
                              clear H'
                              try clear c1
                              try clear p1
                              try clear q1
                              try clear hx1
                              try clear c2
                              try clear p2
                              try clear c3
                              try clear c5
                              try clear p5
                              try clear q5
                              try clear hx5
                              try clear hf5
                              try clear c6
                              try clear p6
                              try clear c7
                              try clear p7
                              try clear q7
                              try clear hx7
                              try clear hf7
                              try clear c8
                              try clear c9
                              try clear c12
                              try clear hx12
                              try clear c13
                              try clear p13
                              try clear q13
                              try clear hx13
                              try clear p14
                              try clear q14
                              try clear hx14
                              try clear c20
                              try clear c29
                              try clear c29b0
                              try clear c30
                              try clear c31
                              try clear c52
                              try clear c53
                              try clear c53b0
                              try clear c53b1
                              try clear c54
                              try clear c55
                              try clear c56
                              try clear c57
                              try clear c59
                              try clear p59
                              try clear q59
                              try clear hx59
                              try clear hf59
                              try clear p64
                              try clear c68
                              try clear c69
                              try clear c69b0
                              try clear c70
                              try clear c70b0
                              try clear c71
                              try clear c71b0
                              try clear c72
                              try clear c72b0
                              try clear c74
                              try clear p74
                              try clear q74
                              try clear hx74
                              try clear hf74
                              try clear c75
                              try clear c80
                              try clear c82
                              try clear c82b0
                              try clear c83
                              try clear c84
                              try clear c84b0
                              try clear c85
                              try clear c85b0
                              try clear c86
                              try clear c86b0
                              try clear c90
                              try clear c92
                              try clear c92b0
                              try clear c92b1
                              try clear c95
                              try clear hcz76_0
                              try clear hcz76_1
                              try clear hcz76_2
                              try clear hcz81_0
                              try clear hcz81_1
                              try clear hcz87_0
                              try clear hcz87_1
                              try clear hcz89_0
                              try clear hcz89_1
                              try clear hcz94_0
                              try clear hcz94_1
                              try clear hfz76_0
                              try clear hfz76_1
                              try clear hfz76_2
                              try clear hfz81_0
                              try clear hfz81_1
                              try clear hfz87_0
                              try clear hfz87_1
                              try clear hfz89_0
                              try clear hfz89_1
                              try clear hfz94_0
                              try clear hfz94_1
                              try clear hx128_0
                              try clear hx132_0
                              try clear hx137_0
                              try clear hx138_0
                              try clear hx143_0
                              try clear hx144_0
                              try clear hx59_0
                              try clear hx74_0
                              try clear p1
                              try clear p13
                              try clear p137
                              try clear p138
                              try clear p14
                              try clear p143
                              try clear p144
                              try clear p2
                              try clear p5
                              try clear p59
                              try clear p6
                              try clear p64
                              try clear p7
                              try clear p74
                              try clear q1
                              try clear q13
                              try clear q137
                              try clear q138
                              try clear q14
                              try clear q143
                              try clear q144
                              try clear q5
                              try clear q59
                              try clear q7
                              try clear q74
                              obtain ⟨x171_5, rfl, HA, HK5, HO_5, HO_8, BK111, HB⟩ := hrel
                              cases gk with
                              | zero => exact absurd HA.out (by simp [geyserlaw12_ReplayPlays.l2])
                              | succ k5 =>
                                have H := HA.out
                                clear HA
                                simp only [geyserlaw12_ReplayPlays.l2] at H
                                by_cases c97 : x171_5 < (t115.length : Int)
                                · rw [if_pos c97] at H
                                  have c97b0 : decide (x171_5 < (t115.length : Int)) = true := decide_eq_true c97
                                  clear c97
                                  by_cases c98 : 0 ≤ x171_5
                                  · rw [if_pos c98] at H
                                    have c98b0 : decide (0 ≤ x171_5) = true := decide_eq_true c98
                                    clear c98
                                    by_cases c99 : x171_5 < (t115.length : Int)
                                    · rw [if_pos c99] at H
                                      have c99b0 : decide (x171_5 < (t115.length : Int)) = true := decide_eq_true c99
                                      clear c99
                                      by_cases c100 : x171_5 < (l0_1.length : Int)
                                      · rw [if_pos c100] at H
                                        have c100b0 : decide (x171_5 < (l0_1.length : Int)) = true := decide_eq_true c100
                                        clear c100
                                        by_cases c101 : 0 ≤ (rd l0_1 x171_5)
                                        · rw [if_pos c101] at H
                                          have c101b0 : decide (0 ≤ (rd l0_1 x171_5)) = true := decide_eq_true c101
                                          clear c101
                                          by_cases c102 : (rd l0_1 x171_5) < (x8_21.length : Int)
                                          · rw [if_pos c102] at H
                                            have c102b0 : decide ((rd l0_1 x171_5) < (x8_21.length : Int)) = true := decide_eq_true c102
                                            clear c102
                                            by_cases c103 : (strOfNums (rd_L2 t115 x171_5)).toList = (strOfNums (rd_L2 x8_21 (rd l0_1 x171_5))).toList
                                            · rw [if_pos c103] at H
                                              have c103b0 : ((strOfNums (rd_L2 t115 x171_5)).toList == (strOfNums (rd_L2 x8_21 (rd l0_1 x171_5))).toList) = true := beq_iff_eq.mpr c103
                                              have c103b1 : ((strOfNums (rd_L2 t115 x171_5)).toList != (strOfNums (rd_L2 x8_21 (rd l0_1 x171_5))).toList) = false := bne_eq_false_iff_eq.mpr c103
                                              clear c103
                                              have H' := Aside0.mk H
                                              clear H
                                              try go_wp2
                                              have n0_ := Aside0.mk (Kd.N_drew HO_5.out)
                                              have n1_ := Aside0.mk (Kd.N_drew HO_8.out)
                                              have n2_ := Aside0.mk (blk_drew BK111.out)
                                              have n3_ := Aside0.mk (below_drew1 HB.out)
                                              clear HO_5
                                              clear HO_8
                                              clear BK111
                                              clear HB
                                              have HO_5 := n0_
                                              have HO_8 := n1_
                                              have BK111 := n2_
                                              have HB := n3_
                                              clear n0_ n1_ n2_ n3_
                                              have p145 : 0 ≤ (x171_5 : Int) := of_decide_eq_true (by first | (with_reducible assumption) | assumption)
                                              have q145 : x171_5 < (t115.length : Int) := of_decide_eq_true (by first | (with_reducible assumption) | assumption)
                                              obtain ⟨ad145, A145_0, c145_0, e145, hx145_0, hl145_0, hi145_0⟩ := at_L2 (Kd.N_reads' HO_5.out).2.2 x171_5 p145 q145
                                              cases e145
                                              obtain ⟨ce145, hce145, hMe145, hcc145⟩ := Kd.N_get HO_5.out [] x171_5 p145 (by first | exact q145 | exact of_decide_eq_true (by first | (with_reducible assumption) | assumption) | (have e_ := (Kd.N_reads' HO_5.out).1; omega))
                                              obtain ⟨ua145_0, uc145_0, rfl, ul145_0, ge145_0⟩ := Kd.FK_slice_open hMe145
                                              have hv145_0 := hcc145 0 _ rfl
                                              rw [Nat.add_zero, show ((Kd.slice 5 (Kd.int .u8))).sz = 1 from rfl, Nat.mul_one] at hv145_0
                                              replace hv145_0 := Option.some.inj (hv145_0.symm.trans hx145_0)
                                              injection hv145_0 with hva_ hvn_ hvc_
                                              rw [hva_] at ge145_0
                                              rw [hvc_] at ul145_0
                                              have HL145_0 := Aside0.mk (show Kd.V (Kd.int .u8) 5 _ w.heap.size _ _ (rd_L2 t115 x171_5) from Kd.V_mk ul145_0 ge145_0)
                                              clear hva_ hvn_ hvc_ ge145_0 ul145_0
                                              clear hcc145 hce145
                                              have HR145_0 := Aside0.mk hi145_0
                                              have HC145_0 := Aside0.mk hl145_0
                                              clear hi145_0 hl145_0
                                              replace p145 := eq_true p145
                                              replace q145 := eq_true q145
                                              have p146 : 0 ≤ (x171_5 : Int) := of_decide_eq_true (by first | (with_reducible assumption) | assumption)
                                              have q146 : x171_5 < (l0_1.length : Int) := of_decide_eq_true (by first | (with_reducible assumption) | assumption)
                                              obtain ⟨ad146, e146, hx146_0⟩ := Kd.at_int HR0_1.out x171_5 p146 q146
                                              have hw146_0 := hx146_0
                                              cases e146
                                              (first | (replace hx146_0 := (HB.out.cell (World.block_lt_of_cell? w _ hx146_0)).trans hx146_0) | skip)
                                              replace p146 := eq_true p146
                                              replace q146 := eq_true q146
                                              obtain ⟨Ao105, co105, eo105⟩ := Kd.N_slice HO_8.out
                                              (first | subst eo105 | (injection eo105 with f1_ f2_ f3_; have f4_ := f1_.symm; have f5_ := f3_.symm; clear f1_ f2_ f3_; subst f4_; subst f5_))
                                              have p147 : 0 ≤ ((rd l0_1 x171_5) : Int) := of_decide_eq_true (by first | (with_reducible assumption) | assumption)
                                              have q147 : (rd l0_1 x171_5) < (x8_21.length : Int) := of_decide_eq_true (by first | (with_reducible assumption) | assumption)
                                              obtain ⟨ad147, A147_0, c147_0, e147, hx147_0, hl147_0, hi147_0⟩ := at_L2 (Kd.N_reads' HO_8.out).2.2 (rd l0_1 x171_5) p147 q147
                                              cases e147
                                              obtain ⟨ce147, hce147, hMe147, hcc147⟩ := Kd.N_get HO_8.out [] (rd l0_1 x171_5) p147 (by first | exact q147 | exact of_decide_eq_true (by first | (with_reducible assumption) | assumption) | (have e_ := (Kd.N_reads' HO_8.out).1; omega))
                                              obtain ⟨ua147_0, uc147_0, rfl, ul147_0, ge147_0⟩ := Kd.FK_slice_open hMe147
                                              have hv147_0 := hcc147 0 _ rfl
                                              rw [Nat.add_zero, show ((Kd.slice 5 (Kd.int .u8))).sz = 1 from rfl, Nat.mul_one] at hv147_0
                                              replace hv147_0 := Option.some.inj (hv147_0.symm.trans hx147_0)
                                              injection hv147_0 with hva_ hvn_ hvc_
                                              rw [hva_] at ge147_0
                                              rw [hvc_] at ul147_0
                                              have HL147_0 := Aside0.mk (show Kd.V (Kd.int .u8) 5 _ w.heap.size _ _ (rd_L2 x8_21 (rd l0_1 x171_5)) from Kd.V_mk ul147_0 ge147_0)
                                              clear hva_ hvn_ hvc_ ge147_0 ul147_0
                                              clear hcc147 hce147
                                              have HR147_0 := Aside0.mk hi147_0
                                              have HC147_0 := Aside0.mk hl147_0
                                              clear hi147_0 hl147_0
                                              replace p147 := eq_true p147
                                              replace q147 := eq_true q147
                                              have hcv106 := Kd.C_string (P := Try.prog) (A := A145_0) (c := c145_0) Try.underlying31 Try.underlying5 Try.underlying9 (by repeat (first | (with_reducible exact HR145_0.out) | (with_reducible refine Kd.C_alloc ?_ _) | (with_reducible refine Kd.C_drewN ?_ _) | (with_reducible refine Kd.C_drew ?_) | exact HR145_0.out))
                                              (try (have hcv106q := fun nq_ : Nat => Kd.C_string (P := Try.prog) (A := A145_0) (c := c145_0) Try.underlying31 Try.underlying5 Try.underlying9 (Kd.C_drewN HR145_0.out nq_)))
                                              (try (have hcv106q := fun nq_ : Nat => Kd.C_string (P := Try.prog) (A := A145_0) (c := c145_0) Try.underlying31 Try.underlying5 Try.underlying9 (Kd.C_drewN HR145_0.out nq_)))
                                              (try (have hcv106q := fun nq_ : Nat => Kd.C_string (P := Try.prog) (A := A145_0) (c := c145_0) Try.underlying31 Try.underlying5 Try.underlying9 (Kd.C_drewN HR145_0.out nq_)))
                                              have hcv107 := Kd.C_string (P := Try.prog) (A := A147_0) (c := c147_0) Try.underlying31 Try.underlying5 Try.underlying9 (by repeat (first | (with_reducible exact HR147_0.out) | (with_reducible refine Kd.C_alloc ?_ _) | (with_reducible refine Kd.C_drewN ?_ _) | (with_reducible refine Kd.C_drew ?_) | exact HR147_0.out))
                                              (try (have hcv107q := fun nq_ : Nat => Kd.C_string (P := Try.prog) (A := A147_0) (c := c147_0) Try.underlying31 Try.underlying5 Try.underlying9 (Kd.C_drewN HR147_0.out nq_)))
                                              (try (have hcv107q := fun nq_ : Nat => Kd.C_string (P := Try.prog) (A := A147_0) (c := c147_0) Try.underlying31 Try.underlying5 Try.underlying9 (Kd.C_drewN HR147_0.out nq_)))
                                              (try (have hcv107q := fun nq_ : Nat => Kd.C_string (P := Try.prog) (A := A147_0) (c := c147_0) Try.underlying31 Try.underlying5 Try.underlying9 (Kd.C_drewN HR147_0.out nq_)))
                                              refine start_ (n := 15) (S := fun w' => (w'.cell? ⟨gb111, 0, none⟩ = some (.slice A0_0 l0_0.length c0_0) ∧ w'.cell? ⟨gb111, 1, none⟩ = some (.slice (some ad146) l0_1.length c0_1) ∧ w'.cell? (ad145.add (x171_5).toNat) = some (.slice A145_0 (rd_L2 t115 x171_5).length c145_0) ∧ w'.cell? (ad146.add (x171_5).toNat) = some (.int .i64 (rd l0_1 x171_5)) ∧ w'.cell? (ad147.add ((rd l0_1 x171_5)).toNat) = some (.slice A147_0 (rd_L2 x8_21 (rd l0_1 x171_5)).length c147_0)) ∧ ((Kd.int .u8).C w' A145_0 (rd_L2 t115 x171_5).length (rd_L2 t115 x171_5) ∧ (Kd.int .u8).C w' A147_0 (rd_L2 x8_21 (rd l0_1 x171_5)).length (rd_L2 x8_21 (rd l0_1 x171_5)))) (ds := []) #[false, false, false, false, false, false, false, false, false, false, false, false, false, false, false] (by kernel_rfl) rfl rfl ⟨⟨(blk_cell BK111.out 0).trans rfl, (blk_cell BK111.out 1).trans rfl, hx145_0, ((HB.out.cell (World.block_lt_of_cell? w _ hw146_0)).trans hw146_0), hx147_0⟩, ⟨(by repeat (first | (with_reducible exact HR145_0.out) | (with_reducible refine Kd.C_alloc ?_ _) | (with_reducible refine Kd.C_drewN ?_ _) | (with_reducible refine Kd.C_drew ?_) | exact HR145_0.out)), (by repeat (first | (with_reducible exact HR147_0.out) | (with_reducible refine Kd.C_alloc ?_ _) | (with_reducible refine Kd.C_drewN ?_ _) | (with_reducible refine Kd.C_drew ?_) | exact HR147_0.out))⟩⟩ (fun hHeld => ?_); obtain ⟨hHeld, hHC_⟩ := hHeld; refine with_tabW geyserlaw12_ReplayPlays.tab28 geyserlaw12_ReplayPlays.bits28 (fun HT_ HW_ => ?_)
                                              generalize wr.drew = w104 at HO_5 HO_8 BK111 HB HL145_0 HL147_0 HR145_0 HR147_0 hx145_0 hx146_0 hx147_0 hHeld hHC_ ⊢
                                              refine pure_ (i := 0) (N := some 174) (v := ?_) (a' := ?_) #[true, false, false, false, false, false, false, false, false, false, false, false, false, false, false] rfl rfl (any_of HT_.out (by kernel_rfl)) (fun _ _ _ h => h) (Or.inl ⟨by rfl, ?_⟩) ?_ ?_
                                              rotate_left
                                              · intro w'
                                                go_simp
                                                with_reducible rfl
                                              rotate_left
                                              · simp only [Act.put, List.setIfInBounds_toArray, List.set_cons_zero, List.set_cons_succ, i64_w, i32_w]
                                                rfl
                                              refine pure_ (i := 1) (N := some 175) (v := ?_) (a' := ?_) #[true, true, false, false, false, false, false, false, false, false, false, false, false, false, false] rfl rfl (any_of HT_.out (by kernel_rfl)) (fun _ _ _ h => h) (Or.inl ⟨by rfl, ?_⟩) ?_ ?_
                                              rotate_left
                                              · intro w'
                                                go_simp
                                                with_reducible rfl
                                              rotate_left
                                              · simp only [Act.put, List.setIfInBounds_toArray, List.set_cons_zero, List.set_cons_succ, i64_w, i32_w]
                                                rfl
                                              refine pure_ (i := 2) (N := some 176) (v := ?_) (a' := ?_) #[true, true, true, false, false, false, false, false, false, false, false, false, false, false, false] rfl rfl (any_of HT_.out (by kernel_rfl)) (fun _ _ _ h => h) (Or.inl ⟨by rfl, ?_⟩) ?_ ?_
                                              rotate_left
                                              · intro w'
                                                go_simp
                                                with_reducible rfl
                                              rotate_left
                                              · simp only [Act.put, List.setIfInBounds_toArray, List.set_cons_zero, List.set_cons_succ, i64_w, i32_w]
                                                rfl
                                              refine pure_ (i := 5) (N := some 179) (v := ?_) (a' := ?_) #[true, true, true, false, false, true, false, false, false, false, false, false, false, false, false] rfl rfl (any_of HT_.out (by kernel_rfl)) (fun _ _ _ h => h) (Or.inl ⟨by rfl, ?_⟩) ?_ ?_
                                              rotate_left
                                              · intro w'
                                                go_simp
                                                with_reducible rfl
                                              rotate_left
                                              · simp only [Act.put, List.setIfInBounds_toArray, List.set_cons_zero, List.set_cons_succ, i64_w, i32_w]
                                                rfl
                                              refine pure_ (i := 6) (N := some 180) (v := ?_) (a' := ?_) #[true, true, true, false, false, true, true, false, false, false, false, false, false, false, false] rfl rfl (any_of HT_.out (by kernel_rfl)) (fun _ _ _ h => h) (Or.inl ⟨by rfl, ?_⟩) ?_ ?_
                                              rotate_left
                                              · intro w'
                                                go_simp
                                                with_reducible rfl
                                              rotate_left
                                              · simp only [Act.put, List.setIfInBounds_toArray, List.set_cons_zero, List.set_cons_succ, i64_w, i32_w]
                                                rfl
                                              refine pure_ (i := 8) (N := some 182) (v := ?_) (a' := ?_) #[true, true, true, false, false, true, true, false, true, false, false, false, false, false, false] rfl rfl (any_of HT_.out (by kernel_rfl)) (fun _ _ _ h => h) (Or.inl ⟨by rfl, ?_⟩) ?_ ?_
                                              rotate_left
                                              · intro w'
                                                go_simp
                                                with_reducible rfl
                                              rotate_left
                                              · simp only [Act.put, List.setIfInBounds_toArray, List.set_cons_zero, List.set_cons_succ, i64_w, i32_w]
                                                rfl
                                              refine take_ (i := 3) (N := some 177) (v := ?_) (a' := ?_) #[true, true, true, true, false, true, true, false, true, false, false, false, false, false, false] rfl rfl (take_ofW HT_.out HW_.out (by kernel_rfl)) (fun _ _ _ h => h) (Or.inl ⟨by rfl, ?_⟩) ⟨hHeld, hHC_⟩ ?_ ?_
                                              rotate_left
                                              · rintro w' ⟨⟨s0, s1, s2, s3, s4⟩, s9_⟩
                                                go_simp
                                                with_reducible rfl
                                              rotate_left
                                              · simp only [Act.put, List.setIfInBounds_toArray, List.set_cons_zero, List.set_cons_succ, i64_w, i32_w]
                                                rfl
                                              refine take_ (i := 4) (N := some 178) (v := ?_) (a' := ?_) #[true, true, true, true, true, true, true, false, true, false, false, false, false, false, false] rfl rfl (take_ofW HT_.out HW_.out (by kernel_rfl)) (fun _ _ _ h => h) (Or.inl ⟨by rfl, ?_⟩) ⟨hHeld, hHC_⟩ ?_ ?_
                                              rotate_left
                                              · rintro w' ⟨_, s9_⟩
                                                have hcv9a_ := Kd.C_string (P := Try.prog) (A := A145_0) (c := c145_0) Try.underlying31 Try.underlying5 Try.underlying9 s9_.1
                                                have hcv9b_ := Kd.C_string (P := Try.prog) (A := A147_0) (c := c147_0) Try.underlying31 Try.underlying5 Try.underlying9 s9_.2
                                                go_simp
                                                with_reducible rfl
                                              rotate_left
                                              · simp only [Act.put, List.setIfInBounds_toArray, List.set_cons_zero, List.set_cons_succ, i64_w, i32_w]
                                                rfl
                                              refine take_ (i := 7) (N := some 181) (v := ?_) (a' := ?_) #[true, true, true, true, true, true, true, true, true, false, false, false, false, false, false] rfl rfl (take_ofW HT_.out HW_.out (by kernel_rfl)) (fun _ _ _ h => h) (Or.inl ⟨by rfl, ?_⟩) ⟨hHeld, hHC_⟩ ?_ ?_
                                              rotate_left
                                              · rintro w' ⟨⟨s0, s1, s2, s3, s4⟩, s9_⟩
                                                go_simp
                                                with_reducible rfl
                                              rotate_left
                                              · simp only [Act.put, List.setIfInBounds_toArray, List.set_cons_zero, List.set_cons_succ, i64_w, i32_w]
                                                rfl
                                              refine pure_ (i := 9) (N := some 183) (v := ?_) (a' := ?_) #[true, true, true, true, true, true, true, true, true, true, false, false, false, false, false] rfl rfl (any_of HT_.out (by kernel_rfl)) (fun _ _ _ h => h) (Or.inl ⟨by rfl, ?_⟩) ?_ ?_
                                              rotate_left
                                              · intro w'
                                                go_simp
                                                with_reducible rfl
                                              rotate_left
                                              · simp only [Act.put, List.setIfInBounds_toArray, List.set_cons_zero, List.set_cons_succ, i64_w, i32_w]
                                                rfl
                                              refine take_ (i := 10) (N := some 184) (v := ?_) (a' := ?_) #[true, true, true, true, true, true, true, true, true, true, true, false, false, false, false] rfl rfl (take_ofW HT_.out HW_.out (by kernel_rfl)) (fun _ _ _ h => h) (Or.inl ⟨by rfl, ?_⟩) ⟨hHeld, hHC_⟩ ?_ ?_
                                              rotate_left
                                              · rintro w' ⟨⟨s0, s1, s2, s3, s4⟩, s9_⟩
                                                go_simp
                                                with_reducible rfl
                                              rotate_left
                                              · simp only [Act.put, List.setIfInBounds_toArray, List.set_cons_zero, List.set_cons_succ, i64_w, i32_w]
                                                rfl
                                              refine pure_ (i := 11) (N := some 185) (v := ?_) (a' := ?_) #[true, true, true, true, true, true, true, true, true, true, true, true, false, false, false] rfl rfl (any_of HT_.out (by kernel_rfl)) (fun _ _ _ h => h) (Or.inl ⟨by rfl, ?_⟩) ?_ ?_
                                              rotate_left
                                              · intro w'
                                                go_simp
                                                with_reducible rfl
                                              rotate_left
                                              · simp only [Act.put, List.setIfInBounds_toArray, List.set_cons_zero, List.set_cons_succ, i64_w, i32_w]
                                                rfl
                                              refine take_ (i := 12) (N := some 186) (v := ?_) (a' := ?_) #[true, true, true, true, true, true, true, true, true, true, true, true, true, false, false] rfl rfl (take_ofW HT_.out HW_.out (by kernel_rfl)) (fun _ _ _ h => h) (Or.inl ⟨by rfl, ?_⟩) ⟨hHeld, hHC_⟩ ?_ ?_
                                              rotate_left
                                              · rintro w' ⟨⟨s0, s1, s2, s3, s4⟩, s9_⟩
                                                go_simp
                                                with_reducible rfl
                                              rotate_left
                                              · simp only [Act.put, List.setIfInBounds_toArray, List.set_cons_zero, List.set_cons_succ, i64_w, i32_w]
                                                rfl
                                              refine take_ (i := 13) (N := some 187) (v := ?_) (a' := ?_) #[true, true, true, true, true, true, true, true, true, true, true, true, true, true, false] rfl rfl (take_ofW HT_.out HW_.out (by kernel_rfl)) (fun _ _ _ h => h) (Or.inl ⟨by rfl, ?_⟩) ⟨hHeld, hHC_⟩ ?_ ?_
                                              rotate_left
                                              · rintro w' ⟨_, s9_⟩
                                                have hcv9a_ := Kd.C_string (P := Try.prog) (A := A145_0) (c := c145_0) Try.underlying31 Try.underlying5 Try.underlying9 s9_.1
                                                have hcv9b_ := Kd.C_string (P := Try.prog) (A := A147_0) (c := c147_0) Try.underlying31 Try.underlying5 Try.underlying9 s9_.2
                                                go_simp
                                                with_reducible rfl
                                              rotate_left
                                              · simp only [Act.put, List.setIfInBounds_toArray, List.set_cons_zero, List.set_cons_succ, i64_w, i32_w]
                                                rfl
                                              refine pure_ (i := 14) (N := some 188) (v := ?_) (a' := ?_) #[true, true, true, true, true, true, true, true, true, true, true, true, true, true, true] rfl rfl (any_of HT_.out (by kernel_rfl)) (fun _ _ _ h => h) (Or.inl ⟨by rfl, ?_⟩) ?_ ?_
                                              rotate_left
                                              · intro w'
                                                go_simp
                                                with_reducible rfl
                                              rotate_left
                                              · simp only [Act.put, List.setIfInBounds_toArray, List.set_cons_zero, List.set_cons_succ, i64_w, i32_w]
                                                rfl
                                              refine done_ (done_of HT_.out (by kernel_rfl)) ?_
                                              try go_wp2
                                              go_roundg k5
                                              case measure => have := HJ2.out; have := HJ21.out; have := HK3.out; have := HJ90.out; have := HK5.out; omega
                                              case rel => exact ⟨(wrap64 (x171_5 + 1)), (by first | rfl | (simp; done) | (simp [*]; done)), H', ⟨by have := HJ2.out; have := HJ21.out; have := HK3.out; have := HJ90.out; have := HK5.out; omega⟩, ⟨by (with_reducible repeat (first | apply Kd.N_alloc | apply Kd.N_drewN | apply Kd.N_drew)); exact HO_5.out⟩, ⟨by (with_reducible repeat (first | apply Kd.N_alloc | apply Kd.N_drewN | apply Kd.N_drew)); exact HO_8.out⟩, ⟨by (with_reducible repeat (first | refine blk_drewN ?_ _ | refine blk_drew ?_ | refine blk_alloc ?_ _)); exact BK111.out⟩, ⟨by repeat (first | (with_reducible first | exact HB.out | apply below_alloc | apply pw_below_drewN | apply below_drew1 | refine below_set ?_ GE111.out) | exact HB.out)⟩⟩
                                            · rw [if_neg c103] at H
                                              have c103b0 : ((strOfNums (rd_L2 t115 x171_5)).toList == (strOfNums (rd_L2 x8_21 (rd l0_1 x171_5))).toList) = false := beq_eq_false_iff_ne.mpr c103
                                              have c103b1 : ((strOfNums (rd_L2 t115 x171_5)).toList != (strOfNums (rd_L2 x8_21 (rd l0_1 x171_5))).toList) = true := bne_iff_ne.mpr c103
                                              obtain rfl := Option.some.inj H
                                              try go_wp2
                                              have n0_ := Aside0.mk (Kd.N_drew HO_5.out)
                                              have n1_ := Aside0.mk (Kd.N_drew HO_8.out)
                                              have n2_ := Aside0.mk (blk_drew BK111.out)
                                              have n3_ := Aside0.mk (below_drew1 HB.out)
                                              clear HO_5
                                              clear HO_8
                                              clear BK111
                                              clear HB
                                              have HO_5 := n0_
                                              have HO_8 := n1_
                                              have BK111 := n2_
                                              have HB := n3_
                                              clear n0_ n1_ n2_ n3_
                                              have p145 : 0 ≤ (x171_5 : Int) := of_decide_eq_true (by first | (with_reducible assumption) | assumption)
                                              have q145 : x171_5 < (t115.length : Int) := of_decide_eq_true (by first | (with_reducible assumption) | assumption)
                                              obtain ⟨ad145, A145_0, c145_0, e145, hx145_0, hl145_0, hi145_0⟩ := at_L2 (Kd.N_reads' HO_5.out).2.2 x171_5 p145 q145
                                              cases e145
                                              obtain ⟨ce145, hce145, hMe145, hcc145⟩ := Kd.N_get HO_5.out [] x171_5 p145 (by first | exact q145 | exact of_decide_eq_true (by first | (with_reducible assumption) | assumption) | (have e_ := (Kd.N_reads' HO_5.out).1; omega))
                                              obtain ⟨ua145_0, uc145_0, rfl, ul145_0, ge145_0⟩ := Kd.FK_slice_open hMe145
                                              have hv145_0 := hcc145 0 _ rfl
                                              rw [Nat.add_zero, show ((Kd.slice 5 (Kd.int .u8))).sz = 1 from rfl, Nat.mul_one] at hv145_0
                                              replace hv145_0 := Option.some.inj (hv145_0.symm.trans hx145_0)
                                              injection hv145_0 with hva_ hvn_ hvc_
                                              rw [hva_] at ge145_0
                                              rw [hvc_] at ul145_0
                                              have HL145_0 := Aside0.mk (show Kd.V (Kd.int .u8) 5 _ w.heap.size _ _ (rd_L2 t115 x171_5) from Kd.V_mk ul145_0 ge145_0)
                                              clear hva_ hvn_ hvc_ ge145_0 ul145_0
                                              clear hcc145 hce145
                                              have HR145_0 := Aside0.mk hi145_0
                                              have HC145_0 := Aside0.mk hl145_0
                                              clear hi145_0 hl145_0
                                              replace p145 := eq_true p145
                                              replace q145 := eq_true q145
                                              have p146 : 0 ≤ (x171_5 : Int) := of_decide_eq_true (by first | (with_reducible assumption) | assumption)
                                              have q146 : x171_5 < (l0_1.length : Int) := of_decide_eq_true (by first | (with_reducible assumption) | assumption)
                                              obtain ⟨ad146, e146, hx146_0⟩ := Kd.at_int HR0_1.out x171_5 p146 q146
                                              have hw146_0 := hx146_0
                                              cases e146
                                              (first | (replace hx146_0 := (HB.out.cell (World.block_lt_of_cell? w _ hx146_0)).trans hx146_0) | skip)
                                              replace p146 := eq_true p146
                                              replace q146 := eq_true q146
                                              obtain ⟨Ao110, co110, eo110⟩ := Kd.N_slice HO_8.out
                                              (first | subst eo110 | (injection eo110 with f1_ f2_ f3_; have f4_ := f1_.symm; have f5_ := f3_.symm; clear f1_ f2_ f3_; subst f4_; subst f5_))
                                              have p147 : 0 ≤ ((rd l0_1 x171_5) : Int) := of_decide_eq_true (by first | (with_reducible assumption) | assumption)
                                              have q147 : (rd l0_1 x171_5) < (x8_21.length : Int) := of_decide_eq_true (by first | (with_reducible assumption) | assumption)
                                              obtain ⟨ad147, A147_0, c147_0, e147, hx147_0, hl147_0, hi147_0⟩ := at_L2 (Kd.N_reads' HO_8.out).2.2 (rd l0_1 x171_5) p147 q147
                                              cases e147
                                              obtain ⟨ce147, hce147, hMe147, hcc147⟩ := Kd.N_get HO_8.out [] (rd l0_1 x171_5) p147 (by first | exact q147 | exact of_decide_eq_true (by first | (with_reducible assumption) | assumption) | (have e_ := (Kd.N_reads' HO_8.out).1; omega))
                                              obtain ⟨ua147_0, uc147_0, rfl, ul147_0, ge147_0⟩ := Kd.FK_slice_open hMe147
                                              have hv147_0 := hcc147 0 _ rfl
                                              rw [Nat.add_zero, show ((Kd.slice 5 (Kd.int .u8))).sz = 1 from rfl, Nat.mul_one] at hv147_0
                                              replace hv147_0 := Option.some.inj (hv147_0.symm.trans hx147_0)
                                              injection hv147_0 with hva_ hvn_ hvc_
                                              rw [hva_] at ge147_0
                                              rw [hvc_] at ul147_0
                                              have HL147_0 := Aside0.mk (show Kd.V (Kd.int .u8) 5 _ w.heap.size _ _ (rd_L2 x8_21 (rd l0_1 x171_5)) from Kd.V_mk ul147_0 ge147_0)
                                              clear hva_ hvn_ hvc_ ge147_0 ul147_0
                                              clear hcc147 hce147
                                              have HR147_0 := Aside0.mk hi147_0
                                              have HC147_0 := Aside0.mk hl147_0
                                              clear hi147_0 hl147_0
                                              replace p147 := eq_true p147
                                              replace q147 := eq_true q147
                                              have hcv111 := Kd.C_string (P := Try.prog) (A := A145_0) (c := c145_0) Try.underlying31 Try.underlying5 Try.underlying9 (by repeat (first | (with_reducible exact HR145_0.out) | (with_reducible refine Kd.C_alloc ?_ _) | (with_reducible refine Kd.C_drewN ?_ _) | (with_reducible refine Kd.C_drew ?_) | exact HR145_0.out))
                                              (try (have hcv111q := fun nq_ : Nat => Kd.C_string (P := Try.prog) (A := A145_0) (c := c145_0) Try.underlying31 Try.underlying5 Try.underlying9 (Kd.C_drewN HR145_0.out nq_)))
                                              (try (have hcv111q := fun nq_ : Nat => Kd.C_string (P := Try.prog) (A := A145_0) (c := c145_0) Try.underlying31 Try.underlying5 Try.underlying9 (Kd.C_drewN HR145_0.out nq_)))
                                              (try (have hcv111q := fun nq_ : Nat => Kd.C_string (P := Try.prog) (A := A145_0) (c := c145_0) Try.underlying31 Try.underlying5 Try.underlying9 (Kd.C_drewN HR145_0.out nq_)))
                                              have hcv112 := Kd.C_string (P := Try.prog) (A := A147_0) (c := c147_0) Try.underlying31 Try.underlying5 Try.underlying9 (by repeat (first | (with_reducible exact HR147_0.out) | (with_reducible refine Kd.C_alloc ?_ _) | (with_reducible refine Kd.C_drewN ?_ _) | (with_reducible refine Kd.C_drew ?_) | exact HR147_0.out))
                                              (try (have hcv112q := fun nq_ : Nat => Kd.C_string (P := Try.prog) (A := A147_0) (c := c147_0) Try.underlying31 Try.underlying5 Try.underlying9 (Kd.C_drewN HR147_0.out nq_)))
                                              (try (have hcv112q := fun nq_ : Nat => Kd.C_string (P := Try.prog) (A := A147_0) (c := c147_0) Try.underlying31 Try.underlying5 Try.underlying9 (Kd.C_drewN HR147_0.out nq_)))
                                              (try (have hcv112q := fun nq_ : Nat => Kd.C_string (P := Try.prog) (A := A147_0) (c := c147_0) Try.underlying31 Try.underlying5 Try.underlying9 (Kd.C_drewN HR147_0.out nq_)))
                                              refine start_ (n := 15) (S := fun w' => (w'.cell? ⟨gb111, 0, none⟩ = some (.slice A0_0 l0_0.length c0_0) ∧ w'.cell? ⟨gb111, 1, none⟩ = some (.slice (some ad146) l0_1.length c0_1) ∧ w'.cell? (ad145.add (x171_5).toNat) = some (.slice A145_0 (rd_L2 t115 x171_5).length c145_0) ∧ w'.cell? (ad146.add (x171_5).toNat) = some (.int .i64 (rd l0_1 x171_5)) ∧ w'.cell? (ad147.add ((rd l0_1 x171_5)).toNat) = some (.slice A147_0 (rd_L2 x8_21 (rd l0_1 x171_5)).length c147_0)) ∧ ((Kd.int .u8).C w' A145_0 (rd_L2 t115 x171_5).length (rd_L2 t115 x171_5) ∧ (Kd.int .u8).C w' A147_0 (rd_L2 x8_21 (rd l0_1 x171_5)).length (rd_L2 x8_21 (rd l0_1 x171_5)))) (ds := []) #[false, false, false, false, false, false, false, false, false, false, false, false, false, false, false] (by kernel_rfl) rfl rfl ⟨⟨(blk_cell BK111.out 0).trans rfl, (blk_cell BK111.out 1).trans rfl, hx145_0, ((HB.out.cell (World.block_lt_of_cell? w _ hw146_0)).trans hw146_0), hx147_0⟩, ⟨(by repeat (first | (with_reducible exact HR145_0.out) | (with_reducible refine Kd.C_alloc ?_ _) | (with_reducible refine Kd.C_drewN ?_ _) | (with_reducible refine Kd.C_drew ?_) | exact HR145_0.out)), (by repeat (first | (with_reducible exact HR147_0.out) | (with_reducible refine Kd.C_alloc ?_ _) | (with_reducible refine Kd.C_drewN ?_ _) | (with_reducible refine Kd.C_drew ?_) | exact HR147_0.out))⟩⟩ (fun hHeld => ?_); obtain ⟨hHeld, hHC_⟩ := hHeld; refine with_tabW geyserlaw12_ReplayPlays.tab28 geyserlaw12_ReplayPlays.bits28 (fun HT_ HW_ => ?_)
                                              generalize wr.drew = w109 at HO_5 HO_8 BK111 HB HL145_0 HL147_0 HR145_0 HR147_0 hx145_0 hx146_0 hx147_0 hHeld hHC_ ⊢
                                              refine pure_ (i := 0) (N := some 174) (v := ?_) (a' := ?_) #[true, false, false, false, false, false, false, false, false, false, false, false, false, false, false] rfl rfl (any_of HT_.out (by kernel_rfl)) (fun _ _ _ h => h) (Or.inl ⟨by rfl, ?_⟩) ?_ ?_
                                              rotate_left
                                              · intro w'
                                                go_simp
                                                with_reducible rfl
                                              rotate_left
                                              · simp only [Act.put, List.setIfInBounds_toArray, List.set_cons_zero, List.set_cons_succ, i64_w, i32_w]
                                                rfl
                                              refine pure_ (i := 1) (N := some 175) (v := ?_) (a' := ?_) #[true, true, false, false, false, false, false, false, false, false, false, false, false, false, false] rfl rfl (any_of HT_.out (by kernel_rfl)) (fun _ _ _ h => h) (Or.inl ⟨by rfl, ?_⟩) ?_ ?_
                                              rotate_left
                                              · intro w'
                                                go_simp
                                                with_reducible rfl
                                              rotate_left
                                              · simp only [Act.put, List.setIfInBounds_toArray, List.set_cons_zero, List.set_cons_succ, i64_w, i32_w]
                                                rfl
                                              refine pure_ (i := 2) (N := some 176) (v := ?_) (a' := ?_) #[true, true, true, false, false, false, false, false, false, false, false, false, false, false, false] rfl rfl (any_of HT_.out (by kernel_rfl)) (fun _ _ _ h => h) (Or.inl ⟨by rfl, ?_⟩) ?_ ?_
                                              rotate_left
                                              · intro w'
                                                go_simp
                                                with_reducible rfl
                                              rotate_left
                                              · simp only [Act.put, List.setIfInBounds_toArray, List.set_cons_zero, List.set_cons_succ, i64_w, i32_w]
                                                rfl
                                              refine pure_ (i := 5) (N := some 179) (v := ?_) (a' := ?_) #[true, true, true, false, false, true, false, false, false, false, false, false, false, false, false] rfl rfl (any_of HT_.out (by kernel_rfl)) (fun _ _ _ h => h) (Or.inl ⟨by rfl, ?_⟩) ?_ ?_
                                              rotate_left
                                              · intro w'
                                                go_simp
                                                with_reducible rfl
                                              rotate_left
                                              · simp only [Act.put, List.setIfInBounds_toArray, List.set_cons_zero, List.set_cons_succ, i64_w, i32_w]
                                                rfl
                                              refine pure_ (i := 6) (N := some 180) (v := ?_) (a' := ?_) #[true, true, true, false, false, true, true, false, false, false, false, false, false, false, false] rfl rfl (any_of HT_.out (by kernel_rfl)) (fun _ _ _ h => h) (Or.inl ⟨by rfl, ?_⟩) ?_ ?_
                                              rotate_left
                                              · intro w'
                                                go_simp
                                                with_reducible rfl
                                              rotate_left
                                              · simp only [Act.put, List.setIfInBounds_toArray, List.set_cons_zero, List.set_cons_succ, i64_w, i32_w]
                                                rfl
                                              refine pure_ (i := 8) (N := some 182) (v := ?_) (a' := ?_) #[true, true, true, false, false, true, true, false, true, false, false, false, false, false, false] rfl rfl (any_of HT_.out (by kernel_rfl)) (fun _ _ _ h => h) (Or.inl ⟨by rfl, ?_⟩) ?_ ?_
                                              rotate_left
                                              · intro w'
                                                go_simp
                                                with_reducible rfl
                                              rotate_left
                                              · simp only [Act.put, List.setIfInBounds_toArray, List.set_cons_zero, List.set_cons_succ, i64_w, i32_w]
                                                rfl
                                              refine take_ (i := 3) (N := some 177) (v := ?_) (a' := ?_) #[true, true, true, true, false, true, true, false, true, false, false, false, false, false, false] rfl rfl (take_ofW HT_.out HW_.out (by kernel_rfl)) (fun _ _ _ h => h) (Or.inl ⟨by rfl, ?_⟩) ⟨hHeld, hHC_⟩ ?_ ?_
                                              rotate_left
                                              · rintro w' ⟨⟨s0, s1, s2, s3, s4⟩, s9_⟩
                                                go_simp
                                                with_reducible rfl
                                              rotate_left
                                              · simp only [Act.put, List.setIfInBounds_toArray, List.set_cons_zero, List.set_cons_succ, i64_w, i32_w]
                                                rfl
                                              refine take_ (i := 4) (N := some 178) (v := ?_) (a' := ?_) #[true, true, true, true, true, true, true, false, true, false, false, false, false, false, false] rfl rfl (take_ofW HT_.out HW_.out (by kernel_rfl)) (fun _ _ _ h => h) (Or.inl ⟨by rfl, ?_⟩) ⟨hHeld, hHC_⟩ ?_ ?_
                                              rotate_left
                                              · rintro w' ⟨_, s9_⟩
                                                have hcv9a_ := Kd.C_string (P := Try.prog) (A := A145_0) (c := c145_0) Try.underlying31 Try.underlying5 Try.underlying9 s9_.1
                                                have hcv9b_ := Kd.C_string (P := Try.prog) (A := A147_0) (c := c147_0) Try.underlying31 Try.underlying5 Try.underlying9 s9_.2
                                                go_simp
                                                with_reducible rfl
                                              rotate_left
                                              · simp only [Act.put, List.setIfInBounds_toArray, List.set_cons_zero, List.set_cons_succ, i64_w, i32_w]
                                                rfl
                                              refine take_ (i := 7) (N := some 181) (v := ?_) (a' := ?_) #[true, true, true, true, true, true, true, true, true, false, false, false, false, false, false] rfl rfl (take_ofW HT_.out HW_.out (by kernel_rfl)) (fun _ _ _ h => h) (Or.inl ⟨by rfl, ?_⟩) ⟨hHeld, hHC_⟩ ?_ ?_
                                              rotate_left
                                              · rintro w' ⟨⟨s0, s1, s2, s3, s4⟩, s9_⟩
                                                go_simp
                                                with_reducible rfl
                                              rotate_left
                                              · simp only [Act.put, List.setIfInBounds_toArray, List.set_cons_zero, List.set_cons_succ, i64_w, i32_w]
                                                rfl
                                              refine pure_ (i := 9) (N := some 183) (v := ?_) (a' := ?_) #[true, true, true, true, true, true, true, true, true, true, false, false, false, false, false] rfl rfl (any_of HT_.out (by kernel_rfl)) (fun _ _ _ h => h) (Or.inl ⟨by rfl, ?_⟩) ?_ ?_
                                              rotate_left
                                              · intro w'
                                                go_simp
                                                with_reducible rfl
                                              rotate_left
                                              · simp only [Act.put, List.setIfInBounds_toArray, List.set_cons_zero, List.set_cons_succ, i64_w, i32_w]
                                                rfl
                                              refine take_ (i := 10) (N := some 184) (v := ?_) (a' := ?_) #[true, true, true, true, true, true, true, true, true, true, true, false, false, false, false] rfl rfl (take_ofW HT_.out HW_.out (by kernel_rfl)) (fun _ _ _ h => h) (Or.inl ⟨by rfl, ?_⟩) ⟨hHeld, hHC_⟩ ?_ ?_
                                              rotate_left
                                              · rintro w' ⟨⟨s0, s1, s2, s3, s4⟩, s9_⟩
                                                go_simp
                                                with_reducible rfl
                                              rotate_left
                                              · simp only [Act.put, List.setIfInBounds_toArray, List.set_cons_zero, List.set_cons_succ, i64_w, i32_w]
                                                rfl
                                              refine pure_ (i := 11) (N := some 185) (v := ?_) (a' := ?_) #[true, true, true, true, true, true, true, true, true, true, true, true, false, false, false] rfl rfl (any_of HT_.out (by kernel_rfl)) (fun _ _ _ h => h) (Or.inl ⟨by rfl, ?_⟩) ?_ ?_
                                              rotate_left
                                              · intro w'
                                                go_simp
                                                with_reducible rfl
                                              rotate_left
                                              · simp only [Act.put, List.setIfInBounds_toArray, List.set_cons_zero, List.set_cons_succ, i64_w, i32_w]
                                                rfl
                                              refine take_ (i := 12) (N := some 186) (v := ?_) (a' := ?_) #[true, true, true, true, true, true, true, true, true, true, true, true, true, false, false] rfl rfl (take_ofW HT_.out HW_.out (by kernel_rfl)) (fun _ _ _ h => h) (Or.inl ⟨by rfl, ?_⟩) ⟨hHeld, hHC_⟩ ?_ ?_
                                              rotate_left
                                              · rintro w' ⟨⟨s0, s1, s2, s3, s4⟩, s9_⟩
                                                go_simp
                                                with_reducible rfl
                                              rotate_left
                                              · simp only [Act.put, List.setIfInBounds_toArray, List.set_cons_zero, List.set_cons_succ, i64_w, i32_w]
                                                rfl
                                              refine take_ (i := 13) (N := some 187) (v := ?_) (a' := ?_) #[true, true, true, true, true, true, true, true, true, true, true, true, true, true, false] rfl rfl (take_ofW HT_.out HW_.out (by kernel_rfl)) (fun _ _ _ h => h) (Or.inl ⟨by rfl, ?_⟩) ⟨hHeld, hHC_⟩ ?_ ?_
                                              rotate_left
                                              · rintro w' ⟨_, s9_⟩
                                                have hcv9a_ := Kd.C_string (P := Try.prog) (A := A145_0) (c := c145_0) Try.underlying31 Try.underlying5 Try.underlying9 s9_.1
                                                have hcv9b_ := Kd.C_string (P := Try.prog) (A := A147_0) (c := c147_0) Try.underlying31 Try.underlying5 Try.underlying9 s9_.2
                                                go_simp
                                                with_reducible rfl
                                              rotate_left
                                              · simp only [Act.put, List.setIfInBounds_toArray, List.set_cons_zero, List.set_cons_succ, i64_w, i32_w]
                                                rfl
                                              refine pure_ (i := 14) (N := some 188) (v := ?_) (a' := ?_) #[true, true, true, true, true, true, true, true, true, true, true, true, true, true, true] rfl rfl (any_of HT_.out (by kernel_rfl)) (fun _ _ _ h => h) (Or.inl ⟨by rfl, ?_⟩) ?_ ?_
                                              rotate_left
                                              · intro w'
                                                go_simp
                                                with_reducible rfl
                                              rotate_left
                                              · simp only [Act.put, List.setIfInBounds_toArray, List.set_cons_zero, List.set_cons_succ, i64_w, i32_w]
                                                rfl
                                              refine done_ (done_of HT_.out (by kernel_rfl)) ?_
                                              try go_wp2
                                              go_ret
                                              exact ⟨by first | rfl | (simp [errW_none, errW_some] <;> rfl) | (simp [*, errW_none, errW_some] <;> rfl), by repeat (first | (with_reducible first | exact HB.out | apply below_alloc | apply pw_below_drewN | apply below_drew1 | refine below_set ?_ GE111.out) | exact HB.out)⟩
                                          · rw [if_neg c102] at H
                                            exact absurd H (by simp)
                                        · rw [if_neg c101] at H
                                          exact absurd H (by simp)
                                      · rw [if_neg c100] at H
                                        exact absurd H (by simp)
                                    · rw [if_neg c99] at H
                                      exact absurd H (by simp)
                                  · rw [if_neg c98] at H
                                    exact absurd H (by simp)
                                · rw [if_neg c97] at H
                                  have c97b0 : decide (x171_5 < (t115.length : Int)) = false := decide_eq_false c97
                                  clear c97
                                  obtain rfl := Option.some.inj H
                                  go_wp2
                                  go_ret
                                  exact ⟨by first | rfl | (simp [errW_none, errW_some] <;> rfl) | (simp [*, errW_none, errW_some] <;> rfl), by repeat (first | (with_reducible first | exact HB.out | apply below_alloc | apply pw_below_drewN | apply below_drew1 | refine below_set ?_ GE111.out) | exact HB.out)⟩
                    · replace c90 := Bool.eq_false_iff.mpr c90
                      subst c90
                      have H1 : (if t118 = 1 then (some ((t115.length : Int) == 0)) else (some false)) = some r := by rw [if_neg (show ¬ (false = true) by decide)] at H; exact H
                      clear H
                      have H := H1
                      clear H1
                      by_cases c114 : t118 = 1
                      · rw [if_pos c114] at H
                        have c114b0 : (t118 == 1) = true := beq_iff_eq.mpr c114
                        have c114b1 : (t118 != 1) = false := bne_eq_false_iff_eq.mpr c114
                        clear c114
                        obtain rfl := Option.some.inj H
                        obtain ⟨Ao115, co115, eo115⟩ := Kd.N_slice HO_5.out
                        subst eo115
                        go_wp2
                        go_ret
                        exact ⟨by first | rfl | (simp [errW_none, errW_some] <;> rfl) | (simp [*, errW_none, errW_some] <;> rfl), by repeat (first | (with_reducible first | exact HB.out | apply below_alloc | apply pw_below_drewN | apply below_drew1 | refine below_set ?_ GE111.out) | exact HB.out)⟩
                      · rw [if_neg c114] at H
                        have c114b0 : (t118 == 1) = false := beq_eq_false_iff_ne.mpr c114
                        have c114b1 : (t118 != 1) = true := bne_iff_ne.mpr c114
                        obtain rfl := Option.some.inj H
                        go_wp2
                        go_ret
                        exact ⟨by first | rfl | (simp [errW_none, errW_some] <;> rfl) | (simp [*, errW_none, errW_some] <;> rfl), by repeat (first | (with_reducible first | exact HB.out | apply below_alloc | apply pw_below_drewN | apply below_drew1 | refine below_set ?_ GE111.out) | exact HB.out)⟩
        · rw [if_neg c21] at H
          exact absurd H (by simp)

end Go.Proofs.Ytcmigmldecacpaa.QReplayPlays

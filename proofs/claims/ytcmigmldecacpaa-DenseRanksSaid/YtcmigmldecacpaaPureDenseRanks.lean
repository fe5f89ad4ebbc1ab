/- Any rows' rank, and their reduced echelon form, are what the document says. No condition beyond the kinds of the arguments. -/
import Derived.Test.YtcmigmldecacpaaQDenseRanksx1
import Derived.Test.YtcmigmldecacpaaGf
import Derived.Test.YtcmigmldecacpaaBt
import Derived.Test.YtcmigmldecacpaaGivFill
import Derived.Test.YtcmigmldecacpaaGivDense
import Derived.Test.YtcmigmldecacpaaEch
namespace Go.Proofs.Ytcmigmldecacpaa.Pure
open Go Go.RowKit Go.Proofs.Ytcmigmldecacpaa.QDenseRanks Go.Proofs.YtcmigmldecacpaaW.PrintWords Go.Proofs.YtcmigmldecacpaaW.PrintLast Go.Proofs.Ytcmigmldecacpaa.Vec Go.Proofs.Ytcmigmldecacpaa.Giv Go.Proofs.Ytcmigmldecacpaa.Dense Go.Proofs.Ytcmigmldecacpaa.Reduce Go.Proofs.Ytcmigmldecacpaa.Ech

theorem up63 {i n : Nat} (h : i < n) (hn : n ≤ 9223372036854775807) : wrap64 ((i : Int) + 1) = ((i + 1 : Nat) : Int) := by rw [Gy.wrap64_id (by omega) (by omega)]; omega
theorem rdL (l : List (List Int)) (i : Nat) (hi : i < l.length) : rd_L1 l (i : Int) = l[i] := by
  unfold rd_L1; rw [Int.toNat_natCast, List.getD_eq_getElem?_getD, List.getElem?_eq_getElem hi]; rfl
theorem rdI (l : List Int) (i : Nat) : rd l (i : Int) = l.getD i 0 := by unfold rd; rw [Int.toNat_natCast]
theorem widthN_eq {l : List (List Int)} (h : ∀ r ∈ l, r.length ≤ 1000 ∧ By r) : widthN (fillRows l) = maxFrom 0 l := by
  cases l with
  | nil => rfl
  | cons r t => exact (fill_slots h).1.len _ (by simp [fillRows])
/-- rows as long as the longest -/
theorem rows_l1 (l : List (List Int)) (M : Nat) (hM : M ≤ 1000) (hl : l.length ≤ 1000) (h : ∀ r ∈ l, r.length ≤ M) : ∀ (d i : Nat) (out : List (List Int)), i + d = l.length → out = (l.take i).map (padTo M) →
    Ev (fun k => geyserref03_Rows.l1 k l M out (l.length : Int) i) (l.map (padTo M), (M : Int)) := by
  intro d
  induction d with
  | zero =>
    intro i out hi ho
    refine Ev.step (fun k => ?_) (Ev.now _)
    simp only [geyserref03_Rows.l1]
    rw [if_neg (by omega), ho, List.take_of_length_le (by omega)]
  | succ d ih =>
    intro i out hi ho
    have hi' : i < l.length := by omega
    have hr := h _ (List.getElem_mem hi')
    have hfl : geyserref03_Fill.f l[i] (M : Int) = some (padTo M l[i]) := by
      unfold geyserref03_Fill.f
      rw [if_pos ⟨by omega, by omega, by omega⟩, Int.toNat_natCast]
      unfold fillL padTo
      rw [List.take_of_length_le hr]
    have hol : out.length ≤ 1000 := by rw [ho, List.length_map, List.length_take]; omega
    refine Ev.step (fun k => ?_) (ih (i + 1) (out ++ [padTo M l[i]]) (by omega) (by rw [ho, List.take_succ_eq_append_getElem hi', List.map_append]; rfl))
    simp only [geyserref03_Rows.l1]
    rw [if_pos (by omega), if_pos (by omega), if_pos (by omega), rdL l i hi', hfl, Option.bind_some, if_pos (by omega), up63 hi' (by omega)]
theorem rows_l0 (l : List (List Int)) (hl : l.length ≤ 1000) (h : ∀ r ∈ l, r.length ≤ 1000) : ∀ (d i m : Nat), i + d = l.length → m ≤ 1000 → (∀ r ∈ l, r.length ≤ maxFrom m (l.drop i)) →
    Ev (fun k => geyserref03_Rows.l0 k l m (l.length : Int) i) (l.map (padTo (maxFrom m (l.drop i))), ((maxFrom m (l.drop i) : Nat) : Int)) := by
  intro d
  induction d with
  | zero =>
    intro i m hi hm hh
    rw [List.drop_eq_nil_of_le (by omega)] at hh ⊢
    refine Ev.step (fun k => ?_) (rows_l1 l m hm hl hh l.length 0 [] (by omega) rfl)
    simp only [geyserref03_Rows.l0]
    rw [if_neg (by omega)]
    rfl
  | succ d ih =>
    intro i m hi hm hh
    have hi' : i < l.length := by omega
    have hmx : mx (m : Int) (l[i].length : Int) = ((max m l[i].length : Nat) : Int) := by unfold mx; omega
    rw [List.drop_eq_getElem_cons hi'] at hh ⊢
    refine Ev.step (fun k => ?_) (ih (i + 1) (max m l[i].length) (by omega) (by have := h _ (List.getElem_mem hi'); omega) hh)
    simp only [geyserref03_Rows.l0]
    rw [if_pos (by omega), if_pos (by omega), if_pos (by omega), rdL l i hi', hmx, up63 hi' (by omega)]
theorem rows_run (l : List (List Int)) (hl : l.length ≤ 1000) (h : ∀ r ∈ l, r.length ≤ 1000 ∧ By r) : Ev (fun k => geyserref03_Rows.f k l) (fillRows l, ((maxFrom 0 l : Nat) : Int)) := by
  have h1 := rows_l0 l hl (fun r hr => (h r hr).1) l.length 0 0 (by omega) (by omega) (fun r hr => by rw [List.drop_zero]; exact (le_maxFrom l 0).2 r hr)
  rw [List.drop_zero] at h1
  exact h1
theorem few_l0 (X : List (List Int)) (hX : X.length ≤ 9223372036854775807) : ∀ (d i : Nat), i + d = X.length → i ≤ 40 → (∀ j (h : j < X.length), j < i → X[j].length ≤ 40) →
    ∃ b, Ev (fun n => geyserlaw05_few.l0 n X (X.length : Int) i) b ∧ (b = true → X.length ≤ 40 ∧ ∀ j (h : j < X.length), X[j].length ≤ 40) := by
  intro d
  induction d with
  | zero =>
    intro i hi h70 hb
    refine ⟨true, Ev.step (fun n => ?_) (Ev.now _), fun _ => ⟨by omega, fun j h => hb j h (by omega)⟩⟩
    simp only [geyserlaw05_few.l0]
    rw [if_neg (by omega)]
  | succ d ih =>
    intro i hi h70 hb
    have hi' : i < X.length := by omega
    by_cases h1 : i ≥ 40
    · refine ⟨false, Ev.step (fun n => ?_) (Ev.now _), fun h => by cases h⟩
      simp only [geyserlaw05_few.l0]
      rw [if_pos (by omega), if_pos (by omega)]
    · by_cases h2 : ((X[i]).length : Int) > 40
      · refine ⟨false, Ev.step (fun n => ?_) (Ev.now _), fun h => by cases h⟩
        simp only [geyserlaw05_few.l0]
        rw [if_pos (by omega), if_neg (by omega), if_pos (by omega), if_pos (by omega), rdL X i hi', if_pos h2]
      · obtain ⟨b, hE, hh⟩ := ih (i + 1) (by omega) (by omega) (fun j h hj => by
          by_cases e : j = i
          · subst e; omega
          · exact hb j h (by omega))
        refine ⟨b, Ev.step (fun n => ?_) hE, hh⟩
        simp only [geyserlaw05_few.l0]
        rw [if_pos (by omega), if_neg (by omega), if_pos (by omega), if_pos (by omega), rdL X i hi', if_neg h2, up63 hi' hX]
theorem same_run (R : List (List Int)) (P : List Int) (hR : R.length ≤ 1000) (hP : P.length ≤ R.length) : ∀ (d i : Nat), i + d = P.length →
    Ev (fun k => geyserlaw05_DenseRanks.l0 k R P (R.take P.length) P (P.length : Int) i) true := by
  have ht : (R.take P.length).length = P.length := by rw [List.length_take]; omega
  intro d
  induction d with
  | zero =>
    intro i hi
    refine Ev.step (fun k => ?_) (Ev.now _)
    simp only [geyserlaw05_DenseRanks.l0]
    rw [if_neg (by omega)]
  | succ d ih =>
    intro i hi
    have hi' : i < P.length := by omega
    have he : (R.take P.length)[i]'(by omega) = R[i]'(by omega) := List.getElem_take
    refine Ev.step (fun k => ?_) (ih (i + 1) (by omega))
    simp only [geyserlaw05_DenseRanks.l0]
    rw [if_pos (by omega), if_pos (by omega), if_pos (by omega), if_pos (by omega), if_pos trivial, if_pos (by omega), if_pos (by omega), rdL (R.take P.length) i (by omega), rdL R i (by omega), he, if_pos rfl, up63 hi' (by omega)]
theorem echelon_f {l : List (List Int)} (h : ∀ r ∈ l, r.length ≤ 1000 ∧ By r) (hl : l.length ≤ 40) : geyserref03_Echelon.f (fillRows l) ((maxFrom 0 l : Nat) : Int) = some ((redTo (fillRows l) (maxFrom 0 l)).1, (redTo (fillRows l) (maxFrom 0 l)).2.map Int.ofNat) := by
  obtain ⟨f1, f2, f3⟩ := fill_slots h
  have hwd := widthN_eq h
  unfold widthN at hwd
  have hok : okEch (fillRows l) ((maxFrom 0 l : Nat) : Int) = true := by
    unfold okEch
    simp only [Bool.and_eq_true, decide_eq_true_eq, List.all_eq_true, Int.toNat_natCast]
    refine ⟨⟨⟨⟨by omega, by omega⟩, by omega⟩, by omega⟩, fun r hr => ⟨by rw [hwd]; exact f1.len r hr, by_okB (f1.b r hr)⟩⟩
  unfold geyserref03_Echelon.f
  rw [if_pos hok, Int.toNat_natCast]
theorem rank_one : dense_Rank.f [[1]] = some 1 := by decide +kernel
theorem DenseRanks (l : List (List Int)) (hl : l.length ≤ 9223372036854775807) (hb : ∀ r ∈ l, By r) : ∃ k, geyserlaw05_DenseRanks.f k l = some true := by
  refine Ev.rounds ?_
  have hw : geyserlaw05_awake.f = some true := by unfold geyserlaw05_awake.f; rw [rank_one]; rfl
  obtain ⟨b, hF, hB⟩ := few_l0 l hl l.length 0 (by omega) (by omega) (fun j h hj => by omega)
  have hF' : Ev (fun n => geyserlaw05_few.f n l) b := hF
  refine Ev.congr (f := fun n => (geyserlaw05_few.f n l).bind fun t => geyserlaw05_DenseRanks.j0 n l (!t)) (fun n => ?_) (Ev.bind hF' ?_)
  · unfold geyserlaw05_DenseRanks.f
    rw [hw, Option.bind_some, if_pos rfl]
  cases b with
  | false =>
    refine Ev.step (f := fun _ => some true) (fun n => ?_) (Ev.now _)
    simp only [geyserlaw05_DenseRanks.j0]
    rw [if_pos (show (!false) = true from rfl), hw]
    rfl
  | true =>
    obtain ⟨h40, h100⟩ := hB rfl
    have hok : ∀ r ∈ l, r.length ≤ 1000 ∧ By r := fun r hr => by
      obtain ⟨j, hj, rfl⟩ := List.mem_iff_getElem.1 hr
      have := h100 j hj
      exact ⟨by omega, hb _ hr⟩
    have hokR : okR l = true := by
      unfold okR
      rw [Bool.and_eq_true, decide_eq_true_eq, List.all_eq_true]
      refine ⟨by omega, fun r hr => ?_⟩
      rw [Bool.and_eq_true, decide_eq_true_eq]
      exact ⟨(hok r hr).1, by_okB (hok r hr).2⟩
    obtain ⟨f1, f2, f3⟩ := fill_slots hok
    have hwd : widthN (fillRows l) = maxFrom 0 l := widthN_eq hok
    have hinv := redTo_inv f1 (maxFrom 0 l)
    have hrk : dense_Rank.f l = some (((redTo (fillRows l) (maxFrom 0 l)).2.length : Nat) : Int) := by unfold dense_Rank.f; rw [if_pos hokR, hwd]
    have hrd : dense_Reduce.f l = some ((redTo (fillRows l) (maxFrom 0 l)).1.take (redTo (fillRows l) (maxFrom 0 l)).2.length, (redTo (fillRows l) (maxFrom 0 l)).2.map Int.ofNat) := by unfold dense_Reduce.f; rw [if_pos hokR, hwd]
    have hrows := rows_run l (by omega) hok
    have hech := echelon_f hok h40
    generalize redTo (fillRows l) (maxFrom 0 l) = st at hrk hrd hech hinv
    obtain ⟨R, P⟩ := st
    simp only at hrk hrd hech hinv
    have hPl : (P.map Int.ofNat).length = P.length := List.length_map _
    have hfin := same_run R (P.map Int.ofNat) (by omega) (by omega) (P.map Int.ofNat).length 0 (by omega)
    refine Ev.step (f := fun n => (geyserref03_Rows.f n l).bind fun b1 => (geyserref03_Echelon.f b1.1 b1.2).bind fun b2 => if ((P.length : Nat) : Int) = (b2.2.length : Int) then (if ((R.take P.length).length : Int) = (b2.2.length : Int) then geyserlaw05_DenseRanks.j1 n b2.1 b2.2 (R.take P.length) (P.map Int.ofNat) (((P.map Int.ofNat).length : Int) != (b2.2.length : Int)) else geyserlaw05_DenseRanks.j1 n b2.1 b2.2 (R.take P.length) (P.map Int.ofNat) true) else geyserlaw05_DenseRanks.j1 n b2.1 b2.2 (R.take P.length) (P.map Int.ofNat) true) (fun n => ?_) (Ev.bind hrows (Ev.congr (fun n => by show (geyserref03_Echelon.f (fillRows l) ((maxFrom 0 l : Nat) : Int)).bind _ = _; rw [hech, Option.bind_some]) ?_))
    · simp only [geyserlaw05_DenseRanks.j0]
      rw [if_neg (by decide), hrd, hrk]
      rfl
    · refine Ev.step (f := fun n => geyserlaw05_DenseRanks.l0 n R (P.map Int.ofNat) (R.take P.length) (P.map Int.ofNat) (((P.map Int.ofNat).length : Nat) : Int) 0) (fun n => ?_) ?_
      · show (if ((P.length : Nat) : Int) = ((P.map Int.ofNat).length : Int) then (if ((R.take P.length).length : Int) = ((P.map Int.ofNat).length : Int) then geyserlaw05_DenseRanks.j1 (n + 1) R (P.map Int.ofNat) (R.take P.length) (P.map Int.ofNat) (((P.map Int.ofNat).length : Int) != ((P.map Int.ofNat).length : Int)) else geyserlaw05_DenseRanks.j1 (n + 1) R (P.map Int.ofNat) (R.take P.length) (P.map Int.ofNat) true) else geyserlaw05_DenseRanks.j1 (n + 1) R (P.map Int.ofNat) (R.take P.length) (P.map Int.ofNat) true) = _
        have hin := hinv
        rw [if_pos (by rw [hPl]), if_pos (by rw [hPl, List.length_take]; omega)]
        simp only [geyserlaw05_DenseRanks.j1]
        rw [if_neg (by simp)]
      · rw [hPl] at hfin ⊢
        exact hfin

end Go.Proofs.Ytcmigmldecacpaa.Pure

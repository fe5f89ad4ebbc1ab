/- Package path: which names are right. -/
import Derived.Test.YtnoebhnkkigkjaaDoorPathW
import Derived.Lib.SplitLaws
namespace Go.Proofs.YtnoebhnkkigkjaaDoor.Path
open Go Go.RowKit Go.Shelf Go.Proofs.YtnoebhnkkigkjaaDoor.QPart Go.Proofs.YtnoebhnkkigkjaaDoorW.PrintWords Go.Proofs.YtnoebhnkkigkjaaDoorW.PrintLast Go.Proofs.YtnoebhnkkigkjaaDoorW.PrintMore

/-- bytes of parts -/
def plainI (c : Int) : Bool := decide (97 ≤ c ∧ c ≤ 122) || decide (48 ≤ c ∧ c ≤ 57) || decide (c = 46) || decide (c = 95) || decide (c = 45)
theorem plain_says (c : Int) : path_plain.f c = some (plainI c) := by
  have e : ∀ b : Bool, (b = true ↔ plainI c = true) → some b = some (plainI c) := fun b h => by
    congr 1
    cases b <;> cases hp : plainI c <;> simp_all
  have ep : plainI c = true ↔ ((97 ≤ c ∧ c ≤ 122) ∨ (48 ≤ c ∧ c ≤ 57) ∨ c = 46 ∨ c = 95 ∨ c = 45) := by
    unfold plainI
    simp only [Bool.or_eq_true, decide_eq_true_eq]
    omega
  unfold path_plain.f
  repeat' split
  all_goals (apply e; rw [ep]; simp only [beq_iff_eq, true_iff]; omega)
def plains (l : List UInt8) : Bool := l.all fun b => plainI (b.toNat : Int)
/-- parts that may be -/
def partB (p : ByteArray) : Bool := plains p.data.toList && (decide (p.data.toList ≠ []) && (decide (p.data.toList ≠ [46]) && decide (p.data.toList ≠ [46, 46])))
theorem bt_data (p : ByteArray) (i : Nat) (h : i < p.data.toList.length) : bt p i = ((p.data.toList[i]).toNat : Int) := by
  have h' : i < p.size := h
  have e : ((i : Int)).toNat = i := by omega
  rw [← bt_at p i (by rw [e]; exact h')]
  simp only [e]
  rfl
theorem part_l0 (p : ByteArray) (hp : p.size ≤ 4611686018427387904) : ∀ (k i : Nat), i ≤ p.size → p.size - i < k →
    path_part.l0 k p (p.size : Int) (i : Int) = some (plains (p.data.toList.drop i) && (decide (p.data.toList ≠ []) && (decide (p.data.toList ≠ [46]) && decide (p.data.toList ≠ [46, 46]))))
  | 0, _, _, h => by omega
  | k + 1, i, h1, h2 => by
    simp only [path_part.l0]
    by_cases hi : i < p.size
    · have hl : i < p.data.toList.length := hi
      rw [if_pos (by omega), if_pos (by omega), if_pos (by omega), plain_says, Option.bind_some, bt_data p i hl, wrap_small _ (by omega) (by omega)]
      have ed : p.data.toList.drop i = p.data.toList[i] :: p.data.toList.drop (i + 1) := by rw [List.drop_eq_getElem_cons hl]
      have ep : plains (p.data.toList.drop i) = (plainI ((p.data.toList[i]).toNat : Int) && plains (p.data.toList.drop (i + 1))) := by
        rw [ed]; rfl
      rw [ep]
      cases hc : plainI ((p.data.toList[i]).toNat : Int) with
      | false => rw [if_neg (by decide)]; rfl
      | true =>
        rw [if_pos rfl]
        have := part_l0 p hp k (i + 1) (by omega) (by omega)
        rw [show ((i : Int) + 1) = ((i + 1 : Nat) : Int) by omega, this]
        rfl
    · have hl : p.data.toList.length ≤ i := by have : ¬ i < p.data.toList.length := hi; omega
      rw [if_neg (by omega), List.drop_eq_nil_of_le hl, Lib.toList_data]
      have ep : plains [] = true := rfl
      rw [ep, Bool.true_and]
      by_cases a : p.data.toList = []
      · rw [if_pos a]; simp [a]
      · rw [if_neg a]
        by_cases b : p.data.toList = [46]
        · rw [if_pos b]; simp [b]
        · rw [if_neg b]
          by_cases c : p.data.toList = [46, 46]
          · simp [c]
          · have : (p.data.toList != [46, 46]) = true := bne_iff_ne.2 c
            rw [this]; simp [a, b, c]
theorem part_calls (p : ByteArray) (hp : p.size ≤ 4611686018427387904) (w : World) :
    Calls Tryd.prog 58 #[.string p] w fun e w' => e = .returned (.bool (partB p)) ∧ Drawn0 w w' := by
  refine path_part.calls (p.size + 1) p (partB p) w ?_
  have h := part_l0 p hp (p.size + 1) 0 (by omega) (by omega)
  exact h

/-- what lies between the slashes -/
def sl : ByteArray := ⟨#[47]⟩
def pcs (s : ByteArray) : List ByteArray := Lib.splitB sl 0 (Lib.countB s sl) s
theorem pcs_len (s : ByteArray) : (pcs s).length = Lib.countB s sl + 1 := Lib.splitB_all sl (by decide) 0 _ s rfl
theorem splitB_small (sep : ByteArray) : ∀ (k : Nat) (s p : ByteArray), p ∈ Lib.splitB sep 0 k s → p.size ≤ s.size
  | 0, s, p, h => by simp [Lib.splitB] at h; subst h; exact Nat.le_refl _
  | k + 1, s, p, h => by
    unfold Lib.splitB at h
    split at h
    · simp at h; subst h; exact Nat.le_refl _
    · rcases List.mem_cons.1 h with rfl | h
      · rw [ByteArray.size_extract]; omega
      · have := splitB_small sep k _ p h
        rw [ByteArray.size_extract] at this; omega
/-- names that files of a set may have -/
def right (s : ByteArray) : Bool := (pcs s).all partB && (decide (s.size ≤ 40) && (((pcs s).headD ⟨#[]⟩).toList != ([111, 108, 100] : List UInt8) && (((pcs s).headD ⟨#[]⟩).toList != ([116, 109, 112] : List UInt8) && !suf s)))
structure Held (s : ByteArray) (w w' : World) : Prop where
  cells : ∀ j, j < (pcs s).length → w'.cell? ⟨w.heap.size, j, none⟩ = some (.string ((pcs s).getD j ⟨#[]⟩))
  below : Below w.heap.size w w'
  there : w.heap.size < w'.heap.size
theorem Held.step {s : ByteArray} {w w1 w2 : World} (h : Held s w w1) (hd : Drawn0 w1 w2) : Held s w w2 := by
  have hb := hd.below
  exact ⟨fun j hj => cell_below hb (h.cells j hj), h.below.trans (hb.mono h.below.size), Nat.lt_of_lt_of_le h.there hb.size⟩
theorem held_first (s : ByteArray) (w : World) (T : TypeId) : Held s w (w.alloc (.cells ((pcs s).map Value.string).toArray T)) := by
  refine ⟨fun j hj => ?_, (Below.refl _ _).alloc (Nat.le_refl _) _, by simp⟩
  simp [List.getD, hj]
theorem split_calls (s : ByteArray) (hs : s.size ≤ 1000000000) (w : World) (G : Good w) :
    Calls Tryd.prog 57 #[.string s, .string sl] w fun e w' => e = .returned (.slice (some ⟨w.heap.size, 0, none⟩) (pcs s).length (pcs s).length) ∧ Held s w w' := by
  obtain ⟨m, hm⟩ := G.ml
  refine (Any.strings_Split { Tryd.splitLay with } Tryd.splitLay.i9 s sl m w (by omega) hm (by decide)).mono ?_
  rintro e w' ⟨rfl, rfl⟩
  rw [pcs_len]
  exact ⟨rfl, held_first s w _⟩
set_option maxHeartbeats 8000000 in
set_option maxRecDepth 100000 in
theorem right_calls (s : ByteArray) (hs : s.size ≤ 1000000000) (w : World) (G : Good w) :
    Calls Tryd.prog 29 #[.string s] w fun e w' => e = .returned (.bool (right s)) ∧ Below w.heap.size w w' := by
  have G' := Lib.hid G
  clear G
  have hL1 : 1 ≤ (pcs s).length := by rw [pcs_len]; omega
  have hL2 : (pcs s).length ≤ 2000000000 := by
    rw [pcs_len]
    have := Lib.countB_le sl (by decide) s.size s (Nat.le_refl _)
    omega
  have hsm := Lib.hid (splitB_small sl (Lib.countB s sl) s)
  generalize hL : (pcs s).length = L at *
  have HL := Lib.hid hL
  clear hL
  go_enter Tryd.func29, Tryd.ntmps29
  go_wp2_with (go_at_call 57; refine (split_calls s hs _ G'.out).mono ?_; rw [HL.out]; rintro e w1 ⟨rfl, hd⟩; have hb1 := Lib.hid hd; clear hd)
  go_loopg [10] (L + 1) (fun kq v10 w' => ∃ i : Nat, v10 = .int .i64 (i : Int) ∧ Hid (i + kq = L + 1 ∧ i ≤ L ∧ ((pcs s).take i).all partB = true) ∧ Hid (Held s w w'))
  case atStart => exact ⟨0, rfl, Lib.hid ⟨by omega, by omega, by simp⟩, hb1⟩
  case round =>
    clear hb1
    obtain ⟨i, rfl, hi, hw⟩ := hrel
    cases gk with
    | zero => exact absurd hi.out.1 (by have := hi.out.2.1; omega)
    | succ k1 =>
      by_cases hlt : i < L
      · obtain ⟨p, hp⟩ : ∃ p, (pcs s).getD i ⟨#[]⟩ = p := ⟨_, rfl⟩
        have hc := hw.out.cells i (by rw [HL.out]; exact hlt)
        rw [hp] at hc
        have hil : i < (pcs s).length := by rw [HL.out]; exact hlt
        have hpi : (pcs s)[i]? = some p := by rw [← hp, List.getD, List.getElem?_eq_getElem hil]; rfl
        have hpm : p ∈ pcs s := List.mem_of_getElem? hpi
        have hps : p.size ≤ 4611686018427387904 := by
          have := hsm.out p hpm
          omega
        have hpi' := Lib.hid hpi
        have hpm' := Lib.hid hpm
        clear hp hpi hil hpm
        have g1 : (i : Int) < (L : Int) := by omega
        cases hpb : partB p with
        | false =>
          have hq := Lib.hid hpb
          clear hpb
          have hr : Hid (right s = false) := Lib.hid (by
            have : (pcs s).all partB = false := by
              rw [List.all_eq_false]
              exact ⟨p, hpm'.out, by rw [hq.out]; decide⟩
            unfold right
            rw [this, Bool.false_and])
          go_wp2_with (go_at_call 58; refine (part_calls p hps _).mono ?_; rw [hq.out]; rintro e w2 ⟨rfl, hd⟩; have hb2 := Lib.hid hd; clear hd)
          go_ret
          exact ⟨congrArg (fun b => Ending.returned (Value.bool b)) hr.out.symm, (hw.out.step hb2.out).below⟩
        | true =>
          have hq := Lib.hid hpb
          clear hpb
          go_wp2_with (go_at_call 58; refine (part_calls p hps _).mono ?_; rw [hq.out]; rintro e w2 ⟨rfl, hd⟩; have hb2 := Lib.hid hd; clear hd)
          go_roundg k1
          case measure => omega
          case rel => exact ⟨i + 1, congrArg _ (by omega), Lib.hid ⟨by have := hi.out.1; omega, by omega, by
            rw [List.take_add_one, List.all_append, hi.out.2.2, hpi'.out]; simp [hq.out]⟩, Lib.hid (hw.out.step hb2.out)⟩
      · have hiL : i = L := by have := hi.out.2.1; omega
        have hall : Hid ((pcs s).all partB = true) := Lib.hid (by
          have := hi.out.2.2
          rw [hiL, ← HL.out, List.take_length] at this
          exact this)
        subst hiL
        obtain ⟨p, hp⟩ : ∃ p, (pcs s).getD 0 ⟨#[]⟩ = p := ⟨_, rfl⟩
        have hc := hw.out.cells 0 (by rw [HL.out]; omega)
        rw [hp] at hc
        have hr0 : right s = (decide (s.size ≤ 40) && ((p.toList != ([111, 108, 100] : List UInt8)) && ((p.toList != ([116, 109, 112] : List UInt8)) && !suf s))) := by
          unfold right
          rw [hall.out, Bool.true_and, List.headD_eq_head?_getD, List.head?_eq_getElem?, ← List.getD_eq_getElem?_getD, hp]
        have hr := Lib.hid hr0
        have HS := Lib.hid (suf_says s (by omega))
        have g1 : ¬ ((i : Int) < (i : Int)) := by omega
        clear hp hr0 hlt
        have fin : ∀ {b : Bool}, (decide (s.size ≤ 40) && ((p.toList != ([111, 108, 100] : List UInt8)) && ((p.toList != ([116, 109, 112] : List UInt8)) && !suf s))) = b → Hid (right s = b) := fun h => Lib.hid (hr.out.trans h)
        by_cases c1 : s.size ≤ 40
        · have d1 : (s.size : Int) ≤ 40 := by omega
          cases e1 : (p.toList == ([111, 108, 100] : List UInt8)) with
          | true =>
            have R := fin (b := false) (by simp only [bne, e1]; simp)
            go_wp2
            go_ret
            exact ⟨congrArg (fun b => Ending.returned (Value.bool b)) R.out.symm, hw.out.below⟩
          | false =>
            cases e2 : (p.toList == ([116, 109, 112] : List UInt8)) with
            | true =>
              have R := fin (b := false) (by simp only [bne, e2]; simp)
              go_wp2
              go_ret
              exact ⟨congrArg (fun b => Ending.returned (Value.bool b)) R.out.symm, hw.out.below⟩
            | false =>
              have R := fin (b := !suf s) (by simp only [bne, e1, e2]; simp [c1])
              go_wp2_with (go_at_call 59; refine (strings_HasSuffix.calls _ _ _ _ HS.out).mono ?_; rintro e w2 ⟨rfl, hd⟩; have hb2 := Lib.hid hd; clear hd)
              go_ret
              exact ⟨congrArg (fun b => Ending.returned (Value.bool b)) R.out.symm, (hw.out.step hb2.out).below⟩
        · have d1 : ¬ (s.size : Int) ≤ 40 := by omega
          have R := fin (b := false) (by simp [c1])
          go_wp2
          go_ret
          exact ⟨congrArg (fun b => Ending.returned (Value.bool b)) R.out.symm, hw.out.below⟩
end Go.Proofs.YtnoebhnkkigkjaaDoor.Path

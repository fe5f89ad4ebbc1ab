/- Package path, as package args reaches it: which names are right; and that the reference's test is the same. -/
import Derived.Test.YtfdfijohcapgaaaDoorArgsLay
import Derived.Test.YtfdfijohcapgaaaDoorQPartx
import Derived.Test.YtfdfijohcapgaaaDoorArgsQ
import Derived.Lib.SmallJoins
import Derived.Lib.AppendIntMem
import Derived.Lib.AtoiErrMem
import Derived.Lib.SplitLaws
import Derived.Lib.Hide
import Derived.WalkKit
import Derived.BigCall
namespace Go.Proofs.YtfdfijohcapgaaaDoor.Path
open Go Go.RowKit Go.Shelf Go.Proofs.YtfdfijohcapgaaaDoor.QPart Go.Proofs.YtfdfijohcapgaaaDoorW.PrintWords Go.Proofs.YtfdfijohcapgaaaDoorW.PrintLast Go.Proofs.YtfdfijohcapgaaaDoorW.PrintMore

/-- what the package's functions read of the library's variables -/
structure Good (w : World) : Prop where
  tab : Lib.TabIs Tryd.prog w "internal/strconv.uint64pow10" .u64 Lib.pow10Tab
  es : ∃ t p, w.cell? ⟨4, 0, none⟩ = some (.iface t p)
  er : ∃ t p, w.cell? ⟨5, 0, none⟩ = some (.iface t p)
  ml : ∃ m, w.cell? ⟨1, 0, none⟩ = some (.int .i64 m)
theorem gTab : Tryd.prog.globalNamed "internal/strconv.uint64pow10" = some 0 := by kernel_rfl
theorem cell_below {w w' : World} {a : Addr} {u : Value} (hb : Below w.heap.size w w') (h : w.cell? a = some u) : w'.cell? a = some u := by
  have hlt : a.block < w.heap.size := by
    rcases Nat.lt_or_ge a.block w.heap.size with h' | h'
    · exact h'
    · simp [World.cell?, Array.getElem?_eq_none h'] at h
  rw [hb.cell hlt]; exact h
theorem Good.below {w w' : World} (h : Good w) (hb : Below w.heap.size w w') : Good w' := by
  obtain ⟨h1, ⟨t2, p2, h2⟩, ⟨t3, p3, h3⟩, ⟨m, h4⟩⟩ := h
  exact ⟨Joins.tab_stays gTab h1 hb (Nat.le_refl _), ⟨t2, p2, cell_below hb h2⟩, ⟨t3, p3, cell_below hb h3⟩, ⟨m, cell_below hb h4⟩⟩

/-- the volumes' ending -/
def gys : ByteArray := ⟨#[46, 103, 121, 115]⟩
def suf (s : ByteArray) : Bool := decide (4 ≤ s.size) && ((s.extract (s.size - 4) s.size).toList == gys.toList)
theorem wrap_small (x : Int) (h0 : -9223372036854775808 ≤ x) (h1 : x ≤ 9223372036854775807) : wrap64 x = x := by
  unfold wrap64; omega
theorem suf_in (s : ByteArray) (hs : s.size ≤ 9223372036854775807) : stringslite_HasSuffix.f s gys = some (suf s) := by
  have e4 : gys.size = 4 := rfl
  unfold stringslite_HasSuffix.f suf
  rw [e4]
  by_cases h : 4 ≤ s.size
  · rw [if_pos (by omega), wrap_small _ (by omega) (by omega), if_pos (by omega), if_pos (by omega)]
    have e : (((s.size : Int) - ((4 : Nat) : Int)).toNat) = s.size - 4 := by omega
    rw [e]
    simp [h]
  · rw [if_neg (by omega)]
    simp [h]
theorem suf_says (s : ByteArray) (hs : s.size ≤ 9223372036854775807) : strings_HasSuffix.f s gys = some (suf s) := by
  unfold strings_HasSuffix.f
  rw [suf_in s hs]; rfl
theorem bytes_below {w w' : World} {T : TypeId} (h : w' = w ∨ ∃ t, w' = Lib.bytesWorld w T t) : Below w.heap.size w w' := by
  rcases h with rfl | ⟨t, rfl⟩
  · exact Below.refl _ _
  · exact Lib.bytesWorld_below _ _ _
theorem beq_bytes (d c : ByteArray) : (d.toList == c.toList) = decide (d = c) := by
  rw [Lib.toList_data, Lib.toList_data]
  by_cases h : d = c
  · subst h; simp
  · have h' : d.data.toList ≠ c.data.toList := fun e => h (by
      obtain ⟨⟨d⟩⟩ := d
      obtain ⟨⟨c⟩⟩ := c
      simp only at e
      rw [e])
    rw [decide_eq_false h]
    exact beq_eq_false_iff_ne.2 h'

/-- bytes of parts -/
def plainI (c : Int) : Bool := decide (97 ≤ c ∧ c ≤ 122) || decide (48 ≤ c ∧ c ≤ 57) || decide (c = 46) || decide (c = 95) || decide (c = 45)
theorem plain_says (c : Int) : path_plain.f c = some (plainI c) := by
  have e : ∀ b : Bool, (b = true ↔ plainI c = true) → some b = some (plainI c) := fun b h => by
    congr 1
    cases b <;> cases hp : plainI c <;> simp_all
  have ep : plainI c = true ↔ ((97 ≤ c ∧ c ≤ 122) ∨ (48 ≤ c ∧ c ≤ 57) ∨ c = 46 ∨ c = 95 ∨ c = 45) := by
    unfold plainI
    simp only [Bool.or_eq_true, decide_eq_true_eq]
    omega
  unfold path_plain.f
  repeat' split
  all_goals (apply e; rw [ep]; simp only [beq_iff_eq, true_iff]; omega)
def plains (l : List UInt8) : Bool := l.all fun b => plainI (b.toNat : Int)
/-- parts that may be -/
def partB (p : ByteArray) : Bool := plains p.data.toList && (decide (p.data.toList ≠ []) && (decide (p.data.toList ≠ [46]) && decide (p.data.toList ≠ [46, 46])))
theorem bt_data (p : ByteArray) (i : Nat) (h : i < p.data.toList.length) : bt p i = ((p.data.toList[i]).toNat : Int) := by
  have h' : i < p.size := h
  have e : ((i : Int)).toNat = i := by omega
  rw [← bt_at p i (by rw [e]; exact h')]
  simp only [e]
  rfl
theorem part_l0 (p : ByteArray) (hp : p.size ≤ 4611686018427387904) : ∀ (k i : Nat), i ≤ p.size → p.size - i < k →
    path_part.l0 k p (p.size : Int) (i : Int) = some (plains (p.data.toList.drop i) && (decide (p.data.toList ≠ []) && (decide (p.data.toList ≠ [46]) && decide (p.data.toList ≠ [46, 46]))))
  | 0, _, _, h => by omega
  | k + 1, i, h1, h2 => by
    simp only [path_part.l0]
    by_cases hi : i < p.size
    · have hl : i < p.data.toList.length := hi
      rw [if_pos (by omega), if_pos (by omega), if_pos (by omega), plain_says, Option.bind_some, bt_data p i hl, wrap_small _ (by omega) (by omega)]
      have ed : p.data.toList.drop i = p.data.toList[i] :: p.data.toList.drop (i + 1) := by rw [List.drop_eq_getElem_cons hl]
      have ep : plains (p.data.toList.drop i) = (plainI ((p.data.toList[i]).toNat : Int) && plains (p.data.toList.drop (i + 1))) := by
        rw [ed]; rfl
      rw [ep]
      cases hc : plainI ((p.data.toList[i]).toNat : Int) with
      | false => rw [if_neg (by decide)]; rfl
      | true =>
        rw [if_pos rfl]
        have := part_l0 p hp k (i + 1) (by omega) (by omega)
        rw [show ((i : Int) + 1) = ((i + 1 : Nat) : Int) by omega, this]
        rfl
    · have hl : p.data.toList.length ≤ i := by have : ¬ i < p.data.toList.length := hi; omega
      rw [if_neg (by omega), List.drop_eq_nil_of_le hl, Lib.toList_data]
      have ep : plains [] = true := rfl
      rw [ep, Bool.true_and]
      by_cases a : p.data.toList = []
      · rw [if_pos a]; simp [a]
      · rw [if_neg a]
        by_cases b : p.data.toList = [46]
        · rw [if_pos b]; simp [b]
        · rw [if_neg b]
          by_cases c : p.data.toList = [46, 46]
          · simp [c]
          · have : (p.data.toList != [46, 46]) = true := bne_iff_ne.2 c
            rw [this]; simp [a, b, c]
theorem part_calls (p : ByteArray) (hp : p.size ≤ 4611686018427387904) (w : World) :
    Calls Tryd.prog 35 #[.string p] w fun e w' => e = .returned (.bool (partB p)) ∧ Drawn0 w w' := by
  refine path_part.calls (p.size + 1) p (partB p) w ?_
  have h := part_l0 p hp (p.size + 1) 0 (by omega) (by omega)
  exact h

/-- what lies between the slashes -/
def sl : ByteArray := ⟨#[47]⟩
def pcs (s : ByteArray) : List ByteArray := Lib.splitB sl 0 (Lib.countB s sl) s
theorem pcs_len (s : ByteArray) : (pcs s).length = Lib.countB s sl + 1 := Lib.splitB_all sl (by decide) 0 _ s rfl
theorem splitB_small (sep : ByteArray) : ∀ (k : Nat) (s p : ByteArray), p ∈ Lib.splitB sep 0 k s → p.size ≤ s.size
  | 0, s, p, h => by simp [Lib.splitB] at h; subst h; exact Nat.le_refl _
  | k + 1, s, p, h => by
    unfold Lib.splitB at h
    split at h
    · simp at h; subst h; exact Nat.le_refl _
    · rcases List.mem_cons.1 h with rfl | h
      · rw [ByteArray.size_extract]; omega
      · have := splitB_small sep k _ p h
        rw [ByteArray.size_extract] at this; omega
/-- names that files of a set may have -/
def right (s : ByteArray) : Bool := (pcs s).all partB && (decide (s.size ≤ 40) && (((pcs s).headD ⟨#[]⟩).toList != ([111, 108, 100] : List UInt8) && (((pcs s).headD ⟨#[]⟩).toList != ([116, 109, 112] : List UInt8) && !suf s)))
structure Held (s : ByteArray) (w w' : World) : Prop where
  cells : ∀ j, j < (pcs s).length → w'.cell? ⟨w.heap.size, j, none⟩ = some (.string ((pcs s).getD j ⟨#[]⟩))
  below : Below w.heap.size w w'
  there : w.heap.size < w'.heap.size
theorem Held.step {s : ByteArray} {w w1 w2 : World} (h : Held s w w1) (hd : Drawn0 w1 w2) : Held s w w2 := by
  have hb := hd.below
  exact ⟨fun j hj => cell_below hb (h.cells j hj), h.below.trans (hb.mono h.below.size), Nat.lt_of_lt_of_le h.there hb.size⟩
theorem held_first (s : ByteArray) (w : World) (T : TypeId) : Held s w (w.alloc (.cells ((pcs s).map Value.string).toArray T)) := by
  refine ⟨fun j hj => ?_, (Below.refl _ _).alloc (Nat.le_refl _) _, by simp⟩
  simp [List.getD, hj]
theorem split_calls (s : ByteArray) (hs : s.size ≤ 1000000000) (w : World) (G : Good w) :
    Calls Tryd.prog 13 #[.string s, .string sl] w fun e w' => e = .returned (.slice (some ⟨w.heap.size, 0, none⟩) (pcs s).length (pcs s).length) ∧ Held s w w' := by
  obtain ⟨m, hm⟩ := G.ml
  refine (Any.strings_Split { Tryd.splitLay with } Tryd.splitLay.i9 s sl m w (by omega) hm (by decide)).mono ?_
  rintro e w' ⟨rfl, rfl⟩
  rw [pcs_len]
  exact ⟨rfl, held_first s w _⟩
set_option maxHeartbeats 8000000 in
set_option maxRecDepth 100000 in
theorem right_calls (s : ByteArray) (hs : s.size ≤ 1000000000) (w : World) (G : Good w) :
    Calls Tryd.prog 25 #[.string s] w fun e w' => e = .returned (.bool (right s)) ∧ Below w.heap.size w w' := by
  have G' := Lib.hid G
  clear G
  have hL1 : 1 ≤ (pcs s).length := by rw [pcs_len]; omega
  have hL2 : (pcs s).length ≤ 2000000000 := by
    rw [pcs_len]
    have := Lib.countB_le sl (by decide) s.size s (Nat.le_refl _)
    omega
  have hsm := Lib.hid (splitB_small sl (Lib.countB s sl) s)
  generalize hL : (pcs s).length = L at *
  have HL := Lib.hid hL
  clear hL
  go_enter Tryd.func25, Tryd.ntmps25
  go_wp2_with (go_at_call 13; refine (split_calls s hs _ G'.out).mono ?_; rw [HL.out]; rintro e w1 ⟨rfl, hd⟩; have hb1 := Lib.hid hd; clear hd)
  go_loopg [10] (L + 1) (fun kq v10 w' => ∃ i : Nat, v10 = .int .i64 (i : Int) ∧ Hid (i + kq = L + 1 ∧ i ≤ L ∧ ((pcs s).take i).all partB = true) ∧ Hid (Held s w w'))
  case atStart => exact ⟨0, rfl, Lib.hid ⟨by omega, by omega, by simp⟩, hb1⟩
  case round =>
    clear hb1
    obtain ⟨i, rfl, hi, hw⟩ := hrel
    cases gk with
    | zero => exact absurd hi.out.1 (by have := hi.out.2.1; omega)
    | succ k1 =>
      by_cases hlt : i < L
      · obtain ⟨p, hp⟩ : ∃ p, (pcs s).getD i ⟨#[]⟩ = p := ⟨_, rfl⟩
        have hc := hw.out.cells i (by rw [HL.out]; exact hlt)
        rw [hp] at hc
        have hil : i < (pcs s).length := by rw [HL.out]; exact hlt
        have hpi : (pcs s)[i]? = some p := by rw [← hp, List.getD, List.getElem?_eq_getElem hil]; rfl
        have hpm : p ∈ pcs s := List.mem_of_getElem? hpi
        have hps : p.size ≤ 4611686018427387904 := by
          have := hsm.out p hpm
          omega
        have hpi' := Lib.hid hpi
        have hpm' := Lib.hid hpm
        clear hp hpi hil hpm
        have g1 : (i : Int) < (L : Int) := by omega
        cases hpb : partB p with
        | false =>
          have hq := Lib.hid hpb
          clear hpb
          have hr : Hid (right s = false) := Lib.hid (by
            have : (pcs s).all partB = false := by
              rw [List.all_eq_false]
              exact ⟨p, hpm'.out, by rw [hq.out]; decide⟩
            unfold right
            rw [this, Bool.false_and])
          go_wp2_with (go_at_call 35; refine (part_calls p hps _).mono ?_; rw [hq.out]; rintro e w2 ⟨rfl, hd⟩; have hb2 := Lib.hid hd; clear hd)
          go_ret
          exact ⟨congrArg (fun b => Ending.returned (Value.bool b)) hr.out.symm, (hw.out.step hb2.out).below⟩
        | true =>
          have hq := Lib.hid hpb
          clear hpb
          go_wp2_with (go_at_call 35; refine (part_calls p hps _).mono ?_; rw [hq.out]; rintro e w2 ⟨rfl, hd⟩; have hb2 := Lib.hid hd; clear hd)
          go_roundg k1
          case measure => omega
          case rel => exact ⟨i + 1, congrArg _ (by omega), Lib.hid ⟨by have := hi.out.1; omega, by omega, by
            rw [List.take_add_one, List.all_append, hi.out.2.2, hpi'.out]; simp [hq.out]⟩, Lib.hid (hw.out.step hb2.out)⟩
      · have hiL : i = L := by have := hi.out.2.1; omega
        have hall : Hid ((pcs s).all partB = true) := Lib.hid (by
          have := hi.out.2.2
          rw [hiL, ← HL.out, List.take_length] at this
          exact this)
        subst hiL
        obtain ⟨p, hp⟩ : ∃ p, (pcs s).getD 0 ⟨#[]⟩ = p := ⟨_, rfl⟩
        have hc := hw.out.cells 0 (by rw [HL.out]; omega)
        rw [hp] at hc
        have hr0 : right s = (decide (s.size ≤ 40) && ((p.toList != ([111, 108, 100] : List UInt8)) && ((p.toList != ([116, 109, 112] : List UInt8)) && !suf s))) := by
          unfold right
          rw [hall.out, Bool.true_and, List.headD_eq_head?_getD, List.head?_eq_getElem?, ← List.getD_eq_getElem?_getD, hp]
        have hr := Lib.hid hr0
        have HS := Lib.hid (suf_says s (by omega))
        have g1 : ¬ ((i : Int) < (i : Int)) := by omega
        clear hp hr0 hlt
        have fin : ∀ {b : Bool}, (decide (s.size ≤ 40) && ((p.toList != ([111, 108, 100] : List UInt8)) && ((p.toList != ([116, 109, 112] : List UInt8)) && !suf s))) = b → Hid (right s = b) := fun h => Lib.hid (hr.out.trans h)
        by_cases c1 : s.size ≤ 40
        · have d1 : (s.size : Int) ≤ 40 := by omega
          cases e1 : (p.toList == ([111, 108, 100] : List UInt8)) with
          | true =>
            have R := fin (b := false) (by simp only [bne, e1]; simp)
            go_wp2
            go_ret
            exact ⟨congrArg (fun b => Ending.returned (Value.bool b)) R.out.symm, hw.out.below⟩
          | false =>
            cases e2 : (p.toList == ([116, 109, 112] : List UInt8)) with
            | true =>
              have R := fin (b := false) (by simp only [bne, e2]; simp)
              go_wp2
              go_ret
              exact ⟨congrArg (fun b => Ending.returned (Value.bool b)) R.out.symm, hw.out.below⟩
            | false =>
              have R := fin (b := !suf s) (by simp only [bne, e1, e2]; simp [c1])
              go_wp2_with (go_at_call 36; refine (strings_HasSuffix.calls _ _ _ _ HS.out).mono ?_; rintro e w2 ⟨rfl, hd⟩; have hb2 := Lib.hid hd; clear hd)
              go_ret
              exact ⟨congrArg (fun b => Ending.returned (Value.bool b)) R.out.symm, (hw.out.step hb2.out).below⟩
        · have d1 : ¬ (s.size : Int) ≤ 40 := by omega
          have R := fin (b := false) (by simp [c1])
          go_wp2
          go_ret
          exact ⟨congrArg (fun b => Ending.returned (Value.bool b)) R.out.symm, hw.out.below⟩

def splitL : List UInt8 → List (List UInt8)
  | [] => [[]]
  | c :: r => if c = 47 then [] :: splitL r else match splitL r with
    | h :: t => (c :: h) :: t
    | [] => [[c]]
theorem splitL_ne : ∀ l, ∃ h t, splitL l = h :: t
  | [] => ⟨_, _, rfl⟩
  | c :: r => by
    obtain ⟨h, t, e⟩ := splitL_ne r
    by_cases hc : c = 47
    · exact ⟨[], splitL r, by rw [splitL, if_pos hc]⟩
    · exact ⟨c :: h, t, by rw [splitL, if_neg hc, e]⟩
theorem splitL_at : ∀ (l : List UInt8), (Lib.index l [47] = -1 ∧ splitL l = [l]) ∨ ∃ i : Nat, Lib.index l [47] = i ∧ i < l.length ∧ splitL l = l.take i :: splitL (l.drop (i + 1))
  | [] => .inl ⟨rfl, rfl⟩
  | c :: r => by
    have hI := Lib.index_one (c :: r) 47
    rw [Lib.indexByte, ← Lib.index_one r 47] at hI
    by_cases hc : c = 47
    · refine .inr ⟨0, ?_, by simp, ?_⟩
      · rw [hI, if_pos (beq_iff_eq.2 hc)]; try rfl
      · rw [splitL, if_pos hc]; rfl
    · rw [if_neg (fun h => hc (beq_iff_eq.1 h))] at hI
      rcases splitL_at r with ⟨h1, h2⟩ | ⟨i, h1, h2, h3⟩
      · refine .inl ⟨?_, ?_⟩
        · rw [hI, h1]; rfl
        · rw [splitL, if_neg hc, h2]
      · refine .inr ⟨i + 1, ?_, by simp; omega, ?_⟩
        · rw [hI, h1, if_neg (by simp only [beq_iff_eq]; omega)]; omega
        · rw [splitL, if_neg hc, h3]; rfl
theorem splitK_L : ∀ (n : Nat) (l : List UInt8), l.length ≤ n → Lib.splitK [47] 0 (Lib.count l [47]) l = splitL l
  | 0, l, h => by
    obtain rfl : l = [] := List.eq_nil_of_length_eq_zero (by omega)
    rfl
  | n + 1, l, h => by
    rcases splitL_at l with ⟨h1, h2⟩ | ⟨i, h1, h2, h3⟩
    · rw [Lib.count_miss h1, h2]; rfl
    · rw [Lib.count_hit (by decide) h1, Nat.add_comm, Lib.splitK, h1, if_neg (by simp only [beq_iff_eq]; omega), h3]
      have e : ((i : Int)).toNat = i := by omega
      rw [e]
      have := splitK_L n (l.drop (i + 1)) (by rw [List.length_drop]; omega)
      simp only [Nat.add_zero, List.length_cons, List.length_nil, Nat.zero_add]
      rw [this]
theorem pcs_list (s : ByteArray) : (pcs s).map (·.data.toList) = splitL s.data.toList := by
  unfold pcs
  rw [Lib.splitB_data]
  exact splitK_L _ _ (Nat.le_refl _)

/-- a part in the scan -/
def okPart (first : Bool) (p : List UInt8) : Bool := decide (p ≠ []) && (decide (p ≠ [46]) && (decide (p ≠ [46, 46]) && !(first && (decide (p = [111, 108, 100]) || decide (p = [116, 109, 112])))))
def scanL : Bool → List UInt8 → List UInt8 → Bool
  | first, acc, [] => okPart first acc
  | first, acc, c :: r => if c = 47 then okPart first acc && scanL false [] r else plainI (c.toNat : Int) && scanL first (acc ++ [c]) r
theorem scan_split : ∀ (l : List UInt8) (first : Bool) (acc : List UInt8), ∀ h t, splitL l = h :: t →
    scanL first acc l = (plains h && (okPart first (acc ++ h) && t.all fun p => plains p && okPart false p))
  | [], first, acc, h, t, e => by
    simp only [splitL, List.cons.injEq] at e
    obtain ⟨rfl, rfl⟩ := e
    simp [scanL, plains]
  | c :: r, first, acc, h, t, e => by
    obtain ⟨h', t', e'⟩ := splitL_ne r
    by_cases hc : c = 47
    · rw [splitL, if_pos hc, e'] at e
      simp only [List.cons.injEq] at e
      obtain ⟨rfl, rfl⟩ := e
      rw [scanL, if_pos hc, scan_split r false [] h' t' e']
      simp [plains, Bool.and_assoc]
    · rw [splitL, if_neg hc, e'] at e
      simp only [List.cons.injEq] at e
      obtain ⟨rfl, rfl⟩ := e
      rw [scanL, if_neg hc, scan_split r first (acc ++ [c]) h' t' e']
      simp [plains, Bool.and_assoc]
/-- the scan, in the printed form -/
theorem suf_list (s : ByteArray) : suf s = (decide (4 ≤ s.size) && decide (s.data.toList.drop (s.size - 4) = [46, 103, 121, 115])) := by
  unfold suf
  rw [Lib.toList_data, Lib.toList_data, Lib.extract_data]
  have e : (s.data.toList.drop (s.size - 4)).take (s.size - (s.size - 4)) = s.data.toList.drop (s.size - 4) := by
    apply List.take_of_length_le
    rw [List.length_drop]
    have : s.data.toList.length = s.size := rfl
    omega
  rw [e]
  congr 1
  rw [Bool.eq_iff_iff, beq_iff_eq, decide_eq_true_eq]
  exact Iff.rfl
theorem right_list (s : ByteArray) : right s = (decide (s.size ≤ 40) && (!suf s && scanL true [] s.data.toList)) := by
  obtain ⟨h, t, e⟩ := splitL_ne s.data.toList
  have hp := pcs_list s
  rw [e] at hp
  obtain ⟨ph, pt, ep⟩ : ∃ ph pt, pcs s = ph :: pt := by
    cases hc : pcs s with
    | nil => rw [hc] at hp; simp at hp
    | cons a b => exact ⟨a, b, rfl⟩
  rw [ep] at hp
  simp only [List.map_cons, List.cons.injEq] at hp
  obtain ⟨h1, h2⟩ := hp
  unfold right
  rw [scan_split s.data.toList true [] h t e, ep]
  have ea : pt.all partB = t.all fun p => plains p && okPart false p := by
    rw [← h2, List.all_map]
    congr 1
    funext p
    simp [partB, okPart]
  have eh : partB ph = (plains h && (decide (h ≠ []) && (decide (h ≠ [46]) && decide (h ≠ [46, 46])))) := by
    unfold partB; rw [h1]
  rw [List.all_cons, ea, eh, List.headD_cons, Lib.toList_data, h1, List.nil_append]
  have e5 : ∀ x : List UInt8, (h != x) = !decide (h = x) := fun x => by by_cases hx : h = x <;> simp [hx]
  rw [e5, e5]
  generalize (t.all fun p => plains p && okPart false p) = T
  unfold okPart
  generalize decide (s.size ≤ 40) = D
  generalize decide (h = [111, 108, 100]) = B1
  generalize decide (h = [116, 109, 112]) = B2
  generalize decide (h ≠ []) = C1
  generalize decide (h ≠ [46]) = C2
  generalize decide (h ≠ [46, 46]) = C3
  generalize plains h = PH
  generalize suf s = SS
  revert T D B1 B2 C1 C2 C3 PH SS
  decide
/-- what else the law asks of a name that is right -/
theorem right_first (s : ByteArray) (h : right s = true) : suf s = false ∧ ∃ c r, s.data.toList = c :: r ∧ c ≠ 47 ∧ (c = 46 → r ≠ []) := by
  rw [right_list] at h
  simp only [Bool.and_eq_true, Bool.not_eq_true'] at h
  refine ⟨h.2.1, ?_⟩
  have hs := h.2.2
  cases hl : s.data.toList with
  | nil => rw [hl] at hs; simp [scanL, okPart] at hs
  | cons c r =>
    rw [hl] at hs
    refine ⟨c, r, rfl, fun hc => ?_, fun hc hr => ?_⟩
    · subst hc
      simp [scanL, okPart] at hs
    · subst hc; subst hr
      simp [scanL, okPart] at hs

theorem plainI_iff (c : Int) : plainI c = true ↔ ((97 ≤ c ∧ c ≤ 122) ∨ (48 ≤ c ∧ c ≤ 57) ∨ c = 46 ∨ c = 95 ∨ c = 45) := by
  unfold plainI
  simp only [Bool.or_eq_true, decide_eq_true_eq]
  omega
theorem j2_char (k : Nat) (s : ByteArray) (a i : Int) (h0 : 0 ≤ i) (h1 : i < (s.size : Int)) :
    geyserref14_Path.j2 (k + 1) s a i true = geyserref14_Path.j3 k s a i (!plainI (bt s i)) := by
  have e : ∀ b : Bool, (b = true ↔ plainI (bt s i) = true) → geyserref14_Path.j3 k s a i (!b) = geyserref14_Path.j3 k s a i (!plainI (bt s i)) := fun b h => by
    congr 1
    cases b <;> cases hp : plainI (bt s i) <;> simp_all
  rw [geyserref14_Path.j2, if_pos rfl, if_pos h0, if_pos h1]
  generalize bt s i = c at *
  repeat' split
  all_goals (apply e; rw [plainI_iff]; simp only [beq_iff_eq, true_iff]; omega)
def piece (s : ByteArray) (a i : Nat) : List UInt8 := (s.data.toList.drop a).take (i - a)
theorem j2_part (k : Nat) (s : ByteArray) (a i : Nat) (h0 : a ≤ i) (h1 : i ≤ s.size) (hs : s.size ≤ 1000000) :
    geyserref14_Path.j2 (k + 1) s (a : Int) (i : Int) false = if okPart (decide (a = 0)) (piece s a i) then geyserref14_Path.l0 k s ((i + 1 : Nat) : Int) ((i + 1 : Nat) : Int) else some false := by
  have e : (s.extract a i).toList = piece s a i := by rw [Lib.toList_data, Lib.extract_data]; rfl
  simp only [geyserref14_Path.j2]
  rw [if_neg (by decide), if_pos (by omega), if_pos (by omega), if_pos (by omega), Int.toNat_natCast, Int.toNat_natCast, e, wrap_small _ (by omega) (by omega), show ((i : Int) + 1) = ((i + 1 : Nat) : Int) by omega]
  generalize piece s a i = p
  unfold okPart
  by_cases a1 : p = []
  · rw [if_pos a1]; simp [a1]
  · rw [if_neg a1]
    by_cases a2 : p = [46]
    · rw [if_pos a2]; simp [a2]
    · rw [if_neg a2]
      by_cases a3 : p = [46, 46]
      · rw [if_pos a3]; simp [a3]
      · rw [if_neg a3]
        by_cases a0 : a = 0
        · rw [if_pos (by omega)]
          by_cases a4 : p = [111, 108, 100]
          · rw [if_pos a4]; simp [a0, a4]
          · rw [if_neg a4]
            by_cases a5 : p = [116, 109, 112]
            · rw [if_pos a5]; simp [a0, a5]
            · rw [if_neg a5]; simp [a0, a1, a2, a3, a4, a5]
        · rw [if_neg (by omega)]
          simp [a0, a1, a2, a3]
theorem l0_past (k : Nat) (s : ByteArray) (a : Int) : geyserref14_Path.l0 (k + 1) s a ((s.size + 1 : Nat) : Int) = some true := by
  rw [geyserref14_Path.l0, if_neg (by omega)]
theorem path_l0 (s : ByteArray) (hs : s.size ≤ 1000000) : ∀ (n k a i : Nat), s.size - i ≤ n → 3 * n + 5 ≤ k → a ≤ i → i ≤ s.size →
    geyserref14_Path.l0 k s (a : Int) (i : Int) = some (scanL (decide (a = 0)) (piece s a i) (s.data.toList.drop i)) := by
  intro n
  induction n with
  | zero =>
    intro k a i h1 h2 h3 h4
    obtain ⟨k, rfl⟩ : ∃ k', k = k' + 3 := ⟨k - 3, by omega⟩
    obtain rfl : i = s.size := by omega
    rw [geyserref14_Path.l0, if_pos (by omega), if_neg (by omega), j2_part (k + 1) s a s.size h3 h4 hs]
    have ed : s.data.toList.drop s.size = [] := List.drop_eq_nil_of_le (Nat.le_refl _)
    rw [ed, scanL, l0_past]
    cases okPart (decide (a = 0)) (piece s a s.size) <;> rfl
  | succ n ih =>
    intro k a i h1 h2 h3 h4
    obtain ⟨k, rfl⟩ : ∃ k', k = k' + 3 := ⟨k - 3, by omega⟩
    by_cases hi : i = s.size
    · subst hi
      rw [geyserref14_Path.l0, if_pos (by omega), if_neg (by omega), j2_part (k + 1) s a s.size h3 h4 hs]
      have ed : s.data.toList.drop s.size = [] := List.drop_eq_nil_of_le (Nat.le_refl _)
      rw [ed, scanL, l0_past]
      cases okPart (decide (a = 0)) (piece s a s.size) <;> rfl
    · have hl : i < s.data.toList.length := by have : s.data.toList.length = s.size := rfl; omega
      have ed : s.data.toList.drop i = s.data.toList[i] :: s.data.toList.drop (i + 1) := List.drop_eq_getElem_cons hl
      have eb := bt_data s i hl
      rw [geyserref14_Path.l0, if_pos (by omega), if_pos (by omega), if_pos (by omega), ed, scanL, eb]
      by_cases hc : s.data.toList[i] = 47
      · rw [if_pos hc]
        have e1 : (((s.data.toList[i]).toNat : Int) != 47) = false := by rw [hc]; rfl
        rw [e1, j2_part (k + 1) s a i h3 h4 hs, ih (k + 1) (i + 1) (i + 1) (by omega) (by omega) (Nat.le_refl _) (by omega)]
        have e2 : piece s (i + 1) (i + 1) = [] := by unfold piece; simp
        rw [e2]
        cases okPart (decide (a = 0)) (piece s a i) <;> simp
      · rw [if_neg hc]
        have e1 : (((s.data.toList[i]).toNat : Int) != 47) = true := by
          refine bne_iff_ne.2 fun h => hc ?_
          have h47 : (s.data.toList[i]).toNat = 47 := by omega
          exact UInt8.toNat_inj.1 h47
        rw [e1, j2_char (k + 1) s a i (by omega) (by omega), eb, geyserref14_Path.j3]
        have e2 : piece s a (i + 1) = piece s a i ++ [s.data.toList[i]] := by
          unfold piece
          rw [show i + 1 - a = (i - a) + 1 by omega, List.take_add_one, List.getElem?_drop, show a + (i - a) = i by omega, List.getElem?_eq_getElem hl]
          rfl
        cases hp : plainI ((s.data.toList[i]).toNat : Int) with
        | false => simp
        | true =>
          rw [if_neg (by decide), wrap_small _ (by omega) (by omega), show ((i : Int) + 1) = ((i + 1 : Nat) : Int) by omega, ih k a (i + 1) (by omega) (by omega) (by omega) (by omega), e2]
          simp
theorem path_says (s : ByteArray) (hs : s.size ≤ 1000000) : geyserref14_Path.f (3 * s.size + 10) s = some (right s) := by
  rw [right_list]
  have hj : geyserref14_Path.l0 (3 * s.size + 9) s 0 0 = some (scanL true [] s.data.toList) := by
    have := path_l0 s hs s.size (3 * s.size + 9) 0 0 (by omega) (by omega) (Nat.le_refl _) (Nat.zero_le _)
    simpa [piece] using this
  unfold geyserref14_Path.f
  by_cases h40 : s.size ≤ 40
  · rw [if_neg (by omega)]
    by_cases h4 : 4 ≤ s.size
    · rw [if_pos (by omega), wrap_small _ (by omega) (by omega), if_pos (by omega), if_pos (by omega), geyserref14_Path.j0]
      have e : (((s.size : Int) - 4).toNat) = s.size - 4 := by omega
      have es : ((s.extract (s.size - 4) s.size).toList == ([46, 103, 121, 115] : List UInt8)) = suf s := by
        unfold suf
        rw [decide_eq_true h4, Bool.true_and]
        rw [Lib.toList_data gys]; rfl
      rw [e, es, hj]
      cases suf s <;> simp [h40]
    · rw [if_neg (by omega), geyserref14_Path.j0, if_neg (by decide), hj]
      have : suf s = false := by unfold suf; rw [decide_eq_false h4]; rfl
      rw [this]; simp [h40]
  · rw [if_pos (by omega), geyserref14_Path.j0, if_pos rfl]
    simp [h40]
end Go.Proofs.YtfdfijohcapgaaaDoor.Path

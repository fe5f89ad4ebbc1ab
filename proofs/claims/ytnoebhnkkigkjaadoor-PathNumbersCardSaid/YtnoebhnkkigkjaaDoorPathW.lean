/- Package path: what it reads of the library's variables; a number's text; a volume's number. -/
import Derived.Test.YtnoebhnkkigkjaaDoorPathLay
import Derived.Test.YtnoebhnkkigkjaaDoorQPartx
import Derived.Shelf.Strconv.ErrVarAll
import Derived.Lib.SmallJoins
import Derived.Lib.AppendIntMem
import Derived.Lib.AtoiErrMem
import Derived.Lib.Hide
import Derived.WalkKit
import Derived.BigCall
namespace Go.Proofs.YtnoebhnkkigkjaaDoor.Path
open Go Go.RowKit Go.Shelf Go.Proofs.YtnoebhnkkigkjaaDoor.QPart Go.Proofs.YtnoebhnkkigkjaaDoorW.PrintWords Go.Proofs.YtnoebhnkkigkjaaDoorW.PrintLast Go.Proofs.YtnoebhnkkigkjaaDoorW.PrintMore

/-- what the package's functions read of the library's variables -/
structure Good (w : World) : Prop where
  tab : Lib.TabIs Tryd.prog w "internal/strconv.uint64pow10" .u64 Lib.pow10Tab
  es : ∃ t p, w.cell? ⟨0, 0, none⟩ = some (.iface t p)
  er : ∃ t p, w.cell? ⟨1, 0, none⟩ = some (.iface t p)
  ml : ∃ m, w.cell? ⟨2, 0, none⟩ = some (.int .i64 m)
theorem gTab : Tryd.prog.globalNamed "internal/strconv.uint64pow10" = some 5 := by kernel_rfl
theorem cell_below {w w' : World} {a : Addr} {u : Value} (hb : Below w.heap.size w w') (h : w.cell? a = some u) : w'.cell? a = some u := by
  have hlt : a.block < w.heap.size := by
    rcases Nat.lt_or_ge a.block w.heap.size with h' | h'
    · exact h'
    · simp [World.cell?, Array.getElem?_eq_none h'] at h
  rw [hb.cell hlt]; exact h
theorem Good.below {w w' : World} (h : Good w) (hb : Below w.heap.size w w') : Good w' := by
  obtain ⟨h1, ⟨t2, p2, h2⟩, ⟨t3, p3, h3⟩, ⟨m, h4⟩⟩ := h
  exact ⟨Joins.tab_stays gTab h1 hb (Nat.le_refl _), ⟨t2, p2, cell_below hb h2⟩, ⟨t3, p3, cell_below hb h3⟩, ⟨m, cell_below hb h4⟩⟩

/-- a number's text -/
def dig (n : Int) : ByteArray := if n < 0 ∨ n > 999 then ⟨#[]⟩ else ⟨(Lib.itoa n).toArray⟩
set_option maxHeartbeats 2000000 in
set_option maxRecDepth 100000 in
theorem digits_calls (n : Int) (h0 : -9223372036854775808 ≤ n) (h1 : n ≤ 9223372036854775807) (w : World) (G : Good w) :
    Calls Tryd.prog 62 #[.int .i64 n] w fun e w' => e = .returned (.string (dig n)) ∧ Below w.heap.size w w' := by
  have G' := Lib.hid G
  clear G
  by_cases hn : n < 0 ∨ n > 999
  · have e : dig n = ⟨#[]⟩ := if_pos hn
    rw [e]
    by_cases h : n < 0
    · go_enter Tryd.func62, Tryd.ntmps62
      go_wp2
      go_ret
      exact ⟨rfl, Below.refl _ _⟩
    · have h' : n > 999 := by omega
      go_enter Tryd.func62, Tryd.ntmps62
      go_wp2
      go_ret
      exact ⟨rfl, Below.refl _ _⟩
  · have e : dig n = ⟨(Lib.itoa n).toArray⟩ := if_neg hn
    rw [e]
    have ha : ¬ n < 0 := by omega
    have hb : ¬ n > 999 := by omega
    go_enter Tryd.func62, Tryd.ntmps62
    go_wp2_with (go_at_call 85; refine (Any.strconv_Itoa Tryd.itoaLay n h0 h1 _ G'.out.tab).mono ?_; rintro e w' ⟨rfl, k, os, rfl⟩)
    go_ret
    exact ⟨rfl, Lib.below_grow _ _ (Nat.le_refl _) _ _⟩

/-- the volumes' ending -/
def gys : ByteArray := ⟨#[46, 103, 121, 115]⟩
def suf (s : ByteArray) : Bool := decide (4 ≤ s.size) && ((s.extract (s.size - 4) s.size).toList == gys.toList)
def cut (s : ByteArray) : ByteArray := if suf s then s.extract 0 (s.size - 4) else s
theorem wrap_small (x : Int) (h0 : -9223372036854775808 ≤ x) (h1 : x ≤ 9223372036854775807) : wrap64 x = x := by
  unfold wrap64; omega
theorem suf_in (s : ByteArray) (hs : s.size ≤ 9223372036854775807) : stringslite_HasSuffix.f s gys = some (suf s) := by
  have e4 : gys.size = 4 := rfl
  unfold stringslite_HasSuffix.f suf
  rw [e4]
  by_cases h : 4 ≤ s.size
  · rw [if_pos (by omega), wrap_small _ (by omega) (by omega), if_pos (by omega), if_pos (by omega)]
    have e : (((s.size : Int) - ((4 : Nat) : Int)).toNat) = s.size - 4 := by omega
    rw [e]
    simp [h]
  · rw [if_neg (by omega)]
    simp [h]
theorem suf_says (s : ByteArray) (hs : s.size ≤ 9223372036854775807) : strings_HasSuffix.f s gys = some (suf s) := by
  unfold strings_HasSuffix.f
  rw [suf_in s hs]; rfl
theorem cut_says (s : ByteArray) (hs : s.size ≤ 9223372036854775807) : strings_CutSuffix.f s gys = some (cut s, suf s) := by
  have e4 : gys.size = 4 := rfl
  unfold strings_CutSuffix.f stringslite_CutSuffix.f cut
  rw [suf_in s hs, Option.bind_some]
  cases hb : suf s with
  | false => rw [if_neg (by decide)]; rfl
  | true =>
    have h : 4 ≤ s.size := by
      unfold suf at hb
      simp only [Bool.and_eq_true, decide_eq_true_eq] at hb
      exact hb.1
    rw [e4, if_pos rfl, wrap_small _ (by omega) (by omega), if_pos (by omega), if_pos (by omega)]
    have e : (((s.size : Int) - ((4 : Nat) : Int)).toNat) = s.size - 4 := by omega
    rw [e]; rfl
/-- a volume's number -/
def num (s : ByteArray) : Int :=
  match Lib.atoiAll (cut s).data.toList with
  | .ok v => if suf s = true ∧ dig v = cut s then v else -1
  | _ => -1
theorem cut_le (s : ByteArray) : (cut s).size ≤ s.size := by
  unfold cut
  split
  · rw [ByteArray.size_extract]; omega
  · exact Nat.le_refl _
theorem beq_bytes (d c : ByteArray) : (d.toList == c.toList) = decide (d = c) := by
  rw [Lib.toList_data, Lib.toList_data]
  by_cases h : d = c
  · subst h; simp
  · have h' : d.data.toList ≠ c.data.toList := fun e => h (by
      obtain ⟨⟨d⟩⟩ := d
      obtain ⟨⟨c⟩⟩ := c
      simp only at e
      rw [e])
    rw [decide_eq_false h]
    exact beq_eq_false_iff_ne.2 h'
theorem bytes_below {w w' : World} {T : TypeId} (h : w' = w ∨ ∃ t, w' = Lib.bytesWorld w T t) : Below w.heap.size w w' := by
  rcases h with rfl | ⟨t, rfl⟩
  · exact Below.refl _ _
  · exact Lib.bytesWorld_below _ _ _
set_option maxHeartbeats 4000000 in
set_option maxRecDepth 100000 in
theorem number_calls (s : ByteArray) (hs : s.size ≤ 281474976710656) (w : World) (G : Good w) :
    Calls Tryd.prog 30 #[.string s] w fun e w' => e = .returned (.int .i64 (num s)) ∧ Below w.heap.size w w' := by
  have G' := Lib.hid G
  have HC := Lib.hid (cut_says s (by omega))
  have hcs : (cut s).size ≤ 281474976710656 := Nat.le_trans (cut_le s) hs
  have HN : num s = num s := rfl
  unfold num at HN ⊢
  clear G HN
  generalize hsf : suf s = b at *
  generalize hct : cut s = c at *
  clear hsf hct
  have chain : ∀ {w w1 w2 : World}, Below w.heap.size w w1 → Below w1.heap.size w1 w2 → Below w.heap.size w w2 := fun h1 h2 => h1.trans (h2.mono h1.size)
  rcases h : Lib.atoiAll c.data.toList with v | _ | _
  next =>
    have hv := Lib.hid (Lib.atoiAll_bounds h)
    have h' := Lib.hid h
    clear h
    simp only
    cases b with
    | false =>
      rw [if_neg (by simp)]
      go_enter Tryd.func30, Tryd.ntmps30
      go_wp2_with (first
        | (go_at_call 60; refine (strings_CutSuffix.calls _ _ _ _ _ HC.out).mono ?_; rintro e w1 ⟨rfl, hd⟩; have hb1 := Lib.hid hd.below; clear hd)
        | (go_at_call 61; refine (Any.strconv_Atoi_ok Tryd.atoiLay c (by omega) v h'.out _).mono ?_; rintro e w2 ⟨rfl, hw⟩; have hb2 := Lib.hid (bytes_below hw); clear hw))
      go_ret
      exact ⟨rfl, chain hb1.out hb2.out⟩
    | true =>
      by_cases hdv : dig v = c
      · rw [if_pos ⟨rfl, hdv⟩]
        have hdv' := Lib.hid hdv
        clear hdv
        go_enter Tryd.func30, Tryd.ntmps30
        go_wp2_with (first
          | (go_at_call 60; refine (strings_CutSuffix.calls _ _ _ _ _ HC.out).mono ?_; rintro e w1 ⟨rfl, hd⟩; have hb1 := Lib.hid hd.below; clear hd)
          | (go_at_call 61; refine (Any.strconv_Atoi_ok Tryd.atoiLay c (by omega) v h'.out _).mono ?_; rintro e w2 ⟨rfl, hw⟩; have hb2 := Lib.hid (bytes_below hw); clear hw)
          | (go_at_call 62; refine (digits_calls v hv.out.1 hv.out.2 _ ((G'.out.below hb1.out).below hb2.out)).mono ?_; rw [hdv'.out]; rintro e w3 ⟨rfl, hb3'⟩; have hb3 := Lib.hid hb3'; clear hb3'))
        go_ret
        exact ⟨rfl, chain (chain hb1.out hb2.out) hb3.out⟩
      · rw [if_neg (fun h => hdv h.2)]
        obtain ⟨d, hd⟩ : ∃ d, dig v = d := ⟨_, rfl⟩
        have hne : (d.toList == c.toList) = false := by rw [beq_bytes, ← hd]; simp [hdv]
        have hdv' := Lib.hid hd
        clear hdv hd
        go_enter Tryd.func30, Tryd.ntmps30
        go_wp2_with (first
          | (go_at_call 60; refine (strings_CutSuffix.calls _ _ _ _ _ HC.out).mono ?_; rintro e w1 ⟨rfl, hd⟩; have hb1 := Lib.hid hd.below; clear hd)
          | (go_at_call 61; refine (Any.strconv_Atoi_ok Tryd.atoiLay c (by omega) v h'.out _).mono ?_; rintro e w2 ⟨rfl, hw⟩; have hb2 := Lib.hid (bytes_below hw); clear hw)
          | (go_at_call 62; refine (digits_calls v hv.out.1 hv.out.2 _ ((G'.out.below hb1.out).below hb2.out)).mono ?_; rw [hdv'.out]; rintro e w3 ⟨rfl, hb3'⟩; have hb3 := Lib.hid hb3'; clear hb3'))
        go_ret
        exact ⟨rfl, chain (chain hb1.out hb2.out) hb3.out⟩
  next =>
    have h' := Lib.hid h
    clear h
    simp only
    cases b <;>
    · go_enter Tryd.func30, Tryd.ntmps30
      go_wp2_with (first
        | (go_at_call 60; refine (strings_CutSuffix.calls _ _ _ _ _ HC.out).mono ?_; rintro e w1 ⟨rfl, hd⟩; have hb1 := Lib.hid hd.below; clear hd; obtain ⟨t, p, hv0⟩ := (G'.out.below hb1.out).es; have hv := Lib.hid hv0; clear hv0)
        | (go_at_call 61; refine (Any.strconv_Atoi_syntax Tryd.atoiLay c (by omega) h'.out _ _ hv.out (Or.inr ⟨_, _, rfl⟩)).mono ?_; rintro e w2 ⟨n, rfl, -, -, hw⟩; have hb2 := Lib.hid hw; clear hw))
      go_ret
      exact ⟨rfl, chain hb1.out hb2.out⟩
  next =>
    have h' := Lib.hid h
    clear h
    simp only
    cases b <;>
    · go_enter Tryd.func30, Tryd.ntmps30
      go_wp2_with (first
        | (go_at_call 60; refine (strings_CutSuffix.calls _ _ _ _ _ HC.out).mono ?_; rintro e w1 ⟨rfl, hd⟩; have hb1 := Lib.hid hd.below; clear hd; obtain ⟨t, p, hv0⟩ := (G'.out.below hb1.out).er; have hv := Lib.hid hv0; clear hv0)
        | (go_at_call 61; refine (Any.strconv_Atoi_range Tryd.atoiLay c (by omega) h'.out _ _ hv.out (Or.inr ⟨_, _, rfl⟩)).mono ?_; rintro e w2 ⟨n, rfl, -, -, hw⟩; have hb2 := Lib.hid hw; clear hw))
      go_ret
      exact ⟨rfl, chain hb1.out hb2.out⟩
end Go.Proofs.YtnoebhnkkigkjaaDoor.Path

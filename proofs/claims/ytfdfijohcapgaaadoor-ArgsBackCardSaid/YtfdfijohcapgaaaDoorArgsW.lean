/- Package args: small facts of the plain law, for the statements' walks; the door of layer 22 is awake. -/
import Derived.Test.YtfdfijohcapgaaaDoorArgsV
namespace Go.Proofs.YtfdfijohcapgaaaDoor.Path
open Go Go.RowKit Go.Shelf Go.Proofs.YtfdfijohcapgaaaDoor.QPart Go.Proofs.YtfdfijohcapgaaaDoorW.PrintWords Go.Proofs.YtfdfijohcapgaaaDoorW.PrintLast Go.Proofs.YtfdfijohcapgaaaDoorW.PrintMore

theorem scan_bytes : ∀ (l : List UInt8) (f : Bool) (acc : List UInt8), scanL f acc l = true → ∀ b ∈ l, b = 47 ∨ plainI (b.toNat : Int) = true
  | [], _, _, _, b, hb => by cases hb
  | c :: r, f, acc, h, b, hb => by
    rw [scanL] at h
    by_cases hc : c = 47
    · rw [if_pos hc, Bool.and_eq_true] at h
      rcases List.mem_cons.1 hb with rfl | hb
      · exact .inl hc
      · exact scan_bytes r _ _ h.2 b hb
    · rw [if_neg hc, Bool.and_eq_true] at h
      rcases List.mem_cons.1 hb with rfl | hb
      · exact .inr h.1
      · exact scan_bytes r _ _ h.2 b hb
theorem right_word (s : ByteArray) (h : right s = true) : s ≠ ⟨#[]⟩ ∧ (∀ b ∈ s.data.toList, b ≠ 32) ∧ s.size ≤ 40 := by
  obtain ⟨-, c, r, hs, -, -⟩ := right_first s h
  rw [right_list] at h
  simp only [Bool.and_eq_true, decide_eq_true_eq] at h
  refine ⟨fun e => absurd (hs.symm.trans (by rw [e]) : (c :: r) = []) (by simp), fun b hb e => ?_, h.1⟩
  subst e
  rcases scan_bytes _ _ _ h.2.2 32 hb with h1 | h1
  · exact absurd h1 (by decide)
  · exact absurd h1 (by decide)
theorem prs_frm (s : ByteArray) (a : Args.Ar) (h : Args.prs right s = (a, 0)) : 0 ≤ a.frm ∧ a.frm ≤ 4294967295 := by
  unfold Args.prs at h
  split at h
  · simp at h
  · split at h
    · simp at h
    · generalize Args.wd s = l at h
      cases l with
      | nil => simp [Args.prw] at h
      | cons v r =>
        simp only [Args.prw] at h
        by_cases hv : v = Args.crB
        · rw [if_pos hv] at h
          match r, h with
          | x :: y :: n :: ns, h =>
            simp only [Args.pcr] at h
            split at h
            · simp at h
            · split at h
              · simp at h
              · split at h
                · simp at h
                · split at h
                  · simp at h
                  · simp only [Prod.mk.injEq, and_true] at h
                    subst h
                    exact ⟨by simp, by simp⟩
          | [], h => simp [Args.pcr] at h
          | [_], h => simp [Args.pcr] at h
          | [_, _], h => simp [Args.pcr] at h
        · rw [if_neg hv] at h
          by_cases hx : v = Args.exB
          · rw [if_pos hx] at h
            match r, h with
            | [x, y], h =>
              simp only [Args.pex] at h
              split at h
              · simp at h
              · next h1 =>
                split at h
                · simp at h
                · simp only [Prod.mk.injEq, and_true] at h
                  subst h
                  have := Args.num_top x.data.toList
                  exact ⟨by simp only; omega, this.1⟩
            | [], h => simp [Args.pex] at h
            | [_], h => simp [Args.pex] at h
            | _ :: _ :: _ :: _, h => simp [Args.pex] at h
          · rw [if_neg hx] at h
            split at h
            · simp only [Prod.mk.injEq, and_true] at h
              subst h
              exact ⟨by simp, by simp⟩
            · simp at h
/-- what the walks ask of what is read -/
structure Bnd (verb : ByteArray) (slice count : Int) (names : List ByteArray) : Prop where
  s0 : -9223372036854775808 ≤ slice
  s1 : slice ≤ 9223372036854775807
  c0 : -9223372036854775808 ≤ count
  c1 : count ≤ 9223372036854775807
  v : verb.size ≤ 1000
  n : names.length ≤ 1000
  ns : ∀ x ∈ names, x.size ≤ 1000
theorem bnd_ok {verb : ByteArray} {slice count frm : Int} {names : List ByteArray} (h : Args.okA right ⟨verb, slice, count, frm, names⟩) : Bnd verb slice count names := by
  simp only [Args.okA] at h
  rcases h with ⟨rfl, h⟩ | ⟨rfl, h⟩ | ⟨hv, h⟩
  · obtain ⟨h1, h2, h3, h4, h5, h6, h7, h8⟩ := h
    exact ⟨by omega, by omega, by omega, by omega, by decide, by omega, fun x hx => by have := (right_word x (List.all_eq_true.1 h8 x hx)).2.2; omega⟩
  · obtain ⟨h1, h2, h3, rfl⟩ := h
    exact ⟨by omega, by omega, by omega, by omega, by decide, by simp, fun x hx => by cases hx⟩
  · obtain ⟨h1, h2, h3, rfl⟩ := h
    exact ⟨by omega, by omega, by omega, by omega, by rcases hv with rfl | rfl | rfl <;> decide, by simp, fun x hx => by cases hx⟩
theorem itB_one (n : Nat) (h : n < 10) : Args.itB n = ⟨#[UInt8.ofNat (48 + n)]⟩ := by
  unfold Args.itB
  rw [Lib.itoa_nonneg, Lib.decDigits_one h]
theorem awakeP : Args.prs right ⟨#[101, 120, 116, 101, 110, 100, 32, 56, 32, 50]⟩ = (⟨Args.exB, 0, 2, 8, []⟩, 0) := by
  have h := Args.prs_line right right_word ⟨Args.exB, 0, 2, 8, []⟩ (by decide) (by decide) (.inr (.inl ⟨rfl, rfl, by decide, by decide, rfl⟩))
  have e : Args.joinB (Args.txt ⟨Args.exB, 0, 2, 8, []⟩) = ⟨#[101, 120, 116, 101, 110, 100, 32, 56, 32, 50]⟩ := by
    have hne : ¬ (Args.exB = Args.crB) := by decide
    have e8 : Args.itB (8 : Int) = ⟨#[56]⟩ := itB_one 8 (by decide)
    have e2 : Args.itB (2 : Int) = ⟨#[50]⟩ := itB_one 2 (by decide)
    simp only [Args.txt, if_neg hne, if_true, e8, e2]
    rfl
  rw [e] at h
  exact h
set_option maxHeartbeats 4000000 in
set_option maxRecDepth 100000 in
theorem awake_calls (w : World) (G : Good w) :
    Calls Tryd.prog 5 #[] w fun e w' => e = .returned (.bool true) ∧ Below w.heap.size w w' := by
  have G' := Lib.hid G
  clear G
  go_enter Tryd.func5, Tryd.ntmps5
  go_wp2_with (go_at_call 9; refine (parse_calls _ (by decide) _ G'.out).mono ?_; rw [awakeP]; rintro e w3 ⟨B3, sl3, rfl, hs3, hd⟩; simp only [argV]; obtain ⟨sa3, sc3, rfl, -⟩ := hs3; have hb := Lib.hid (hd.alloc hd.size (.cells #[.string Args.exB, .int .i64 0, .int .i64 2, .int .u32 8, .slice sa3 0 sc3] 25)); clear hd)
  go_ret
  exact ⟨rfl, hb.out⟩
end Go.Proofs.YtfdfijohcapgaaaDoor.Path

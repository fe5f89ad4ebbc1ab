/- ReplayBoards: all together. -/
import Derived.Test.YtcmigmldecacpaaOwnBoardsB
import Derived.Test.YtcmigmldecacpaaOwnBoardsC
import Derived.Test.YtcmigmldecacpaaOpen
namespace Go.Proofs.Ytcmigmldecacpaa.Vec
open Go Go.RowKit Go.Proofs.YtcmigmldecacpaaW.PrintWords Go.Proofs.YtcmigmldecacpaaW.PrintMore

theorem u8_wf {x : Int} (h : (Lit.int .u8 x).wf = true) : 0 ≤ x ∧ x < 256 := by
  have h1 : IntKind.u8.min ≤ x ∧ x ≤ IntKind.u8.max := by simpa [Lit.wf] using h
  have e1 : IntKind.u8.min = 0 := by decide
  have e2 : IntKind.u8.max = 255 := by decide
  omega
theorem out_add {N : Nat} {za fr : Int} (h : ¬ (0 ≤ za ∧ za < (N : Int) ∧ 0 ≤ fr ∧ fr < (N : Int) ∧ za ≠ fr)) : Out N false za fr := by
  unfold Out
  simp only [decide_eq_true_eq, decide_eq_false_iff_not, true_and]
  omega
theorem out_scale {N : Nat} {za fr : Int} (h : ¬ (0 ≤ za ∧ za < (N : Int))) : Out N true za fr := by
  unfold Out
  simp only [decide_eq_true_eq, decide_eq_false_iff_not]
  omega
set_option maxHeartbeats 4000000 in
set_option maxRecDepth 100000 in
theorem boards_many (A0 : Option Addr) (c0 : Nat) (l : List (List Int)) (za fr c : Int) (sc : Bool) (W : World) (hC : kvals.C W A0 l.length l) (hl : l.length ≤ c0) (hn : l.length ≤ 9223372036854775807) (hq : ¬ (l.length ≤ 40 ∧ ∀ j (h : j < l.length), l[j].length ≤ 100)) :
    Calls Try.prog 3 #[.slice A0 l.length c0, .int .i64 za, .int .i64 fr, .int .u8 c, .bool sc] W fun e w' => e = .returned (.bool true) ∧ Below W.heap.size W w' := by
  have HF := Lib.hid (fun (w : World) (hb : Below W.heap.size W w) => few_tells A0 c0 l w (Kd.C_below hC hb) hl hn)
  have HQ := Lib.hid (show ∀ r : Bool, (r = true → l.length ≤ 40 ∧ ∀ j (h : j < l.length), l[j].length ≤ 100) → r = false from fun r h => by
    cases r
    · rfl
    · exact absurd (h rfl) hq)
  clear hC hl hn hq
  go_enter Try.func3, Try.ntmps3
  go_wp2_with (first
    | (go_at_call 13; first | (with_reducible refine (awakeC H2.out).mono ?_; rintro e w3 ⟨rfl, e1⟩; have H3 := Lib.hid e1; clear e1) | (with_reducible refine (awakeC (Below.refl _ W)).mono ?_; rintro e w1 ⟨rfl, e1⟩; have H1 := Lib.hid e1; clear e1))
    | (go_at_call 14; (with_reducible refine (HF.out _ H1.out).mono ?_); rintro e w2 ⟨⟨r, rfl, hr⟩, e1⟩; have H2 := Lib.hid (H1.out.trans (e1.mono H1.out.size)); have hr2 := HQ.out r hr; clear e1 hr; subst hr2))
  go_ret
  exact ⟨rfl, H3.out⟩
set_option maxHeartbeats 4000000 in
set_option maxRecDepth 100000 in
theorem boards_apart (A0 : Option Addr) (c0 : Nat) (l : List (List Int)) (n i0 : Nat) (za fr c : Int) (sc : Bool) (W : World) (hC : kvals.C W A0 l.length l) (hl : l.length ≤ c0) (hq : l.length ≤ 40) (hb : ∀ j (h : j < l.length), l[j].length ≤ 100) (hn : n ≤ 100) (h0 : ∀ (h : 0 < l.length), l[0].length = n) (hi : i0 < l.length) (hlt : ∀ j (h : j < l.length), j < i0 → l[j].length = n) (hne : (l[i0]'hi).length ≠ n) (hf : QReplayBoards.geyserlaw12_alike.f (l.length + 1) l = some false) :
    Calls Try.prog 3 #[.slice A0 l.length c0, .int .i64 za, .int .i64 fr, .int .u8 c, .bool sc] W fun e w' => e = .returned (.bool true) ∧ Below W.heap.size W w' := by
  have HF := Lib.hid (fun (w : World) (hb : Below W.heap.size W w) => few_tells A0 c0 l w (Kd.C_below hC hb) hl (by omega))
  have hnb : ∀ (w : World), Below W.heap.size W w → Calls Try.prog 15 #[.slice A0 l.length c0] w fun e w' => e = .returned (.tuple #[.pointer none, .int .i64 1]) ∧ Below W.heap.size W w' := fun w hw => by
    refine (newboard_calls A0 c0 l i0 n w (Kd.C_below hC hw) (by omega) (by omega) (by omega) h0 hlt (fun h => ⟨hne, by have := hb i0 h; omega⟩)).mono fun e w' ⟨h1, h2⟩ => ?_
    rcases h1 with ⟨h3, _⟩ | ⟨_, h3⟩
    · omega
    · exact ⟨h3, hw.trans (h2.mono hw.size)⟩
  have HN := Lib.hid hnb
  have HA := Lib.hid (fun (w : World) (hw : Below W.heap.size W w) => alike_calls A0 c0 l false w (Kd.C_below hC hw) hl hf)
  clear hC hl hq hb hn h0 hlt hne hf hnb
  go_enter Try.func3, Try.ntmps3
  go_wp2_with (first
    | (go_at_call 13; first | (with_reducible refine (awakeC H2.out).mono ?_; rintro e w3 ⟨rfl, e1⟩; have H3 := Lib.hid e1; clear e1) | (with_reducible refine (awakeC (Below.refl _ W)).mono ?_; rintro e w1 ⟨rfl, e1⟩; have H1 := Lib.hid e1; clear e1))
    | (go_at_call 14; (with_reducible refine (HF.out _ H1.out).mono ?_); rintro e w2 ⟨⟨r, rfl, _⟩, e1⟩; have H2 := Lib.hid (H1.out.trans (e1.mono H1.out.size)); clear e1; cases r)
    | (go_at_call 15; (with_reducible refine (HN.out _ H2.out).mono ?_); rintro e w3 ⟨rfl, e1⟩; have H3 := Lib.hid e1; clear e1)
    | (go_at_call 16; (with_reducible refine (HA.out _ H3.out).mono ?_); rintro e w4 ⟨rfl, e1⟩; have H4 := Lib.hid (H3.out.trans (e1.mono H3.out.size)); clear e1))
  · go_ret
    exact ⟨rfl, H3.out⟩
  · go_ret
    exact ⟨rfl, H4.out⟩
set_option maxRecDepth 100000 in
theorem opens_vals : Gy.Opens Try.prog 22 (Kd.slice 31 kvals) (fun l => l.length ≤ 9223372036854775807 ∧ ∀ p ∈ l, (p.length ≤ 9223372036854775807 ∧ ∀ x ∈ p, (Lit.int .u8 x).wf = true)) :=
  Gy.Opens.slice Try.underlying22 (by kernel_rfl) (Gy.Opens.slice Try.underlying31 (by kernel_rfl) (Gy.Opens.int Try.underlying5 (by kernel_rfl)))
theorem boards (A0 : Option Addr) (c0 : Nat) (l : List (List Int)) (za fr c : Int) (sc : Bool) (W : World) (hC : kvals.C W A0 l.length l) (hl : l.length ≤ c0) (hg : l.length ≤ 9223372036854775807 ∧ ∀ p ∈ l, (p.length ≤ 9223372036854775807 ∧ ∀ x ∈ p, (Lit.int .u8 x).wf = true)) (_w1 : (Lit.int .i64 za).wf = true) (_w2 : (Lit.int .i64 fr).wf = true) (w3 : (Lit.int .u8 c).wf = true) :
    Calls Try.prog 3 #[.slice A0 l.length c0, .int .i64 za, .int .i64 fr, .int .u8 c, .bool sc] W fun e w' => e = .returned (.bool true) ∧ Below W.heap.size W w' := by
  by_cases hq : l.length ≤ 40 ∧ ∀ j (h : j < l.length), l[j].length ≤ 100
  · obtain ⟨n, hn, hn100⟩ : ∃ n, (∀ h : 0 < l.length, l[0].length = n) ∧ n ≤ 100 := by
      by_cases h : 0 < l.length
      · exact ⟨l[0].length, fun _ => rfl, hq.2 0 h⟩
      · exact ⟨0, fun h' => absurd h' h, by omega⟩
    obtain ⟨r, i0, h1, h2, h3, h4⟩ := alike_tells l n hg.1 hn
    rcases h4 with ⟨rfl, h5⟩ | ⟨rfl, h5, h6⟩
    · have hS : Same W A0 c0 l n := ⟨hC, hl, hq.1, hn100, fun j h => h3 j h (by omega), fun j h x hx => u8_wf ((hg.2 _ (List.getElem_mem h)).2 x hx)⟩
      obtain ⟨hc0, hc1⟩ := u8_wf w3
      obtain ⟨cn, rfl⟩ : ∃ m : Nat, c = (m : Int) := ⟨c.toNat, by omega⟩
      cases sc
      · by_cases hin : 0 ≤ za ∧ za < (l.length : Int) ∧ 0 ≤ fr ∧ fr < (l.length : Int) ∧ za ≠ fr
        · obtain ⟨z, rfl⟩ : ∃ m : Nat, za = (m : Int) := ⟨za.toNat, by omega⟩
          obtain ⟨y, rfl⟩ : ∃ m : Nat, fr = (m : Int) := ⟨fr.toNat, by omega⟩
          exact boards_add A0 c0 l n z y cn W hS (by omega) (by omega) (by omega) (by omega)
        · exact boards_out A0 c0 l n za fr cn false W hS (out_add hin)
      · by_cases hin : 0 ≤ za ∧ za < (l.length : Int)
        · obtain ⟨z, rfl⟩ : ∃ m : Nat, za = (m : Int) := ⟨za.toNat, by omega⟩
          exact boards_scale A0 c0 l n z fr cn W hS (by omega) (by omega)
        · exact boards_out A0 c0 l n za fr cn true W hS (out_scale hin)
    · exact boards_apart A0 c0 l n i0 za fr c sc W hC hl hq.1 hq.2 hn100 hn h5 h3 h6 h1
  · exact boards_many A0 c0 l za fr c sc W hC hl hg.1 hq
end Go.Proofs.Ytcmigmldecacpaa.Vec

/- Package path: the names of what is made and of what is put aside. -/
import Derived.Test.YtnoebhnkkigkjaaDoorPathV
namespace Go.Proofs.YtnoebhnkkigkjaaDoor.Path
open Go Go.RowKit Go.Shelf Go.Proofs.YtnoebhnkkigkjaaDoor.QPart Go.Proofs.YtnoebhnkkigkjaaDoorW.PrintWords Go.Proofs.YtnoebhnkkigkjaaDoorW.PrintLast Go.Proofs.YtnoebhnkkigkjaaDoorW.PrintMore
def tmpB : ByteArray := ⟨#[116, 109, 112, 47]⟩
def oldB : ByteArray := ⟨#[111, 108, 100, 47]⟩
def fre (n : Int) : ByteArray := if n < 0 ∨ n > 999 then ⟨#[]⟩ else tmpB ++ dig n
def asi (s : ByteArray) (n : Int) : ByteArray := if n < 0 ∨ n > 999 then ⟨#[]⟩ else oldB ++ dig n ++ ⟨#[47]⟩ ++ s
theorem dig_le (n : Int) (h : ¬ (n < 0 ∨ n > 999)) : (dig n).size ≤ 21 := by
  have hd := dig_yes h
  have h1 : (dig n).size = (dig n).data.toList.length := rfl
  have h2 := Lib.itoa_length_le n (by omega) (by omega)
  rw [hd.1] at h1
  omega
set_option maxHeartbeats 4000000 in
set_option maxRecDepth 100000 in
theorem fresh_calls (n : Int) (h0 : -9223372036854775808 ≤ n) (h1 : n ≤ 9223372036854775807) (w : World) (G : Good w) :
    Calls Tryd.prog 33 #[.int .i64 n] w fun e w' => e = .returned (.string (fre n)) ∧ Below w.heap.size w w' := by
  have G' := Lib.hid G
  clear G
  by_cases hn : n < 0 ∨ n > 999
  · have e : Hid (dig n = ⟨#[]⟩) := Lib.hid (dig_no hn)
    have ev : fre n = ⟨#[]⟩ := if_pos hn
    rw [ev]
    go_enter Tryd.func33, Tryd.ntmps33
    go_wp2_with (go_at_call 62; refine (digits_calls n h0 h1 _ G'.out).mono ?_; rw [e.out]; rintro e w1 ⟨rfl, hd⟩; have hb1 := Lib.hid hd; clear hd)
    go_ret
    exact ⟨rfl, hb1.out⟩
  · have ev : fre n = tmpB ++ dig n := if_neg hn
    rw [ev]
    have hd0 := dig_yes hn
    have hle := dig_le n hn
    obtain ⟨d, hd⟩ : ∃ d, dig n = d := ⟨_, rfl⟩
    rw [hd] at hd0 hle ⊢
    have hne : (d.toList == ([] : List UInt8)) = false := by
      rw [Lib.toList_data, hd0.1]
      exact beq_eq_false_iff_ne.2 hd0.2
    have hsz : ¬ 9223372036854775807 < 4 + d.size := by omega
    have e := Lib.hid hd
    clear hd hd0 ev
    go_enter Tryd.func33, Tryd.ntmps33
    go_wp2_with (go_at_call 62; refine (digits_calls n h0 h1 _ G'.out).mono ?_; rw [e.out]; rintro e w1 ⟨rfl, hd⟩; have hb1 := Lib.hid hd; clear hd)
    go_ret
    exact ⟨rfl, hb1.out⟩
set_option maxHeartbeats 4000000 in
set_option maxRecDepth 100000 in
theorem aside_calls (s : ByteArray) (hs : s.size ≤ 1000) (n : Int) (h0 : -9223372036854775808 ≤ n) (h1 : n ≤ 9223372036854775807) (w : World) (G : Good w) :
    Calls Tryd.prog 34 #[.string s, .int .i64 n] w fun e w' => e = .returned (.string (asi s n)) ∧ Below w.heap.size w w' := by
  have G' := Lib.hid G
  clear G
  by_cases hn : n < 0 ∨ n > 999
  · have e : Hid (dig n = ⟨#[]⟩) := Lib.hid (dig_no hn)
    have ev : asi s n = ⟨#[]⟩ := if_pos hn
    rw [ev]
    go_enter Tryd.func34, Tryd.ntmps34
    go_wp2_with (go_at_call 62; refine (digits_calls n h0 h1 _ G'.out).mono ?_; rw [e.out]; rintro e w1 ⟨rfl, hd⟩; have hb1 := Lib.hid hd; clear hd)
    go_ret
    exact ⟨rfl, hb1.out⟩
  · have ev : asi s n = oldB ++ dig n ++ ⟨#[47]⟩ ++ s := if_neg hn
    rw [ev]
    have hd0 := dig_yes hn
    have hle := dig_le n hn
    obtain ⟨d, hd⟩ : ∃ d, dig n = d := ⟨_, rfl⟩
    rw [hd] at hd0 hle ⊢
    have hne : (d.toList == ([] : List UInt8)) = false := by
      rw [Lib.toList_data, hd0.1]
      exact beq_eq_false_iff_ne.2 hd0.2
    have hsz : ¬ 9223372036854775807 < 4 + d.size := by omega
    have hsz2 : ¬ 9223372036854775807 < 4 + d.size + 1 := by omega
    have hsz3 : ¬ 9223372036854775807 < 4 + d.size + 1 + s.size := by omega
    have e := Lib.hid hd
    clear hd hd0 ev
    go_enter Tryd.func34, Tryd.ntmps34
    go_wp2_with (go_at_call 62; refine (digits_calls n h0 h1 _ G'.out).mono ?_; rw [e.out]; rintro e w1 ⟨rfl, hd⟩; have hb1 := Lib.hid hd; clear hd)
    go_ret
    exact ⟨rfl, hb1.out⟩
end Go.Proofs.YtnoebhnkkigkjaaDoor.Path

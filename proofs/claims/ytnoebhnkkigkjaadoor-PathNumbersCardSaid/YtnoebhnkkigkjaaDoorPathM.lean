/- The plain law under PathNumbers: a number's text, digit by digit, and its reading. -/
import Derived.Test.YtnoebhnkkigkjaaDoorPathN
namespace Go.Proofs.YtnoebhnkkigkjaaDoor.Path
open Go Go.RowKit Go.Shelf

def txt (n : Nat) : List UInt8 := (if n > 99 then [UInt8.ofNat (48 + n / 100)] else []) ++ ((if n > 9 then [UInt8.ofNat (48 + n / 10 % 10)] else []) ++ [UInt8.ofNat (48 + n % 10)])
def reads (n : Nat) : Bool := match Lib.atoiAll (txt n) with
  | .ok v => decide (v = (n : Int))
  | _ => false
theorem reads_all : ((List.range 1000).all reads) = true := by decide +kernel
theorem txt_reads (n : Nat) (h : n ≤ 999) : Lib.atoiAll (txt n) = .ok (n : Int) := by
  have := List.all_eq_true.1 reads_all n (List.mem_range.2 (by omega))
  unfold reads at this
  rcases hc : Lib.atoiAll (txt n) with v | _ | _ <;> rw [hc] at this <;> simp at this
  rw [this]
theorem dec_txt (n : Nat) (h : n ≤ 999) : Lib.decDigits n = txt n := by
  unfold txt
  by_cases h1 : n < 10
  · rw [Lib.decDigits, dif_pos h1, if_neg (by omega), if_neg (by omega), Nat.mod_eq_of_lt h1]; rfl
  · rw [Lib.decDigits, dif_neg h1]
    by_cases h2 : n < 100
    · rw [Lib.decDigits, dif_pos (by omega), if_neg (by omega), if_pos (by omega), Nat.mod_eq_of_lt (by omega : n / 10 < 10)]; rfl
    · rw [Lib.decDigits, dif_neg (by omega), Lib.decDigits, dif_pos (by omega), if_pos (by omega), if_pos (by omega), show n / 10 / 10 = n / 100 by omega]
      simp
theorem dig_txt (n : Int) (h0 : 0 ≤ n) (h1 : n ≤ 999) : (dig n).data.toList = txt n.toNat := by
  rw [(dig_yes (n := n) (by omega)).1]
  unfold Lib.itoa
  rw [if_neg (by omega)]
  exact dec_txt _ (by omega)
theorem suf_gys (d : ByteArray) : suf (d ++ gys) = true ∧ cut (d ++ gys) = d := by
  have e : (d ++ gys).data.toList = d.data.toList ++ [46, 103, 121, 115] := by simp [gys]
  have ez : (d ++ gys).size = d.data.toList.length + 4 := by
    have : (d ++ gys).size = (d ++ gys).data.toList.length := rfl
    rw [this, e, List.length_append]; rfl
  have e4 : gys.data.toList = [46, 103, 121, 115] := rfl
  have hs : suf (d ++ gys) = true := by
    unfold suf
    rw [Lib.toList_data, Lib.toList_data, Lib.extract_data, e, ez, e4]
    simp
  refine ⟨hs, ?_⟩
  unfold cut
  rw [if_pos hs]
  apply ba_ext
  rw [Lib.extract_data, e, ez]
  simp
theorem num_dig (n : Int) (h0 : 0 ≤ n) (h1 : n ≤ 999) : num (dig n ++ gys) = n := by
  obtain ⟨h2, h3⟩ := suf_gys (dig n)
  unfold num
  rw [h3, h2, dig_txt n h0 h1, txt_reads _ (by omega)]
  have e : ((n.toNat : Nat) : Int) = n := by omega
  simp only [e]
  simp
end Go.Proofs.YtnoebhnkkigkjaaDoor.Path

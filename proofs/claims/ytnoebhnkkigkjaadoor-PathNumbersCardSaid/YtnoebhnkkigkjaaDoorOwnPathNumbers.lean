/- The law PathNumbers: it answers true. -/
import Derived.Test.YtnoebhnkkigkjaaDoorPathM
import Derived.Test.YtnoebhnkkigkjaaDoorPathA
import Derived.Lib.ConvBytes
namespace Go.Proofs.YtnoebhnkkigkjaaDoor.Path
open Go Go.RowKit Go.Shelf Go.Proofs.YtnoebhnkkigkjaaDoor.QPart Go.Proofs.YtnoebhnkkigkjaaDoorW.PrintWords Go.Proofs.YtnoebhnkkigkjaaDoorW.PrintLast Go.Proofs.YtnoebhnkkigkjaaDoorW.PrintMore
/-- one byte as a string -/
def one (x : Int) : ByteArray := ⟨#[UInt8.ofNat x.toNat]⟩
theorem conv_one (x : Int) (h0 : 0 ≤ x) (h1 : x ≤ 255) (W : World) :
    (convert 39 9 (.slice (some ⟨W.heap.size, 0, none⟩) 1 1)).run Tryd.prog (W.alloc (.cells #[.int .u8 x] 5)) = .ok (.string (one x)) (W.alloc (.cells #[.int .u8 x] 5)) := by
  refine run_convert_bytes_back (W.alloc (.cells #[.int .u8 x] 5)) _ _ 5 ⟨W.heap.size, 0, none⟩ 1 [UInt8.ofNat x.toNat] Tryd.underlying39 Tryd.underlying5 Tryd.underlying9 ?_
  intro j hj
  have : j = 0 := by simp at hj; omega
  subst this
  have e : ((UInt8.ofNat x.toNat).toNat : Int) = x := by
    rw [UInt8.toNat_ofNat']
    omega
  have hx : ([UInt8.ofNat x.toNat])[0].toNat = x := e
  rw [hx]
  simp [Addr.add]
theorem conv_two (x : Int) (h0 : 0 ≤ x) (h1 : x ≤ 255) (W : World) (o : Obj) :
    (convert 39 9 (.slice (some ⟨W.heap.size + 1, 0, none⟩) 1 1)).run Tryd.prog ((W.alloc o).alloc (.cells #[.int .u8 x] 5)) = .ok (.string (one x)) ((W.alloc o).alloc (.cells #[.int .u8 x] 5)) := by
  have h := conv_one x h0 h1 (W.alloc o)
  have e : (W.alloc o).heap.size = W.heap.size + 1 := by simp
  rw [e] at h
  exact h
theorem conv_three (x : Int) (h0 : 0 ≤ x) (h1 : x ≤ 255) (W : World) (o o2 : Obj) :
    (convert 39 9 (.slice (some ⟨W.heap.size + 1 + 1, 0, none⟩) 1 1)).run Tryd.prog (((W.alloc o).alloc o2).alloc (.cells #[.int .u8 x] 5)) = .ok (.string (one x)) (((W.alloc o).alloc o2).alloc (.cells #[.int .u8 x] 5)) := by
  have h := conv_two x h0 h1 (W.alloc o) o2
  have e : (W.alloc o).heap.size = W.heap.size + 1 := by simp
  rw [e] at h
  exact h
set_option maxHeartbeats 8000000 in
set_option maxRecDepth 100000 in
theorem numbers_ (n : Int) (s : ByteArray) (hn0 : -9223372036854775808 ≤ n) (hn1 : n ≤ 9223372036854775807) (hs0 : s.size ≤ 9223372036854775807) (w : World) (G : Good w) :
    Calls Tryd.prog 8 #[.int .i64 n, .string s] w fun e w' => e = .returned (.bool true) ∧ Below w.heap.size w w' := by
  have G' := Lib.hid G
  clear G
  by_cases hs : s.size ≤ 100
  · have g1 : ¬ ((s.size : Int) > 100) := by omega
    by_cases hn : n < 0 ∨ n > 999
    · have v1 := Lib.hid (show vol n = ⟨#[]⟩ from if_pos hn)
      have v2 := Lib.hid (show fre n = ⟨#[]⟩ from if_pos hn)
      have v3 := Lib.hid (show asi s n = ⟨#[]⟩ from if_pos hn)
      by_cases ha : n < 0
      · go_enter Tryd.func8, Tryd.ntmps8
        go_wp2_with (first
          | (go_at_call 28; refine (awake_calls _ G'.out).mono ?_; rintro e w1 ⟨rfl, hd⟩; have hb1 := Lib.hid hd; clear hd)
          | (go_at_call 32; refine (volume_calls _ hn0 hn1 _ (G'.out.below hb1.out)).mono ?_; rw [v1.out]; rintro e w2 ⟨rfl, hd⟩; have hb2 := Lib.hid hd; clear hd)
          | (go_at_call 33; refine (fresh_calls _ hn0 hn1 _ ((G'.out.below hb1.out).below hb2.out)).mono ?_; rw [v2.out]; rintro e w3 ⟨rfl, hd⟩; have hb3 := Lib.hid hd; clear hd)
          | (go_at_call 34; refine (aside_calls _ (by omega) _ hn0 hn1 _ (((G'.out.below hb1.out).below hb2.out).below hb3.out)).mono ?_; rw [v3.out]; rintro e w4 ⟨rfl, hd⟩; have hb4 := Lib.hid hd; clear hd))
        go_ret
        exact ⟨rfl, ((hb1.out.trans (hb2.out.mono hb1.out.size)).trans (hb3.out.mono (Nat.le_trans hb1.out.size hb2.out.size))).trans (hb4.out.mono (Nat.le_trans (Nat.le_trans hb1.out.size hb2.out.size) hb3.out.size))⟩
      · have hb : n > 999 := by omega
        go_enter Tryd.func8, Tryd.ntmps8
        go_wp2_with (first
          | (go_at_call 28; refine (awake_calls _ G'.out).mono ?_; rintro e w1 ⟨rfl, hd⟩; have hb1 := Lib.hid hd; clear hd)
          | (go_at_call 32; refine (volume_calls _ hn0 hn1 _ (G'.out.below hb1.out)).mono ?_; rw [v1.out]; rintro e w2 ⟨rfl, hd⟩; have hb2 := Lib.hid hd; clear hd)
          | (go_at_call 33; refine (fresh_calls _ hn0 hn1 _ ((G'.out.below hb1.out).below hb2.out)).mono ?_; rw [v2.out]; rintro e w3 ⟨rfl, hd⟩; have hb3 := Lib.hid hd; clear hd)
          | (go_at_call 34; refine (aside_calls _ (by omega) _ hn0 hn1 _ (((G'.out.below hb1.out).below hb2.out).below hb3.out)).mono ?_; rw [v3.out]; rintro e w4 ⟨rfl, hd⟩; have hb4 := Lib.hid hd; clear hd))
        go_ret
        exact ⟨rfl, ((hb1.out.trans (hb2.out.mono hb1.out.size)).trans (hb3.out.mono (Nat.le_trans hb1.out.size hb2.out.size))).trans (hb4.out.mono (Nat.le_trans (Nat.le_trans hb1.out.size hb2.out.size) hb3.out.size))⟩
    · have ha : ¬ n < 0 := by omega
      have hb : ¬ n > 999 := by omega
      have cv0 := conv_one (48 + n % 10) (by omega) (by omega)
      have cv1 := conv_two (48 + n / 10 % 10) (by omega) (by omega)
      have cv2 := conv_three (48 + n / 100) (by omega) (by omega)
      obtain ⟨D, hD⟩ : ∃ D, dig n = D := ⟨_, rfl⟩
      have v1 : Hid (vol n = D ++ ⟨#[46, 103, 121, 115]⟩) := Lib.hid (by rw [← hD]; exact if_neg hn)
      have v2 : Hid (fre n = ⟨#[116, 109, 112, 47]⟩ ++ D) := Lib.hid (by rw [← hD]; exact if_neg hn)
      have v3 : Hid (asi s n = ⟨#[111, 108, 100, 47]⟩ ++ D ++ ⟨#[47]⟩ ++ s) := Lib.hid (by rw [← hD]; exact if_neg hn)
      have v4 : Hid (num (D ++ ⟨#[46, 103, 121, 115]⟩) = n) := Lib.hid (by rw [← hD]; exact num_dig n (by omega) (by omega))
      have hDs : D.size ≤ 21 := by rw [← hD]; exact dig_le n hn
      have hDl := dig_txt n (by omega) (by omega)
      rw [hD] at hDl
      have hcs : (D ++ ⟨#[46, 103, 121, 115]⟩ : ByteArray).size ≤ 281474976710656 := by
        rw [ByteArray.size_append]
        have : (⟨#[46, 103, 121, 115]⟩ : ByteArray).size = 4 := rfl
        omega
      have z1 : ¬ 9223372036854775807 < D.size + 4 := by omega
      have z2 : ¬ 9223372036854775807 < 4 + D.size := by omega
      have z3 : ¬ 9223372036854775807 < 4 + D.size + 1 := by omega
      have z4 : ¬ 9223372036854775807 < 4 + D.size + 1 + s.size := by omega
      have zo : ∀ x, (one x).size = 1 := fun _ => rfl
      clear hD hDs
      by_cases c9 : n > 9
      · by_cases c99 : n > 99
        · have hE : one (48 + n / 100) ++ (one (48 + n / 10 % 10) ++ one (48 + n % 10)) = D := by
            apply ba_ext
            rw [hDl]
            unfold txt
            rw [if_pos (by omega), if_pos (by omega)]
            have e0 : (48 + n / 100).toNat = 48 + n.toNat / 100 := by omega
            have e1 : (48 + n / 10 % 10).toNat = 48 + n.toNat / 10 % 10 := by omega
            have e2 : (48 + n % 10).toNat = 48 + n.toNat % 10 := by omega
            simp [one, e0, e1, e2]
          clear hDl
          go_enter Tryd.func8, Tryd.ntmps8
          go_wp2_with (first
            | (go_at_call 28; refine (awake_calls _ G'.out).mono ?_; rintro e w1 ⟨rfl, hd⟩; have hb1 := Lib.hid hd; have G1 := Lib.hid (G'.out.below hd); clear hd)
            | (go_at_call 32; refine (volume_calls _ hn0 hn1 _ (G1.out.below (Joins.below_alloc3 _ _ _ _))).mono ?_; rw [v1.out]; rintro e w2 ⟨rfl, hd⟩; have hb2 := Lib.hid (Below.trans (Joins.below_alloc3 _ _ _ _) (hd.mono (Below.size (Joins.below_alloc3 _ _ _ _)))); clear hd)
            | (go_at_call 30; refine (number_calls _ hcs _ (G1.out.below hb2.out)).mono ?_; rw [v4.out]; rintro e w3 ⟨rfl, hd⟩; have hb3 := Lib.hid (hb2.out.trans (hd.mono hb2.out.size)); clear hd)
            | (go_at_call 33; refine (fresh_calls _ hn0 hn1 _ (G1.out.below hb3.out)).mono ?_; rw [v2.out]; rintro e w4 ⟨rfl, hd⟩; have hb4 := Lib.hid (hb3.out.trans (hd.mono hb3.out.size)); clear hd)
            | (go_at_call 34; refine (aside_calls _ (by omega) _ hn0 hn1 _ (G1.out.below hb4.out)).mono ?_; rw [v3.out]; rintro e w5 ⟨rfl, hd⟩; have hb5 := Lib.hid (hb4.out.trans (hd.mono hb4.out.size)); clear hd))
          go_ret
          exact ⟨rfl, hb1.out.trans (hb5.out.mono hb1.out.size)⟩
        · have hE : one (48 + n / 10 % 10) ++ one (48 + n % 10) = D := by
            apply ba_ext
            rw [hDl]
            unfold txt
            rw [if_neg (by omega), if_pos (by omega)]
            have e1 : (48 + n / 10 % 10).toNat = 48 + n.toNat / 10 % 10 := by omega
            have e2 : (48 + n % 10).toNat = 48 + n.toNat % 10 := by omega
            simp [one, e1, e2]
          clear hDl
          go_enter Tryd.func8, Tryd.ntmps8
          go_wp2_with (first
            | (go_at_call 28; refine (awake_calls _ G'.out).mono ?_; rintro e w1 ⟨rfl, hd⟩; have hb1 := Lib.hid hd; have G1 := Lib.hid (G'.out.below hd); clear hd)
            | (go_at_call 32; refine (volume_calls _ hn0 hn1 _ (G1.out.below (Joins.below_alloc2 _ _ _))).mono ?_; rw [v1.out]; rintro e w2 ⟨rfl, hd⟩; have hb2 := Lib.hid (Below.trans (Joins.below_alloc2 _ _ _) (hd.mono (Below.size (Joins.below_alloc2 _ _ _)))); clear hd)
            | (go_at_call 30; refine (number_calls _ hcs _ (G1.out.below hb2.out)).mono ?_; rw [v4.out]; rintro e w3 ⟨rfl, hd⟩; have hb3 := Lib.hid (hb2.out.trans (hd.mono hb2.out.size)); clear hd)
            | (go_at_call 33; refine (fresh_calls _ hn0 hn1 _ (G1.out.below hb3.out)).mono ?_; rw [v2.out]; rintro e w4 ⟨rfl, hd⟩; have hb4 := Lib.hid (hb3.out.trans (hd.mono hb3.out.size)); clear hd)
            | (go_at_call 34; refine (aside_calls _ (by omega) _ hn0 hn1 _ (G1.out.below hb4.out)).mono ?_; rw [v3.out]; rintro e w5 ⟨rfl, hd⟩; have hb5 := Lib.hid (hb4.out.trans (hd.mono hb4.out.size)); clear hd))
          go_ret
          exact ⟨rfl, hb1.out.trans (hb5.out.mono hb1.out.size)⟩
      · have hE : one (48 + n % 10) = D := by
          apply ba_ext
          rw [hDl]
          unfold txt
          rw [if_neg (by omega), if_neg (by omega)]
          have e2 : (48 + n % 10).toNat = 48 + n.toNat % 10 := by omega
          simp [one, e2]
        clear hDl
        go_enter Tryd.func8, Tryd.ntmps8
        go_wp2_with (first
          | (go_at_call 28; refine (awake_calls _ G'.out).mono ?_; rintro e w1 ⟨rfl, hd⟩; have hb1 := Lib.hid hd; have G1 := Lib.hid (G'.out.below hd); clear hd)
          | (go_at_call 32; refine (volume_calls _ hn0 hn1 _ (G1.out.below (Joins.below_alloc1 _ _))).mono ?_; rw [v1.out]; rintro e w2 ⟨rfl, hd⟩; have hb2 := Lib.hid (Below.trans (Joins.below_alloc1 _ _) (hd.mono (Below.size (Joins.below_alloc1 _ _)))); clear hd)
          | (go_at_call 30; refine (number_calls _ hcs _ (G1.out.below hb2.out)).mono ?_; rw [v4.out]; rintro e w3 ⟨rfl, hd⟩; have hb3 := Lib.hid (hb2.out.trans (hd.mono hb2.out.size)); clear hd)
          | (go_at_call 33; refine (fresh_calls _ hn0 hn1 _ (G1.out.below hb3.out)).mono ?_; rw [v2.out]; rintro e w4 ⟨rfl, hd⟩; have hb4 := Lib.hid (hb3.out.trans (hd.mono hb3.out.size)); clear hd)
          | (go_at_call 34; refine (aside_calls _ (by omega) _ hn0 hn1 _ (G1.out.below hb4.out)).mono ?_; rw [v3.out]; rintro e w5 ⟨rfl, hd⟩; have hb5 := Lib.hid (hb4.out.trans (hd.mono hb4.out.size)); clear hd))
        go_ret
        exact ⟨rfl, hb1.out.trans (hb5.out.mono hb1.out.size)⟩
  · have g1 : ((s.size : Int) > 100) := by omega
    go_enter Tryd.func8, Tryd.ntmps8
    go_wp2_with ((go_at_call 28; first | (refine (awake_calls _ (G'.out.below hb1.out)).mono ?_; rintro e w2 ⟨rfl, hd⟩; have hb2 := Lib.hid hd; clear hd) | (refine (awake_calls _ G'.out).mono ?_; rintro e w1 ⟨rfl, hd⟩; have hb1 := Lib.hid hd; clear hd)))
    go_ret
    exact ⟨rfl, hb1.out.trans (hb2.out.mono hb1.out.size)⟩
theorem wf_i64 {a : Int} (h : (Lit.int .i64 a).wf = true) : -9223372036854775808 ≤ a ∧ a ≤ 9223372036854775807 := by
  simp [Lit.wf, IntKind.min, IntKind.max, IntKind.signed, IntKind.bits] at h
  omega
theorem numbers (n : Int) (s : ByteArray) (hn : (Lit.int .i64 n).wf = true) (hs0 : s.size ≤ 9223372036854775807) (w : World) (G : Good w) :
    Calls Tryd.prog 8 #[.int .i64 n, .string s] w fun e w' => e = .returned (.bool true) ∧ Below w.heap.size w w' := by
  have h := wf_i64 hn
  exact numbers_ n s h.1 h.2 hs0 w G
end Go.Proofs.YtnoebhnkkigkjaaDoor.Path

/- The laws of codec: the items, few, the numbers of the reference. -/
import Derived.Test.YtnoebhnkkigkjaaCodecIn
import Derived.Test.YtnoebhnkkigkjaaOpen
namespace Go.Proofs.Ytnoebhnkkigkjaa.Codec
open Go Go.RowKit Go.Proofs.YtnoebhnkkigkjaaW.PrintWords Go.Proofs.YtnoebhnkkigkjaaW.PrintMore

theorem reads_of_kd {w : World} {k : IntKind} {A : Option Addr} {n : Nat} {xs : List Int} (h : (Kd.int k).C w A n xs) : ReadsInt w k A n xs := by
  refine ⟨h.1, h.2.1, fun hn => ?_⟩
  obtain ⟨ad, e, hx⟩ := h.2.2 hn
  refine ⟨ad, e, fun j hj => ?_⟩
  have hj' : j < xs.length := by rw [h.1]; exact hj
  obtain ⟨cs, _, hk, hc⟩ := hx j xs[j] (List.getElem?_eq_getElem hj')
  have hk' : cs = [.int k xs[j]] := hk
  subst hk'
  have := hc 0 _ rfl
  have e1 : j * (Kd.int k).sz + 0 = j := by show j * 1 + 0 = j; omega
  rw [e1] at this
  rw [this]
  simp [List.getD_eq_getElem?_getD, hj']
/-- an item: kind, number, size, bytes -/
abbrev kitem : Kd (Int × Int × Int × List Int) := Kd.pair (Kd.int .u8) (Kd.pair (Kd.int .i64) (Kd.pair (Kd.int .i64) (Kd.slice 5 (Kd.int .u8))))
theorem item_at {w : World} {A : Option Addr} {n : Nat} {l : List (Int × Int × Int × List Int)} (h : kitem.C w A n l) (j : Nat) (hj : j < l.length) :
    ∃ ad A' c', A = some ad ∧ w.cell? (ad.add (j * 4)) = some (.int .u8 l[j].1) ∧ w.cell? ⟨(ad.add (j * 4)).block, (ad.add (j * 4)).off + 1, none⟩ = some (.int .i64 l[j].2.1) ∧ w.cell? ⟨(ad.add (j * 4)).block, (ad.add (j * 4)).off + 2, none⟩ = some (.int .i64 l[j].2.2.1) ∧
      w.cell? ⟨(ad.add (j * 4)).block, (ad.add (j * 4)).off + 3, none⟩ = some (.slice A' l[j].2.2.2.length c') ∧ l[j].2.2.2.length ≤ c' ∧ ReadsInt w .u8 A' l[j].2.2.2.length l[j].2.2.2 := by
  obtain ⟨ad, e, hx⟩ := h.2.2 (by have := h.1; omega)
  obtain ⟨cs, _, hk, hc⟩ := hx j l[j] (List.getElem?_eq_getElem hj)
  obtain ⟨c1, c2, rfl, k1, d1, d2, rfl, k2, e1, e2, rfl, k3, A', c', k4, k5, k6⟩ := hk
  have k1' : c1 = [.int .u8 l[j].1] := k1
  have k2' : d1 = [.int .i64 l[j].2.1] := k2
  have k3' : e1 = [.int .i64 l[j].2.2.1] := k3
  subst k1' k2' k3' k4
  refine ⟨ad, A', c', e, hc 0 _ rfl, ?_, ?_, ?_, k5, reads_of_kd k6⟩
  · rw [← add_field _ _ _ (by omega)]; exact hc 1 _ rfl
  · rw [← add_field _ _ _ (by omega)]; exact hc 2 _ rfl
  · rw [← add_field _ _ _ (by omega)]; exact hc 3 _ rfl
set_option maxHeartbeats 2000000 in
set_option maxRecDepth 100000 in
theorem few_calls (A : Option Addr) (c : Nat) (l : List (Int × Int × Int × List Int)) (w : World) (h : kitem.C w A l.length l) :
    Calls Try.prog 11 #[.slice A l.length c] w fun e w' => (∃ b, e = .returned (.bool b)) ∧ w = w' := by
  have H := Lib.hid h
  clear h
  go_enter Try.func11, Try.ntmps11
  go_wp2
  go_loopw [3, 7] (fun v3 v7 wr => ∃ (j : Nat) (m : Int), j ≤ l.length ∧ v3 = .int .i64 m ∧ v7 = .int .i64 (j : Int) ∧ wr = w) (fun _ v7 _ => l.length - (intOf v7).toNat)
  case atStart => exact ⟨0, 0, by omega, rfl, rfl, rfl⟩
  case round =>
    obtain ⟨j, m, hj, rfl, rfl, rfl⟩ := hrel
    by_cases hjn : j < l.length
    · obtain ⟨ad, A', c', rfl, f0, f1, f2, f3, hc, hr⟩ := item_at H.out j hjn
      have t3 : decide ((j : Int) < (l.length : Int)) = true := by simp; omega
      generalize l[j].2.2.2.length = q at f3 hc hr
      clear f0 f1 f2 hr
      have hl : (l.length : Int) ≤ 9223372036854775807 := by have := H.out.2.1; unfold maxLen at this; omega
      have hw : wrap64 ((j : Int) + 1) = (j : Int) + 1 := by unfold wrap64; omega
      have s1 : ∃ b, b = decide (100 ≤ (j : Int)) := ⟨_, rfl⟩
      obtain ⟨b1, s1⟩ := s1
      have s2 : ∃ b, b = decide (20000 < wrap64 (m + (q : Int))) := ⟨_, rfl⟩
      obtain ⟨b2, s2⟩ := s2
      cases b1 <;> cases b2 <;> replace s1 := s1.symm <;> replace s2 := s2.symm <;> go_wp2
      · refine ⟨⟨j + 1, _, by omega, rfl, by norm_cast, trivial⟩, ?_⟩
        simp only [intOf]
        omega
      all_goals
        go_ret
        exact ⟨⟨false, rfl⟩, rfl⟩
    · obtain rfl : j = l.length := by omega
      have t3 : decide ((l.length : Int) < (l.length : Int)) = false := by simp
      go_wp2
      go_ret
      exact ⟨⟨true, rfl⟩, rfl⟩
set_option maxHeartbeats 2000000 in
set_option maxRecDepth 100000 in
theorem number_calls (A : Option Addr) (n c : Nat) (xs : List Int) (w : World) (hR : ReadsInt w .u8 A n xs) (h6 : n ≤ 6) (hw : ∀ x ∈ xs, 0 ≤ x ∧ x < 256) :
    Calls Try.prog 23 #[.slice A n c] w fun e w' => e = .returned (.int .u64 (numOf xs)) ∧ w = w' := by
  have HR := Lib.hid hR
  have HW := Lib.hid hw
  clear hR hw
  go_enter Try.func23, Try.ntmps23
  go_wp2
  go_loopw [3, 7] (fun v3 v7 wr => ∃ j : Nat, j ≤ n ∧ v3 = .int .u64 (numOf (xs.take j)) ∧ v7 = .int .i64 (j : Int) ∧ wr = w) (fun _ v7 _ => n - (intOf v7).toNat)
  case atStart => exact ⟨0, by omega, rfl, rfl, rfl⟩
  case round =>
    obtain ⟨j, hj, rfl, rfl, rfl⟩ := hrel
    have hlen := HR.out.1
    by_cases hjn : j < n
    · have hjl : j < xs.length := by omega
      have t3 : decide ((j : Int) < (n : Int)) = true := by simp; omega
      obtain ⟨ad, rfl, hc⟩ := HR.out.2.2 (by omega)
      have hx := hc j hjn
      have hgd : xs.getD j 0 = xs[j] := by simp [List.getD_eq_getElem?_getD, hjl]
      rw [hgd] at hx
      have hsum := numOf_take_succ xs j hjl
      have hb0 := numOf_bound xs HW.out j (by omega)
      have hb1 := HW.out _ (List.getElem_mem hjl)
      generalize xs[j] = x at hx hsum hb1 hgd
      generalize numOf (xs.take j) = a at hsum hb0 ⊢
      have hp : (256 : Int) ^ j ≤ 256 ^ 6 := by exact_mod_cast Nat.pow_le_pow_right (by omega) (by omega)
      have hq : a < 256 ^ 6 := by omega
      have hm : IntKind.u64.wrap (a * 256) = a * 256 := by show (a * 256) % 18446744073709551616 = _; omega
      have hx2 : IntKind.u64.wrap x = x := by show x % 18446744073709551616 = _; omega
      have hs : IntKind.u64.wrap (a * 256 + x) = a * 256 + x := by show (a * 256 + x) % 18446744073709551616 = _; omega
      clear hc hgd
      go_wp2
      refine ⟨⟨j + 1, by omega, by rw [hsum], by norm_cast, trivial⟩, ?_⟩
      simp only [intOf]
      omega
    · obtain rfl : j = n := by omega
      have t3 : decide ((j : Int) < (j : Int)) = false := by simp
      rw [List.take_of_length_le (by omega)]
      go_wp2
      go_ret
      exact ⟨rfl, rfl⟩
set_option maxRecDepth 100000 in
/-- b[i:i+m] -/
theorem mid_at (A : Option Addr) (c : Nat) (xs : List Int) (i m : Nat) (hm : i + m ≤ xs.length) (hc : xs.length ≤ c) :
    ∃ A' : Option Addr, (∀ W : World, (Instr.slice 25 (.slice A xs.length c) (some (.int .i64 (i : Int))) (some (.int .i64 ((i : Int) + (m : Int)))) none).run Try.prog W = .ok (.slice A' m (c - i)) W) ∧
      ∀ w : World, ReadsInt w .u8 A xs.length xs → ReadsInt w .u8 A' m ((xs.drop i).take m) := by
  obtain ⟨i0, hi, hzz⟩ := Option.map_eq_some_iff.1 info_u8
  simp only [Prod.mk.injEq] at hzz
  obtain ⟨hz0, hz1, hz2⟩ := hzz
  obtain ⟨A', h1, h2, h3⟩ := print_mid_int (P := Try.prog) (k := .u8) 25 5 Try.underlying25 hi hz1 A c xs (i : Int) ((i : Int) + (m : Int)) (by omega) (by omega) (by omega) hc
  have e1 : ((i : Int) + (m : Int)).toNat = i + m := by omega
  have e2 : (List.drop i (List.take (i + m) xs)) = (xs.drop i).take m := by rw [List.drop_take]; congr 1; omega
  have e3 : ((xs.drop i).take m).length = m := by simp; omega
  rw [e1, Int.toNat_natCast, e2, e3] at h1 h2
  exact ⟨A', h1, h2⟩
theorem keep_below {W wr w1 : World} {g : Nat} (hB : Below W.heap.size W wr) (hg : W.heap.size ≤ g) (hk : KeepG wr w1 g) : Below W.heap.size W w1 := hB.trans (hk.below hg hB.size)
theorem bad_none (g : Nat) (w : World) (hI : InSt w g none) : Calls Try.prog 22 #[.pointer (some ⟨g, 0, none⟩)] w fun e w' => e = .returned (.bool true) ∧ w = w' := bad_calls g none w hI
theorem left_none (g : Nat) (w : World) (hI : InSt w g none) : Calls Try.prog 24 #[.pointer (some ⟨g, 0, none⟩)] w fun e w' => e = .returned (.int .i64 0) ∧ w = w' := left_calls g none w hI
theorem done_none (g : Nat) (w : World) (hI : InSt w g none) : Calls Try.prog 21 #[.pointer (some ⟨g, 0, none⟩)] w fun e w' => e = .returned (.bool false) ∧ w = w' := done_calls g none w hI
theorem bad_some (g : Nat) (ys : List Int) (w : World) (hI : InSt w g (some ys)) : Calls Try.prog 22 #[.pointer (some ⟨g, 0, none⟩)] w fun e w' => e = .returned (.bool false) ∧ w = w' := bad_calls g (some ys) w hI
theorem left_some (g : Nat) (xs : List Int) (i m : Nat) (h : i + m ≤ xs.length) (w : World) (hI : InSt w g (some (xs.drop (i + m)))) :
    Calls Try.prog 24 #[.pointer (some ⟨g, 0, none⟩)] w fun e w' => e = .returned (.int .i64 ((xs.length : Int) - ((i : Int) + (m : Int)))) ∧ w = w' := by
  have h1 := left_calls g _ w hI
  have e : (((((some (xs.drop (i + m))).getD []).length : Nat)) : Int) = (xs.length : Int) - ((i : Int) + (m : Int)) := by
    show (((xs.drop (i + m)).length : Nat) : Int) = _
    rw [List.length_drop]; omega
  rw [e] at h1
  exact h1
theorem done_some (g : Nat) (xs : List Int) (i m : Nat) (h : i + m ≤ xs.length) (w : World) (hI : InSt w g (some (xs.drop (i + m)))) :
    Calls Try.prog 21 #[.pointer (some ⟨g, 0, none⟩)] w fun e w' => e = .returned (.bool ((i : Int) + (m : Int) == (xs.length : Int))) ∧ w = w' := by
  have h1 := done_calls g _ w hI
  have e : ((some (xs.drop (i + m))).isSome && ((some (xs.drop (i + m))).getD []).isEmpty) = ((i : Int) + (m : Int) == (xs.length : Int)) := by
    show (xs.drop (i + m)).isEmpty = _
    rw [Bool.eq_iff_iff, List.isEmpty_iff, List.drop_eq_nil_iff, beq_iff_eq]
    omega
  rw [e] at h1
  exact h1
set_option maxRecDepth 100000 in
/-- What a slice of bytes is that came in. -/
theorem opens_bytes : Gy.Opens Try.prog 25 (Kd.slice 5 (Kd.int .u8)) (fun xs => xs.length ≤ 9223372036854775807 ∧ ∀ x ∈ xs, (Lit.int .u8 x).wf = true) :=
  Gy.Opens.slice Try.underlying25 (by kernel_rfl) (Gy.Opens.int Try.underlying5 (by kernel_rfl))
set_option maxRecDepth 100000 in
theorem opens_items : Gy.Opens Try.prog 22 (Kd.slice 29 kitem) (fun l => l.length ≤ 9223372036854775807 ∧ ∀ p ∈ l, (Lit.int .u8 p.1).wf = true ∧ (Lit.int .i64 p.2.1).wf = true ∧ (Lit.int .i64 p.2.2.1).wf = true ∧ (p.2.2.2.length ≤ 9223372036854775807 ∧ ∀ x ∈ p.2.2.2, (Lit.int .u8 x).wf = true)) := by
  have u8 := Gy.Opens.int (P := Try.prog) Try.underlying5 (by kernel_rfl)
  have i64 := Gy.Opens.int (P := Try.prog) Try.underlying2 (by kernel_rfl)
  have i := Gy.Opens.int (P := Try.prog) Try.underlying3 (by kernel_rfl)
  have h3 := Gy.OpensAt.one (f := { name := "B", type := 25, offset := 3, embedded := false, tag := "", pkgPath := "", byteOffset := 24 }) (off := 3) rfl opens_bytes
  have h2 := Gy.OpensAt.cons (f := { name := "Size", type := 3, offset := 2, embedded := false, tag := "", pkgPath := "", byteOffset := 16 }) (off := 2) rfl i h3
  have h1 := Gy.OpensAt.cons (f := { name := "V", type := 2, offset := 1, embedded := false, tag := "", pkgPath := "", byteOffset := 8 }) (off := 1) rfl i64 h2
  have h0 := Gy.OpensAt.cons (f := { name := "Kind", type := 5, offset := 0, embedded := false, tag := "", pkgPath := "", byteOffset := 0 }) (off := 0) rfl u8 h1
  exact Gy.Opens.slice Try.underlying22 (by kernel_rfl) (Gy.Opens.struct Try.underlying29 (by kernel_rfl) h0)
end Go.Proofs.Ytnoebhnkkigkjaa.Codec

/- From any seed on the numbers are what the document says, whatever is asked for. No condition beyond the kinds of the arguments. -/
import Derived.Test.YtkheloahiepoiaaPRandGoesx1
import Derived.Test.YtkheloahiepoiaaDeg
import Derived.Test.YtkheloahiepoiaaOpen
namespace Go.Proofs.Ytkheloahiepoiaa.OwnRandGoes
open Go Go.RowKit Go.Proofs.Ytkheloahiepoiaa.PRandGoes Go.Proofs.YtkheloahiepoiaaW.PrintWords Go.Proofs.YtkheloahiepoiaaW.PrintLast Go.Proofs.Ytkheloahiepoiaa.Rand

theorem xor_lt32 {a b : Nat} (ha : a < 4294967296) (hb : b < 4294967296) : a ^^^ b < 4294967296 := Nat.xor_lt_two_pow (n := 32) ha hb
theorem rn_nat {X : Nat} (h : X < 4294967296) : ∃ Y : Nat, rn X = Y ∧ Y < 4294967296 ∧ geyserref03_Next.f X = some (Y : Int) := by
  obtain ⟨A, hA⟩ : ∃ A : Nat, A = X ^^^ (X * 8192 % 4294967296) := ⟨_, rfl⟩
  obtain ⟨B, hB⟩ : ∃ B : Nat, B = A ^^^ (A / 131072) := ⟨_, rfl⟩
  obtain ⟨C, hC⟩ : ∃ C : Nat, C = B ^^^ (B * 32 % 4294967296) := ⟨_, rfl⟩
  have lA : A < 4294967296 := by rw [hA]; exact xor_lt32 h (by omega)
  have lB : B < 4294967296 := by rw [hB]; exact xor_lt32 lA (by omega)
  have lC : C < 4294967296 := by rw [hC]; exact xor_lt32 lB (by omega)
  have e1 : rn1 X = A := by
    unfold rn1
    rw [show ((X : Int) * 8192 % 4294967296) = ((X * 8192 % 4294967296 : Nat) : Int) from by omega, u32_xor_nat _ _ h (by omega), hA]
  have e2 : rn2 A = B := by
    unfold rn2
    rw [show ((A : Int) / 131072) = ((A / 131072 : Nat) : Int) from by omega, u32_xor_nat _ _ lA (by omega), hB]
  have e3 : rn3 B = C := by
    unfold rn3
    rw [show ((B : Int) * 32 % 4294967296) = ((B * 32 % 4294967296 : Nat) : Int) from by omega, u32_xor_nat _ _ lB (by omega), hC]
  have m32 : ∀ n : Nat, n < 18446744073709551616 → Go.bits .and .u64 (n : Int) 4294967295 = ((n % 4294967296 : Nat) : Int) := by
    intro n hn
    have h1 := u64_and_nat n 4294967295 hn (by omega)
    have h2 := Nat.and_two_pow_sub_one_eq_mod n 32
    simp at h2
    rw [h2] at h1
    exact h1
  refine ⟨C, by unfold rn; rw [e1, e2, e3], lC, ?_⟩
  unfold geyserref03_Next.f
  have f1 : Go.bits .xor .u64 (X : Int) (Go.bits .and .u64 (IntKind.u64.wrap ((X : Int) * 8192)) 4294967295) = (A : Int) := by
    rw [Gy.u64_wrap_id (by omega) (by omega), show ((X : Int) * 8192) = ((X * 8192 : Nat) : Int) from by omega, m32 _ (by omega), u64_xor_nat _ _ (by omega) (by omega), hA]
  have f2 : Go.bits .xor .u64 (A : Int) ((A : Int) / 131072) = (B : Int) := by
    rw [show ((A : Int) / 131072) = ((A / 131072 : Nat) : Int) from by omega, u64_xor_nat _ _ (by omega) (by omega), hB]
  have f3 : Go.bits .xor .u64 (B : Int) (Go.bits .and .u64 (IntKind.u64.wrap ((B : Int) * 32)) 4294967295) = (C : Int) := by
    rw [Gy.u64_wrap_id (by omega) (by omega), show ((B : Int) * 32) = ((B * 32 : Nat) : Int) from by omega, m32 _ (by omega), u64_xor_nat _ _ (by omega) (by omega), hC]
  rw [f1, f2, f3]
theorem rb_nat {X : Nat} (h : X < 4294967296) : ∃ Y : Nat, rb X = Y ∧ Y < 4294967296 ∧ geyserref03_Begin.f X = some (Y : Int) := by
  unfold rb geyserref03_Begin.f
  have e1 : Go.bits .xor .u32 (X : Int) 2654435769 = ((X ^^^ 2654435769 : Nat) : Int) := u32_xor_nat X 2654435769 h (by omega)
  have e2 : Go.bits .xor .u64 (IntKind.u64.wrap (X : Int)) 2654435769 = ((X ^^^ 2654435769 : Nat) : Int) := by
    rw [Gy.u64_wrap_id (by omega) (by omega)]; exact u64_xor_nat X 2654435769 (by omega) (by omega)
  rw [e1, e2]
  have hl := xor_lt32 h (show 2654435769 < 4294967296 by omega)
  by_cases h0 : X ^^^ 2654435769 = 0
  · exact ⟨1, by rw [if_pos (by omega)]; rfl, by omega, by rw [if_pos (by omega)]; rfl⟩
  · exact ⟨_, by rw [if_neg (by omega)], hl, by rw [if_neg (by omega)]⟩
theorem deg_f {k : Nat} (hk : 2 ≤ k) (x n : Int) : geyserref03_Degree.f k x n = some (mx (mn (deg0 x) n) 1) := by
  obtain ⟨k, rfl⟩ : ∃ m, k = m + 1 := ⟨k - 1, by omega⟩
  have hj : ∀ d : Int, 1 ≤ d → geyserref03_Degree.j0 (k + 1) n d = some (mx (mn d n) 1) := by
    intro d hd
    obtain ⟨k, rfl⟩ : ∃ m, k = m + 1 := ⟨k - 1, by omega⟩
    simp only [geyserref03_Degree.j0, mx, mn]
    repeat' split
    all_goals first | rfl | (congr 1; omega) | (exfalso; omega) | skip
  unfold geyserref03_Degree.f deg0
  repeat' split
  all_goals exact hj _ (by omega)
/-- the generator in the block g holds X -/
structure St (w : World) (g : Nat) (X : Nat) (wr : World) : Prop where
  lt : X < 4294967296
  cell : wr.cell? ⟨g, 0, none⟩ = some (.int .u32 X)
  free : wr.frozen? ⟨g, 0, none⟩ = false
  below : Below w.heap.size w wr
  ge : w.heap.size ≤ g
theorem St.set {w : World} {g X Y : Nat} {wr wr' : World} (h : St w g X wr) (hY : Y < 4294967296) (hb : Below wr.heap.size (wr.setCell ⟨g, 0, none⟩ (.int .u32 Y)) wr') : St w g Y wr' := by
  have hg := cell_lt h.cell
  refine ⟨hY, ?_, ?_, (h.below.setCell h.ge _).trans (hb.mono h.below.size), h.ge⟩
  · rw [hb.cell (p := ⟨g, 0, none⟩) hg]; exact Gy.cell_set h.cell _
  · rw [hb.frozen (p := ⟨g, 0, none⟩) hg]
    have : (wr.setCell ⟨g, 0, none⟩ (.int .u32 Y)).frozen? ⟨g, 0, none⟩ = wr.frozen? ⟨g, 0, none⟩ := by go_simp
    rw [this]; exact h.free
theorem St.sm {w : World} {g X Y : Nat} {wr wr' : World} (h : St w g X wr) (hY : Y < 4294967296) (hb : Gy.Sm wr' (wr.setCell ⟨g, 0, none⟩ (.int .u32 Y))) : St w g Y wr' := h.set hY (hb.below (Below.refl _ _))
theorem St.same {w : World} {g X : Nat} {wr wr' : World} (h : St w g X wr) (hb : Gy.Sm wr' wr) : St w g X wr' :=
  ⟨h.lt, by rw [hb.cell]; exact h.cell, by rw [hb.frozen]; exact h.free, hb.below h.below, h.ge⟩
theorem St.drew {w : World} {g X : Nat} {wr : World} (h : St w g X wr) (n : Nat) : St w g X (wr.drewN n) := by
  have e : Below wr.heap.size wr (wr.drewN n) := by repeat (first | exact Below.refl _ _ | apply pw_below_drewN | apply below_drew1)
  have hg := cell_lt h.cell
  exact ⟨h.lt, by rw [e.cell (p := ⟨g, 0, none⟩) hg]; exact h.cell, by rw [e.frozen (p := ⟨g, 0, none⟩) hg]; exact h.free, h.below.trans (e.mono h.below.size), h.ge⟩

theorem rd_mem {xs : List Int} {k : Nat} (h : k < xs.length) : rd xs (k : Int) ∈ xs := by
  unfold rd
  rw [Int.toNat_natCast, List.getD_eq_getElem?_getD, List.getElem?_eq_getElem h]
  exact List.getElem_mem h
theorem St.made {w w1 w2 : World} {X : Nat} (hl : X < 4294967296) (hb : Below w.heap.size w w1) (hm : Made w1 w2 X) : St w w1.heap.size X w2 :=
  ⟨hl, hm.1, hm.2.1, hb.trans (hm.2.2.1.mono hb.size), hb.size⟩

set_option maxHeartbeats 8000000 in
set_option maxRecDepth 100000 in
theorem walk (a0 : Int) (A1 : Option Addr) (c1 : Nat) (xs : List Int) (w : World) (w0 : (Lit.int .u32 a0).wf = true) (hr : Kd.C (Kd.int .i64) w A1 xs.length xs) (hc : xs.length ≤ c1)
    (hg : xs.length ≤ 9223372036854775807 ∧ ∀ x ∈ xs, (Lit.int .i64 x).wf = true) :
    Calls Try.prog 12 #[.int .u32 a0, .slice A1 xs.length c1] w fun e w' => e = .returned (.bool true) ∧ Below w.heap.size w w' := by
  obtain ⟨s, rfl, hs⟩ := Gy.wf_u32 w0
  have HR := Aside0.mk hr
  have HC := Aside0.mk hc
  have HG := Aside0.mk hg
  obtain ⟨X0, e0, l0, f0⟩ := rb_nat hs
  have A0 := Aside0.mk f0
  have N0 : ∀ W, Calls Try.prog 37 #[.int .u32 s] W fun e w' => e = .returned (.pointer (some ⟨W.heap.size, 0, none⟩)) ∧ Made W w' X0 := fun W => by have h := new_calls s W; rw [e0] at h; exact h
  have NH := Aside0.mk N0
  have hlen : xs.length ≤ 9223372036854775807 := hg.1
  have HB := Lib.hid (Below.refl w.heap.size w)
  clear hr hc hg f0 e0 w0 hs N0
  by_cases h200 : (200 : Int) < (xs.length : Int)
  · go_enter Try.func12, Try.ntmps12
    go_wp2_with (go_at_call 36; (with_reducible refine (awake_calls _).mono ?_); rintro e w1 ⟨rfl, hb⟩; have HB' := Lib.hid (HB.out.trans (hb.mono HB.out.size)); clear hb HB; have HB := HB'; clear HB')
    go_ret
    exact ⟨rfl, HB.out⟩
  · go_enter Try.func12, Try.ntmps12
    go_wp2_with (first
      | (go_at_call 36; (with_reducible refine (awake_calls _).mono ?_); rintro e w1 ⟨rfl, hb⟩; have HB' := Lib.hid (HB.out.trans (hb.mono HB.out.size)); clear hb HB; have HB := HB'; clear HB')
      | (go_at_call 37; (with_reducible refine (NH.out _).mono ?_); rintro e w2 ⟨rfl, hm⟩; have HM := Lib.hid hm; clear hm)
      | (go_at_call 38; (with_reducible refine (geyserref03_Begin.calls _ X0 _ A0.out).mono ?_); rintro e w3 ⟨rfl, ⟨nd, rfl⟩⟩))
    go_loopw [6, 24] (fun v6 v24 wr => ∃ k X : Nat, k ≤ xs.length ∧ v24 = .int .i64 k ∧ v6 = .int .u64 X ∧ Gy.Hd (St w w1.heap.size X wr)) (fun _ v24 _ => xs.length - (intOf v24).toNat)
    case atStart => exact ⟨0, X0, by omega, rfl, rfl, ⟨(St.made l0 HB.out HM.out).drew nd⟩⟩
    case round =>
      obtain ⟨k, X, hk, rfl, rfl, hh⟩ := hrel
      clear HM NH A0 l0
      by_cases hlt : k < xs.length
      · obtain ⟨Y, eY, lY, fY⟩ := rn_nat hh.out.lt
        have AY := Aside0.mk fY
        have EY := Aside0.mk eY
        obtain ⟨ad, rfl, hx⟩ := Kd.at_int (Kd.C_below HR.out hh.out.below) (k : Int) (by omega) (by omega)
        have hmem := HG.out.2 _ (rd_mem hlt)
        have hn := Gy.wf_i64 hmem
        generalize rd xs (k : Int) = n at *
        rw [Int.toNat_natCast] at hx
        have ew : IntKind.u64.wrap (Y : Int) = Y := Gy.u64_wrap_id (by omega) (by omega)
        have EW := Aside0.mk ew
        have nx : ∀ W, W.cell? ⟨w1.heap.size, 0, none⟩ = some (.int .u32 X) → W.frozen? ⟨w1.heap.size, 0, none⟩ = false → Calls Try.prog 40 #[.pointer (some ⟨w1.heap.size, 0, none⟩)] W
            fun e w' => e = .returned (.int .u32 Y) ∧ Gy.Sm w' (W.setCell ⟨w1.heap.size, 0, none⟩ (.int .u32 Y)) := fun W h1 h2 => by have h := next_calls _ _ W h1 h2; rw [eY] at h; exact h
        have NX := Aside0.mk nx
        clear fY eY nx hmem ew
        by_cases m0 : k % 3 = 0
        · have t0 : ((k : Int) % 3 == 0) = true := by rw [beq_iff_eq]; omega
          clear m0
          go_wp2_with (first
            | (go_at_call 39; (with_reducible refine (geyserref03_Next.calls _ Y _ AY.out).mono ?_); rintro e w4 ⟨rfl, ⟨nd, rfl⟩⟩)
            | (go_at_call 40; (with_reducible refine (NX.out _ (hh.out.drew nd).cell (hh.out.drew nd).free).mono ?_); rintro e w5 ⟨rfl, hs⟩; have HS := Lib.hid ((hh.out.drew nd).sm lY hs); clear hs))
          exact ⟨⟨k + 1, Y, by omega, by go_num, rfl, ⟨HS.out⟩⟩, by simp [intOf]; omega⟩
        by_cases m1 : k % 3 = 1
        · have t0 : ((k : Int) % 3 == 0) = false := by rw [beq_eq_false_iff_ne]; omega
          have t1 : ((k : Int) % 3 == 1) = true := by rw [beq_iff_eq]; omega
          clear m0 m1
          by_cases hp : 0 < n
          · have e2 : IntKind.u64.wrap n = n := Gy.u64_wrap_id (by omega) (by omega)
            have hm0 := Int.emod_nonneg (Y : Int) (show n ≠ 0 by omega)
            have hm1 := Int.emod_lt_of_pos (Y : Int) hp
            have e4 : (n == 0) = false := by rw [beq_eq_false_iff_ne]; omega
            have e3 : Int.tmod (Y : Int) n = (Y : Int) % n := Int.tmod_eq_emod_of_nonneg (by omega)
            have e5 : wrap64 ((Y : Int) % n) = (Y : Int) % n := Gy.wrap64_id (by omega) (by omega)
            have bx : ∀ W, W.cell? ⟨w1.heap.size, 0, none⟩ = some (.int .u32 X) → W.frozen? ⟨w1.heap.size, 0, none⟩ = false → Calls Try.prog 41 #[.pointer (some ⟨w1.heap.size, 0, none⟩), .int .i64 n] W
                fun e w' => e = .returned (.int .i64 ((Y : Int) % n)) ∧ Gy.Sm w' (W.setCell ⟨w1.heap.size, 0, none⟩ (.int .u32 Y)) := fun W h1 h2 => by
              have h := below_calls _ X n W h1 h2 (by omega) hn.2 (by rw [EY.out]; omega) (by rw [EY.out]; omega); rw [EY.out] at h; exact h
            have BX := Aside0.mk bx
            clear bx hm0 hm1
            go_wp2_with (first
              | (go_at_call 39; (with_reducible refine (geyserref03_Next.calls _ Y _ AY.out).mono ?_); rintro e w4 ⟨rfl, ⟨nd, rfl⟩⟩)
              | (go_at_call 41; (with_reducible refine (BX.out _ (hh.out.drew nd).cell (hh.out.drew nd).free).mono ?_); rintro e w5 ⟨rfl, hs⟩; have HS := Lib.hid ((hh.out.drew nd).sm lY hs); clear hs))
            exact ⟨⟨k + 1, Y, by omega, by go_num, rfl, ⟨HS.out⟩⟩, by simp [intOf]; omega⟩
          · have hq : n < 1 := by omega
            go_wp2_with (go_at_call 41; (with_reducible refine (below_none _ _ _ hq).mono ?_); rintro e w5 ⟨rfl, hs⟩; have HS := Lib.hid (hh.out.same hs); clear hs)
            exact ⟨⟨k + 1, X, by omega, by go_num, rfl, ⟨HS.out⟩⟩, by simp [intOf]; omega⟩
        · have t0 : ((k : Int) % 3 == 0) = false := by rw [beq_eq_false_iff_ne]; omega
          have t1 : ((k : Int) % 3 == 1) = false := by rw [beq_eq_false_iff_ne]; omega
          clear m0 m1
          have D0 := Aside0.mk (deg_f (k := 2) (Nat.le_refl 2) ((Y : Int) % 1024) n)
          have dx : ∀ W, W.cell? ⟨w1.heap.size, 0, none⟩ = some (.int .u32 X) → W.frozen? ⟨w1.heap.size, 0, none⟩ = false → Calls Try.prog 42 #[.pointer (some ⟨w1.heap.size, 0, none⟩), .int .i64 n] W
              fun e w' => e = .returned (.int .i64 (mx (mn (deg0 ((Y : Int) % 1024)) n) 1)) ∧ Below W.heap.size (W.setCell ⟨w1.heap.size, 0, none⟩ (.int .u32 Y)) w' := fun W h1 h2 => by
            have h := degree_calls _ X n W h1 h2 (by rw [EY.out]; omega) (by rw [EY.out]; omega); rw [EY.out] at h; exact h
          have DX := Aside0.mk dx
          clear dx
          generalize mx (mn (deg0 ((Y : Int) % 1024)) n) 1 = dg at *
          go_wp2_with (first
            | (go_at_call 39; (with_reducible refine (geyserref03_Next.calls _ Y _ AY.out).mono ?_); rintro e w4 ⟨rfl, ⟨nd, rfl⟩⟩)
            | (go_at_call 42; (with_reducible refine (DX.out _ (hh.out.drew nd).cell (hh.out.drew nd).free).mono ?_); rintro e w5 ⟨rfl, hs⟩; have HS := Lib.hid ((hh.out.drew nd).set lY hs); clear hs)
            | (go_at_call 43; (with_reducible refine (geyserref03_Degree.calls 2 _ _ dg _ D0.out).mono ?_); rintro e w6 ⟨rfl, ⟨nd', rfl⟩⟩))
          exact ⟨⟨k + 1, Y, by omega, by go_num, rfl, ⟨HS.out.drew _⟩⟩, by simp [intOf]; omega⟩
      · go_wp2
        go_ret
        exact ⟨rfl, hh.out.below⟩
theorem opens_asked : Gy.Opens Try.prog 49 (Kd.slice 3 (Kd.int .i64)) (fun xs => xs.length ≤ 9223372036854775807 ∧ ∀ x ∈ xs, (Lit.int .i64 x).wf = true) :=
  Gy.Opens.slice Try.underlying49 (by kernel_rfl) (Gy.Opens.int Try.underlying3 (by kernel_rfl))
end Go.Proofs.Ytkheloahiepoiaa.OwnRandGoes

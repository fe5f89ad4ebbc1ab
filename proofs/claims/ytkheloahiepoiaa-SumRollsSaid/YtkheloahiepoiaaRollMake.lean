/- The walks over package sum: a Roller is made. -/
import Derived.Test.YtkheloahiepoiaaRollNext
namespace Go.Proofs.Ytkheloahiepoiaa.Rolls
open Go Go.RowKit Go.Proofs.YtkheloahiepoiaaW.PrintWords Go.Proofs.YtkheloahiepoiaaW.PrintMore

theorem zeros_ok (n : Nat) : ∀ x ∈ List.replicate n (0 : Int), 0 ≤ x ∧ x < 256 := by
  intro x hx
  have := List.eq_of_mem_replicate hx
  omega
theorem roll_start (w : World) (zs : Array Value) (hz : zs = Array.replicate 512 (.int .u32 0)) (t : TypeId) (size : Nat) : RollAt (w.alloc (.cells zs t)) w.heap.size size 0 0 := by
  subst hz
  have h := Gy.alloc_at w (.cells (Array.replicate 512 (.int .u32 0)) t)
  refine ⟨fun y hy => ?_, fun y hy => ?_, fun o => ?_⟩
  · unfold World.cell?
    simp only [h]
    simp [show y < 512 by omega]
  · unfold World.cell?
    simp only [h]
    simp [show 256 + y < 512 by omega]
  · unfold World.frozen?
    simp only [h]
    simp
theorem u32_id {j : Nat} (h : j < 256) : IntKind.u32.wrap (j : Int) = (j : Int) := by
  show (j : Int) % 4294967296 = _
  omega
theorem lt32 {j : Nat} (h : j < 256) : j < 4294967296 := by omega
theorem u8_id {j : Nat} (h : j < 256) : IntKind.u8.wrap (j : Int) = (j : Int) := by
  show (j : Int) % 256 = _
  omega
theorem u8_mod {j : Nat} (h : j < 256) : (j : Int) % 256 = (j : Int) := by omega
theorem first_ok {j n : Nat} (h : j < 256) : ∀ x ∈ (j : Int) :: List.replicate n (0 : Int), 0 ≤ x ∧ x < 256 := by
  intro x hx
  rcases List.mem_cons.1 hx with rfl | hx
  · omega
  · exact zeros_ok n x hx
theorem set_drew {w wr : World} {base g : Nat} (o : Nat) (v : Value) (hb : Below base w wr) (hg : base ≤ g) : Below base w (wr.setCell ⟨g, o, none⟩ v).drew := pw_below_drewN (hb.setCell hg v) 1
theorem set_alloc (w : World) (C : Array Value) (e : TypeId) (v : Value) : (w.alloc (.cells C e)).setCell ⟨w.heap.size, 0, none⟩ v = w.alloc (.cells (C.setIfInBounds 0 v) e) := by go_simp
theorem outv_form (size : Nat) {j : Nat} (hj : j < 256) : Go.bits .xor .u32 ((Gy.crc ((j : Int) :: List.replicate size 0) : Nat) : Int) ((Gy.crc (List.replicate size 0) : Nat) : Int) = ((Gy.outv size j : Nat) : Int) :=
  Go.u32_xor_nat _ _ (Gy.crc_lt _ (first_ok hj)) (Gy.crc_lt _ (zeros_ok _))
theorem fresh_below (w : World) (e : TypeId) (n : Nat) (v : Value) : Below w.heap.size w ((w.alloc (.cells (madeCells #[.int .u8 0] (n + 1)) e)).setCell ⟨w.heap.size, 0, none⟩ v) := (Gy.alloc_below w _).setCell (Nat.le_refl _) v
theorem made_cell (w : World) (e : TypeId) (n : Nat) : (w.alloc (.cells (madeCells #[.int .u8 0] (n + 1)) e)).cell? ⟨w.heap.size, 0, none⟩ = some (.int .u8 0) := by
  have h := own_made w w.heap.size e .u8 (n + 1) (Nat.le_refl _)
  have h2 := Gy.made_reads w e (n + 1)
  by_cases hn : n + 1 ≤ 9223372036854775807
  · obtain ⟨ad, e1, hc⟩ := (h2 hn).2.2 (by omega)
    injection e1 with e1
    subst e1
    have h3 := hc 0 (by omega)
    rw [Gy.addr_add] at h3
    rw [h3]
    simp [List.replicate_succ]
  · have h3 := Gy.alloc_at w (.cells (madeCells #[.int .u8 0] (n + 1)) e)
    unfold World.cell?
    simp only [h3]
    simp [madeCells]
theorem made_free (w : World) (e : TypeId) (n : Nat) : (w.alloc (.cells (madeCells #[.int .u8 0] (n + 1)) e)).frozen? ⟨w.heap.size, 0, none⟩ = false := by
  have h3 := Gy.alloc_at w (.cells (madeCells #[.int .u8 0] (n + 1)) e)
  unfold World.frozen?
  simp only [h3]
  simp
theorem wrap_up {j : Nat} (h : j < 256) : wrap64 ((j : Int) + 1) = (j : Int) + 1 := by unfold wrap64; omega
theorem end_up {j : Nat} (h : j < 256) : 256 - (intOf (Value.int .i64 ((j : Int) + 1))).toNat < 256 - (intOf (Value.int .i64 (j : Int))).toNat := by
  show 256 - ((j : Int) + 1).toNat < 256 - ((j : Int)).toNat
  omega
theorem size_alloc (w : World) (o : Obj) : (w.alloc o).heap.size = w.heap.size + 1 := by
  show (w.heap.push o).size = _
  simp
theorem two_below (w : World) (o o' : Obj) : Below w.heap.size w ((w.alloc o).alloc o') := (Gy.alloc_below w o).trans ((Gy.alloc_below _ o').mono (by rw [size_alloc]; omega))
set_option maxHeartbeats 4000000 in
set_option maxRecDepth 100000 in
theorem newroller_calls (size : Nat) (w : World) (h1 : 1 ≤ size) (h2 : size ≤ 256) :
    Calls Try.prog 34 #[.int .i64 (size : Int)] w fun e w' => ∃ g, e = .returned (.pointer (some ⟨g, 0, none⟩)) ∧ RollAt w' g size 256 256 ∧ Below w.heap.size w w' := by
  obtain ⟨zs, hz, hbuild⟩ := build_roller
  have HZ := Lib.hid hz
  have hm := print_make (P := Try.prog) 35 5 .u8 1 Try.underlying35 info_u8 (by decide) size (by omega)
  have hm1 : ∀ W : World, (Instr.makeSlice 35 (.int .i64 ((size : Int) + 1)) (.int .i64 ((size : Int) + 1))).run Try.prog W = .ok (.slice (some ⟨W.heap.size, 0, none⟩) (size + 1) (size + 1)) (W.alloc (.cells (madeCells #[.int .u8 0] (size + 1)) 5)) := print_make (P := Try.prog) 35 5 .u8 1 Try.underlying35 info_u8 (by decide) (size + 1) (by omega)
  have t1 : decide ((size : Int) < 1) = false := by simp; omega
  have t2 : decide (256 < (size : Int)) = false := by simp; omega
  have hw1 : wrap64 ((size : Int) + 1) = (size : Int) + 1 := by unfold wrap64; omega
  have HS := Lib.hid (And.intro h1 h2)
  clear hz h1 h2
  go_enter Try.func34, Try.ntmps34
  have hr0 := Gy.made_reads (w.alloc (.cells zs 72)) 5 size (by have := HS.out; omega)
  rw [size_alloc] at hr0
  have HR0 := Lib.hid hr0
  have HA := Lib.hid (And.intro ((roll_start w zs HZ.out 72 size).below (Gy.alloc_below _ (.cells (madeCells #[.int .u8 0] size) 5))) (two_below w (.cells zs 72) (.cells (madeCells #[.int .u8 0] size) 5)))
  clear hr0
  go_wp2_with (go_at_call 25; (with_reducible refine (crc_calls _ _ _ (List.replicate size 0) _ HR0.out (zeros_ok _)).mono ?_); rintro e w1 ⟨rfl, rfl⟩)
  go_loopw [18] (fun v18 wr => ∃ j : Nat, j ≤ 256 ∧ v18 = .int .i64 (j : Int) ∧ RollAt wr w.heap.size size j j ∧ Below w.heap.size w wr) (fun v18 _ => 256 - (intOf v18).toNat)
  case atStart => exact ⟨0, by omega, rfl, HA.out.1, HA.out.2⟩
  case round =>
    obtain ⟨j, hj, rfl, hR, hB⟩ := hrel
    clear HR0 HA hm
    by_cases hjn : j < 256
    · have t3 : decide ((j : Int) < 256) = true := by simp; omega
      have c1 : (wr.cell? ⟨w.heap.size, 256 + j, none⟩) = some (.int .u32 0) := by rw [hR.inn j hjn, if_neg (by omega)]; rfl
      have f1 := hR.fr (256 + j)
      have HR := Lib.hid hR
      have HB := Lib.hid hB
      have HJ := Lib.hid hjn
      clear hR hB hj
      go_wp2
      go_region_with (first | (go_at_call 51; (with_reducible refine (turn_calls _ j _ (u32_id HJ.out) (lt32 HJ.out)).mono ?_); rintro e w' ⟨rfl, rfl⟩))
      have R2 := Lib.hid ((HR.out.set_in HJ.out).below (Gy.drew_below _))
      have B2 := Lib.hid (set_drew (256 + j) (Value.int .u32 ((Gy.cturn 8 j : Nat) : Int)) HB.out (Nat.le_refl _))
      generalize (wr.setCell ⟨w.heap.size, 256 + j, none⟩ (.int .u32 ((Gy.cturn 8 j : Nat) : Int))).drew = w2 at R2 B2 ⊢
      clear HR HB c1 f1
      have c1 := made_cell w2 5 size
      have f1 := made_free w2 5 size
      have hj8 := u8_id HJ.out
      have hj8' := u8_mod HJ.out
      have BX := Lib.hid (show Below w2.heap.size w2 (w2.alloc (.cells ((madeCells #[.int .u8 0] (size + 1)).setIfInBounds 0 (.int .u8 (j : Int))) 5)) from Gy.alloc_below w2 _)
      have hc1 := Gy.made_first w2 5 size (j : Int) (by have := HS.out; omega)
      rw [set_alloc] at hc1
      have HC1 := Lib.hid (Gy.reads_below hc1 (Gy.drew_below _))
      clear hc1
      have f5 := outv_form size HJ.out
      have R3 := Lib.hid ((R2.out.below BX.out).below (Gy.drew_below _))
      go_wp2
      have c2 := (R3.out.out j HJ.out)
      rw [if_neg (Nat.lt_irrefl j)] at c2
      have f2 := R3.out.fr j
      go_region_with (first | (go_at_call 25; (with_reducible refine (crc_calls _ _ _ ((j : Int) :: List.replicate size 0) _ HC1.out (first_ok HJ.out)).mono ?_); rintro e w' ⟨rfl, rfl⟩))
      have R4 := Lib.hid (((R2.out.below BX.out).set_out HJ.out).below (Gy.drew_below _))
      have B4 := Lib.hid (set_drew j (Value.int .u32 ((Gy.outv size j : Nat) : Int)) (B2.out.trans (BX.out.mono B2.out.size)) (Nat.le_refl _))
      have hwj : wrap64 ((j : Int) + 1) = (j : Int) + 1 := wrap_up HJ.out
      go_wp2
      exact ⟨⟨j + 1, HJ.out, by norm_cast, R4.out, B4.out⟩, end_up HJ.out⟩
    · obtain rfl : j = 256 := by omega
      have t3 : decide (((256 : Nat) : Int) < 256) = false := by decide
      have HRB := Lib.hid (And.intro hR hB)
      clear hR hB
      go_wp2
      go_ret
      exact ⟨_, rfl, HRB.out⟩
end Go.Proofs.Ytkheloahiepoiaa.Rolls

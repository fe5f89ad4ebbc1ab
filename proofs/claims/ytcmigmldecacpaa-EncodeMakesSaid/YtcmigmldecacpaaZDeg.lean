/- The walk over package rand's Below and Degree. -/
import Derived.Test.YtcmigmldecacpaaZRand
import Derived.Deep.LoopGhost
import Derived.Test.YtcmigmldecacpaaZWMore
namespace Go.Proofs.Ytcmigmldecacpaa.Rand
open Go Go.RowKit Go.Proofs.YtcmigmldecacpaaW.PrintWords Go.Proofs.YtcmigmldecacpaaW.PrintMore
attribute [local go_sem] max2_int min2_int max_two min_two

set_option maxHeartbeats 4000000 in
theorem below_calls (b : Nat) (x n : Int) (w : World) (hc : w.cell? ⟨b, 0, none⟩ = some (.int .u32 x)) (hf : w.frozen? ⟨b, 0, none⟩ = false) (hn : 1 ≤ n) (hn2 : n ≤ 9223372036854775807) (hx0 : 0 ≤ rn x) (hx1 : rn x < 4294967296) :
    Calls Try.prog 102 #[.pointer (some ⟨b, 0, none⟩), .int .i64 n] w fun e w' => e = .returned (.int .i64 (rn x % n)) ∧ Gy.Sm w' (w.setCell ⟨b, 0, none⟩ (.int .u32 (rn x))) := by
  have e1 : IntKind.u64.wrap (rn x) = rn x := Gy.u64_wrap_id hx0 (by omega)
  have e2 : IntKind.u64.wrap n = n := Gy.u64_wrap_id (by omega) (by omega)
  have hm0 := Int.emod_nonneg (rn x) (show n ≠ 0 by omega)
  have hm1 := Int.emod_lt_of_pos (rn x) (show 0 < n by omega)
  have e4 : (n == 0) = false := by rw [beq_eq_false_iff_ne]; omega
  have e3 : Int.tmod (rn x) n = rn x % n := Int.tmod_eq_emod_of_nonneg hx0
  have e5 : wrap64 (rn x % n) = rn x % n := Gy.wrap64_id (by omega) (by omega)
  have hn' : ¬ n < 1 := by omega
  go_enter Try.func102, Try.ntmps102
  go_wp2_with (go_at_call 106; (with_reducible refine (next_calls _ _ _ hc hf).mono ?_); rintro e w2 ⟨rfl, hs⟩)
  go_ret
  exact ⟨rfl, hs⟩
theorem below_none (b : Nat) (n : Int) (w : World) (hn : n < 1) :
    Calls Try.prog 102 #[.pointer (some ⟨b, 0, none⟩), .int .i64 n] w fun e w' => e = .returned (.int .i64 0) ∧ Gy.Sm w' w := by
  go_enter Try.func102, Try.ntmps102
  go_wp2
  go_ret
  exact ⟨rfl, Gy.Sm.refl _⟩

def Th (i : Nat) : Int := [16, 528, 696, 780, 860, 930, 980].getD i 0
def Dg (i : Nat) : Int := [1, 2, 3, 4, 6, 10, 18].getD i 0
def deg0 (x : Int) : Int := if x < 16 then 1 else if x < 528 then 2 else if x < 696 then 3 else if x < 780 then 4 else if x < 860 then 6 else if x < 930 then 10 else if x < 980 then 18 else 34

def TC : Array Value := #[.int .u32 16, .int .u32 1, .int .u32 528, .int .u32 2, .int .u32 696, .int .u32 3, .int .u32 780, .int .u32 4, .int .u32 860, .int .u32 6, .int .u32 930, .int .u32 10, .int .u32 980, .int .u32 18]
theorem cell_lt {w : World} {b o : Nat} {v : Value} (h : w.cell? ⟨b, o, none⟩ = some v) : b < w.heap.size := by
  rcases Nat.lt_or_ge b w.heap.size with h' | h'
  · exact h'
  · simp [World.cell?, Array.getElem?_eq_none h'] at h
theorem heap_new (w : World) (o : Obj) : (w.alloc o).heap[w.heap.size]? = some o := by
  show (w.heap.push o)[w.heap.size]? = _
  simp
theorem heap_old (w : World) (o : Obj) {b : Nat} (h : b < w.heap.size) : (w.alloc o).heap[b]? = w.heap[b]? := by
  show (w.heap.push o)[b]? = _
  rw [Array.getElem?_push, if_neg (by omega)]
/-- the table stands in the block g -/
def Tab (w : World) (g : Nat) : Prop := ∀ j, j < 14 → w.cell? ⟨g, j, none⟩ = TC[j]?
theorem tab_new (w : World) (t : TypeId) : Tab (w.alloc (.cells TC t)) w.heap.size := by
  intro j hj
  unfold World.cell?
  simp only [heap_new]
  simp
theorem tab_keep {w w' : World} {g B : Nat} (h : Tab w g) (hb : Below B w w') (hg : g < B) : Tab w' g := by
  intro j hj
  rw [← h j hj]
  unfold World.cell?
  rw [hb.block g hg]
theorem tab_set {w : World} {g b : Nat} {v : Value} (h : Tab w g) (hg : g ≠ b) : Tab (w.setCell ⟨b, 0, none⟩ v) g := by
  intro j hj
  rw [← h j hj]
  unfold World.cell?
  rw [Below.heap_setCell w _ _ _ hg]
theorem size_set (w : World) (o : Obj) (a : Addr) (v : Value) : w.heap.size + 1 ≤ ((w.alloc o).setCell a v).heap.size := by
  show _ ≤ ((w.heap.push o).modify _ _).size
  simp
def Passed (x : Int) (i : Nat) : Prop := ∀ j, j < i → Th j ≤ x
theorem round_end {w wr a : World} {x : Int} {i : Nat} (h : Gy.Hd (Passed x i ∧ Tab wr w.heap.size ∧ Below w.heap.size a wr ∧ w.heap.size < wr.heap.size)) (hx : Th i ≤ x) (o : Obj) :
    Gy.Hd (Passed x (i + 1) ∧ Tab (wr.alloc o) w.heap.size ∧ Below w.heap.size a (wr.alloc o) ∧ w.heap.size < (wr.alloc o).heap.size) := by
  obtain ⟨h1, h2, h3, h4⟩ := h.out
  refine ⟨fun j hj => ?_, tab_keep h2 ((Below.refl wr.heap.size wr).alloc (Nat.le_refl _) o) h4, h3.alloc (Nat.le_of_lt h4) o, ?_⟩
  · by_cases e : j = i
    · subst e; exact hx
    · exact h1 j (by omega)
  · show w.heap.size < (wr.heap.push o).size
    rw [Array.size_push]; omega
theorem deg_at7 {x : Int} (h : Passed x 7) : deg0 x = 34 := by
  have h0 := h 0 (by omega); have h1 := h 1 (by omega); have h2 := h 2 (by omega); have h3 := h 3 (by omega); have h4 := h 4 (by omega); have h5 := h 5 (by omega); have h6 := h 6 (by omega)
  simp only [Th, List.getD_cons_zero, List.getD_cons_succ] at h0 h1 h2 h3 h4 h5 h6
  unfold deg0
  repeat rw [if_neg (by omega)]
theorem deg_at0 {x : Int} (g : x < 16) : deg0 x = 1 := by
  unfold deg0
  rw [if_pos g]
theorem deg_at1 {x : Int} (h : Passed x 1) (g : x < 528) : deg0 x = 2 := by
  have h0 := h 0 (by omega)
  simp only [Th, List.getD_cons_zero] at h0
  unfold deg0
  rw [if_neg (by omega)]
  rw [if_pos g]
theorem deg_at2 {x : Int} (h : Passed x 2) (g : x < 696) : deg0 x = 3 := by
  have h1 := h 1 (by omega)
  simp only [Th, List.getD_cons_zero, List.getD_cons_succ] at h1
  unfold deg0
  rw [if_neg (by omega)]
  rw [if_neg (by omega)]
  rw [if_pos g]
theorem deg_at3 {x : Int} (h : Passed x 3) (g : x < 780) : deg0 x = 4 := by
  have h2 := h 2 (by omega)
  simp only [Th, List.getD_cons_zero, List.getD_cons_succ] at h2
  unfold deg0
  rw [if_neg (by omega)]
  rw [if_neg (by omega)]
  rw [if_neg (by omega)]
  rw [if_pos g]
theorem deg_at4 {x : Int} (h : Passed x 4) (g : x < 860) : deg0 x = 6 := by
  have h3 := h 3 (by omega)
  simp only [Th, List.getD_cons_zero, List.getD_cons_succ] at h3
  unfold deg0
  rw [if_neg (by omega)]
  rw [if_neg (by omega)]
  rw [if_neg (by omega)]
  rw [if_neg (by omega)]
  rw [if_pos g]
theorem deg_at5 {x : Int} (h : Passed x 5) (g : x < 930) : deg0 x = 10 := by
  have h4 := h 4 (by omega)
  simp only [Th, List.getD_cons_zero, List.getD_cons_succ] at h4
  unfold deg0
  rw [if_neg (by omega)]
  rw [if_neg (by omega)]
  rw [if_neg (by omega)]
  rw [if_neg (by omega)]
  rw [if_neg (by omega)]
  rw [if_pos g]
theorem deg_at6 {x : Int} (h : Passed x 6) (g : x < 980) : deg0 x = 18 := by
  have h5 := h 5 (by omega)
  simp only [Th, List.getD_cons_zero, List.getD_cons_succ] at h5
  unfold deg0
  rw [if_neg (by omega)]
  rw [if_neg (by omega)]
  rw [if_neg (by omega)]
  rw [if_neg (by omega)]
  rw [if_neg (by omega)]
  rw [if_neg (by omega)]
  rw [if_pos g]
set_option maxHeartbeats 8000000 in
set_option maxRecDepth 100000 in
theorem degree_calls (b : Nat) (x n : Int) (w : World) (hc : w.cell? ⟨b, 0, none⟩ = some (.int .u32 x)) (hf : w.frozen? ⟨b, 0, none⟩ = false) (hx0 : 0 ≤ rn x) (hx1 : rn x < 4294967296) :
    Calls Try.prog 101 #[.pointer (some ⟨b, 0, none⟩), .int .i64 n] w fun e w' => e = .returned (.int .i64 (mx (mn (deg0 (rn x % 1024)) n) 1)) ∧ Below w.heap.size (w.setCell ⟨b, 0, none⟩ (.int .u32 (rn x))) w' := by
  have hlt := cell_lt hc
  have hc1 : (w.alloc (.cells #[.int .u32 16, .int .u32 1, .int .u32 528, .int .u32 2, .int .u32 696, .int .u32 3, .int .u32 780, .int .u32 4, .int .u32 860, .int .u32 6, .int .u32 930, .int .u32 10, .int .u32 980, .int .u32 18] 151)).cell? ⟨b, 0, none⟩ = some (.int .u32 x) := by
    rw [← hc]; unfold World.cell?; rw [heap_old w _ hlt]
  have hf1 : (w.alloc (.cells #[.int .u32 16, .int .u32 1, .int .u32 528, .int .u32 2, .int .u32 696, .int .u32 3, .int .u32 780, .int .u32 4, .int .u32 860, .int .u32 6, .int .u32 930, .int .u32 10, .int .u32 980, .int .u32 18] 151)).frozen? ⟨b, 0, none⟩ = false := by
    rw [← hf]; unfold World.frozen?; rw [heap_old w _ hlt]
  have hT := tab_set (v := .int .u32 (rn x)) (tab_new w 151) (Nat.ne_of_gt hlt)
  have hB : Below w.heap.size (w.setCell ⟨b, 0, none⟩ (.int .u32 (rn x))) ((w.alloc (.cells TC 151)).setCell ⟨b, 0, none⟩ (.int .u32 (rn x))) := by
    refine ⟨rfl, rfl, rfl, ?_, fun k hk => ?_⟩
    · show (w.heap.modify _ _).size ≤ ((w.heap.push _).modify _ _).size
      simp
    · show ((w.heap.push _).modify b _)[k]? = (w.heap.modify b _)[k]?
      simp only [Array.getElem?_modify, Array.getElem?_push, if_neg (show ¬ k = w.heap.size by omega)]
  go_enter Try.func101, Try.ntmps101
  go_wp2_with (go_at_call 106; (with_reducible refine (next_calls _ _ _ hc1 hf1).mono ?_); rintro e w2 ⟨rfl, hs⟩; have T2 := Lib.hid (tab_keep hT (hs.below (Below.refl _ _)) (Nat.lt_succ_self _)); have B2 := Lib.hid (hs.below hB); have S2 := Lib.hid (Nat.lt_of_lt_of_le (Nat.lt_succ_self w.heap.size) (by rw [hs.1]; exact size_set w _ _ _ : w.heap.size + 1 ≤ w2.heap.size)); clear hs hB hT hc1 hf1 hc hf)
  go_loopw [7, 25] (fun v7 v25 wr => ∃ i : Nat, i ≤ 7 ∧ v25 = .int .i64 i ∧ v7 = .int .i64 34 ∧ Gy.Hd (Passed (rn x % 1024) i ∧ Tab wr w.heap.size ∧ Below w.heap.size (w.setCell ⟨b, 0, none⟩ (.int .u32 (rn x))) wr ∧ w.heap.size < wr.heap.size)) (fun _ v25 _ => 7 - (intOf v25).toNat)
  case atStart => exact ⟨0, by omega, rfl, rfl, ⟨fun j hj => absurd hj (by omega), T2.out, B2.out, S2.out⟩⟩
  case round =>
    obtain ⟨i, hi, rfl, rfl, hh⟩ := hrel
    by_cases h7 : i = 7
    · subst h7
      have hd : deg0 (rn x % 1024) = 34 := deg_at7 hh.out.1
      clear hx0 hx1 hlt hi
      have fin : ∀ r : Int, r = mx (mn (deg0 (rn x % 1024)) n) 1 → mx (mn 34 n) 1 = r := fun r hr => by rw [hr, hd]
      have Fin := Lib.hid fin
      clear fin hd
      by_cases g1 : n < 34
      · by_cases g2 : n < 1
        · go_wp2
          go_ret
          exact ⟨Gy.ret_eq ((by simp [mx, mn]; omega : _ = mx (mn 34 n) 1).trans (Fin.out _ rfl)), hh.out.2.2.1⟩
        · go_wp2
          go_ret
          exact ⟨Gy.ret_eq ((by simp [mx, mn]; omega : _ = mx (mn 34 n) 1).trans (Fin.out _ rfl)), hh.out.2.2.1⟩
      · go_wp2
        go_ret
        exact ⟨Gy.ret_eq ((by simp [mx, mn]; omega : _ = mx (mn 34 n) 1).trans (Fin.out _ rfl)), hh.out.2.2.1⟩
    · have hi' : i < 7 := by omega
      have c0 := hh.out.2.1 (i * 2) (by omega)
      have c1 := hh.out.2.1 (i * 2 + 1) (by omega)
      rcases (by omega : i = 0 ∨ i = 1 ∨ i = 2 ∨ i = 3 ∨ i = 4 ∨ i = 5 ∨ i = 6) with h | h | h | h | h | h | h <;> subst h
      · have c0' : wr.cell? ⟨w.heap.size, 0, none⟩ = some (.int .u32 16) := c0
        have c1' : wr.cell? ⟨w.heap.size, 1, none⟩ = some (.int .u32 1) := c1
        clear c0 c1 hi hi' h7
        by_cases g0 : rn x % 1024 < 16
        · have hd : deg0 (rn x % 1024) = 1 := deg_at0 g0
          clear hx0 hx1 hlt
          have fin : ∀ r : Int, r = mx (mn (deg0 (rn x % 1024)) n) 1 → mx (mn 1 n) 1 = r := fun r hr => by rw [hr, hd]
          have Fin := Lib.hid fin
          clear fin hd
          by_cases g1 : n < 1
          · go_wp2
            go_ret
            exact ⟨Gy.ret_eq ((by simp [mx, mn]; omega : _ = mx (mn 1 n) 1).trans (Fin.out _ rfl)), hh.out.2.2.1.alloc (Nat.le_of_lt hh.out.2.2.2) _⟩
          · go_wp2
            go_ret
            exact ⟨Gy.ret_eq ((by simp [mx, mn]; omega : _ = mx (mn 1 n) 1).trans (Fin.out _ rfl)), hh.out.2.2.1.alloc (Nat.le_of_lt hh.out.2.2.2) _⟩
        · go_wp2
          exact ⟨⟨1, by omega, rfl, rfl, round_end hh (show Th 0 ≤ _ from by show (16 : Int) ≤ _; omega) _⟩, by simp [intOf]⟩
      · have c0' : wr.cell? ⟨w.heap.size, 2, none⟩ = some (.int .u32 528) := c0
        have c1' : wr.cell? ⟨w.heap.size, 3, none⟩ = some (.int .u32 2) := c1
        clear c0 c1 hi hi' h7
        by_cases g0 : rn x % 1024 < 528
        · have hd : deg0 (rn x % 1024) = 2 := deg_at1 hh.out.1 g0
          clear hx0 hx1 hlt
          have fin : ∀ r : Int, r = mx (mn (deg0 (rn x % 1024)) n) 1 → mx (mn 2 n) 1 = r := fun r hr => by rw [hr, hd]
          have Fin := Lib.hid fin
          clear fin hd
          by_cases g1 : n < 2
          · by_cases g2 : n < 1
            · go_wp2
              go_ret
              exact ⟨Gy.ret_eq ((by simp [mx, mn]; omega : _ = mx (mn 2 n) 1).trans (Fin.out _ rfl)), hh.out.2.2.1.alloc (Nat.le_of_lt hh.out.2.2.2) _⟩
            · go_wp2
              go_ret
              exact ⟨Gy.ret_eq ((by simp [mx, mn]; omega : _ = mx (mn 2 n) 1).trans (Fin.out _ rfl)), hh.out.2.2.1.alloc (Nat.le_of_lt hh.out.2.2.2) _⟩
          · go_wp2
            go_ret
            exact ⟨Gy.ret_eq ((by simp [mx, mn]; omega : _ = mx (mn 2 n) 1).trans (Fin.out _ rfl)), hh.out.2.2.1.alloc (Nat.le_of_lt hh.out.2.2.2) _⟩
        · go_wp2
          exact ⟨⟨2, by omega, rfl, rfl, round_end hh (show Th 1 ≤ _ from by show (528 : Int) ≤ _; omega) _⟩, by simp [intOf]⟩
      · have c0' : wr.cell? ⟨w.heap.size, 4, none⟩ = some (.int .u32 696) := c0
        have c1' : wr.cell? ⟨w.heap.size, 5, none⟩ = some (.int .u32 3) := c1
        clear c0 c1 hi hi' h7
        by_cases g0 : rn x % 1024 < 696
        · have hd : deg0 (rn x % 1024) = 3 := deg_at2 hh.out.1 g0
          clear hx0 hx1 hlt
          have fin : ∀ r : Int, r = mx (mn (deg0 (rn x % 1024)) n) 1 → mx (mn 3 n) 1 = r := fun r hr => by rw [hr, hd]
          have Fin := Lib.hid fin
          clear fin hd
          by_cases g1 : n < 3
          · by_cases g2 : n < 1
            · go_wp2
              go_ret
              exact ⟨Gy.ret_eq ((by simp [mx, mn]; omega : _ = mx (mn 3 n) 1).trans (Fin.out _ rfl)), hh.out.2.2.1.alloc (Nat.le_of_lt hh.out.2.2.2) _⟩
            · go_wp2
              go_ret
              exact ⟨Gy.ret_eq ((by simp [mx, mn]; omega : _ = mx (mn 3 n) 1).trans (Fin.out _ rfl)), hh.out.2.2.1.alloc (Nat.le_of_lt hh.out.2.2.2) _⟩
          · go_wp2
            go_ret
            exact ⟨Gy.ret_eq ((by simp [mx, mn]; omega : _ = mx (mn 3 n) 1).trans (Fin.out _ rfl)), hh.out.2.2.1.alloc (Nat.le_of_lt hh.out.2.2.2) _⟩
        · go_wp2
          exact ⟨⟨3, by omega, rfl, rfl, round_end hh (show Th 2 ≤ _ from by show (696 : Int) ≤ _; omega) _⟩, by simp [intOf]⟩
      · have c0' : wr.cell? ⟨w.heap.size, 6, none⟩ = some (.int .u32 780) := c0
        have c1' : wr.cell? ⟨w.heap.size, 7, none⟩ = some (.int .u32 4) := c1
        clear c0 c1 hi hi' h7
        by_cases g0 : rn x % 1024 < 780
        · have hd : deg0 (rn x % 1024) = 4 := deg_at3 hh.out.1 g0
          clear hx0 hx1 hlt
          have fin : ∀ r : Int, r = mx (mn (deg0 (rn x % 1024)) n) 1 → mx (mn 4 n) 1 = r := fun r hr => by rw [hr, hd]
          have Fin := Lib.hid fin
          clear fin hd
          by_cases g1 : n < 4
          · by_cases g2 : n < 1
            · go_wp2
              go_ret
              exact ⟨Gy.ret_eq ((by simp [mx, mn]; omega : _ = mx (mn 4 n) 1).trans (Fin.out _ rfl)), hh.out.2.2.1.alloc (Nat.le_of_lt hh.out.2.2.2) _⟩
            · go_wp2
              go_ret
              exact ⟨Gy.ret_eq ((by simp [mx, mn]; omega : _ = mx (mn 4 n) 1).trans (Fin.out _ rfl)), hh.out.2.2.1.alloc (Nat.le_of_lt hh.out.2.2.2) _⟩
          · go_wp2
            go_ret
            exact ⟨Gy.ret_eq ((by simp [mx, mn]; omega : _ = mx (mn 4 n) 1).trans (Fin.out _ rfl)), hh.out.2.2.1.alloc (Nat.le_of_lt hh.out.2.2.2) _⟩
        · go_wp2
          exact ⟨⟨4, by omega, rfl, rfl, round_end hh (show Th 3 ≤ _ from by show (780 : Int) ≤ _; omega) _⟩, by simp [intOf]⟩
      · have c0' : wr.cell? ⟨w.heap.size, 8, none⟩ = some (.int .u32 860) := c0
        have c1' : wr.cell? ⟨w.heap.size, 9, none⟩ = some (.int .u32 6) := c1
        clear c0 c1 hi hi' h7
        by_cases g0 : rn x % 1024 < 860
        · have hd : deg0 (rn x % 1024) = 6 := deg_at4 hh.out.1 g0
          clear hx0 hx1 hlt
          have fin : ∀ r : Int, r = mx (mn (deg0 (rn x % 1024)) n) 1 → mx (mn 6 n) 1 = r := fun r hr => by rw [hr, hd]
          have Fin := Lib.hid fin
          clear fin hd
          by_cases g1 : n < 6
          · by_cases g2 : n < 1
            · go_wp2
              go_ret
              exact ⟨Gy.ret_eq ((by simp [mx, mn]; omega : _ = mx (mn 6 n) 1).trans (Fin.out _ rfl)), hh.out.2.2.1.alloc (Nat.le_of_lt hh.out.2.2.2) _⟩
            · go_wp2
              go_ret
              exact ⟨Gy.ret_eq ((by simp [mx, mn]; omega : _ = mx (mn 6 n) 1).trans (Fin.out _ rfl)), hh.out.2.2.1.alloc (Nat.le_of_lt hh.out.2.2.2) _⟩
          · go_wp2
            go_ret
            exact ⟨Gy.ret_eq ((by simp [mx, mn]; omega : _ = mx (mn 6 n) 1).trans (Fin.out _ rfl)), hh.out.2.2.1.alloc (Nat.le_of_lt hh.out.2.2.2) _⟩
        · go_wp2
          exact ⟨⟨5, by omega, rfl, rfl, round_end hh (show Th 4 ≤ _ from by show (860 : Int) ≤ _; omega) _⟩, by simp [intOf]⟩
      · have c0' : wr.cell? ⟨w.heap.size, 10, none⟩ = some (.int .u32 930) := c0
        have c1' : wr.cell? ⟨w.heap.size, 11, none⟩ = some (.int .u32 10) := c1
        clear c0 c1 hi hi' h7
        by_cases g0 : rn x % 1024 < 930
        · have hd : deg0 (rn x % 1024) = 10 := deg_at5 hh.out.1 g0
          clear hx0 hx1 hlt
          have fin : ∀ r : Int, r = mx (mn (deg0 (rn x % 1024)) n) 1 → mx (mn 10 n) 1 = r := fun r hr => by rw [hr, hd]
          have Fin := Lib.hid fin
          clear fin hd
          by_cases g1 : n < 10
          · by_cases g2 : n < 1
            · go_wp2
              go_ret
              exact ⟨Gy.ret_eq ((by simp [mx, mn]; omega : _ = mx (mn 10 n) 1).trans (Fin.out _ rfl)), hh.out.2.2.1.alloc (Nat.le_of_lt hh.out.2.2.2) _⟩
            · go_wp2
              go_ret
              exact ⟨Gy.ret_eq ((by simp [mx, mn]; omega : _ = mx (mn 10 n) 1).trans (Fin.out _ rfl)), hh.out.2.2.1.alloc (Nat.le_of_lt hh.out.2.2.2) _⟩
          · go_wp2
            go_ret
            exact ⟨Gy.ret_eq ((by simp [mx, mn]; omega : _ = mx (mn 10 n) 1).trans (Fin.out _ rfl)), hh.out.2.2.1.alloc (Nat.le_of_lt hh.out.2.2.2) _⟩
        · go_wp2
          exact ⟨⟨6, by omega, rfl, rfl, round_end hh (show Th 5 ≤ _ from by show (930 : Int) ≤ _; omega) _⟩, by simp [intOf]⟩
      · have c0' : wr.cell? ⟨w.heap.size, 12, none⟩ = some (.int .u32 980) := c0
        have c1' : wr.cell? ⟨w.heap.size, 13, none⟩ = some (.int .u32 18) := c1
        clear c0 c1 hi hi' h7
        by_cases g0 : rn x % 1024 < 980
        · have hd : deg0 (rn x % 1024) = 18 := deg_at6 hh.out.1 g0
          clear hx0 hx1 hlt
          have fin : ∀ r : Int, r = mx (mn (deg0 (rn x % 1024)) n) 1 → mx (mn 18 n) 1 = r := fun r hr => by rw [hr, hd]
          have Fin := Lib.hid fin
          clear fin hd
          by_cases g1 : n < 18
          · by_cases g2 : n < 1
            · go_wp2
              go_ret
              exact ⟨Gy.ret_eq ((by simp [mx, mn]; omega : _ = mx (mn 18 n) 1).trans (Fin.out _ rfl)), hh.out.2.2.1.alloc (Nat.le_of_lt hh.out.2.2.2) _⟩
            · go_wp2
              go_ret
              exact ⟨Gy.ret_eq ((by simp [mx, mn]; omega : _ = mx (mn 18 n) 1).trans (Fin.out _ rfl)), hh.out.2.2.1.alloc (Nat.le_of_lt hh.out.2.2.2) _⟩
          · go_wp2
            go_ret
            exact ⟨Gy.ret_eq ((by simp [mx, mn]; omega : _ = mx (mn 18 n) 1).trans (Fin.out _ rfl)), hh.out.2.2.1.alloc (Nat.le_of_lt hh.out.2.2.2) _⟩
        · go_wp2
          exact ⟨⟨7, by omega, rfl, rfl, round_end hh (show Th 6 ≤ _ from by show (980 : Int) ≤ _; omega) _⟩, by simp [intOf]⟩
end Go.Proofs.Ytcmigmldecacpaa.Rand

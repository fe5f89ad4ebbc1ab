-- PRINTED BY print.sh 35421559b90ae4d0a3588c463048766b98c2df88dd9212a6774a882060cdf62d: not written by this session
import Derived.Test.YtkheloahiepoiaaPRandGoesx0
namespace Go.Proofs.Ytkheloahiepoiaa.PRandGoes
open Go.RowKit Go.Proofs.YtkheloahiepoiaaW.PrintWords Go.Proofs.YtkheloahiepoiaaW.PrintLast Go.Proofs.YtkheloahiepoiaaW.PrintMore
attribute [local go_sem] max2_int min2_int max_two min_two max_three min_three max_four min_four   -- for this text's walks alone
set_option linter.unusedVariables false
set_option linter.unusedSimpArgs false

/-- A state of type 74 at block g of W; what its slices lead to came in by w0. -/
def IsS74 (w0 W : World) (g : Nat) (f0 : Int) : Prop := W.heap[g]? = some (.cells #[.int .u32 f0] 74 (0, 0)) ∧ w0.heap.size ≤ g
theorem IsS74.grown {w0 W : World} {g : Nat} {f0 : Int} {W1 : World} {row : Option Nat} (h : IsS74 w0 W g f0) (hw : W.grownBy W1 row) (hne : some g ≠ row) : IsS74 w0 W1 g f0 := by
  obtain ⟨hb, hg⟩ := h
  exact ⟨blk_grown hb hw hne, hg⟩
theorem IsS74.own_neN {w0 W : World} {g : Nat} {f0 : Int} {α : Type} {d : Kd α} {e : Nat} {base : Nat} {ok : Nat → Prop} {v : Value} {xs : List α} (h : IsS74 w0 W g f0) (ho : Kd.N d e W base ok v xs) (ht : e ≠ 74) : some g ≠ v.ownBlock := by
  obtain ⟨hb, hg⟩ := h
  exact Kd.N_ne ho hb ht
theorem IsS74.fresh {w0 W : World} {g : Nat} {f0 : Int} (h : IsS74 w0 W g f0) : ∀ k, W.heap.size ≤ k → k ≠ g := by
  obtain ⟨hb, hg⟩ := h
  exact Kd.freshB hb
theorem IsS74.kept {w0 W : World} {g : Nat} {f0 : Int} {W1 : World} {S : Nat → Prop} (h : IsS74 w0 W g f0) (hk : Kept W W1 S) (hne : ¬ S g) : IsS74 w0 W1 g f0 := by
  obtain ⟨hb, hg⟩ := h
  exact ⟨blk_kept hb hk hne, hg⟩
theorem IsS74.below {w0 W : World} {g : Nat} {f0 : Int} {W1 : World} (h : IsS74 w0 W g f0) (hw : Below W.heap.size W W1) : IsS74 w0 W1 g f0 := h.grown (grown_of_below hw none) (by simp)
theorem IsS74.alloc {w0 W : World} {g : Nat} {f0 : Int} (h : IsS74 w0 W g f0) (o : Obj) : IsS74 w0 (W.alloc o) g f0 := h.below (below_alloc (Below.refl _ _) o)
theorem IsS74.drewN {w0 W : World} {g : Nat} {f0 : Int} (h : IsS74 w0 W g f0) (m : Nat) : IsS74 w0 (W.drewN m) g f0 := h
theorem IsS74.drew {w0 W : World} {g : Nat} {f0 : Int} (h : IsS74 w0 W g f0) : IsS74 w0 W.drew g f0 := h
theorem IsS74.at_ {w0 W : World} {g : Nat} {f0 : Int} {w' : World} {m : Nat} (hq : W.drewN m = w') (h : IsS74 w0 W g f0) : IsS74 w0 w' g f0 := by subst hq; exact IsS74.drewN h m
theorem IsS74.apart {w0 W : World} {g : Nat} {f0 : Int} {α : Type} {d : Kd α} {e : Nat} {base : Nat} {ok : Nat → Prop} {v : Value} {xs : List α} (h : IsS74 w0 W g f0) (ho : d.R e W base ok v xs) (ht : ∀ q, q ∈ e :: d.E → q ≠ 74) : d.R e W base (fun k => ok k ∧ k ≠ g) v xs := by
  obtain ⟨hb, hg⟩ := h
  exact Kd.R_types ho hb ht
theorem IsS74.own_ne {w0 W : World} {g : Nat} {f0 : Int} {α : Type} {d : Kd α} {e : Nat} {base : Nat} {ok : Nat → Prop} {v : Value} {xs : List α} (h : IsS74 w0 W g f0) (ho : d.R e W base ok v xs) (ht : e ≠ 74) : some g ≠ v.ownBlock := by
  obtain ⟨hb, hg⟩ := h
  exact Kd.R_ne ho hb ht
theorem IsS74.apartQ {w0 W : World} {g : Nat} {f0 : Int} {α : Type} {d : Kd α} {e : Nat} {base : Nat} {ok : Nat → Prop} {v : Value} {xs : List α} (h : IsS74 w0 W g f0) (ho : d.Q e W base ok v xs) (ht : ∀ q, q ∈ e :: d.E → q ≠ 74) : d.Q e W base (fun k => ok k ∧ k ≠ g) v xs := by
  obtain ⟨hb, hg⟩ := h
  exact Kd.Q_types ho hb ht
theorem IsS74.own_neQ {w0 W : World} {g : Nat} {f0 : Int} {α : Type} {d : Kd α} {e : Nat} {base : Nat} {ok : Nat → Prop} {v : Value} {xs : List α} (h : IsS74 w0 W g f0) (ho : d.Q e W base ok v xs) (ht : e ≠ 74) : some g ≠ v.ownBlock := by
  obtain ⟨hb, hg⟩ := h
  exact Kd.Q_ne ho hb ht
theorem IsS74.apartS {w0 W : World} {g : Nat} {f0 : Int} {α : Type} {d : Kd α} {e : Nat} {base : Nat} {ok : Nat → Prop} {v : Value} {xs : List α} (h : IsS74 w0 W g f0) (ho : d.S e W base ok v xs) (ht : ∀ q, q ∈ e :: d.E → q ≠ 74) : d.S e W base (fun k => ok k ∧ k ≠ g) v xs := by
  obtain ⟨hb, hg⟩ := h
  exact Kd.S_types ho hb ht
theorem IsS74.own_neS {w0 W : World} {g : Nat} {f0 : Int} {α : Type} {d : Kd α} {e : Nat} {base : Nat} {ok : Nat → Prop} {v : Value} {xs : List α} (h : IsS74 w0 W g f0) (ho : d.S e W base ok v xs) (ht : e ≠ 74) : some g ≠ v.ownBlock := by
  obtain ⟨hb, hg⟩ := h
  exact Kd.S_ne ho hb ht
theorem IsS74.lt {w0 W : World} {g : Nat} {f0 : Int} (h : IsS74 w0 W g f0) : g < W.heap.size := by
  obtain ⟨hb, hg⟩ := h
  exact blk_lt hb
theorem IsS74.ge {w0 W : World} {g : Nat} {f0 : Int} (h : IsS74 w0 W g f0) : w0.heap.size ≤ g := by
  obtain ⟨hb, hg⟩ := h
  exact hg
theorem IsS74.ne_blk {w0 W : World} {g : Nat} {f0 : Int} {a : Nat} {cs : Array Value} {t : TypeId} {fr : Nat × Nat} (h : IsS74 w0 W g f0) (hb2 : W.heap[a]? = some (.cells cs t fr)) (ht : t ≠ 74) : g ≠ a := by
  obtain ⟨hb, hg⟩ := h
  rintro rfl
  rw [hb] at hb2
  injection hb2 with hb2
  injection hb2 with _ ht2
  exact ht ht2.symm
theorem IsS74.far {w0 W : World} {g : Nat} {f0 : Int} {p : Addr} (h : IsS74 w0 W g f0) (hne : g ≠ p.block) (u : Value) : IsS74 w0 (W.setCell p u) g f0 := by
  obtain ⟨hb, hg⟩ := h
  exact ⟨blk_far hb hne u, hg⟩
theorem cellS74_0 {W : World} {g : Nat} {f0 : Int} (h : W.heap[g]? = some (.cells #[.int .u32 f0] 74 (0, 0))) : W.cell? ⟨g, 0, none⟩ = some (.int .u32 f0) := (blk_cell h 0).trans rfl
theorem IsS74.set_0 {w0 W : World} {g : Nat} {f0 : Int} (h : IsS74 w0 W g f0) (x : Int) : IsS74 w0 (W.setCell ⟨g, 0, none⟩ (.int .u32 x)) g x := by
  obtain ⟨hb, hg⟩ := h
  exact ⟨by simpa using blk_set hb 0 (.int .u32 x), hg⟩
theorem IsS74.new (w0 W : World) (f0 : Int) (hB : Below w0.heap.size w0 W) : IsS74 w0 (W.alloc (.cells #[.int .u32 f0] 74)) W.heap.size f0 := ⟨by simpa using heap_alloc_new W _, hB.size⟩

/-! ### rand_New: function 37 -/
def rand_New.f (a0 : Int) : Option (Int) := if (Go.bits .xor .u32 a0 2654435769) = 0 then (some 1) else (some (Go.bits .xor .u32 a0 2654435769))
set_option maxHeartbeats 8000000 in
set_option maxRecDepth 100000 in
theorem rand_New.calls (a0 : Int) (r : Int) (w0 w : World) (hB : Below w0.heap.size w0 w) (h : rand_New.f a0 = some r) :
    Calls Try.prog 37 #[.int .u32 a0] w fun e w' => ∃ g_ : Nat, e = .returned (.pointer (some ⟨g_, 0, none⟩)) ∧ IsS74 w0 w' g_ r ∧ Below w0.heap.size w0 w' ∧ Below w.heap.size w w' := by
  have hu74 := Try.underlying74
  have HBW := Aside0.mk (Below.refl w.heap.size w)
  have HW0 := Aside0.mk hB.size
  have HB := Aside0.mk hB
  clear hB
  have H : (if (Go.bits .xor .u32 a0 2654435769) = 0 then (some 1) else (some (Go.bits .xor .u32 a0 2654435769))) = some r := h
  clear h
  by_cases c2 : (Go.bits .xor .u32 a0 2654435769) = 0
  · rw [if_pos c2] at H
    have c2b0 : ((Go.bits .xor .u32 a0 2654435769) == 0) = true := beq_iff_eq.mpr c2
    have c2b1 : ((Go.bits .xor .u32 a0 2654435769) != 0) = false := bne_eq_false_iff_eq.mpr c2
    clear c2
    obtain rfl := Option.some.inj H
    go_enter Try.func37, Try.ntmps37
    go_wp2_with (first | ((with_reducible refine gate_dst (N := 10) rfl ?_); refine box_event ?hg (N := 10) ?hd (cs := #[.int .u32 1]) (t := 74) ?hr ?_; (case hd => rfl); (case hg => rfl); (case hr => first | (go_simp; done) | (go_simp; rfl)); intro gb101 hg w3 hbox hb; have n0_ := Aside0.mk (below_step HBW.out hb); have n1_ := Aside0.mk (below_step (by repeat (first | (with_reducible first | exact HB.out | apply below_alloc | apply pw_below_drewN | apply below_drew1) | exact HB.out)) hb); have n2_ := Aside0.mk (hbox); have n3_ := Aside0.mk ((by rw [hg]; exact (below_size (by repeat (first | (with_reducible first | exact HBW.out | apply below_alloc | apply pw_below_drewN | apply below_drew1) | exact HBW.out))) : w.heap.size ≤ gb101)); have n4_ := Aside0.mk ((Nat.le_trans HW0.out (by rw [hg]; exact (below_size (by repeat (first | (with_reducible first | exact HBW.out | apply below_alloc | apply pw_below_drewN | apply below_drew1) | exact HBW.out))) : w.heap.size ≤ gb101) : w0.heap.size ≤ gb101)); clear HBW; clear HB; have HBW := n0_; have HB := n1_; have BK101 := n2_; have GW101 := n3_; have GE101 := n4_; clear n0_ n1_ n2_ n3_ n4_; clear hb hbox hg))
    go_ret
    exact ⟨_, rfl, (show IsS74 w0 _ gb101 1 from ⟨by (with_reducible repeat (first | refine blk_drewN ?_ _ | refine blk_drew ?_ | refine blk_alloc ?_ _)); exact BK101.out, GE101.out⟩), by repeat (first | (with_reducible first | exact HB.out | apply below_alloc | apply pw_below_drewN | apply below_drew1 | refine below_set ?_ GE101.out) | exact HB.out), by repeat (first | (with_reducible first | exact HBW.out | apply below_alloc | apply pw_below_drewN | apply below_drew1 | refine below_set ?_ GW101.out) | exact HBW.out)⟩
  · rw [if_neg c2] at H
    have c2b0 : ((Go.bits .xor .u32 a0 2654435769) == 0) = false := beq_eq_false_iff_ne.mpr c2
    have c2b1 : ((Go.bits .xor .u32 a0 2654435769) != 0) = true := bne_iff_ne.mpr c2
    obtain rfl := Option.some.inj H
    go_enter Try.func37, Try.ntmps37
    go_wp2_with (first | ((with_reducible refine gate_dst (N := 10) rfl ?_); refine box_event ?hg (N := 10) ?hd (cs := #[.int .u32 (Go.bits .xor .u32 a0 2654435769)]) (t := 74) ?hr ?_; (case hd => rfl); (case hg => rfl); (case hr => first | (go_simp; done) | (go_simp; rfl)); intro gb102 hg w4 hbox hb; have n0_ := Aside0.mk (below_step HBW.out hb); have n1_ := Aside0.mk (below_step (by repeat (first | (with_reducible first | exact HB.out | apply below_alloc | apply pw_below_drewN | apply below_drew1) | exact HB.out)) hb); have n2_ := Aside0.mk (hbox); have n3_ := Aside0.mk ((by rw [hg]; exact (below_size (by repeat (first | (with_reducible first | exact HBW.out | apply below_alloc | apply pw_below_drewN | apply below_drew1) | exact HBW.out))) : w.heap.size ≤ gb102)); have n4_ := Aside0.mk ((Nat.le_trans HW0.out (by rw [hg]; exact (below_size (by repeat (first | (with_reducible first | exact HBW.out | apply below_alloc | apply pw_below_drewN | apply below_drew1) | exact HBW.out))) : w.heap.size ≤ gb102) : w0.heap.size ≤ gb102)); clear HBW; clear HB; have HBW := n0_; have HB := n1_; have BK102 := n2_; have GW102 := n3_; have GE102 := n4_; clear n0_ n1_ n2_ n3_ n4_; clear hb hbox hg))
    go_ret
    exact ⟨_, rfl, (show IsS74 w0 _ gb102 (Go.bits .xor .u32 a0 2654435769) from ⟨by (with_reducible repeat (first | refine blk_drewN ?_ _ | refine blk_drew ?_ | refine blk_alloc ?_ _)); exact BK102.out, GE102.out⟩), by repeat (first | (with_reducible first | exact HB.out | apply below_alloc | apply pw_below_drewN | apply below_drew1 | refine below_set ?_ GE102.out) | exact HB.out), by repeat (first | (with_reducible first | exact HBW.out | apply below_alloc | apply pw_below_drewN | apply below_drew1 | refine below_set ?_ GW102.out) | exact HBW.out)⟩

-- NOT PRINTED: function 40 (rand_Rand_Next)

-- NOT PRINTED: function 36 (geyserlaw06_awake)

/-! ### geyserref03_Begin: function 38 -/
def geyserref03_Begin.f (a0 : Int) : Option (Int) := if (Go.bits .xor .u64 (IntKind.u64.wrap (a0)) 2654435769) = 0 then (some 1) else (some (Go.bits .xor .u64 (IntKind.u64.wrap (a0)) 2654435769))
set_option maxHeartbeats 8000000 in
set_option maxRecDepth 100000 in
theorem geyserref03_Begin.calls (a0 : Int) (r : Int) (w : World) (h : geyserref03_Begin.f a0 = some r) :
    Calls Try.prog 38 #[.int .u32 a0] w fun e w' => e = .returned (.int .u64 r) ∧ Drawn0 w w' := by
  have H : (if (Go.bits .xor .u64 (IntKind.u64.wrap (a0)) 2654435769) = 0 then (some 1) else (some (Go.bits .xor .u64 (IntKind.u64.wrap (a0)) 2654435769))) = some r := h
  clear h
  by_cases c2 : (Go.bits .xor .u64 (IntKind.u64.wrap (a0)) 2654435769) = 0
  · rw [if_pos c2] at H
    have c2b0 : ((Go.bits .xor .u64 (IntKind.u64.wrap (a0)) 2654435769) == 0) = true := beq_iff_eq.mpr c2
    have c2b1 : ((Go.bits .xor .u64 (IntKind.u64.wrap (a0)) 2654435769) != 0) = false := bne_eq_false_iff_eq.mpr c2
    clear c2
    obtain rfl := Option.some.inj H
    go_enter Try.func38, Try.ntmps38
    go_wp2
    go_ret
    exact ⟨by first | rfl | (simp; done) | (simp [*]; done), by repeat (first | exact Drawn0.refl _ | apply Drawn0.step)⟩
  · rw [if_neg c2] at H
    have c2b0 : ((Go.bits .xor .u64 (IntKind.u64.wrap (a0)) 2654435769) == 0) = false := beq_eq_false_iff_ne.mpr c2
    have c2b1 : ((Go.bits .xor .u64 (IntKind.u64.wrap (a0)) 2654435769) != 0) = true := bne_iff_ne.mpr c2
    obtain rfl := Option.some.inj H
    go_enter Try.func38, Try.ntmps38
    go_wp2
    go_ret
    exact ⟨by first | rfl | (simp; done) | (simp [*]; done), by repeat (first | exact Drawn0.refl _ | apply Drawn0.step)⟩

/-! ### geyserref03_Next: function 39 -/
def geyserref03_Next.f (a0 : Int) : Option (Int) := some (Go.bits .xor .u64 (Go.bits .xor .u64 (Go.bits .xor .u64 a0 (Go.bits .and .u64 (IntKind.u64.wrap (a0 * 8192)) 4294967295)) ((Go.bits .xor .u64 a0 (Go.bits .and .u64 (IntKind.u64.wrap (a0 * 8192)) 4294967295)) / 131072)) (Go.bits .and .u64 (IntKind.u64.wrap ((Go.bits .xor .u64 (Go.bits .xor .u64 a0 (Go.bits .and .u64 (IntKind.u64.wrap (a0 * 8192)) 4294967295)) ((Go.bits .xor .u64 a0 (Go.bits .and .u64 (IntKind.u64.wrap (a0 * 8192)) 4294967295)) / 131072)) * 32)) 4294967295))
set_option maxHeartbeats 8000000 in
set_option maxRecDepth 100000 in
theorem geyserref03_Next.calls (a0 : Int) (r : Int) (w : World) (h : geyserref03_Next.f a0 = some r) :
    Calls Try.prog 39 #[.int .u64 a0] w fun e w' => e = .returned (.int .u64 r) ∧ Drawn0 w w' := by
  have H : (some (Go.bits .xor .u64 (Go.bits .xor .u64 (Go.bits .xor .u64 a0 (Go.bits .and .u64 (IntKind.u64.wrap (a0 * 8192)) 4294967295)) ((Go.bits .xor .u64 a0 (Go.bits .and .u64 (IntKind.u64.wrap (a0 * 8192)) 4294967295)) / 131072)) (Go.bits .and .u64 (IntKind.u64.wrap ((Go.bits .xor .u64 (Go.bits .xor .u64 a0 (Go.bits .and .u64 (IntKind.u64.wrap (a0 * 8192)) 4294967295)) ((Go.bits .xor .u64 a0 (Go.bits .and .u64 (IntKind.u64.wrap (a0 * 8192)) 4294967295)) / 131072)) * 32)) 4294967295))) = some r := h
  clear h
  obtain rfl := Option.some.inj H
  go_enter Try.func39, Try.ntmps39
  go_wp2
  go_ret
  exact ⟨by first | rfl | (simp; done) | (simp [*]; done), by repeat (first | exact Drawn0.refl _ | apply Drawn0.step)⟩

-- NOT PRINTED: function 41 (rand_Rand_Below)

-- NOT PRINTED: function 42 (rand_Rand_Degree)

/-! ### geyserref03_Degree: function 43 -/
def geyserref03_Degree.j0 : Nat → Int → Int → Option (Int)
  | 0, _, _ => none
  | k + 1, x1, x5 => if x5 > x1 then (if x1 < 1 then (some 1) else (some x1)) else (if x5 < 1 then (some 1) else (some x5))
def geyserref03_Degree.f (k : Nat) (a0 : Int) (a1 : Int) : Option (Int) := if a0 < 16 then (geyserref03_Degree.j0 k a1 1) else (if a0 < 528 then (geyserref03_Degree.j0 k a1 2) else (if a0 < 696 then (geyserref03_Degree.j0 k a1 3) else (if a0 < 780 then (geyserref03_Degree.j0 k a1 4) else (if a0 < 860 then (geyserref03_Degree.j0 k a1 6) else (if a0 < 930 then (geyserref03_Degree.j0 k a1 10) else (if a0 < 980 then (geyserref03_Degree.j0 k a1 18) else (geyserref03_Degree.j0 k a1 34)))))))
theorem geyserref03_Degree.mono_l : ∀ k, (∀ y0 y1, LeO (geyserref03_Degree.j0 k y0 y1) (geyserref03_Degree.j0 (k + 1) y0 y1))
  | 0 => fun _ _ r h => by simp [geyserref03_Degree.j0] at h
  | k + 1 => by
    have ih0 := geyserref03_Degree.mono_l k
    · intro y0 y1
      unfold geyserref03_Degree.j0
      repeat' first
      | (with_reducible exact ih0 _ _)
      | (with_reducible exact LeO.refl _)
      | (with_reducible exact LeO.none _)
      | (with_reducible refine LeO.ite ?_ ?_)
      | (with_reducible refine LeO.bind ?_ (fun _ => ?_))
      | exact ih0 _ _
      | exact LeO.none _
      | refine LeO.ite ?_ ?_
      | refine LeO.bind ?_ (fun _ => ?_)
theorem geyserref03_Degree.mono : ∀ a0 a1 k, LeO (geyserref03_Degree.f k a0 a1) (geyserref03_Degree.f (k + 1) a0 a1) := by
  intro a0 a1 k
  have ih0 := geyserref03_Degree.mono_l k
  unfold geyserref03_Degree.f
  repeat' first
      | (with_reducible exact ih0 _ _)
      | (with_reducible exact LeO.refl _)
      | (with_reducible exact LeO.none _)
      | (with_reducible refine LeO.ite ?_ ?_)
      | (with_reducible refine LeO.bind ?_ (fun _ => ?_))
      | exact ih0 _ _
      | exact LeO.none _
      | refine LeO.ite ?_ ?_
      | refine LeO.bind ?_ (fun _ => ?_)
set_option maxHeartbeats 8000000 in
set_option maxRecDepth 100000 in
theorem geyserref03_Degree.calls (k : Nat) (a0 : Int) (a1 : Int) (r : Int) (w : World) (h : geyserref03_Degree.f k a0 a1 = some r) :
    Calls Try.prog 43 #[.int .u64 a0, .int .i64 a1] w fun e w' => e = .returned (.int .i64 r) ∧ Drawn0 w w' := by
  have H : (if a0 < 16 then (geyserref03_Degree.j0 k a1 1) else (if a0 < 528 then (geyserref03_Degree.j0 k a1 2) else (if a0 < 696 then (geyserref03_Degree.j0 k a1 3) else (if a0 < 780 then (geyserref03_Degree.j0 k a1 4) else (if a0 < 860 then (geyserref03_Degree.j0 k a1 6) else (if a0 < 930 then (geyserref03_Degree.j0 k a1 10) else (if a0 < 980 then (geyserref03_Degree.j0 k a1 18) else (geyserref03_Degree.j0 k a1 34)))))))) = some r := h
  clear h
  have HC3 := Aside0.mk H
  clear H
  go_enter Try.func43, Try.ntmps43
  go_upto_block 0 with (fail)
  go_cut [5] (fun v5 wc => ∃ (kq : Nat) (x5_2 : Int), v5 = .int .i64 x5_2 ∧ Aside0 (geyserref03_Degree.j0 kq a1 x5_2 = some r) ∧ Aside0 (kq ≤ k) ∧ Drawn0 w wc)
  case first =>
    have H := HC3.out
    clear HC3
    by_cases c4 : a0 < 16
    · rw [if_pos c4] at H
      have c4b0 : decide (a0 < 16) = true := decide_eq_true c4
      clear c4
      (first | rw [c4b0] | (simp only [i64_w, i32_w]; rw [c4b0]) | skip)
      have H' := Aside0.mk H
      clear H
      go_wp2
      go_meet
      case rel => exact ⟨_, (1), (by first | rfl | (simp; done) | (simp [*]; done)), H', ⟨by first | omega | exact Nat.le_refl _⟩, by repeat (first | exact Drawn0.refl _ | apply Drawn0.step)⟩
    · rw [if_neg c4] at H
      have c4b0 : decide (a0 < 16) = false := decide_eq_false c4
      clear c4
      (first | rw [c4b0] | (simp only [i64_w, i32_w]; rw [c4b0]) | skip)
      by_cases c5 : a0 < 528
      · rw [if_pos c5] at H
        have c5b0 : decide (a0 < 528) = true := decide_eq_true c5
        clear c5
        have H' := Aside0.mk H
        clear H
        go_wp2
        go_meet
        case rel => exact ⟨_, (2), (by first | rfl | (simp; done) | (simp [*]; done)), H', ⟨by first | omega | exact Nat.le_refl _⟩, by repeat (first | exact Drawn0.refl _ | apply Drawn0.step)⟩
      · rw [if_neg c5] at H
        have c5b0 : decide (a0 < 528) = false := decide_eq_false c5
        clear c5
        by_cases c6 : a0 < 696
        · rw [if_pos c6] at H
          have c6b0 : decide (a0 < 696) = true := decide_eq_true c6
          clear c6
          have H' := Aside0.mk H
          clear H
          go_wp2
          go_meet
          case rel => exact ⟨_, (3), (by first | rfl | (simp; done) | (simp [*]; done)), H', ⟨by first | omega | exact Nat.le_refl _⟩, by repeat (first | exact Drawn0.refl _ | apply Drawn0.step)⟩
        · rw [if_neg c6] at H
          have c6b0 : decide (a0 < 696) = false := decide_eq_false c6
          clear c6
          by_cases c7 : a0 < 780
          · rw [if_pos c7] at H
            have c7b0 : decide (a0 < 780) = true := decide_eq_true c7
            clear c7
            have H' := Aside0.mk H
            clear H
            go_wp2
            go_meet
            case rel => exact ⟨_, (4), (by first | rfl | (simp; done) | (simp [*]; done)), H', ⟨by first | omega | exact Nat.le_refl _⟩, by repeat (first | exact Drawn0.refl _ | apply Drawn0.step)⟩
          · rw [if_neg c7] at H
            have c7b0 : decide (a0 < 780) = false := decide_eq_false c7
            clear c7
            by_cases c8 : a0 < 860
            · rw [if_pos c8] at H
              have c8b0 : decide (a0 < 860) = true := decide_eq_true c8
              clear c8
              have H' := Aside0.mk H
              clear H
              go_wp2
              go_meet
              case rel => exact ⟨_, (6), (by first | rfl | (simp; done) | (simp [*]; done)), H', ⟨by first | omega | exact Nat.le_refl _⟩, by repeat (first | exact Drawn0.refl _ | apply Drawn0.step)⟩
            · rw [if_neg c8] at H
              have c8b0 : decide (a0 < 860) = false := decide_eq_false c8
              clear c8
              by_cases c9 : a0 < 930
              · rw [if_pos c9] at H
                have c9b0 : decide (a0 < 930) = true := decide_eq_true c9
                clear c9
                have H' := Aside0.mk H
                clear H
                go_wp2
                go_meet
                case rel => exact ⟨_, (10), (by first | rfl | (simp; done) | (simp [*]; done)), H', ⟨by first | omega | exact Nat.le_refl _⟩, by repeat (first | exact Drawn0.refl _ | apply Drawn0.step)⟩
              · rw [if_neg c9] at H
                have c9b0 : decide (a0 < 930) = false := decide_eq_false c9
                clear c9
                by_cases c10 : a0 < 980
                · rw [if_pos c10] at H
                  have c10b0 : decide (a0 < 980) = true := decide_eq_true c10
                  clear c10
                  have H' := Aside0.mk H
                  clear H
                  go_wp2
                  go_meet
                  case rel => exact ⟨_, (18), (by first | rfl | (simp; done) | (simp [*]; done)), H', ⟨by first | omega | exact Nat.le_refl _⟩, by repeat (first | exact Drawn0.refl _ | apply Drawn0.step)⟩
                · rw [if_neg c10] at H
                  have c10b0 : decide (a0 < 980) = false := decide_eq_false c10
                  clear c10
                  have H' := Aside0.mk H
                  clear H
                  go_wp2
                  go_meet
                  case rel => exact ⟨_, (34), (by first | rfl | (simp; done) | (simp [*]; done)), H', ⟨by first | omega | exact Nat.le_refl _⟩, by repeat (first | exact Drawn0.refl _ | apply Drawn0.step)⟩
  case rest =>
    clear HC3
    try clear c1
    try clear p2
    try clear c4
    try clear c4b0
    try clear c5
    try clear c5b0
    try clear c6
    try clear c6b0
    try clear c7
    try clear c7b0
    try clear c8
    try clear c8b0
    try clear c9
    try clear c9b0
    try clear c10
    try clear c10b0
    obtain ⟨kq, x5_2, rfl, HA, HJ2, ⟨mc2, rfl⟩⟩ := hcut
    cases kq with
    | zero => exact absurd HA.out (by simp [geyserref03_Degree.j0])
    | succ kj2 =>
      have H := HA.out
      clear HA
      simp only [geyserref03_Degree.j0] at H
      by_cases c11 : x5_2 > a1
      · rw [if_pos c11] at H
        have c11b0 : decide (a1 < x5_2) = true := decide_eq_true c11
        clear c11
        by_cases c12 : a1 < 1
        · rw [if_pos c12] at H
          have c12b0 : decide (a1 < 1) = true := decide_eq_true c12
          clear c12
          obtain rfl := Option.some.inj H
          go_wp2
          go_ret
          exact ⟨by first | rfl | (simp; done) | (simp [*]; done), by repeat (first | exact Drawn0.refl _ | apply Drawn0.step)⟩
        · rw [if_neg c12] at H
          have c12b0 : decide (a1 < 1) = false := decide_eq_false c12
          clear c12
          obtain rfl := Option.some.inj H
          go_wp2
          go_ret
          exact ⟨by first | rfl | (simp; done) | (simp [*]; done), by repeat (first | exact Drawn0.refl _ | apply Drawn0.step)⟩
      · rw [if_neg c11] at H
        have c11b0 : decide (a1 < x5_2) = false := decide_eq_false c11
        clear c11
        by_cases c13 : x5_2 < 1
        · rw [if_pos c13] at H
          have c13b0 : decide (x5_2 < 1) = true := decide_eq_true c13
          clear c13
          obtain rfl := Option.some.inj H
          go_wp2
          go_ret
          exact ⟨by first | rfl | (simp; done) | (simp [*]; done), by repeat (first | exact Drawn0.refl _ | apply Drawn0.step)⟩
        · rw [if_neg c13] at H
          have c13b0 : decide (x5_2 < 1) = false := decide_eq_false c13
          clear c13
          obtain rfl := Option.some.inj H
          go_wp2
          go_ret
          exact ⟨by first | rfl | (simp; done) | (simp [*]; done), by repeat (first | exact Drawn0.refl _ | apply Drawn0.step)⟩

-- NOT PRINTED: function 12 (geyserlaw06_RandGoes)

end Go.Proofs.Ytkheloahiepoiaa.PRandGoes

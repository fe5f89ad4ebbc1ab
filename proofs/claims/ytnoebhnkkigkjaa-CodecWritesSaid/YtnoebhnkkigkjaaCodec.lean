/- The walks over package codec: what is put, what is got back. -/
import Derived.Test.YtnoebhnkkigkjaaProg
import Derived.Test.YtnoebhnkkigkjaaAid
import Derived.Test.YtnoebhnkkigkjaaBt
import Derived.Test.YtnoebhnkkigkjaaWMore
import Derived.WalkKit
import Derived.Below
import Derived.Lib.Hide
namespace Go.Proofs.Ytnoebhnkkigkjaa.Codec
open Go Go.RowKit Go.Proofs.YtnoebhnkkigkjaaW.PrintWords Go.Proofs.YtnoebhnkkigkjaaW.PrintMore

theorem info_u8 : (Try.prog.info? 5).map (fun i => (i.zero, i.size, i.bytes)) = some (some (.int .u8 0), 1, 1) := by kernel_rfl
theorem info_out : (Try.prog.info? 27).map (fun i => (i.zero, i.size, i.bytes)) = some (some (.agg #[.slice none 0 0, .bool false]), 2, 32) := by kernel_rfl

/-- a row of the call's own, moved -/
theorem own_to {w w' : World} {base : Nat} {e : TypeId} {size n : Nat} {v : Value} {xs : List Value} (h : w.ownsRow base e size v n xs) (hm : ∀ k, v.ownBlock = some k → w'.heap[k]? = w.heap[k]?) : w'.ownsRow base e size v n xs := own_move h hm
theorem own_slice {w : World} {base : Nat} {e : TypeId} {size n : Nat} {v : Value} {xs : List Value} (h : w.ownsRow base e size v n xs) : ∃ A c, v = .slice A n c := by
  rcases h.2 with ⟨rfl, rfl⟩ | ⟨g, c, _, rfl, _⟩
  · exact ⟨none, 0, rfl⟩
  · exact ⟨_, c, rfl⟩
theorem cell_of_heap {w w' : World} {b o : Nat} (h : w'.heap[b]? = w.heap[b]?) : w'.cell? ⟨b, o, none⟩ = w.cell? ⟨b, o, none⟩ := by unfold World.cell?; rw [h]
theorem frozen_of_heap {w w' : World} {b o : Nat} (h : w'.heap[b]? = w.heap[b]?) : w'.frozen? ⟨b, o, none⟩ = w.frozen? ⟨b, o, none⟩ := by unfold World.frozen?; rw [h]
theorem cell_lt {w : World} {b o : Nat} {v : Value} (h : w.cell? ⟨b, o, none⟩ = some v) : b < w.heap.size := by
  rcases Nat.lt_or_ge b w.heap.size with h' | h'
  · exact h'
  · simp [World.cell?, Array.getElem?_eq_none h'] at h
theorem set_heap (w : World) (b o k : Nat) (v : Value) (h : k ≠ b) : (w.setCell ⟨b, o, none⟩ v).heap[k]? = w.heap[k]? := Below.heap_setCell w _ _ _ h
theorem set_other (w : World) (b o o' : Nat) (v : Value) (h : o ≠ o') : (w.setCell ⟨b, o, none⟩ v).cell? ⟨b, o', none⟩ = w.cell? ⟨b, o', none⟩ :=
  World.cell?_setCell_other w ⟨b, o, none⟩ ⟨b, o', none⟩ v (by intro e; injection e with _ e; exact h e)
theorem set_frozen (w : World) (b o o' : Nat) (v : Value) : (w.setCell ⟨b, o, none⟩ v).frozen? ⟨b, o', none⟩ = w.frozen? ⟨b, o', none⟩ := by go_simp
theorem set_size (w : World) (a : Addr) (v : Value) : (w.setCell a v).heap.size = w.heap.size := by
  show (w.heap.modify _ _).size = _; simp

/-- what was there and is not the object's own stays -/
def Fr (w w' : World) (g : Nat) (v : Value) : Prop := w.heap.size ≤ w'.heap.size ∧ ∀ k, k < w.heap.size → k ≠ g → some k ≠ v.ownBlock → w'.heap[k]? = w.heap[k]?

structure OutIs (base : Nat) (w : World) (g : Nat) (v : Value) (xs : List Int) (fail : Bool) : Prop where
  c0 : w.cell? ⟨g, 0, none⟩ = some v
  c1 : w.cell? ⟨g, 1, none⟩ = some (.bool fail)
  f0 : w.frozen? ⟨g, 0, none⟩ = false
  f1 : w.frozen? ⟨g, 1, none⟩ = false
  own : w.ownsRow base 5 1 v xs.length (nums .u8 xs)
  ne : v.ownBlock ≠ some g
  ge : base ≤ g
  le : base ≤ w.heap.size

/-- the object holds what it should, behind a call -/
def OutPost (base : Nat) (w : World) (g : Nat) (v : Value) (xs : List Int) (fail : Bool) (w' : World) : Prop :=
  ∃ v', OutIs base w' g v' xs fail ∧ Below base w w' ∧ Fr w w' g v ∧ (v'.ownBlock = v.ownBlock ∨ ∃ b, v'.ownBlock = some b ∧ w.heap.size ≤ b)

/-- The row of the object is written anew, or grown; then the object's field is stored. -/
theorem out_put1 {base g : Nat} {v v1 : Value} {xs zs : List Int} {fail : Bool} {w w1 : World} (hO : OutIs base w g v xs fail) (ho : w1.ownsRow base 5 1 v1 zs.length (nums .u8 zs)) (hb : Below base w w1) (hgr : w.grownBy w1 v.ownBlock)
    (hat : v1.ownBlock = v.ownBlock ∨ ∃ b, v1.ownBlock = some b ∧ w.heap.size ≤ b) : OutIs base (w1.setCell ⟨g, 0, none⟩ v1) g v1 zs fail ∧ Below base w (w1.setCell ⟨g, 0, none⟩ v1) ∧ Fr w (w1.setCell ⟨g, 0, none⟩ v1) g v := by
  have hg := cell_lt hO.c0
  have e0 : w1.heap[g]? = w.heap[g]? := hgr.block g hg (fun e => hO.ne e.symm)
  have k0 : w1.cell? ⟨g, 0, none⟩ = some v := (cell_of_heap e0).trans hO.c0
  have ne1 : v1.ownBlock ≠ some g := by
    rcases hat with h | ⟨b, h, hb'⟩
    · rw [h]; exact hO.ne
    · rw [h]; intro e; injection e with e; omega
  refine ⟨⟨Gy.cell_set k0 _, ?_, ?_, ?_, ?_, ne1, hO.ge, ?_⟩, hb.setCell hO.ge _, ⟨?_, fun k hk h1 h2 => ?_⟩⟩
  · rw [set_other _ _ _ _ _ (by omega), cell_of_heap e0]; exact hO.c1
  · rw [set_frozen, frozen_of_heap e0]; exact hO.f0
  · rw [set_frozen, frozen_of_heap e0]; exact hO.f1
  · exact own_to ho (fun k hk => set_heap _ _ _ _ _ (fun e => ne1 (by rw [hk, e])))
  · rw [set_size]; exact Nat.le_trans hO.le hgr.size
  · rw [set_size]; exact hgr.size
  · rw [set_heap _ _ _ _ _ h1]; exact hgr.block k hk h2
theorem out_put {base g : Nat} {v v1 : Value} {xs zs : List Int} {fail : Bool} {w w1 : World} (hO : OutIs base w g v xs fail) (ho : w1.ownsRow base 5 1 v1 zs.length (nums .u8 zs)) (hb : Below base w w1) (hgr : w.grownBy w1 v.ownBlock)
    (hat : v1.ownBlock = v.ownBlock ∨ ∃ b, v1.ownBlock = some b ∧ w.heap.size ≤ b) : OutPost base w g v zs fail (w1.setCell ⟨g, 0, none⟩ v1) :=
  have h := out_put1 hO ho hb hgr hat
  ⟨v1, h.1, h.2.1, h.2.2, hat⟩

theorem raw_nil (A : Option Addr) (n c : Nat) (w : World) : Calls Try.prog 15 #[.pointer none, .slice A n c] w fun e w' => e = .returned (.tuple #[]) ∧ w = w' := by
  go_enter Try.func15, Try.ntmps15
  go_wp2
  go_end0
  exact ⟨rfl, rfl⟩
theorem n_nil (v size : Int) (w : World) : Calls Try.prog 12 #[.pointer none, .int .i64 v, .int .i64 size] w fun e w' => e = .returned (.tuple #[]) ∧ w = w' := by
  go_enter Try.func12, Try.ntmps12
  go_wp2
  exact bodyPost_ret (results_none rfl _ _ _) rfl ⟨rfl, rfl⟩
theorem end_nil (w : World) : Calls Try.prog 16 #[.pointer none] w fun e w' => e = .returned (.tuple #[.slice none 0 0, .int .i64 1]) ∧ w = w' := by
  go_enter Try.func16, Try.ntmps16
  go_wp2
  go_ret2
  exact ⟨rfl, rfl⟩
theorem inraw_nil (n : Int) (w : World) : Calls Try.prog 20 #[.pointer none, .int .i64 n] w fun e w' => e = .returned (.slice none 0 0) ∧ w = w' := by
  go_enter Try.func20, Try.ntmps20
  go_wp2
  go_ret
  exact ⟨rfl, rfl⟩
theorem inn_nil (size : Int) (w : World) : Calls Try.prog 18 #[.pointer none, .int .i64 size] w fun e w' => e = .returned (.int .i64 0) ∧ w = w' := by
  go_enter Try.func18, Try.ntmps18
  go_wp2_with (go_at_call 20; (with_reducible refine (inraw_nil _ _).mono ?_); rintro e w' ⟨rfl, rfl⟩)
  all_goals first
    | (go_ret; exact ⟨rfl, rfl⟩)
    | (go_loopw [5, 20] (fun v5 v20 wr => v5 = .int .i64 0 ∧ v20 = .int .i64 0 ∧ wr = w) (fun _ _ _ => 0)
       case atStart => exact ⟨rfl, rfl, rfl⟩
       case round =>
         obtain ⟨rfl, rfl, rfl⟩ := hrel
         go_wp2
         go_ret
         exact ⟨rfl, rfl⟩)

set_option maxHeartbeats 1000000 in
theorem raw_calls (base g : Nat) (v : Value) (xs ys : List Int) (fail : Bool) (A : Option Addr) (n c : Nat) (w : World) (hO : OutIs base w g v xs fail) (hR : ReadsInt w .u8 A n ys) (hl : xs.length + n ≤ 140737488355328) :
    Calls Try.prog 15 #[.pointer (some ⟨g, 0, none⟩), .slice A n c] w fun e w' => e = .returned (.tuple #[]) ∧ OutPost base w g v (xs ++ ys) fail w' := by
  have h0 := hO.c0
  have hg := cell_lt h0
  have HO := Lib.hid hO
  have HR := Lib.hid hR
  have HL := Lib.hid hl
  clear hO hR hl
  go_enter Try.func15, Try.ntmps15
  go_wp2_with (at_builtin; refine print_append_row (w0 := w) base rfl (.tmp 10) (.tmp 11) 25 5 .u8 1 rfl Try.underlying25 info_u8 (by decide) v xs ys A n c rfl rfl HO.out.own HR.out (Below.refl base w) HO.out.le (by have := HL.out; omega) ?_; intro v1 w1 ho hb hgr hat; obtain ⟨A1, c1, rfl⟩ := own_slice ho; have e0 := hgr.block g hg (fun e => HO.out.ne e.symm); have k0 := (cell_of_heap (o := 0) e0).trans h0; have k1 := (frozen_of_heap (o := 0) e0).trans HO.out.f0; have E := Lib.hid (And.intro e0 (And.intro ho (And.intro hb (And.intro hgr hat)))); clear e0 ho hb hgr hat)
  go_end0
  refine ⟨rfl, ?_⟩
  have h := out_put HO.out E.out.2.1 E.out.2.2.1 E.out.2.2.2.1 E.out.2.2.2.2
  rw [List.length_append] at h
  exact h
/-- so many bytes of a number, the greatest first -/
def wide : Nat → Nat → List Int
  | 0, _ => []
  | n + 1, v => wide n (v / 256) ++ [((v % 256 : Nat) : Int)]
theorem wide_length : ∀ n v, (wide n v).length = n := by
  intro n
  induction n with
  | zero => intro v; rfl
  | succ n ih => intro v; simp [wide, ih]
theorem wide_cons : ∀ m v, wide (m + 1) v = [((v / 256 ^ m % 256 : Nat) : Int)] ++ wide m v := by
  intro m
  induction m with
  | zero => intro v; simp [wide]
  | succ m ih =>
    intro v
    have h : wide (m + 1 + 1) v = wide (m + 1) (v / 256) ++ [((v % 256 : Nat) : Int)] := rfl
    rw [h, ih]
    have h2 : wide (m + 1) v = wide m (v / 256) ++ [((v % 256 : Nat) : Int)] := rfl
    rw [h2, List.append_assoc, Nat.div_div_eq_div_mul, Nat.pow_succ, Nat.mul_comm 256]
def rowAt (xs : List Int) (size v r : Nat) : List Int := xs ++ List.replicate r 0 ++ wide (size - r) v
theorem rowAt_length (xs : List Int) (size v r : Nat) (h : r ≤ size) : (rowAt xs size v r).length = xs.length + size := by
  simp [rowAt, wide_length]; omega
theorem rowAt_set (xs : List Int) (size v r : Nat) (h : r + 1 ≤ size) : (rowAt xs size v (r + 1)).set (xs.length + r) ((v / 256 ^ (size - (r + 1)) % 256 : Nat) : Int) = rowAt xs size v r := by
  unfold rowAt
  rw [List.append_assoc, List.set_append_right _ _ (by omega), show xs.length + r - xs.length = r from by omega, List.replicate_succ', List.append_assoc, List.set_append_right _ _ (by simp)]
  simp only [List.length_replicate, Nat.sub_self, List.singleton_append, List.set_cons_zero]
  rw [show size - r = size - (r + 1) + 1 from by omega, wide_cons, List.append_assoc]
  rfl
/-- what holds of the object at each round of N -/
def NAt (base : Nat) (w : World) (g h cap : Nat) (v0 : Value) (xs : List Int) (fail : Bool) (size v r : Nat) (wr : World) : Prop :=
  OutIs base wr g (.slice (some ⟨h, 0, none⟩) (xs.length + size) cap) (rowAt xs size v r) fail ∧ Below base w wr ∧ Fr w wr g v0 ∧ (some h = v0.ownBlock ∨ w.heap.size ≤ h)
theorem NAt.round {base g h cap : Nat} {w wr : World} {v0 : Value} {xs : List Int} {fail : Bool} {size v r : Nat} (hn : NAt base w g h cap v0 xs fail size v (r + 1) wr) (hr : r + 1 ≤ size) :
    NAt base w g h cap v0 xs fail size v r (wr.setCell ⟨h, xs.length + r, none⟩ (.int .u8 ((v / 256 ^ (size - (r + 1)) % 256 : Nat) : Int))) := by
  obtain ⟨hO, hb, hf, hh⟩ := hn
  have hne : h ≠ g := fun e => hO.ne (by rw [e]; rfl)
  have hg := cell_lt hO.c0
  have hbh : base ≤ h := own_base hO.own h rfl
  refine ⟨⟨?_, ?_, ?_, ?_, ?_, hO.ne, hO.ge, ?_⟩, hb.setCell hbh _, ⟨?_, fun k hk h1 h2 => ?_⟩, hh⟩
  · rw [cell_of_heap (set_heap _ _ _ _ _ hne.symm)]; exact hO.c0
  · rw [cell_of_heap (set_heap _ _ _ _ _ hne.symm)]; exact hO.c1
  · rw [frozen_of_heap (set_heap _ _ _ _ _ hne.symm)]; exact hO.f0
  · rw [frozen_of_heap (set_heap _ _ _ _ _ hne.symm)]; exact hO.f1
  · have ho := hO.own
    rw [rowAt_length _ _ _ _ (by omega)] at ho
    have h2 := ho.stored (xs.length + r) (.int .u8 ((v / 256 ^ (size - (r + 1)) % 256 : Nat) : Int))
    rw [rowAt_length _ _ _ _ (by omega)]
    have e : (nums .u8 (rowAt xs size v (r + 1))).set (xs.length + r) (.int .u8 ((v / 256 ^ (size - (r + 1)) % 256 : Nat) : Int)) = nums .u8 (rowAt xs size v r) := by
      rw [← rowAt_set xs size v r hr]; simp [nums, List.map_set]
    rw [e] at h2
    exact h2.1
  · rw [set_size]; exact hO.le
  · rw [set_size]; exact hf.1
  · rw [set_heap]
    · exact hf.2 k hk h1 h2
    · rintro rfl
      rcases hh with h | h
      · exact h2 h
      · omega
theorem zero_cells (m : Nat) : (Builtin.zeroCells (Value.int .u8 0).cells m).toList = nums .u8 (List.replicate m 0) := by
  unfold Builtin.zeroCells
  simp only [Value.cells, nums, Array.toList_map, Array.toList_range, List.map_replicate]
  rw [List.eq_replicate_iff]
  refine ⟨by simp, fun b hb => ?_⟩
  obtain ⟨i, _, rfl⟩ := List.mem_map.1 hb
  simp [Nat.mod_one]
section
variable {P : Program} {ops : Array Oper} {rest : List Oper} {o : Oper} {a : Act} {Q : Exit → Act → World → Prop}
/-- append(s, make([]byte, m)...) onto a row of the call's own -/
theorem append_zeros {w0 W : World} (base : Nat) (hgd : o.guard = none) (s x : Operand) (t ti e : TypeId)
    (ho : o.op = .call { callee := .builtin .append, args := #[s, x], argTypes := #[t, ti] })
    (ht : P.underlying t = some (.slice e)) {k : IntKind} (hti : P.underlying ti = some (.int k)) (hinfo : (P.info? e).map (fun i => (i.zero, i.size, i.bytes)) = some (some (.int .u8 0), 1, 1))
    (v : Value) (xs : List Int) {kx : IntKind} (m : Nat) (hs : a.eval s = v) (hx : a.eval x = .int kx m)
    (HO : W.ownsRow base e 1 v xs.length (nums .u8 xs)) (HB : Below base w0 W) (hbase : base ≤ W.heap.size) (hl : xs.length + m ≤ 140737488355328)
    (h : ∀ v1 w1, w1.ownsRow base e 1 v1 (xs ++ List.replicate m 0).length (nums .u8 (xs ++ List.replicate m 0)) → Below base w0 w1 → W.grownBy w1 v.ownBlock → (v1.ownBlock = v.ownBlock ∨ ∃ b, v1.ownBlock = some b ∧ W.heap.size ≤ b) → wpList P ops Q rest (a.put o.dst v1) w1) :
    wpList P ops Q (o :: rest) a W := by
  obtain ⟨i0, hi, hzz⟩ := Option.map_eq_some_iff.1 hinfo
  simp only [Prod.mk.injEq] at hzz
  obtain ⟨hz0, hz1, hz2⟩ := hzz
  obtain ⟨v1, w1, hr1, hown, hg, hat⟩ := run_append_zeros W base t ti o.type e i0 (.int .u8 0) 1 1 ht hti hi hz0 hz1 hz2 rfl (by decide) (by decide) v xs.length (nums .u8 xs) HO kx m
    (fun u hu => by rw [zero_cells] at hu; obtain ⟨n, _, rfl⟩ := List.mem_map.1 hu; rfl) (by omega) hbase
  refine wpList_plain hgd fun K hK => ?_
  unfold Oper.wp execOp
  simp only [ho, resolve, invoke, builtin, Sem.run_bind, Sem.run_pure, Result.andThen_ok, List.map_toArray, List.map_cons, List.map_nil, hs, hx, hr1]
  refine hK _ _ (h v1 w1 ?_ (HB.grown hg hbase (own_base HO)) hg (hat.imp id fun h => ⟨_, h, Nat.le_refl _⟩))
  rw [zero_cells, ← nums_append] at hown
  rw [List.length_append, List.length_replicate]
  exact hown
end
theorem wide_bound {v size : Nat} (h1 : 1 ≤ size) (h6 : size ≤ 6) (hv : v < 256 ^ size) : decide (wrap64 (2 ^ (8 * size)) ≤ (v : Int)) = false := by
  rw [decide_eq_false_iff_not]
  rcases (by omega : size = 1 ∨ size = 2 ∨ size = 3 ∨ size = 4 ∨ size = 5 ∨ size = 6) with h | h | h | h | h | h <;> subst h <;> simp at hv <;> unfold wrap64 <;> simp <;> omega
theorem own_some {w : World} {base : Nat} {e : TypeId} {n : Nat} {v : Value} {xs : List Value} (h : w.ownsRow base e 1 v n xs) (hn : 0 < n) : ∃ g c, v = .slice (some ⟨g, 0, none⟩) n c := by
  rcases h.2 with ⟨_, h0⟩ | ⟨g, c, _, rfl, _⟩
  · omega
  · exact ⟨g, c, rfl⟩
theorem nat_start {base g h cap : Nat} {w w1 : World} {v0 : Value} {xs : List Int} {fail : Bool} {size v : Nat} (hO : OutIs base w1 g (.slice (some ⟨h, 0, none⟩) (xs.length + size) cap) (xs ++ List.replicate size 0) fail) (hb : Below base w w1) (hf : Fr w w1 g v0)
    (hat : (Value.slice (some ⟨h, 0, none⟩) (xs.length + size) cap).ownBlock = v0.ownBlock ∨ ∃ b, (Value.slice (some ⟨h, 0, none⟩) (xs.length + size) cap).ownBlock = some b ∧ w.heap.size ≤ b) : NAt base w g h cap v0 xs fail size v size w1 := by
  have e : rowAt xs size v size = xs ++ List.replicate size 0 := by simp [rowAt, wide]
  refine ⟨by rw [e]; exact hO, hb, hf, ?_⟩
  rcases hat with h | ⟨b, h, hb'⟩
  · exact .inl h
  · simp [Value.ownBlock] at h; subst h; exact .inr hb'
theorem nat_end {base g h cap : Nat} {w wr : World} {v0 : Value} {xs : List Int} {fail : Bool} {size v : Nat} (hn : NAt base w g h cap v0 xs fail size v 0 wr) : OutPost base w g v0 (xs ++ wide size v) fail wr := by
  have e : rowAt xs size v 0 = xs ++ wide size v := by simp [rowAt]
  obtain ⟨hO, hb, hf, hh⟩ := hn
  rw [e] at hO
  exact ⟨_, hO, hb, hf, hh.imp id (fun h2 => ⟨h, rfl, h2⟩)⟩
theorem nat_cell {base g h cap : Nat} {w wr : World} {v0 : Value} {xs : List Int} {fail : Bool} {size v r : Nat} (hn : NAt base w g h cap v0 xs fail size v (r + 1) wr) (hr : r + 1 ≤ size) : wr.cell? ⟨h, xs.length + r, none⟩ = some (.int .u8 ((rowAt xs size v (r + 1)).getD (xs.length + r) 0)) := by
  have ho := hn.1.own
  have hl := rowAt_length xs size v (r + 1) hr
  rw [hl] at ho
  rw [ho.cellAt (xs.length + r) (by omega)]
  simp [nums, List.getD_eq_getElem?_getD, show xs.length + r < (rowAt xs size v (r + 1)).length by omega]
theorem nat_free {base g h cap : Nat} {w wr : World} {v0 : Value} {xs : List Int} {fail : Bool} {size v r : Nat} (hn : NAt base w g h cap v0 xs fail size v r wr) (j : Nat) : wr.frozen? ⟨h, j, none⟩ = false := by
  have ho := hn.1.own
  by_cases hr : r ≤ size
  · rw [rowAt_length xs size v r hr] at ho; exact ho.frozenAt j
  · rcases ho.2 with ⟨h', _⟩ | ⟨g', cap', cur, h', _, hg, _⟩
    · simp at h'
    · simp only [Value.slice.injEq, Option.some.injEq, Addr.mk.injEq, and_true] at h'
      obtain ⟨rfl, _⟩ := h'
      exact frozen_of_row wr _ j cur _ hg
set_option maxHeartbeats 4000000 in
set_option maxRecDepth 100000 in
theorem n_calls (base g : Nat) (v0 : Value) (xs : List Int) (v size : Nat) (fail : Bool) (w : World) (hO : OutIs base w g v0 xs fail) (h1 : 1 ≤ size) (h6 : size ≤ 6) (hv : v < 256 ^ size) (hl : xs.length + size ≤ 140737488355328) :
    Calls Try.prog 12 #[.pointer (some ⟨g, 0, none⟩), .int .i64 v, .int .i64 size] w fun e w' => e = .returned (.tuple #[]) ∧ OutPost base w g v0 (xs ++ wide size v) fail w' := by
  obtain ⟨A0, c0, rfl⟩ := own_slice hO.own
  have k0 := hO.c0
  have f0 := hO.f0
  have hg := cell_lt k0
  have HO := Lib.hid hO
  have HL := Lib.hid hl
  have t1 : decide ((size : Int) < 1) = false := by simp; omega
  have t2 : decide (6 < (size : Int)) = false := by simp; omega
  have t3 : decide ((v : Int) < 0) = false := by simp
  have t4 := wide_bound h1 h6 hv
  have hlx : xs.length ≤ 140737488355328 := by omega
  clear hO hl hv
  go_enter Try.func12, Try.ntmps12
  go_wp2_with (at_builtin; refine append_zeros (w0 := w) base rfl (.tmp 41) (.tmp 42) 25 3 5 rfl Try.underlying25 Try.underlying3 info_u8 (.slice A0 xs.length c0) xs size rfl rfl HO.out.own (Below.refl base w) HO.out.le (by have := HL.out; omega) ?_; intro v1 w1 ho hb hgr hat; obtain ⟨h, c1, rfl⟩ := own_some ho (by simp; omega); have e0 := hgr.block g hg (fun e => HO.out.ne e.symm); have j0 := (cell_of_heap (o := 0) e0).trans k0; have j1 := (frozen_of_heap (o := 0) e0).trans f0; have E := Lib.hid (out_put1 HO.out ho hb hgr hat); have EA := Lib.hid hat; clear e0 ho hb hgr hat)
  go_loopw [1, 7] (fun v1 v7 wr => ∃ r : Nat, r ≤ size ∧ v7 = .int .i64 ((r : Int) - 1) ∧ v1 = .int .i64 ((v / 256 ^ (size - r) : Nat) : Int) ∧ Gy.Hd (NAt base w g h c1 (.slice A0 xs.length c0) xs fail size v r wr)) (fun _ v7 _ => (intOf v7 + 1).toNat)
  case atStart =>
    refine ⟨size, Nat.le_refl _, rfl, by simp, ⟨?_⟩⟩
    have e := E.out
    rw [List.length_append, List.length_replicate] at e
    exact nat_start e.1 e.2.1 e.2.2 EA.out
  case round =>
    obtain ⟨r, hr, rfl, rfl, hn⟩ := hrel
    clear EA E j0 j1 t1 t2 t3 t4 k0 f0
    cases r with
    | zero =>
      go_wp2
      go_end0
      exact ⟨rfl, nat_end hn.out⟩
    | succ r =>
      have i0 := hn.out.1.c0
      have i1 := hn.out.1.f0
      have hx := nat_cell hn.out (by omega)
      have hy := nat_free hn.out (xs.length + r)
      have e : (((r + 1 : Nat) : Int) - 1) = (r : Int) := by omega
      rw [e]
      clear e
      go_wp2
      refine ⟨⟨r, by omega, rfl, ?_, ⟨?_⟩⟩, by simp [intOf]⟩
      · rw [show size - r = size - (r + 1) + 1 from by omega, Nat.pow_succ, ← Nat.div_div_eq_div_mul]
        norm_cast
      · have h := NAt.round hn.out (by omega)
        rw [show (((v / 256 ^ (size - (r + 1)) % 256 : Nat)) : Int) = (v : Int) / 256 ^ (size - (r + 1)) % 256 from by norm_cast] at h
        exact h
end Go.Proofs.Ytnoebhnkkigkjaa.Codec

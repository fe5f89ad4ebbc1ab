/- Rows in memory: small facts for walks. -/
import Derived.Test.YtfdfijohcapgaaaDoorAid
import Derived.Test.YtfdfijohcapgaaaDoorWMore
import Derived.WalkKit
import Derived.Below
import Derived.Lib.Hide
namespace Gy
open Go Go.RowKit Go.Proofs.YtfdfijohcapgaaaDoorW.PrintWords Go.Proofs.YtfdfijohcapgaaaDoorW.PrintMore

theorem drew_below (w : World) : Below w.heap.size w w.drew := pw_below_drewN (Below.refl _ _) 1
theorem alloc_below (w : World) (o : Obj) : Below w.heap.size w (w.alloc o) := (Below.refl _ _).alloc (Nat.le_refl _) o
theorem reads_below {w w' : World} {k : IntKind} {A : Option Addr} {n : Nat} {xs : List Int} (h : ReadsInt w k A n xs) (hb : Below w.heap.size w w') : ReadsInt w' k A n xs := by
  refine ⟨h.1, h.2.1, fun hn => ?_⟩
  obtain ⟨ad, e, hc⟩ := h.2.2 hn
  refine ⟨ad, e, fun j hj => ?_⟩
  have h1 := hc j hj
  have hlt : (ad.add j).block < w.heap.size := by
    rcases Nat.lt_or_ge (ad.add j).block w.heap.size with h' | h'
    · exact h'
    · simp [World.cell?, Array.getElem?_eq_none h'] at h1
  rw [hb.cell hlt]; exact h1
theorem own_some {w : World} {base : Nat} {e : TypeId} {n : Nat} {v : Value} {xs : List Value} (h : w.ownsRow base e 1 v n xs) (hn : 0 < n) : ∃ g c, v = .slice (some ⟨g, 0, none⟩) n c := by
  rcases h.2 with ⟨_, h0⟩ | ⟨g, c, _, rfl, _⟩
  · omega
  · exact ⟨g, c, rfl⟩
theorem own_reads {w : World} {base : Nat} {e : TypeId} {k : IntKind} {A : Option Addr} {n c : Nat} {xs : List Int} (h : w.ownsRow base e 1 (.slice A n c) xs.length (nums k xs)) (hn : n = xs.length) (hl : xs.length ≤ 9223372036854775807) : ReadsInt w k A n xs := by
  subst hn
  refine ⟨rfl, hl, fun h0 => ?_⟩
  obtain ⟨g, c', e1⟩ := own_some h h0
  injection e1 with e1 e2 e3
  subst e1 e3
  refine ⟨_, rfl, fun j hj => ?_⟩
  rw [Gy.addr_add, h.cellAt j (by omega)]
  simp [nums, List.getD_eq_getElem?_getD, hj]
theorem reads_of_kd {w : World} {k : IntKind} {A : Option Addr} {n : Nat} {xs : List Int} (h : (Kd.int k).C w A n xs) : ReadsInt w k A n xs := by
  refine ⟨h.1, h.2.1, fun hn => ?_⟩
  obtain ⟨ad, e, hx⟩ := h.2.2 hn
  refine ⟨ad, e, fun j hj => ?_⟩
  have hj' : j < xs.length := by rw [h.1]; exact hj
  obtain ⟨cs, _, hk, hc⟩ := hx j xs[j] (List.getElem?_eq_getElem hj')
  have hk' : cs = [.int k xs[j]] := hk
  subst hk'
  have := hc 0 _ rfl
  have e1 : j * (Kd.int k).sz + 0 = j := by show j * 1 + 0 = j; omega
  rw [e1] at this
  rw [this]
  simp [List.getD_eq_getElem?_getD, hj']
theorem cell_lt {w : World} {b o : Nat} {v : Value} (h : w.cell? ⟨b, o, none⟩ = some v) : b < w.heap.size := by
  rcases Nat.lt_or_ge b w.heap.size with h' | h'
  · exact h'
  · simp [World.cell?, Array.getElem?_eq_none h'] at h
theorem set_size (w : World) (a : Addr) (v : Value) : (w.setCell a v).heap.size = w.heap.size := by
  show (w.heap.modify _ _).size = _; simp
theorem set_other (w : World) (b o o' : Nat) (v : Value) (h : o ≠ o') : (w.setCell ⟨b, o, none⟩ v).cell? ⟨b, o', none⟩ = w.cell? ⟨b, o', none⟩ :=
  World.cell?_setCell_other w ⟨b, o, none⟩ ⟨b, o', none⟩ v (by intro e; injection e with _ e; exact h e)
theorem set_frozen (w : World) (b o o' : Nat) (v : Value) : (w.setCell ⟨b, o, none⟩ v).frozen? ⟨b, o', none⟩ = w.frozen? ⟨b, o', none⟩ := by go_simp
theorem alloc_at (w : World) (o : Obj) : (w.alloc o).heap[w.heap.size]? = some o := by
  show (w.heap.push _)[w.heap.size]? = _
  simp
/-- the first of a row that has just been laid is stored: what then is read -/
theorem made_first (w : World) (e : TypeId) (n : Nat) (x : Int) (hn : n + 1 ≤ 9223372036854775807) :
    ReadsInt ((w.alloc (.cells (madeCells #[.int .u8 0] (n + 1)) e)).setCell ⟨w.heap.size, 0, none⟩ (.int .u8 x)) .u8 (some ⟨w.heap.size, 0, none⟩) (n + 1) (x :: List.replicate n 0) := by
  have h := own_made w w.heap.size e .u8 (n + 1) (Nat.le_refl _) hn
  have h2 := (h.stored 0 (.int .u8 x)).1
  have e2 : (nums .u8 (List.replicate (n + 1) (0 : Int))).set 0 (.int .u8 x) = nums .u8 (x :: List.replicate n 0) := by
    simp [nums, List.replicate_succ]
  rw [e2] at h2
  have hl : (x :: List.replicate n (0 : Int)).length = n + 1 := by simp
  rw [show n + 1 = (x :: List.replicate n (0 : Int)).length from hl.symm] at h2
  have h3 := own_reads h2 rfl (by rw [hl]; exact hn)
  rw [hl] at h3
  exact h3
theorem made_reads (w : World) (e : TypeId) (n : Nat) (hn : n ≤ 9223372036854775807) :
    ReadsInt (w.alloc (.cells (madeCells #[.int .u8 0] n) e)) .u8 (some ⟨w.heap.size, 0, none⟩) n (List.replicate n 0) := by
  have h := own_made w w.heap.size e .u8 n (Nat.le_refl _) hn
  have hl : (List.replicate n (0 : Int)).length = n := by simp
  have h2 : (w.alloc (.cells (madeCells #[.int .u8 0] n) e)).ownsRow w.heap.size e 1 (.slice (some ⟨w.heap.size, 0, none⟩) n n) (List.replicate n (0 : Int)).length (nums .u8 (List.replicate n 0)) := by rw [hl]; exact h
  have h3 := own_reads h2 hl.symm (by rw [hl]; exact hn)
  exact h3
set_option maxRecDepth 100000 in
/-- b[i:i+m] -/
theorem mid_at {P : Program} (t e : TypeId) (ht : P.underlying t = some (.slice e)) (hu : (P.info? e).map (fun i => (i.zero, i.size, i.bytes)) = some (some (.int .u8 0), 1, 1)) (A : Option Addr) (c : Nat) (xs : List Int) (i m : Nat) (hm : i + m ≤ xs.length) (hc : xs.length ≤ c) :
    ∃ A' : Option Addr, (∀ W : World, (Instr.slice t (.slice A xs.length c) (some (.int .i64 (i : Int))) (some (.int .i64 ((i : Int) + (m : Int)))) none).run P W = .ok (.slice A' m (c - i)) W) ∧
      ∀ w : World, ReadsInt w .u8 A xs.length xs → ReadsInt w .u8 A' m ((xs.drop i).take m) := by
  obtain ⟨i0, hi, hzz⟩ := Option.map_eq_some_iff.1 hu
  simp only [Prod.mk.injEq] at hzz
  obtain ⟨hz0, hz1, hz2⟩ := hzz
  obtain ⟨A', h1, h2, h3⟩ := print_mid_int (P := P) (k := .u8) t e ht hi hz1 A c xs (i : Int) ((i : Int) + (m : Int)) (by omega) (by omega) (by omega) hc
  have e1 : ((i : Int) + (m : Int)).toNat = i + m := by omega
  have e2 : (List.drop i (List.take (i + m) xs)) = (xs.drop i).take m := by rw [List.drop_take]; congr 1; omega
  have e3 : ((xs.drop i).take m).length = m := by simp; omega
  rw [e1, Int.toNat_natCast, e2, e3] at h1 h2
  exact ⟨A', h1, h2⟩
end Gy

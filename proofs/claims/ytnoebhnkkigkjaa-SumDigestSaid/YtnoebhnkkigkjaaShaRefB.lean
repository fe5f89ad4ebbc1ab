/- The walk over the reference's digest: what lies in memory at each loop. -/
import Derived.Test.YtnoebhnkkigkjaaShaRefA
namespace Go.Proofs.Ytnoebhnkkigkjaa.Dig
open Go Go.RowKit Go.Proofs.Ytnoebhnkkigkjaa.QDig Go.Proofs.YtnoebhnkkigkjaaW.PrintWords Go.Proofs.YtnoebhnkkigkjaaW.PrintLast Go.Proofs.YtnoebhnkkigkjaaW.PrintMore Gy

theorem reads_set {w : World} {g b : Nat} {xs : List Int} (h : ReadsInt w .u8 (some ⟨g, 0, none⟩) xs.length xs) (hb : b ≠ g) (o : Nat) (v : Value) : ReadsInt (w.setCell ⟨b, o, none⟩ v) .u8 (some ⟨g, 0, none⟩) xs.length xs := reads_far h hb o [v]
/-- the result's row, the table, the state, the bytes -/
structure RefC (w wr : World) (g : Nat) (al : List Int) (hs : List Nat) : Prop where
  R : Arr wr w.heap.size (nums .u8 (List.replicate 32 0))
  K : Arr wr (w.heap.size + 1) (n64 kTab)
  H : Arr wr (w.heap.size + 1 + 1) (n64 hs)
  A : ReadsInt wr .u8 (some ⟨g, 0, none⟩) al.length al
  B : Below w.heap.size w wr
  og : w.heap.size + 1 + 1 + 1 ≤ g
theorem RefC.below {w wr w' : World} {g : Nat} {al : List Int} {hs : List Nat} (h : RefC w wr g al hs) (hb : Below wr.heap.size wr w') : RefC w w' g al hs :=
  ⟨h.R.below hb, h.K.below hb, h.H.below hb, Gy.reads_below h.A hb, h.B.trans (hb.mono h.B.size), h.og⟩
theorem RefC.far {w wr : World} {g : Nat} {al : List Int} {hs : List Nat} (h : RefC w wr g al hs) {b : Nat} (hb : g < b) (o : Nat) (v : Value) : RefC w (wr.setCell ⟨b, o, none⟩ v) g al hs := by
  have og := h.og
  exact ⟨h.R.far (by omega) _ _, h.K.far (by omega) _ _, h.H.far (by omega) _ _, reads_set h.A (by omega) _ _, h.B.setCell (show w.heap.size ≤ b by omega) _, og⟩
theorem RefC.far_cells {w wr : World} {g : Nat} {al : List Int} {hs : List Nat} (h : RefC w wr g al hs) {b : Nat} (hb : g < b) (o : Nat) (us : List Value) : RefC w (wr.setCells b o us) g al hs := by
  have og := h.og
  exact ⟨h.R.far_cells (by omega) _ _, h.K.far_cells (by omega) _ _, h.H.far_cells (by omega) _ _, reads_far h.A (by omega) _ _, setCells_below (by omega) _ _ h.B, og⟩
theorem RefC.setH {w wr : World} {g : Nat} {al : List Int} {hs : List Nat} (h : RefC w wr g al hs) {i x : Nat} (hi : i < hs.length) : RefC w (wr.setCell ⟨w.heap.size + 1 + 1, i, none⟩ (.int .u64 (x : Int))) g al (hs.set i x) := by
  have og := h.og
  have h2 := h.H.set (i := i) (by rw [n64_length]; exact hi) (.int .u64 (x : Int))
  rw [n64_set] at h2
  exact ⟨h.R.far (by omega) _ _, h.K.far (by omega) _ _, h2, reads_set h.A (by omega) _ _, h.B.setCell (show w.heap.size ≤ w.heap.size + 1 + 1 by omega) _, og⟩
/-- and the words of a chunk -/
structure RefW (w wr : World) (g gw : Nat) (al : List Int) (hs ws : List Nat) : Prop where
  C : RefC w wr g al hs
  W : Arr wr gw (n64 ws)
  o : g < gw
theorem RefW.below {w wr w' : World} {g gw : Nat} {al : List Int} {hs ws : List Nat} (h : RefW w wr g gw al hs ws) (hb : Below wr.heap.size wr w') : RefW w w' g gw al hs ws := ⟨h.C.below hb, h.W.below hb, h.o⟩
theorem RefW.set {w wr : World} {g gw : Nat} {al : List Int} {hs ws : List Nat} (h : RefW w wr g gw al hs ws) {i x : Nat} (hi : i < ws.length) : RefW w (wr.setCell ⟨gw, i, none⟩ (.int .u64 (x : Int))) g gw al hs (ws.set i x) := by
  have h2 := h.W.set (i := i) (by rw [n64_length]; exact hi) (.int .u64 (x : Int))
  rw [n64_set] at h2
  exact ⟨h.C.far h.o _ _, h2, h.o⟩
theorem RefW.cell {w wr : World} {g gw : Nat} {al : List Int} {hs : List Nat} {b : List Int} {i : Nat} (h : RefW w wr g gw al hs (wL b i)) (hi : i ≤ 64) (j : Nat) (hj : j < i) : wr.cell? ⟨gw, j, none⟩ = some (.int .u64 ((wAt b j : Nat) : Int)) := by
  have := h.W.cell (n64_at (l := wL b i) (i := j) (by rw [wL_length _ _ hi]; omega))
  rw [wL_at _ _ _ hj] at this
  exact this
theorem RefW.there {w wr : World} {g gw : Nat} {al : List Int} {hs ws : List Nat} (h : RefW w wr g gw al hs ws) {i : Nat} (hi : i < ws.length) : (∃ v, wr.cell? ⟨gw, i, none⟩ = some v) ∧ wr.frozen? ⟨gw, i, none⟩ = false :=
  ⟨⟨_, h.W.cell (n64_at hi)⟩, h.W.fr i⟩
theorem RefW.step {w wr : World} {g gw : Nat} {al : List Int} {hs : List Nat} {b : List Int} {i : Nat} (h : RefW w wr g gw al hs (wL b i)) (hi : i < 64) : RefW w (wr.setCell ⟨gw, i, none⟩ (.int .u64 ((wAt b i : Nat) : Int))) g gw al hs (wL b (i + 1)) := by
  have h2 := h.set (i := i) (x := wAt b i) (by rw [wL_length _ _ (by omega)]; omega)
  rw [wL_set b i hi] at h2
  exact h2
/-- and what is mixed -/
structure RefX (w wr : World) (g gw gx : Nat) (al : List Int) (hs ws xv : List Nat) : Prop where
  W : RefW w wr g gw al hs ws
  X : Arr wr gx (n64 xv)
  o : gw < gx
theorem RefX.below {w wr w' : World} {g gw gx : Nat} {al : List Int} {hs ws xv : List Nat} (h : RefX w wr g gw gx al hs ws xv) (hb : Below wr.heap.size wr w') : RefX w w' g gw gx al hs ws xv := ⟨h.W.below hb, h.X.below hb, h.o⟩
theorem RefX.set {w wr : World} {g gw gx : Nat} {al : List Int} {hs ws xv : List Nat} (h : RefX w wr g gw gx al hs ws xv) {i x : Nat} (hi : i < xv.length) : RefX w (wr.setCell ⟨gx, i, none⟩ (.int .u64 (x : Int))) g gw gx al hs ws (xv.set i x) := by
  have o1 := h.o
  have o2 := h.W.o
  have h2 := h.X.set (i := i) (by rw [n64_length]; exact hi) (.int .u64 (x : Int))
  rw [n64_set] at h2
  exact ⟨⟨h.W.C.far (by omega) _ _, h.W.W.far (by omega) _ _, o2⟩, h2, o1⟩
theorem RefX.setH {w wr : World} {g gw gx : Nat} {al : List Int} {hs ws xv : List Nat} (h : RefX w wr g gw gx al hs ws xv) {i x : Nat} (hi : i < hs.length) : RefX w (wr.setCell ⟨w.heap.size + 1 + 1, i, none⟩ (.int .u64 (x : Int))) g gw gx al (hs.set i x) ws xv := by
  have o1 := h.o
  have o2 := h.W.o
  have o3 := h.W.C.og
  exact ⟨⟨h.W.C.setH hi, h.W.W.far (by omega) _ _, o2⟩, h.X.far (by omega) _ _, o1⟩
theorem RefX.cell {w wr : World} {g gw gx : Nat} {al : List Int} {hs ws xv : List Nat} (h : RefX w wr g gw gx al hs ws xv) {i x : Nat} (hi : xv[i]? = some x) : wr.cell? ⟨gx, i, none⟩ = some (.int .u64 (x : Int)) := by
  refine h.X.cell ?_
  unfold n64
  rw [List.getElem?_map, hi]
  rfl
/-- a row moved up, down to a place -/
def shf (l : List Nat) (j : Nat) : List Nat := l.take (j + 1) ++ (l.take 7).drop j
theorem shf_start (s : St) : shf s.nats 7 = s.nats := rfl
theorem shf_end (s : St) : shf s.nats 0 = [s.a, s.a, s.b, s.c, s.d, s.e, s.f, s.g] := rfl
theorem shf_length (s : St) : ∀ j, j ≤ 7 → (shf s.nats j).length = 8
  | 0, _ => rfl
  | 1, _ => rfl
  | 2, _ => rfl
  | 3, _ => rfl
  | 4, _ => rfl
  | 5, _ => rfl
  | 6, _ => rfl
  | 7, _ => rfl
  | _ + 8, h => by omega
theorem shf_set (s : St) : ∀ j, j < 7 → (shf s.nats (j + 1)).set (j + 1) (s.nats.getD j 0) = shf s.nats j
  | 0, _ => rfl
  | 1, _ => rfl
  | 2, _ => rfl
  | 3, _ => rfl
  | 4, _ => rfl
  | 5, _ => rfl
  | 6, _ => rfl
  | _ + 7, h => by omega
theorem shf_at (s : St) : ∀ j, j < 7 → (shf s.nats (j + 1))[j]? = some (s.nats.getD j 0)
  | 0, _ => rfl
  | 1, _ => rfl
  | 2, _ => rfl
  | 3, _ => rfl
  | 4, _ => rfl
  | 5, _ => rfl
  | 6, _ => rfl
  | _ + 7, h => by omega
/-- so many of the sums are there -/
def addP (s t : St) (i : Nat) : List Nat := (s.plus t).nats.take i ++ s.nats.drop i
theorem addP_start (s t : St) : addP s t 0 = s.nats := rfl
theorem addP_end (s t : St) : addP s t 8 = (s.plus t).nats := rfl
theorem addP_length (s t : St) : ∀ j, j ≤ 8 → (addP s t j).length = 8
  | 0, _ => rfl
  | 1, _ => rfl
  | 2, _ => rfl
  | 3, _ => rfl
  | 4, _ => rfl
  | 5, _ => rfl
  | 6, _ => rfl
  | 7, _ => rfl
  | 8, _ => rfl
  | _ + 9, h => by omega
theorem addP_set (s t : St) : ∀ j, j < 8 → (addP s t j).set j ((s.nats.getD j 0 + t.nats.getD j 0) % 4294967296) = addP s t (j + 1)
  | 0, _ => rfl
  | 1, _ => rfl
  | 2, _ => rfl
  | 3, _ => rfl
  | 4, _ => rfl
  | 5, _ => rfl
  | 6, _ => rfl
  | 7, _ => rfl
  | _ + 8, h => by omega
theorem addP_at (s t : St) : ∀ j, j < 8 → (addP s t j)[j]? = some (s.nats.getD j 0)
  | 0, _ => rfl
  | 1, _ => rfl
  | 2, _ => rfl
  | 3, _ => rfl
  | 4, _ => rfl
  | 5, _ => rfl
  | 6, _ => rfl
  | 7, _ => rfl
  | _ + 8, h => by omega
theorem nats_at (s : St) {j : Nat} (h : j < 8) : s.nats[j]? = some (s.nats.getD j 0) := by
  rw [List.getD_eq_getElem?_getD, List.getElem?_eq_getElem (show j < s.nats.length from h)]
  rfl
theorem nats_lt {s : St} (h : s.ok) : ∀ j, j < 8 → s.nats.getD j 0 < 4294967296
  | 0, _ => h.a
  | 1, _ => h.b
  | 2, _ => h.c
  | 3, _ => h.d
  | 4, _ => h.e
  | 5, _ => h.f
  | 6, _ => h.g
  | 7, _ => h.h
  | _ + 8, h => by omega
/-- one round's sums, as the reference has them -/
def one0 (s : St) (k x : Nat) : Nat := s.h + bs1 s.e + chs s.e s.f s.g + k + x
def two0 (s : St) : Nat := bs0 s.a + mjs s.a s.b s.c
theorem round_ref (s : St) (k x : Nat) : (([s.a, s.a, s.b, s.c, s.d, s.e, s.f, s.g] : List Nat).set 4 ((s.d + one0 s k x) % 4294967296)).set 0 ((one0 s k x + two0 s) % 4294967296) = (rnd s ((k + x) % 4294967296)).nats := by
  have e : one s ((k + x) % 4294967296) = one0 s k x % 4294967296 := by unfold one one0; omega
  unfold rnd St.nats two
  rw [e]
  show [_, _, _, _, _, _, _, _] = [_, _, _, _, _, _, _, _]
  congr 1
  · show (one0 s k x + two0 s) % 4294967296 = (one0 s k x % 4294967296 + two0 s % 4294967296) % 4294967296
    omega
  · congr 4
    show (s.d + one0 s k x) % 4294967296 = (s.d + one0 s k x % 4294967296) % 4294967296
    omega
theorem chunk_wl (al : List Int) (b : Nat) : wL (al.drop b) 0 = List.replicate 64 0 := rfl
theorem pad_more (n m : Nat) (h : n + 1 + m ≤ padN n - 8) : ((n + 1 + m) % 64 = 56 → n + 1 + m = padN n - 8) ∧ ((n + 1 + m) % 64 ≠ 56 → n + 1 + m < padN n - 8) := by
  have h1 := padN_le n
  have h2 : padN n % 64 = 0 := by unfold padN; omega
  have h3 : padN n ≤ n + 72 := by unfold padN; omega
  constructor <;> intro h4 <;> omega
end Go.Proofs.Ytnoebhnkkigkjaa.Dig

/- CodecWrites: what is written, and where it lies. -/
import Derived.Test.YtnoebhnkkigkjaaCodecLaw2
namespace Go.Proofs.Ytnoebhnkkigkjaa.Codec
open Go Go.RowKit Go.Proofs.YtnoebhnkkigkjaaW.PrintWords Go.Proofs.YtnoebhnkkigkjaaW.PrintMore

abbrev It := Int × Int × Int × List Int
/-- an item that can be put -/
def okItem (p : It) : Prop := (p.1 < 3 → 1 ≤ p.2.2.1 ∧ p.2.2.1 ≤ 6 ∧ 0 ≤ p.2.1 ∧ p.2.1 < 256 ^ p.2.2.1.toNat) ∧ (p.1 = 3 → p.2.2.2.length ≤ 255)
/-- its bytes -/
def encItem (p : It) : List Int := if p.1 < 3 then wide p.2.2.1.toNat p.2.1.toNat else if p.1 = 3 then (p.2.2.2.length : Int) :: p.2.2.2 else p.2.2.2
def code (l : List It) : List Int := l.flatMap encItem
theorem code_snoc (l : List It) (j : Nat) (hj : j < l.length) : code (l.take (j + 1)) = code (l.take j) ++ encItem l[j] := by
  unfold code
  rw [List.take_succ_eq_append_getElem hj, List.flatMap_append]
  simp
theorem code_drop (l : List It) (j : Nat) (hj : j < l.length) : code (l.drop j) = encItem l[j] ++ code (l.drop (j + 1)) := by
  unfold code
  rw [List.drop_eq_getElem_cons hj, List.flatMap_cons]

/-- the object that is written, the row that is wanted, where they lie -/
structure WInv (W wr : World) (g : Nat) (v wv : Value) (xs ys : List Int) (sp : Bool) : Prop where
  out : OutIs W.heap.size wr g v xs sp
  own : wr.ownsRow W.heap.size 5 1 wv ys.length (nums .u8 ys)
  ne : wv.ownBlock ≠ some g
  far : ∀ k, wv.ownBlock = some k → v.ownBlock ≠ some k
  bel : Below W.heap.size W wr
theorem WInv.call {W w w1 : World} {g : Nat} {v wv : Value} {xs ys xs' : List Int} {sp sp' : Bool} (h : WInv W w g v wv xs ys sp) (hp : OutPost W.heap.size w g v xs' sp' w1) : ∃ v', WInv W w1 g v' wv xs' ys sp' := by
  obtain ⟨v', hO, hb, hf, hat⟩ := hp
  refine ⟨v', ⟨hO, own_to h.own (fun k hk => hf.2 k (own_lt h.own k hk) (fun e => h.ne (by rw [hk, e])) (fun e => h.far k hk e.symm)), h.ne, fun k hk e => ?_, h.bel.trans hb⟩⟩
  rcases hat with h1 | ⟨b, h1, h2⟩
  · exact h.far k hk (h1 ▸ e)
  · have := own_lt h.own k hk
    rw [h1] at e
    injection e with e
    omega
theorem WInv.below {W w w1 : World} {g : Nat} {v wv : Value} {xs ys : List Int} {sp : Bool} (h : WInv W w g v wv xs ys sp) (hb : Below w.heap.size w w1) : WInv W w1 g v wv xs ys sp :=
  ⟨h.out.below hb, own_to h.own (fun k hk => hb.block k (own_lt h.own k hk)), h.ne, h.far, h.bel.trans (hb.mono h.out.le)⟩
theorem WInv.want {W w w1 : World} {g : Nat} {v wv wv1 : Value} {xs ys zs : List Int} {sp : Bool} (h : WInv W w g v wv xs ys sp) (ho : w1.ownsRow W.heap.size 5 1 wv1 zs.length (nums .u8 zs)) (hb : Below W.heap.size W w1) (hgr : w.grownBy w1 wv.ownBlock)
    (hat : wv1.ownBlock = wv.ownBlock ∨ ∃ b, wv1.ownBlock = some b ∧ w.heap.size ≤ b) : WInv W w1 g v wv1 xs zs sp := by
  have hg := cell_lt h.out.c0
  have e0 : w1.heap[g]? = w.heap[g]? := hgr.block g hg (fun e => h.ne e.symm)
  refine ⟨⟨(cell_of_heap e0).trans h.out.c0, (cell_of_heap e0).trans h.out.c1, (frozen_of_heap e0).trans h.out.f0, (frozen_of_heap e0).trans h.out.f1,
    own_to h.out.own (fun k hk => hgr.block k (own_lt h.out.own k hk) (fun e => h.far k e.symm hk)), h.out.ne, h.out.ge, Nat.le_trans h.out.le hgr.size⟩, ho, ?_, fun k hk e => ?_, hb⟩
  · rcases hat with h1 | ⟨b, h1, h2⟩
    · rw [h1]; exact h.ne
    · rw [h1]; intro e; injection e with e; omega
  · have hl := own_lt h.out.own k e
    rcases hat with h1 | ⟨b, h1, h2⟩
    · exact h.far k (h1 ▸ hk) e
    · rw [h1] at hk; injection hk with hk; omega
theorem WInv.slice {W w : World} {g : Nat} {v wv : Value} {xs ys : List Int} {sp : Bool} (h : WInv W w g v wv xs ys sp) : ∃ A c, wv = .slice A ys.length c := own_slice h.own
theorem winv_new {W w : World} (hb : Below W.heap.size W w) : WInv W (w.alloc (.cells #[.slice none 0 0, .bool false] 27)) w.heap.size (.slice none 0 0) (.slice none 0 0) [] [] false := by
  have h := out_new w
  have hz : (w.alloc (.cells #[.slice none 0 0, .bool false] 27)).ownsRow W.heap.size 5 1 (.slice none 0 0) ([] : List Int).length (nums .u8 []) := ⟨rfl, .inl ⟨rfl, rfl⟩⟩
  exact ⟨⟨h.c0, h.c1, h.f0, h.f1, hz, h.ne, hb.size, Nat.le_trans hb.size h.le⟩, hz, by simp [Value.ownBlock], fun k hk => by simp [Value.ownBlock] at hk, hb.alloc hb.size _⟩
/-- a copy of an item in a block of its own stays where it is -/
theorem keepx {W w w1 : World} {g b : Nat} {v : Value} {xs' : List Int} {sp' : Bool} {o : Obj} (hb : w.heap[b]? = some o) (hg : b ≠ g) (hv : some b ≠ v.ownBlock) (hp : OutPost W.heap.size w g v xs' sp' w1) :
    w1.heap[b]? = some o := by
  obtain ⟨_, _, _, hf, _⟩ := hp
  have hlt : b < w.heap.size := by
    rcases Nat.lt_or_ge b w.heap.size with h' | h'
    · exact h'
    · rw [Array.getElem?_eq_none h'] at hb; cases hb
  rw [hf.2 b hlt hg hv]; exact hb
theorem x_cells {w : World} {b : Nat} {a0 a1 a2 a3 : Value} {t : TypeId} {f : Nat × Nat} (h : w.heap[b]? = some (.cells #[a0, a1, a2, a3] t f)) :
    w.cell? ⟨b, 0, none⟩ = some a0 ∧ w.cell? ⟨b, 1, none⟩ = some a1 ∧ w.cell? ⟨b, 2, none⟩ = some a2 ∧ w.cell? ⟨b, 3, none⟩ = some a3 := by
  unfold World.cell?
  simp only [h]
  exact ⟨rfl, rfl, rfl, rfl⟩
theorem alloc_at (w : World) (o : Obj) : (w.alloc o).heap[w.heap.size]? = some o := by
  show (w.heap.push _)[w.heap.size]? = _
  simp
theorem alloc_below (w : World) (o : Obj) : Below w.heap.size w (w.alloc o) := (Below.refl _ _).alloc (Nat.le_refl _) o
/-- The object's call over the world in which the item's copy lies. -/
theorem WInv.put {W wr w1 : World} {g : Nat} {v wv : Value} {xs ys xs' : List Int} {sp sp' : Bool} {o : Obj} (h : WInv W wr g v wv xs ys sp) (hp : OutPost W.heap.size (wr.alloc o) g v xs' sp' w1) :
    w1.heap[wr.heap.size]? = some o ∧ ∃ v', WInv W w1 g v' wv xs' ys sp' := by
  have h1 := h.below (alloc_below wr o)
  have hg := cell_lt h.out.c0
  refine ⟨keepx (alloc_at wr o) (by omega) (fun e => ?_) hp, h1.call hp⟩
  have := own_lt h.out.own _ e.symm
  omega
/-- what holds at each round of the writing -/
def WRound (W : World) (l : List It) (g : Nat) (j : Nat) (v4 v5 : Value) (wr : World) : Prop :=
  ∃ v xs ys sp, WInv W wr g v v4 xs ys sp ∧ v5 = .bool sp ∧ xs.length ≤ j * 20010 ∧ ys.length ≤ j * 20010 ∧ (sp = false → xs = code (l.take j) ∧ ys = code (l.take j) ∧ ∀ p ∈ l.take j, okItem p)
theorem wround_ok {W wa : World} {l : List It} {g j : Nat} {v va : Value} {xs ys : List Int} {sp : Bool} {p : It} (hj : j + 1 ≤ l.length) (hp : l[j] = p) (h : WInv W wa g v va (xs ++ encItem p) (ys ++ encItem p) sp) (hok : okItem p) (hl : (encItem p).length ≤ 20010)
    (hxy : xs.length ≤ j * 20010 ∧ ys.length ≤ j * 20010) (hs : sp = false → xs = code (l.take j) ∧ ys = code (l.take j) ∧ ∀ p ∈ l.take j, okItem p) : WRound W l g (j + 1) va (.bool sp) wa := by
  subst hp
  refine ⟨v, _, _, sp, h, rfl, by rw [List.length_append]; omega, by rw [List.length_append]; omega, fun hsp => ?_⟩
  obtain ⟨h1, h2, h3⟩ := hs hsp
  refine ⟨by rw [h1, code_snoc l j (by omega)], by rw [h2, code_snoc l j (by omega)], fun p hp => ?_⟩
  rw [List.take_succ_eq_append_getElem (by omega), List.mem_append, List.mem_singleton] at hp
  rcases hp with hp | rfl
  · exact h3 p hp
  · exact hok
/-- from a spoilt item on nothing is said -/
theorem wround_bad {W wa : World} {l : List It} {g j : Nat} {v va : Value} {xs ys : List Int} (h : WInv W wa g v va xs ys true) (hx : xs.length ≤ (j + 1) * 20010) (hy : ys.length ≤ (j + 1) * 20010) : WRound W l g (j + 1) va (.bool true) wa :=
  ⟨v, xs, ys, true, h, rfl, hx, hy, fun h => by cases h⟩
theorem enc_num {k : Int} {n z : Nat} {B : List Int} (hk : k < 3) (h : 1 ≤ (z : Int) ∧ (z : Int) ≤ 6 ∧ 0 ≤ (n : Int) ∧ (n : Int) < 256 ^ (z : Int).toNat) : encItem (k, (n : Int), (z : Int), B) = wide z n ∧ okItem (k, (n : Int), (z : Int), B) ∧ (encItem (k, (n : Int), (z : Int), B)).length ≤ 20010 := by
  have e : encItem (k, (n : Int), (z : Int), B) = wide z n := by simp [encItem, hk]
  refine ⟨e, ⟨fun _ => h, fun h3 => ?_⟩, by rw [e, wide_length]; omega⟩
  simp at h3; omega
set_option maxRecDepth 100000 in
theorem not_ok {z n : Int} (h : ¬ (1 ≤ z ∧ z ≤ 6 ∧ 0 ≤ n ∧ n < 256 ^ z.toNat)) : z < 1 ∨ 6 < z ∨ n < 0 ∨ (1 ≤ z ∧ z ≤ 6 ∧ (256 : Int) ^ z.toNat ≤ n) := by omega
theorem grow {x j : Nat} (h : x ≤ j * 20010) : x ≤ (j + 1) * 20010 := Nat.le_trans h (Nat.mul_le_mul_right _ (Nat.le_succ j))
set_option maxRecDepth 100000 in
theorem over_nat {z n : Int} (hz : ¬ z < 1) (h6 : ¬ 6 < z) (hn : ¬ n < 0) (h : z < 1 ∨ 6 < z ∨ n < 0 ∨ (1 ≤ z ∧ z ≤ 6 ∧ (256 : Int) ^ z.toNat ≤ n)) : ∃ z' : Nat, z = (z' : Int) ∧ 1 ≤ z' ∧ z' ≤ 6 ∧ (256 : Int) ^ z' ≤ n := by
  refine ⟨z.toNat, by omega, by omega, by omega, ?_⟩
  rcases h with h | h | h | h
  · exact absurd h hz
  · exact absurd h h6
  · exact absurd h hn
  · exact h.2.2
theorem enc_raw {k n z : Int} {B : List Int} (hk : ¬ k < 3) (h3 : ¬ k = 3) (hB : B.length ≤ 20000) : encItem (k, n, z, B) = B ∧ okItem (k, n, z, B) ∧ (encItem (k, n, z, B)).length ≤ 20010 := by
  have e : encItem (k, n, z, B) = B := by simp [encItem, hk, h3]
  exact ⟨e, ⟨fun h => absurd h hk, fun h => absurd h h3⟩, by rw [e]; exact Nat.le_trans hB (by decide)⟩
end Go.Proofs.Ytnoebhnkkigkjaa.Codec

/- What an argument's data are, kind by kind: slices of slices, of structs, of texts. -/
import Derived.Test.YtnoebhnkkigkjaaWWords
import Derived.ChangeArms
import Derived.DataReads
namespace Gy
open Go Go.RowKit Go.Proofs.YtnoebhnkkigkjaaW.PrintWords
section
variable {P : Program}

theorem list_of {α : Type} (n : Nat) (Q : Nat → α → Prop) (h : ∀ i, i < n → ∃ a, Q i a) : ∃ xs : List α, xs.length = n ∧ ∀ j p, xs[j]? = some p → Q j p := by
  induction n with
  | zero => exact ⟨[], rfl, fun j p h => by simp at h⟩
  | succ n ih =>
    obtain ⟨xs, hl, hx⟩ := ih (fun i hi => h i (by omega))
    obtain ⟨a, ha⟩ := h n (by omega)
    refine ⟨xs ++ [a], by simp [hl], fun j p hj => ?_⟩
    rcases Nat.lt_or_ge j xs.length with hj' | hj'
    · rw [List.getElem?_append_left hj'] at hj
      exact hx j p hj
    · rw [List.getElem?_append_right hj'] at hj
      have h0 : j - xs.length = 0 := by
        rcases Nat.eq_zero_or_pos (j - xs.length) with h | h
        · exact h
        · rw [List.getElem?_eq_none (by simp; omega)] at hj; exact absurd hj (by simp)
      rw [h0] at hj
      simp at hj
      subst hj
      have : j = n := by omega
      subst this
      exact ha

/-- Whatever can be read as a value of type t is of the kind d, and good. -/
def Opens (P : Program) (t : TypeId) {α : Type} (d : Kd α) (good : α → Prop) : Prop :=
  P.cellsOf t = d.sz ∧ ∀ (H : Type) (enc : TypeId × Value → H) (W : World) (base : Nat) (held : Bool) (fuel : Nat) (cs : List Value) (x : DataW H × List MemPlace),
    DataW.trod enc P W base (fun _ => true) held fuel t cs = some x → ∃ a, d.K W a cs ∧ good a

theorem Opens.int {t : TypeId} {k : IntKind} (ht : P.underlying t = some (.int k)) (hc : P.cellsOf t = 1) : Opens P t (Kd.int k) (fun n => (Lit.int k n).wf = true) := by
  refine ⟨hc, fun H enc W base held fuel cs x h => ?_⟩
  cases fuel with
  | zero => simp [DataW.trod] at h
  | succ n =>
    unfold DataW.trod at h
    rw [ht] at h
    split at h <;> simp_all
    exact ⟨_, rfl, h.1.2⟩
theorem Opens.bool {t : TypeId} (ht : P.underlying t = some .bool) (hc : P.cellsOf t = 1) : Opens P t Kd.bool (fun _ => True) := by
  refine ⟨hc, fun H enc W base held fuel cs x h => ?_⟩
  cases fuel with
  | zero => simp [DataW.trod] at h
  | succ n =>
    unfold DataW.trod at h
    rw [ht] at h
    split at h <;> first | exact ⟨_, rfl, trivial⟩ | simp_all
theorem Opens.string {t : TypeId} (ht : P.underlying t = some .string) (hc : P.cellsOf t = 1) : Opens P t Kd.string (fun s => s.size ≤ maxLen) := by
  refine ⟨hc, fun H enc W base held fuel cs x h => ?_⟩
  cases fuel with
  | zero => simp [DataW.trod] at h
  | succ n =>
    unfold DataW.trod at h
    rw [ht] at h
    split at h <;> simp_all
    exact ⟨_, rfl, h.1⟩
theorem Opens.slice {t e : TypeId} {α : Type} {d : Kd α} {good : α → Prop} (ht : P.underlying t = some (.slice e)) (hc : P.cellsOf t = 1) (he : Opens P e d good) :
    Opens P t (Kd.slice e d) (fun xs => xs.length ≤ 9223372036854775807 ∧ ∀ x ∈ xs, good x) := by
  refine ⟨hc, fun H enc W base held fuel cs x h => ?_⟩
  rcases DataW.trod_slice ht h with ⟨rfl, _⟩ | ⟨a, len, cap, elems, rest, n, _, rfl, _, hb, hl, hm, hlen, hel, _, _⟩
  · exact ⟨[], ⟨none, 0, rfl, Nat.le_refl _, rfl, by simp, fun h => absurd h (by simp)⟩, by simp, fun x hx => by simp at hx⟩
  · unfold maxLen at hm
    obtain ⟨xs, hxl, hx⟩ := list_of len (fun j p => (∃ c, c.length = d.sz ∧ d.K W p c ∧ ∀ i u, c[i]? = some u → W.cell? (a.add (j * d.sz + i)) = some u) ∧ good p) (fun i hi => by
      have h1 := hel i hi
      rw [he.1, List.getElem?_eq_getElem (by omega)] at h1
      obtain ⟨cs', h2, h3⟩ := Option.bind_eq_some_iff.1 h1
      obtain ⟨_, hl2, hc2⟩ := World.cells?_some h2
      obtain ⟨p, hp, hg⟩ := he.2 H enc W base held n cs' _ h3
      refine ⟨p, ⟨cs', hl2, hp, fun j u hj => ?_⟩, hg⟩
      have hjl : j < cs'.length := by
        rcases Nat.lt_or_ge j cs'.length with h | h
        · exact h
        · rw [List.getElem?_eq_none h] at hj; exact absurd hj (by simp)
      have h4 := hc2 j (by omega)
      rw [hj] at h4
      rw [← h4]
      congr 1
      unfold Addr.add
      split <;> split <;> simp_all <;> (try omega) <;> (try (split <;> simp_all <;> omega)))
    refine ⟨xs, ⟨some a, cap, by rw [hxl], by omega, rfl, by omega, fun _ => ⟨a, rfl, fun j p hj => (hx j p hj).1⟩⟩, by omega, fun x hx' => ?_⟩
    obtain ⟨j, hj⟩ := List.mem_iff_getElem?.1 hx'
    exact (hx j x hj).2

/-- Fields from the place off on. -/
def OpensAt (P : Program) (fs : List Field) (off : Nat) {α : Type} (d : Kd α) (good : α → Prop) : Prop :=
  ∀ (H : Type) (enc : TypeId × Value → H) (W : World) (base : Nat) (held : Bool) (n : Nat) (cs : List Value),
    (∀ f ∈ fs, ∃ y, DataW.trod enc P W base (fun _ => true) held n f.type ((cs.drop f.offset).take (P.cellsOf f.type)) = some y) → cs.length = off + d.sz → ∃ a, d.K W a (cs.drop off) ∧ good a
theorem OpensAt.one {f : Field} {off : Nat} {α : Type} {d : Kd α} {good : α → Prop} (ho : f.offset = off) (hf : Opens P f.type d good) : OpensAt P [f] off d good := by
  intro H enc W base held n cs h hl
  obtain ⟨y, hy⟩ := h f (by simp)
  rw [ho, hf.1, List.take_of_length_le (by rw [List.length_drop]; omega)] at hy
  exact hf.2 H enc W base held n _ _ hy
theorem OpensAt.cons {f : Field} {fs : List Field} {off : Nat} {α β : Type} {d : Kd α} {d' : Kd β} {good : α → Prop} {good' : β → Prop} (ho : f.offset = off) (hf : Opens P f.type d good) (hfs : OpensAt P fs (off + d.sz) d' good') :
    OpensAt P (f :: fs) off (Kd.pair d d') (fun x => good x.1 ∧ good' x.2) := by
  intro H enc W base held n cs h hl
  obtain ⟨y, hy⟩ := h f (by simp)
  rw [ho, hf.1] at hy
  obtain ⟨a, ha, hga⟩ := hf.2 H enc W base held n _ _ hy
  have hl' : cs.length = off + (d.sz + d'.sz) := hl
  obtain ⟨b, hb, hgb⟩ := hfs H enc W base held n cs (fun g hg => h g (by simp [hg])) (by omega)
  refine ⟨(a, b), ⟨_, _, ?_, ha, hb⟩, hga, hgb⟩
  rw [← List.drop_drop, List.take_append_drop]
theorem Opens.struct {t : TypeId} {fs : Array Field} {α : Type} {d : Kd α} {good : α → Prop} (ht : P.underlying t = some (.struct fs)) (hc : P.cellsOf t = d.sz) (hfs : OpensAt P fs.toList 0 d good) : Opens P t d good := by
  refine ⟨hc, fun H enc W base held fuel cs x h => ?_⟩
  obtain ⟨xs, n, _, _, hl, hxl, hx⟩ := DataW.trod_struct ht h
  have h2 := hfs H enc W base held n cs (fun f hf => by
    obtain ⟨i, hi, e⟩ := List.mem_iff_getElem.1 hf
    have h3 := hx i f (by rw [← Array.getElem?_toList, List.getElem?_eq_getElem hi, e])
    exact ⟨_, h3.trans (List.getElem?_eq_getElem (by rw [hxl]; simpa using hi))⟩) (by omega)
  rw [List.drop_zero] at h2
  exact h2
theorem Opens.iso {t : TypeId} {α β : Type} {d : Kd α} {good : α → Prop} (h : Opens P t d good) (f : β → α) (g : α → β) (hg : ∀ a, f (g a) = a) : Opens P t (Kd.iso d f) (fun b => good (f b)) := by
  refine ⟨h.1, fun H enc W base held fuel cs x hx => ?_⟩
  obtain ⟨a, ha, hga⟩ := h.2 H enc W base held fuel cs x hx
  exact ⟨g a, by show d.K W (f (g a)) cs; rw [hg]; exact ha, by show good (f (g a)); rw [hg]; exact hga⟩
/-- An argument that is a slice. -/
theorem Opens.arg {t e : TypeId} {α : Type} {d : Kd α} {good : List α → Prop} (h : Opens P t (Kd.slice e d) good) {H : Type} {enc : TypeId × Value → H} {W : World} {base : Nat} {held : Bool} {A : Option Addr} {n c : Nat} {x : DataW H} {ps : List MemPlace}
    (hx : DataW.Trod enc P W base (fun _ => true) held t (.slice A n c) x ps) : ∃ xs : List α, n = xs.length ∧ xs.length ≤ c ∧ d.C W A xs.length xs ∧ good xs := by
  obtain ⟨fuel, hf⟩ := hx
  obtain ⟨xs, ⟨A', c', e1, hl, hC⟩, hg⟩ := h.2 H enc W base held fuel _ _ hf
  have e2 : (.slice A n c : Value) = .slice A' xs.length c' := by simpa [Value.cells] using e1
  injection e2 with e3 e4 e5
  subst e3 e5
  exact ⟨xs, e4, hl, hC, hg⟩
end
end Gy

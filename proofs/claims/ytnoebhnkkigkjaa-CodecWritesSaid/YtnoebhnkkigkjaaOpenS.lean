/- What an argument's data are, kind by kind, with the bounds of what may lie in memory. -/
import Derived.Test.YtnoebhnkkigkjaaOpen
import Derived.SizedLaws
namespace Gy
open Go Go.RowKit Go.Proofs.YtnoebhnkkigkjaaW.PrintWords
section
variable {P : Program}

/-- Whatever can be read as a value of type t, none of its rows beyond what memory reaches, is of the kind d, and good. -/
def SOpens (P : Program) (t : TypeId) {α : Type} (d : Kd α) (good : α → Prop) : Prop :=
  P.cellsOf t = d.sz ∧ ∀ (H : Type) (enc : TypeId × Value → H) (W : World) (base : Nat) (held : Bool) (fuel : Nat) (cs : List Value) (x : DataW H × List MemPlace),
    DataW.trod enc P W base (fun _ => true) held fuel t cs = some x → (∀ n ∈ x.1.weights P t, n ≤ reachBytes) → ∃ a, d.K W a cs ∧ good a
theorem Opens.sized {t : TypeId} {α : Type} {d : Kd α} {good : α → Prop} (h : Opens P t d good) : SOpens P t d good := ⟨h.1, fun H enc W base held fuel cs x hx _ => h.2 H enc W base held fuel cs x hx⟩
theorem weights_all {H : Type} {e : TypeId} : ∀ {ds : List (DataW H)} {d : DataW H}, d ∈ ds → ∀ n ∈ d.weights P e, n ∈ DataW.weightsAll P e ds
  | d0 :: ds, d, hd, n, hn => by
    simp only [DataW.weightsAll, List.mem_append]
    rcases List.mem_cons.1 hd with rfl | hd
    · exact .inl hn
    · exact .inr (weights_all hd n hn)
theorem SOpens.string {t : TypeId} (ht : P.underlying t = some .string) (hc : P.cellsOf t = 1) : SOpens P t Kd.string (fun s => s.size ≤ reachBytes) := by
  refine ⟨hc, fun H enc W base held fuel cs x h hs => ?_⟩
  cases fuel with
  | zero => simp [DataW.trod] at h
  | succ n =>
    unfold DataW.trod at h
    rw [ht] at h
    split at h <;> simp_all
    obtain ⟨_, rfl⟩ := h
    refine ⟨_, rfl, ?_⟩
    have := hs
    simpa [DataW.weights] using this
theorem SOpens.slice {t e : TypeId} {α : Type} {d : Kd α} {good : α → Prop} (B : Nat) (hB : P.bytesOf e = B) (ht : P.underlying t = some (.slice e)) (hc : P.cellsOf t = 1) (he : SOpens P e d good) :
    SOpens P t (Kd.slice e d) (fun xs => xs.length * B ≤ reachBytes ∧ xs.length ≤ 9223372036854775807 ∧ ∀ x ∈ xs, good x) := by
  refine ⟨hc, fun H enc W base held fuel cs x h hs => ?_⟩
  rcases DataW.trod_slice ht h with ⟨rfl, _⟩ | ⟨a, len, cap, elems, rest, n, _, rfl, hx0, hb, hl, hm, hlen, hel, _, _⟩
  · exact ⟨[], ⟨none, 0, rfl, Nat.le_refl _, rfl, by simp, fun h => absurd h (by simp)⟩, by simp, by simp, fun x hx => by simp at hx⟩
  · unfold maxLen at hm
    rw [hx0] at hs
    simp only [DataW.weights, ht] at hs
    have hs0 := hs _ List.mem_cons_self
    have hsi : ∀ y ∈ elems, ∀ n ∈ y.1.weights P e, n ≤ reachBytes := fun y hy n hn => hs n (List.mem_cons_of_mem _ (List.mem_append_left _ (weights_all (List.mem_map.2 ⟨y, hy, rfl⟩) n hn)))
    obtain ⟨xs, hxl, hx⟩ := list_of len (fun j p => (∃ c, c.length = d.sz ∧ d.K W p c ∧ ∀ i u, c[i]? = some u → W.cell? (a.add (j * d.sz + i)) = some u) ∧ good p) (fun i hi => by
      have h1 := hel i hi
      rw [he.1, List.getElem?_eq_getElem (by omega)] at h1
      obtain ⟨cs', h2, h3⟩ := Option.bind_eq_some_iff.1 h1
      obtain ⟨_, hl2, hc2⟩ := World.cells?_some h2
      obtain ⟨p, hp, hg⟩ := he.2 H enc W base held n cs' _ h3 (hsi _ (List.getElem_mem _))
      refine ⟨p, ⟨cs', hl2, hp, fun j u hj => ?_⟩, hg⟩
      have hjl : j < cs'.length := by
        rcases Nat.lt_or_ge j cs'.length with h | h
        · exact h
        · rw [List.getElem?_eq_none h] at hj; exact absurd hj (by simp)
      have h4 := hc2 j (by omega)
      rw [hj] at h4
      rw [← h4]
      congr 1
      unfold Addr.add
      split <;> split <;> simp_all <;> (try omega) <;> (try (split <;> simp_all <;> omega)))
    refine ⟨xs, ⟨some a, cap, by rw [hxl], by omega, rfl, by omega, fun _ => ⟨a, rfl, fun j p hj => (hx j p hj).1⟩⟩, ?_, by omega, fun x hx' => ?_⟩
    · rw [hB] at hs0
      rw [List.length_map, List.length_map] at hs0
      refine Nat.le_trans (Nat.mul_le_mul_right B ?_) hs0
      omega
    · obtain ⟨j, hj⟩ := List.mem_iff_getElem?.1 hx'
      exact (hx j x hj).2
/-- Fields from the place off on. -/
def SOpensAt (P : Program) (fs : List Field) (off : Nat) {α : Type} (d : Kd α) (good : α → Prop) : Prop :=
  ∀ (H : Type) (enc : TypeId × Value → H) (W : World) (base : Nat) (held : Bool) (n : Nat) (cs : List Value),
    (∀ f ∈ fs, ∃ y, DataW.trod enc P W base (fun _ => true) held n f.type ((cs.drop f.offset).take (P.cellsOf f.type)) = some y ∧ ∀ m ∈ y.1.weights P f.type, m ≤ reachBytes) → cs.length = off + d.sz → ∃ a, d.K W a (cs.drop off) ∧ good a
theorem SOpensAt.one {f : Field} {off : Nat} {α : Type} {d : Kd α} {good : α → Prop} (ho : f.offset = off) (hf : SOpens P f.type d good) : SOpensAt P [f] off d good := by
  intro H enc W base held n cs h hl
  obtain ⟨y, hy, hw⟩ := h f (by simp)
  rw [ho, hf.1, List.take_of_length_le (by rw [List.length_drop]; omega)] at hy
  exact hf.2 H enc W base held n _ _ hy hw
theorem SOpensAt.cons {f : Field} {fs : List Field} {off : Nat} {α β : Type} {d : Kd α} {d' : Kd β} {good : α → Prop} {good' : β → Prop} (ho : f.offset = off) (hf : SOpens P f.type d good) (hfs : SOpensAt P fs (off + d.sz) d' good') :
    SOpensAt P (f :: fs) off (Kd.pair d d') (fun x => good x.1 ∧ good' x.2) := by
  intro H enc W base held n cs h hl
  obtain ⟨y, hy, hw⟩ := h f (by simp)
  rw [ho, hf.1] at hy
  obtain ⟨a, ha, hga⟩ := hf.2 H enc W base held n _ _ hy hw
  have hl' : cs.length = off + (d.sz + d'.sz) := hl
  obtain ⟨b, hb, hgb⟩ := hfs H enc W base held n cs (fun g hg => h g (by simp [hg])) (by omega)
  refine ⟨(a, b), ⟨_, _, ?_, ha, hb⟩, hga, hgb⟩
  rw [← List.drop_drop, List.take_append_drop]
theorem SOpens.struct {t : TypeId} {fs : Array Field} {α : Type} {d : Kd α} {good : α → Prop} (ht : P.underlying t = some (.struct fs)) (hc : P.cellsOf t = d.sz) (hfs : SOpensAt P fs.toList 0 d good) : SOpens P t d good := by
  refine ⟨hc, fun H enc W base held fuel cs x h hs => ?_⟩
  obtain ⟨xs, n, _, hx0, hl, hxl, hx⟩ := DataW.trod_struct ht h
  rw [hx0] at hs
  simp only [DataW.weights, ht] at hs
  have h2 := hfs H enc W base held n cs (fun f hf => by
    obtain ⟨i, hi, e⟩ := List.mem_iff_getElem.1 hf
    have h3 := hx i f (by rw [← Array.getElem?_toList, List.getElem?_eq_getElem hi, e])
    have hi' : i < xs.length := by rw [hxl]; simpa using hi
    refine ⟨_, h3.trans (List.getElem?_eq_getElem hi'), fun m hm => hs m ?_⟩
    exact DataW.weights_mem_each (j := i) (t := f.type) (d := xs[i].1) (by rw [List.getElem?_map, List.getElem?_eq_getElem hi, e]; rfl) (by rw [List.getElem?_map, List.getElem?_eq_getElem hi']; rfl) m hm) (by omega)
  rw [List.drop_zero] at h2
  exact h2
theorem SOpens.iso {t : TypeId} {α β : Type} {d : Kd α} {good : α → Prop} (h : SOpens P t d good) (f : β → α) (g : α → β) (hg : ∀ a, f (g a) = a) : SOpens P t (Kd.iso d f) (fun b => good (f b)) := by
  refine ⟨h.1, fun H enc W base held fuel cs x hx hs => ?_⟩
  obtain ⟨a, ha, hga⟩ := h.2 H enc W base held fuel cs x hx hs
  exact ⟨g a, by show d.K W (f (g a)) cs; rw [hg]; exact ha, by show good (f (g a)); rw [hg]; exact hga⟩
/-- An argument that is a slice. -/
theorem SOpens.arg {t e : TypeId} {α : Type} {d : Kd α} {good : List α → Prop} (h : SOpens P t (Kd.slice e d) good) {H : Type} {enc : TypeId × Value → H} {W : World} {base : Nat} {held : Bool} {A : Option Addr} {n c : Nat} {x : DataW H} {ps : List MemPlace}
    (hx : DataW.Trod enc P W base (fun _ => true) held t (.slice A n c) x ps) (hs : ∀ n ∈ x.weights P t, n ≤ reachBytes) : ∃ xs : List α, n = xs.length ∧ xs.length ≤ c ∧ d.C W A xs.length xs ∧ good xs := by
  obtain ⟨fuel, hf⟩ := hx
  obtain ⟨xs, ⟨A', c', e1, hl, hC⟩, hg⟩ := h.2 H enc W base held fuel _ _ hf hs
  have e2 : (.slice A n c : Value) = .slice A' xs.length c' := by simpa [Value.cells] using e1
  injection e2 with e3 e4 e5
  subst e3 e5
  exact ⟨xs, e4, hl, hC, hg⟩
theorem sized_at {H : Type} {ts : List TypeId} {ds : List (DataW H)} (h : (DataW.weightsEach P ts ds).all (· ≤ reachBytes) = true) (j : Nat) {t : TypeId} {d : DataW H} (ht : ts[j]? = some t) (hd : ds[j]? = some d) : ∀ n ∈ d.weights P t, n ≤ reachBytes :=
  fun n hn => by simpa using List.all_eq_true.1 h n (DataW.weights_mem_each ht hd n hn)
end
end Gy

/- The walks over package codec, third part: an In. -/
import Derived.Test.YtnoebhnkkigkjaaCodec2
namespace Go.Proofs.Ytnoebhnkkigkjaa.Codec
open Go Go.RowKit Go.Proofs.YtnoebhnkkigkjaaW.PrintWords Go.Proofs.YtnoebhnkkigkjaaW.PrintMore

/-- all but the block g stays -/
structure KeepG (w w' : World) (g : Nat) : Prop where
  os : w'.os = w.os
  tape : w'.tape = w.tape
  output : w'.output = w.output
  size : w.heap.size ≤ w'.heap.size
  block : ∀ k, k < w.heap.size → k ≠ g → w'.heap[k]? = w.heap[k]?
theorem KeepG.refl (w : World) (g : Nat) : KeepG w w g := ⟨rfl, rfl, rfl, Nat.le_refl _, fun _ _ _ => rfl⟩
theorem KeepG.of_below {w w' : World} (h : Below w.heap.size w w') (g : Nat) : KeepG w w' g := ⟨h.os, h.tape, h.output, h.size, fun k hk _ => h.block k hk⟩
theorem KeepG.set {w w' : World} {g : Nat} (h : KeepG w w' g) (o : Nat) (v : Value) : KeepG w (w'.setCell ⟨g, o, none⟩ v) g :=
  ⟨h.os, h.tape, h.output, by rw [set_size]; exact h.size, fun k hk hn => by rw [set_heap _ _ _ _ _ hn]; exact h.block k hk hn⟩
theorem KeepG.trans {w w1 w2 : World} {g : Nat} (h : KeepG w w1 g) (k : KeepG w1 w2 g) : KeepG w w2 g :=
  ⟨k.os.trans h.os, k.tape.trans h.tape, k.output.trans h.output, Nat.le_trans h.size k.size, fun i hi hn => (k.block i (Nat.lt_of_lt_of_le hi h.size) hn).trans (h.block i hi hn)⟩
theorem KeepG.below {w w' : World} {g base : Nat} (h : KeepG w w' g) (hb : base ≤ g) (hs : base ≤ w.heap.size) : Below base w w' :=
  ⟨h.os, h.tape, h.output, h.size, fun k hk => h.block k (Nat.lt_of_lt_of_le hk hs) (by omega)⟩

structure InIs (w : World) (g : Nat) (A : Option Addr) (c : Nat) (ys : List Int) (bad : Bool) : Prop where
  c0 : w.cell? ⟨g, 0, none⟩ = some (.slice A ys.length c)
  c1 : w.cell? ⟨g, 1, none⟩ = some (.bool bad)
  f0 : w.frozen? ⟨g, 0, none⟩ = false
  f1 : w.frozen? ⟨g, 1, none⟩ = false
  le : ys.length ≤ c
  len : ys.length ≤ 140737488355328
  reads : ReadsInt w .u8 A ys.length ys
  ne : ∀ ad, A = some ad → ad.block ≠ g
/-- some ys: these bytes are left; none: something wasn't there -/
def InSt (w : World) (g : Nat) : Option (List Int) → Prop
  | some ys => ∃ A c, InIs w g A c ys false
  | none => InIs w g none 0 [] true

theorem reads_keep {w w' : World} {g : Nat} {k : IntKind} {A : Option Addr} {n : Nat} {xs : List Int} (h : ReadsInt w k A n xs) (hne : ∀ ad, A = some ad → ad.block ≠ g) (hk : KeepG w w' g) : ReadsInt w' k A n xs := by
  refine ⟨h.1, h.2.1, fun hn => ?_⟩
  obtain ⟨ad, e, hc⟩ := h.2.2 hn
  refine ⟨ad, e, fun j hj => ?_⟩
  have h1 := hc j hj
  have hlt : (ad.add j).block < w.heap.size := by
    rcases Nat.lt_or_ge (ad.add j).block w.heap.size with h' | h'
    · exact h'
    · simp [World.cell?, Array.getElem?_eq_none h'] at h1
  have hb : (ad.add j).block = ad.block := by unfold Addr.add; split <;> rfl
  have e2 := hk.block _ hlt (by rw [hb]; exact hne ad e)
  unfold World.cell? at h1 ⊢
  rw [e2]; exact h1
theorem reads_below {w w' : World} {k : IntKind} {A : Option Addr} {n : Nat} {xs : List Int} (h : ReadsInt w k A n xs) (hb : Below w.heap.size w w') : ReadsInt w' k A n xs := by
  refine ⟨h.1, h.2.1, fun hn => ?_⟩
  obtain ⟨ad, e, hc⟩ := h.2.2 hn
  refine ⟨ad, e, fun j hj => ?_⟩
  have h1 := hc j hj
  have hlt : (ad.add j).block < w.heap.size := by
    rcases Nat.lt_or_ge (ad.add j).block w.heap.size with h' | h'
    · exact h'
    · simp [World.cell?, Array.getElem?_eq_none h'] at h1
  rw [hb.cell hlt]; exact h1
theorem InIs.below {w w' : World} {g : Nat} {A : Option Addr} {c : Nat} {ys : List Int} {bad : Bool} (h : InIs w g A c ys bad) (hb : Below w.heap.size w w') : InIs w' g A c ys bad := by
  have e := hb.block g (cell_lt h.c0)
  exact ⟨(cell_of_heap e).trans h.c0, (cell_of_heap e).trans h.c1, (frozen_of_heap e).trans h.f0, (frozen_of_heap e).trans h.f1, h.le, h.len, reads_below h.reads hb, h.ne⟩
theorem InIs.rest {w : World} {g : Nat} {A A' : Option Addr} {c c' : Nat} {ys zs : List Int} {bad : Bool} (h : InIs w g A c ys bad) (hl : zs.length ≤ c') (hm : zs.length ≤ 140737488355328) (hr : ReadsInt w .u8 A' zs.length zs) (hn : ∀ ad, A' = some ad → ad.block ≠ g) :
    InIs (w.setCell ⟨g, 0, none⟩ (.slice A' zs.length c')) g A' c' zs bad :=
  ⟨Gy.cell_set h.c0 _, by rw [set_other _ _ _ _ _ (by omega)]; exact h.c1, by rw [set_frozen]; exact h.f0, by rw [set_frozen]; exact h.f1, hl, hm, reads_keep hr hn ((KeepG.refl w g).set 0 _), hn⟩
theorem InIs.spoil {w : World} {g : Nat} {A : Option Addr} {c : Nat} {ys : List Int} {bad : Bool} (h : InIs w g A c ys bad) : InIs ((w.setCell ⟨g, 0, none⟩ (.slice none 0 0)).setCell ⟨g, 1, none⟩ (.bool true)) g none 0 [] true := by
  have h1 : InIs (w.setCell ⟨g, 0, none⟩ (.slice none 0 0)) g none 0 [] bad := h.rest (zs := []) (by simp) (by simp) ⟨rfl, by simp, fun h => absurd h (by simp)⟩ (fun ad e => by cases e)
  exact ⟨by rw [set_other _ _ _ _ _ (by omega)]; exact h1.c0, Gy.cell_set h1.c1 _, by rw [set_frozen]; exact h1.f0, by rw [set_frozen]; exact h1.f1, h1.le, h1.len, ⟨rfl, by simp, fun h => absurd h (by simp)⟩, h1.ne⟩

/-- what Raw answers where the bytes are there -/
def RawPost (w : World) (g : Nat) (zs ys : List Int) (e : Ending) (w' : World) : Prop :=
  ∃ v, e = .returned v ∧ w'.ownsRow w.heap.size 5 1 v zs.length (nums .u8 zs) ∧ InSt w' g (some ys) ∧ KeepG w w' g
/-- s[m:] and where it lies -/
theorem cut_at {P : Program} {k : IntKind} (t e : TypeId) {i : TypeInfo} (ht : P.underlying t = some (.slice e)) (hi : P.info? e = some i) (hsz : i.size = 1) (A : Option Addr) (c : Nat) (xs : List Int) (m : Nat) (hm : m ≤ xs.length) (hc : xs.length ≤ c) :
    ∃ A' : Option Addr, (∀ W : World, (Instr.slice t (.slice A xs.length c) (some (.int .i64 (m : Int))) none none).run P W = .ok (.slice A' (xs.length - m) (c - m)) W) ∧
      (∀ w : World, ReadsInt w k A xs.length xs → ReadsInt w k A' (xs.drop m).length (xs.drop m)) ∧ ∀ g, (∀ ad, A = some ad → ad.block ≠ g) → ∀ ad, A' = some ad → ad.block ≠ g := by
  refine ⟨if c = m then A else A.map (·.add m), fun W => ?_, fun w h => ?_, fun g h ad e => ?_⟩
  · have hel : P.elem t = e := by simp [Program.elem, ht]
    have hu : P.underlying t = some (.slice (P.elem t)) := by rw [hel]; exact ht
    rw [run_slice_l W t A xs.length c hu .i64 (m : Int) (Int.natCast_nonneg _) (by omega), hel]
    simp [sizeOf, typeInfo, hi, hsz, sliced, Result.andThen]
  · rw [List.length_drop]; exact h.drop_ m hm hc
  · split at e
    · exact h ad e
    · obtain ⟨ad', e1, rfl⟩ := Option.map_eq_some_iff.1 e
      have hb : (ad'.add m).block = ad'.block := by unfold Addr.add; split <;> rfl
      rw [hb]; exact h ad' e1
set_option maxHeartbeats 2000000 in
set_option maxRecDepth 100000 in
theorem inraw_ok (g : Nat) (A : Option Addr) (c : Nat) (ys : List Int) (n : Nat) (w : World) (hI : InIs w g A c ys false) (hn : n ≤ ys.length) :
    Calls Try.prog 20 #[.pointer (some ⟨g, 0, none⟩), .int .i64 n] w fun e w' => RawPost w g (ys.take n) (ys.drop n) e w' := by
  have k0 := hI.c0
  have k1 := hI.c1
  have f0 := hI.f0
  have hg := cell_lt k0
  have hlen := hI.len
  obtain ⟨i0, hi, hzz⟩ := Option.map_eq_some_iff.1 info_u8
  simp only [Prod.mk.injEq] at hzz
  obtain ⟨hz0, hz1, hz2⟩ := hzz
  obtain ⟨s1, s2, s3⟩ := print_take_int (P := Try.prog) (k := .u8) 25 5 Try.underlying25 hi hz1 A c ys (n : Int) (by omega) (by omega) hI.le
  obtain ⟨A', d1, d2, d3⟩ := cut_at (P := Try.prog) (k := .u8) 25 5 Try.underlying25 hi hz1 A c ys n hn hI.le
  have t1 : decide ((n : Int) < 0) = false := by simp
  have t2 : decide ((ys.length : Int) < (n : Int)) = false := by simp; omega
  have t3 : decide (ys.length < n) = false := by simp; omega
  have HI := Lib.hid hI
  have HT0 := s2 w hI.reads
  rw [Int.toNat_natCast] at s1 HT0
  have hlt : (ys.take n).length = n := by simp; omega
  have hld : (ys.drop n).length = ys.length - n := by simp
  rw [hlt] at HT0
  have HT := Lib.hid HT0
  have HL0 : (ys.take n).length ≤ 140737488355328 := by omega
  have HL := Lib.hid HL0
  have HD := Lib.hid (And.intro d2 d3)
  rw [hlt] at s1
  have HLT := Lib.hid (And.intro hlt hld)
  clear hI s2 s3 d2 d3 HT0 HL0 hlt hld hi hz0 hz1 hz2
  go_enter Try.func20, Try.ntmps20
  go_wp2_with (go_at_call 36; (with_reducible refine (clone_calls _ _ _ (ys.take n) _ HT.out HL.out).mono ?_); rintro e w1 ⟨v1, rfl, h1, h2⟩; have e0 := h2.block g hg; have j0 := (cell_of_heap (o := 0) e0).trans HI.out.c0; have j1 := (frozen_of_heap (o := 0) e0).trans HI.out.f0; have E := Lib.hid (And.intro h1 h2); clear e0 h1 h2)
  go_ret
  refine ⟨_, rfl, ?_, ?_, ?_⟩
  · exact own_to E.out.1 (fun k hk => set_heap _ _ _ _ _ (fun e => by have := own_base E.out.1 k hk; omega))
  · have hI1 := HI.out.below E.out.2
    have h := hI1.rest (zs := ys.drop n) (A' := A') (c' := c - n) (by rw [HLT.out.2]; have := HI.out.le; omega) (by rw [HLT.out.2]; omega) (HD.out.1 _ hI1.reads) (HD.out.2 g HI.out.ne)
    rw [HLT.out.2] at h
    exact ⟨_, _, h⟩
  · exact (KeepG.of_below E.out.2 g).set 0 _
set_option maxHeartbeats 2000000 in
set_option maxRecDepth 100000 in
theorem inraw_spoil (g : Nat) (st : Option (List Int)) (n : Int) (w : World) (hI : InSt w g st) (hb : ∀ ys, st = some ys → n < 0 ∨ (ys.length : Int) < n) :
    Calls Try.prog 20 #[.pointer (some ⟨g, 0, none⟩), .int .i64 n] w fun e w' => e = .returned (.slice none 0 0) ∧ InSt w' g none ∧ KeepG w w' g := by
  rcases st with _ | ys
  · have k0 := hI.c0
    have k1 := hI.c1
    have HI := Lib.hid hI
    clear hI hb
    go_enter Try.func20, Try.ntmps20
    go_wp2
    go_ret
    exact ⟨rfl, HI.out, KeepG.refl _ _⟩
  · obtain ⟨A, c, hI⟩ := hI
    have k0 := hI.c0
    have k1 := hI.c1
    have f0 := hI.f0
    have f1 := hI.f1
    have HI := Lib.hid hI
    have hb := hb ys rfl
    clear hI
    by_cases hn : n < 0
    · have t1 : decide (n < 0) = true := by simp [hn]
      clear hb hn
      go_enter Try.func20, Try.ntmps20
      go_wp2
      go_ret
      exact ⟨rfl, HI.out.spoil, ((KeepG.refl _ _).set _ _).set _ _⟩
    · have t1 : decide (n < 0) = false := by simp [hn]
      have t2 : decide ((ys.length : Int) < n) = true := by simp; omega
      clear hb hn
      go_enter Try.func20, Try.ntmps20
      go_wp2
      go_ret
      exact ⟨rfl, HI.out.spoil, ((KeepG.refl _ _).set _ _).set _ _⟩
/-- a number out of its bytes, the greatest first -/
def numOf (xs : List Int) : Int := xs.foldl (fun a x => a * 256 + x) 0
theorem numOf_take_succ (xs : List Int) (j : Nat) (hj : j < xs.length) : numOf (xs.take (j + 1)) = numOf (xs.take j) * 256 + xs[j] := by
  unfold numOf
  rw [List.take_succ_eq_append_getElem hj, List.foldl_append]
  rfl
theorem numOf_bound (xs : List Int) (h : ∀ x ∈ xs, 0 ≤ x ∧ x < 256) : ∀ j, j ≤ xs.length → 0 ≤ numOf (xs.take j) ∧ numOf (xs.take j) < 256 ^ j := by
  intro j
  induction j with
  | zero => intro _; simp [numOf]
  | succ j ih =>
    intro hj
    have h1 := ih (by omega)
    have h2 := h xs[j] (List.getElem_mem _)
    rw [numOf_take_succ xs j hj, Int.pow_succ]
    omega
set_option maxHeartbeats 2000000 in
set_option maxRecDepth 100000 in
theorem inn_ok (g : Nat) (A : Option Addr) (c : Nat) (ys : List Int) (n : Nat) (w : World) (hI : InIs w g A c ys false) (h1 : 1 ≤ n) (h6 : n ≤ 6) (hn : n ≤ ys.length) (hw : ∀ x ∈ ys, 0 ≤ x ∧ x < 256) :
    Calls Try.prog 18 #[.pointer (some ⟨g, 0, none⟩), .int .i64 n] w fun e w' => e = .returned (.int .i64 (numOf (ys.take n))) ∧ InSt w' g (some (ys.drop n)) ∧ KeepG w w' g := by
  have h := Lib.hid (inraw_ok g A c ys n w hI hn)
  have t1 : decide ((n : Int) < 1) = false := by simp; omega
  have t2 : decide (6 < (n : Int)) = false := by simp; omega
  have HW := Lib.hid hw
  have hlt : (ys.take n).length = n := by simp; omega
  have HL := Lib.hid (And.intro hlt (And.intro h1 (And.intro h6 hn)))
  clear hI hw hn h1 h6 hlt
  go_enter Try.func18, Try.ntmps18
  go_wp2_with (go_at_call 20; (with_reducible refine h.out.mono ?_); rintro e w1 ⟨v1, rfl, e1, e2⟩; obtain ⟨b, c1, rfl⟩ := own_some e1 (by have := HL.out; omega); have E := Lib.hid (And.intro e1 e2); clear e1 e2)
  go_loopw [5, 20] (fun v5 v20 wr => ∃ j : Nat, j ≤ n ∧ v5 = .int .i64 (numOf ((ys.take n).take j)) ∧ v20 = .int .i64 (j : Int) ∧ wr = w1) (fun _ v20 _ => n - (intOf v20).toNat)
  case atStart => exact ⟨0, by omega, rfl, rfl, rfl⟩
  case round =>
    obtain ⟨j, hj, rfl, rfl, rfl⟩ := hrel
    by_cases hjn : j < n
    · have hL := HL.out
      have hjl : j < (ys.take n).length := by omega
      have t3 : decide ((j : Int) < (n : Int)) = true := by simp; omega
      have hx : wr.cell? ⟨b, j, none⟩ = some (.int .u8 ((ys.take n)[j])) := by
        rw [E.out.1.cellAt j (by omega)]; unfold nums; rw [List.getElem?_map, List.getElem?_eq_getElem hjl]; rfl
      have hsum := numOf_take_succ (ys.take n) j hjl
      have hwz : ∀ x ∈ ys.take n, 0 ≤ x ∧ x < 256 := fun x hx => HW.out x (List.mem_of_mem_take hx)
      have hb0 := numOf_bound (ys.take n) hwz j (by omega)
      have hb1 := hwz _ (List.getElem_mem hjl)
      generalize (ys.take n)[j] = x at hx hsum hb1
      generalize numOf ((ys.take n).take j) = a at hsum hb0 ⊢
      have hp : (256 : Int) ^ j ≤ 256 ^ 6 := by exact_mod_cast Nat.pow_le_pow_right (by omega) (by omega)
      have hq : a < 256 ^ 6 := by omega
      have hm : wrap64 (a * 256) = a * 256 := by unfold wrap64; omega
      have hs : wrap64 (a * 256 + x) = a * 256 + x := by unfold wrap64; omega
      go_wp2
      refine ⟨⟨j + 1, by omega, by rw [hsum], by norm_cast, trivial⟩, ?_⟩
      simp only [intOf]
      omega
    · obtain rfl : j = n := by omega
      have hmin : min j ys.length = j := by have := HL.out; omega
      have hlt : (List.take j ys).length = j := HL.out.1
      have t3 : decide ((j : Int) < (j : Int)) = false := by simp
      go_wp2
      go_ret
      refine ⟨?_, E.out.2⟩
      simp only [List.take_take, Nat.min_self]
      rfl
set_option maxHeartbeats 2000000 in
set_option maxRecDepth 100000 in
theorem inn_spoil (g : Nat) (st : Option (List Int)) (n : Int) (w : World) (hI : InSt w g st) (hb : ∀ ys, st = some ys → n < 1 ∨ 6 < n ∨ (ys.length : Int) < n) :
    Calls Try.prog 18 #[.pointer (some ⟨g, 0, none⟩), .int .i64 n] w fun e w' => e = .returned (.int .i64 0) ∧ InSt w' g none ∧ KeepG w w' g := by
  have hm1 := inraw_spoil g st (-1) w hI (fun _ _ => .inl (by omega))
  by_cases h1 : n < 1
  · have t1 : decide (n < 1) = true := by simp [h1]
    have H := Lib.hid hm1
    clear hb hI h1 hm1
    go_enter Try.func18, Try.ntmps18
    go_wp2_with (go_at_call 20; (with_reducible refine H.out.mono ?_); rintro e w1 ⟨rfl, e1, e2⟩; have E := Lib.hid (And.intro e1 e2); clear e1 e2)
    go_ret
    exact ⟨rfl, E.out⟩
  · have t1 : decide (n < 1) = false := by simp [h1]
    by_cases h6 : 6 < n
    · have t2 : decide (6 < n) = true := by simp [h6]
      have H := Lib.hid hm1
      clear hb hI h1 h6 hm1
      go_enter Try.func18, Try.ntmps18
      go_wp2_with (go_at_call 20; (with_reducible refine H.out.mono ?_); rintro e w1 ⟨rfl, e1, e2⟩; have E := Lib.hid (And.intro e1 e2); clear e1 e2)
      go_ret
      exact ⟨rfl, E.out⟩
    · have t2 : decide (6 < n) = false := by simp [h6]
      have H := Lib.hid (inraw_spoil g st n w hI (fun ys e => by have := hb ys e; omega))
      clear hb hI h1 h6 hm1
      go_enter Try.func18, Try.ntmps18
      go_wp2_with (go_at_call 20; (with_reducible refine H.out.mono ?_); rintro e w1 ⟨rfl, e1, e2⟩; have E := Lib.hid (And.intro e1 e2); clear e1 e2)
      go_loopw [5, 20] (fun v5 v20 wr => v5 = .int .i64 0 ∧ v20 = .int .i64 0 ∧ wr = w1) (fun _ _ _ => 0)
      case atStart => exact ⟨rfl, rfl, rfl⟩
      case round =>
        obtain ⟨rfl, rfl, rfl⟩ := hrel
        go_wp2
        go_ret
        exact ⟨rfl, E.out⟩
theorem left_calls (g : Nat) (st : Option (List Int)) (w : World) (hI : InSt w g st) :
    Calls Try.prog 24 #[.pointer (some ⟨g, 0, none⟩)] w fun e w' => e = .returned (.int .i64 ((st.getD []).length : Nat)) ∧ w = w' := by
  rcases st with _ | ys
  · have k0 := hI.c0
    go_enter Try.func24, Try.ntmps24
    go_wp2
    go_ret
    exact ⟨rfl, rfl⟩
  · obtain ⟨A, c, hI⟩ := hI
    have k0 := hI.c0
    go_enter Try.func24, Try.ntmps24
    go_wp2
    go_ret
    exact ⟨rfl, rfl⟩
theorem bad_calls (g : Nat) (st : Option (List Int)) (w : World) (hI : InSt w g st) :
    Calls Try.prog 22 #[.pointer (some ⟨g, 0, none⟩)] w fun e w' => e = .returned (.bool st.isNone) ∧ w = w' := by
  rcases st with _ | ys
  · have k1 := hI.c1
    go_enter Try.func22, Try.ntmps22
    go_wp2
    go_ret
    exact ⟨rfl, rfl⟩
  · obtain ⟨A, c, hI⟩ := hI
    have k1 := hI.c1
    go_enter Try.func22, Try.ntmps22
    go_wp2
    go_ret
    exact ⟨rfl, rfl⟩
theorem done_calls (g : Nat) (st : Option (List Int)) (w : World) (hI : InSt w g st) :
    Calls Try.prog 21 #[.pointer (some ⟨g, 0, none⟩)] w fun e w' => e = .returned (.bool (st.isSome && (st.getD []).isEmpty)) ∧ w = w' := by
  rcases st with _ | ys
  · have k1 := hI.c1
    go_enter Try.func21, Try.ntmps21
    go_wp2
    go_ret
    exact ⟨rfl, rfl⟩
  · obtain ⟨A, c, hI⟩ := hI
    have k0 := hI.c0
    have k1 := hI.c1
    have hs : (((ys.length : Int)) == 0) = ys.isEmpty := by
      cases ys with
      | nil => rfl
      | cons a l => simp; omega
    go_enter Try.func21, Try.ntmps21
    go_wp2
    go_ret
    exact ⟨rfl, rfl⟩
theorem own_le {w : World} {base : Nat} {e : TypeId} {A : Option Addr} {n m c : Nat} {xs : List Value} (h : w.ownsRow base e 1 (.slice A n c) m xs) : n ≤ c := by
  rcases h.2 with ⟨h1, h2⟩ | ⟨g, c', cur, h1, _, _, h2, _⟩
  · injection h1 with h1 h3 h4; omega
  · injection h1 with h1 h3 h4; omega
theorem info_in : (Try.prog.info? 74).map (fun i => (i.zero, i.size, i.bytes)) = some (some (.agg #[.slice none 0 0, .bool false]), 2, 32) := by kernel_rfl
set_option maxHeartbeats 2000000 in
set_option maxRecDepth 100000 in
theorem newin_calls (A : Option Addr) (n c : Nat) (xs : List Int) (w : World) (hR : ReadsInt w .u8 A n xs) (hl : xs.length ≤ 140737488355328) :
    Calls Try.prog 17 #[.slice A n c] w fun e w' => ∃ g, e = .returned (.pointer (some ⟨g, 0, none⟩)) ∧ w.heap.size ≤ g ∧ InSt w' g (some xs) ∧ Below w.heap.size w w' := by
  have h := Lib.hid (clone_calls A n c xs w hR hl)
  go_enter Try.func17, Try.ntmps17
  go_wp2_with (go_at_call 36; (with_reducible refine h.out.mono ?_); rintro e w1 ⟨v1, rfl, h1, h2⟩; obtain ⟨A1, c1, rfl⟩ := own_slice h1; have E := Lib.hid (And.intro h1 h2); clear h1 h2)
  go_ret
  have e1 : (w1.alloc (Obj.cells #[.slice A1 xs.length c1, .bool false] 74)).heap[w1.heap.size]? = some (Obj.cells #[.slice A1 xs.length c1, .bool false] 74) := by
    show (w1.heap.push _)[w1.heap.size]? = _
    simp
  refine ⟨_, rfl, E.out.2.size, ⟨A1, c1, ⟨?_, ?_, ?_, ?_, ?_, hl, reads_alloc (own_reads E.out.1 rfl (by omega)) _, ?_⟩⟩, E.out.2.alloc E.out.2.size _⟩
  · unfold World.cell?; simp only [e1]; simp
  · unfold World.cell?; simp only [e1]; simp
  · unfold World.frozen?; simp only [e1]; simp
  · unfold World.frozen?; simp only [e1]; simp
  · exact own_le E.out.1
  · intro ad e
    subst e
    have := own_lt E.out.1 ad.block rfl
    omega
end Go.Proofs.Ytnoebhnkkigkjaa.Codec

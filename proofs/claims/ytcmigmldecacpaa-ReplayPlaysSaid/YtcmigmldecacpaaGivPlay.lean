/- Package replay's Play, and the door of layer 12, in the form in which the printer asks for them. -/
import Derived.Test.YtcmigmldecacpaaGiv
import Derived.Test.YtcmigmldecacpaaBoardMore
import Derived.Test.YtcmigmldecacpaaBoardLaw
import Derived.Test.YtcmigmldecacpaaQReplayPlaysx0
namespace Go.Proofs.Ytcmigmldecacpaa.Giv
open Go Go.RowKit Go.Proofs.YtcmigmldecacpaaW.PrintWords Go.Proofs.YtcmigmldecacpaaW.PrintLast Go.Proofs.YtcmigmldecacpaaW.PrintMore Go.Proofs.Ytcmigmldecacpaa.Vec Go.Proofs.Ytcmigmldecacpaa.QReplayPlays

def geyserlaw12_awake.f : Option Bool := some true
theorem geyserlaw12_awake.calls (r : Bool) (w : World) (h : geyserlaw12_awake.f = some r) :
    Calls Try.prog 13 #[] w fun e w' => e = .returned (.bool r) ∧ Below w.heap.size w w' := by
  obtain rfl := Option.some.inj h
  exact awake_calls w
/-! ### Play -/
/-- a deed, done to slots; none: refused -/
def deed (rows : List (List Int)) (d : S42) : Option (List (List Int)) :=
  if 0 ≤ d.f0 ∧ d.f0 < (rows.length : Int) ∧ 0 ≤ d.f1 ∧ d.f1 < (rows.length : Int) then
    some (rows.set d.f0.toNat (if d.f0 = d.f1 then scaleL (rows.getD d.f0.toNat []) d.f2.toNat else plusL (rows.getD d.f0.toNat []) (rows.getD d.f1.toNat []) d.f2.toNat)) else none
def deeds : List (List Int) → List S42 → Option (List (List Int))
  | rows, [] => some rows
  | rows, d :: l => match deed rows d with
    | none => none
    | some r => deeds r l
theorem deeds_snoc : ∀ (l : List S42) (rows : List (List Int)) (d : S42), deeds rows (l ++ [d]) = (deeds rows l).bind fun r => deed r d
  | [], rows, d => by
    show (match deed rows d with | none => none | some r => deeds r []) = deed rows d
    cases deed rows d <;> rfl
  | c :: l, rows, d => by
    show (match deed rows c with | none => none | some r => deeds r (l ++ [d])) = (match deed rows c with | none => none | some r => deeds r l).bind _
    cases deed rows c with
    | none => rfl
    | some r => exact deeds_snoc l r d
theorem deeds_none : ∀ (l : List S42) (rows : List (List Int)) (m : List S42), deeds rows l = none → deeds rows (l ++ m) = none
  | [], rows, m, h => by cases h
  | c :: l, rows, m, h => by
    change (match deed rows c with | none => none | some r => deeds r l) = none at h
    show (match deed rows c with | none => none | some r => deeds r (l ++ m)) = none
    cases hc : deed rows c with
    | none => rfl
    | some r => rw [hc] at h; exact deeds_none l r m h
/-- slots of one length, of bytes -/
structure Slots (rows : List (List Int)) (n : Nat) : Prop where
  len : ∀ r ∈ rows, r.length = n
  b : ∀ r ∈ rows, By r
theorem Slots.at {rows : List (List Int)} {n : Nat} (h : Slots rows n) {i : Nat} (hi : i < rows.length) : (rows[i]).length = n ∧ By rows[i] := ⟨h.len _ (List.getElem_mem hi), h.b _ (List.getElem_mem hi)⟩
theorem scaleL_by {a : List Int} {c : Nat} (ha : By a) (hc : c < 256) : By (scaleL a c) := by
  intro x hx
  obtain ⟨i, hi, rfl⟩ := List.mem_iff_getElem.1 hx
  have hl := scaleL_length a c
  obtain ⟨m, hm, lm⟩ := ha.at i (by omega)
  have e : (scaleL a c)[i] = mulI c a[i] := by unfold scaleL; exact List.getElem_zipWith
  rw [e, hm]
  unfold mulI
  rw [Int.toNat_natCast]
  have := Gy.gmul_lt lm hc
  omega
theorem Slots.deed {rows r : List (List Int)} {n : Nat} {d : S42} (h : Slots rows n) (hd : deed rows d = some r) (hc : d.f2.toNat < 256) : Slots r n ∧ r.length = rows.length := by
  unfold Giv.deed at hd
  split at hd
  · rename_i hin
    obtain rfl := Option.some.inj hd
    have hz : d.f0.toNat < rows.length := by omega
    have hy : d.f1.toNat < rows.length := by omega
    have e1 : rows.getD d.f0.toNat [] = rows[d.f0.toNat] := by simp [List.getD_eq_getElem?_getD, hz]
    have e2 : rows.getD d.f1.toNat [] = rows[d.f1.toNat] := by simp [List.getD_eq_getElem?_getD, hy]
    rw [e1, e2]
    have h1 := h.at hz
    have h2 := h.at hy
    refine ⟨⟨fun r hr => ?_, fun r hr => ?_⟩, by simp⟩
    · rcases List.mem_or_eq_of_mem_set hr with hr | hr
      · exact h.len r hr
      · rw [hr]; split
        · rw [scaleL_length]; exact h1.1
        · rw [plusL_length (by omega)]; exact h1.1
    · rcases List.mem_or_eq_of_mem_set hr with hr | hr
      · exact h.b r hr
      · rw [hr]; split
        · exact scaleL_by h1.2 hc
        · exact plusL_by h1.2 h2.2 hc (by omega)
  · cases hd
/-- what a deed's call does -/
def DeedPost (base g : Nat) (rows : List (List Int)) (d : S42) (w : World) (e : Ending) (w' : World) : Prop :=
  ∃ er : Int, e = .returned (.int .i64 er) ∧ Below base w w' ∧ ((er = 0 ∧ ∃ r, deed rows d = some r ∧ Brd base w' g r) ∨ (er = 1 ∧ deed rows d = none))
theorem brd_base {base g : Nat} {w : World} {rows : List (List Int)} (h : Brd base w g rows) : base ≤ w.heap.size := by
  obtain ⟨hv, ks, h⟩ := h; exact h.le
theorem below_refl_base (base : Nat) (w : World) : Below base w w := Below.refl _ _
theorem do_add (base g n : Nat) (rows : List (List Int)) (d : S42) (w : World) (h : Brd base w g rows) (hs : Slots rows n) (hn : n ≤ 100000) (hne : d.f0 ≠ d.f1) (hc0 : 0 ≤ d.f2) (hc : d.f2 < 256) :
    Calls Try.prog 18 #[.pointer (some ⟨g, 0, none⟩), .int .i64 d.f0, .int .i64 d.f1, .int .u8 d.f2] w (DeedPost base g rows d w) := by
  obtain ⟨hv, ks, h⟩ := h
  by_cases hin : 0 ≤ d.f0 ∧ d.f0 < (rows.length : Int) ∧ 0 ≤ d.f1 ∧ d.f1 < (rows.length : Int)
  · obtain ⟨z, hz⟩ : ∃ m : Nat, d.f0 = (m : Int) := ⟨d.f0.toNat, by omega⟩
    obtain ⟨y, hy⟩ : ∃ m : Nat, d.f1 = (m : Int) := ⟨d.f1.toNat, by omega⟩
    obtain ⟨c, hcc⟩ : ∃ m : Nat, d.f2 = (m : Int) := ⟨d.f2.toNat, by omega⟩
    have hzl : z < rows.length := by omega
    have hyl : y < rows.length := by omega
    have hd : deed rows d = some (rows.set z (plusL rows[z] rows[y] c)) := by
      unfold deed
      rw [if_pos hin, if_neg hne, hz, hy, hcc]
      simp [List.getD_eq_getElem?_getD, hzl, hyl]
    have := add_in base g hv ks rows z y c n w h hzl hyl (by omega) (hs.at hzl).1 (hs.at hyl).1 hn (hs.at hzl).2 (hs.at hyl).2 (by omega)
    rw [hz, hy, hcc]
    refine this.mono fun e w' ⟨h1, h2, h3⟩ => ⟨0, h1, h3, .inl ⟨rfl, _, hd, h2⟩⟩
  · have hd : deed rows d = none := by unfold deed; rw [if_neg hin]
    refine (add_out base g hv ks rows d.f0 d.f1 d.f2 w h (by omega)).mono fun e w' ⟨h1, h2⟩ => ⟨1, h1, by subst h2; exact Below.refl _ _, .inr ⟨rfl, hd⟩⟩
theorem do_same (base g n : Nat) (rows : List (List Int)) (d : S42) (w : World) (h : Brd base w g rows) (hs : Slots rows n) (hn : n ≤ 100000) (heq : d.f0 = d.f1) (hc0 : 0 ≤ d.f2) (hc : d.f2 < 256) :
    Calls Try.prog 55 #[.pointer (some ⟨g, 0, none⟩), .int .i64 d.f0, .int .i64 d.f1, .int .u8 d.f2] w (DeedPost base g rows d w) := by
  obtain ⟨hv, ks, h⟩ := h
  have key : Calls Try.prog 17 #[.pointer (some ⟨g, 0, none⟩), .int .i64 d.f0, .int .u8 d.f2] w (DeedPost base g rows d w) := by
    by_cases hin : 0 ≤ d.f0 ∧ d.f0 < (rows.length : Int)
    · obtain ⟨z, hz⟩ : ∃ m : Nat, d.f0 = (m : Int) := ⟨d.f0.toNat, by omega⟩
      obtain ⟨c, hcc⟩ : ∃ m : Nat, d.f2 = (m : Int) := ⟨d.f2.toNat, by omega⟩
      have hzl : z < rows.length := by omega
      have hd : deed rows d = some (rows.set z (scaleL rows[z] c)) := by
        unfold deed
        rw [if_pos (by omega), if_pos heq, hz, hcc]
        simp [List.getD_eq_getElem?_getD, hzl]
      have := scale_in base g hv ks rows z c w h hzl (by have := (hs.at hzl).1; omega) (hs.at hzl).2 (by omega)
      rw [hz, hcc]
      refine this.mono fun e w' ⟨h1, h2, h3⟩ => ⟨0, h1, h3, .inl ⟨rfl, _, hd, h2⟩⟩
    · have hd : deed rows d = none := by unfold deed; rw [if_neg (by omega)]
      refine (scale_out base g hv ks rows d.f0 d.f2 w h (by omega)).mono fun e w' ⟨h1, h2⟩ => ⟨1, h1, by subst h2; exact Below.refl _ _, .inr ⟨rfl, hd⟩⟩
  have HK := Lib.hid key
  clear key h hs hn heq hc0 hc
  go_enter Try.func55, Try.ntmps55
  go_wp2_with (go_at_call 17; (with_reducible refine HK.out.mono ?_); rintro e w1 ⟨er, rfl, h2⟩; have H2 := Lib.hid h2; clear h2)
  go_ret
  exact ⟨er, rfl, H2.out⟩
/-! ### the walk of Play -/
theorem deed_cells {W : World} {A : Option Addr} {ds : List S42} (h : k42.C W A ds.length ds) (i : Nat) (hi : i < ds.length) :
    ∃ ad, A = some ad ∧ W.cell? (ad.add (i * 3)) = some (.int .i64 ds[i].f0) ∧ W.cell? ⟨(ad.add (i * 3)).block, (ad.add (i * 3)).off + 1, none⟩ = some (.int .i64 ds[i].f1) ∧ W.cell? ⟨(ad.add (i * 3)).block, (ad.add (i * 3)).off + 2, none⟩ = some (.int .u8 ds[i].f2) := by
  obtain ⟨ad, e, h0, h1, h2⟩ := at_T42 h (i : Int) (by omega) (by omega)
  have er : rd_T42 ds (i : Int) = ds[i] := by unfold rd_T42; simp [List.getD_eq_getElem?_getD, hi]
  rw [Int.toNat_natCast, er] at h0 h1 h2
  exact ⟨ad, e, h0, h1, h2⟩
/-- at each round of the deeds -/
structure DeedsAt (W1 wr : World) (B : Nat) (l R : List (List Int)) (ds : List S42) (i n : Nat) : Prop where
  is : deeds l (ds.take i) = some R
  slots : Slots R n
  len : R.length = l.length
  brd : Brd B wr B R
  bel : Below B W1 wr
theorem brd_below {base : Nat} {w w' : World} {g : Nat} {rows : List (List Int)} (h : Brd base w g rows) (hb : Below w.heap.size w w') : Brd base w' g rows := by
  obtain ⟨hv, ks, h⟩ := h
  exact ⟨hv, ks, h.below hb⟩
/-- what Play hands back -/
def playL (ds : List S42) (ns : List Int) (l : List (List Int)) : List (List Int) × Int :=
  match deeds l ds with
  | none => ([], 1)
  | some R => if ns.all (fun z => decide (0 ≤ z) && decide (z < (R.length : Int))) then (ns.map fun z => R.getD z.toNat [], 0) else ([], 1)
def PlayPost (ds : List S42) (ns : List Int) (l : List (List Int)) (W : World) (e : Ending) (w' : World) : Prop :=
  ∃ v, e = .returned (.tuple #[v, .int .i64 (playL ds ns l).2]) ∧ Kd.S (Kd.slice 5 (Kd.int .u8)) 31 w' W.heap.size (fun _ => True) v (playL ds ns l).1 ∧ Below W.heap.size W w'
theorem take_none {ds : List S42} {l : List (List Int)} {i : Nat} (h : deeds l (ds.take i) = none) : deeds l ds = none := by
  rw [← List.take_append_drop i ds]; exact deeds_none _ _ _ h
theorem deeds_stop {W W1 wr w3 : World} {l R : List (List Int)} {ds : List S42} {ns : List Int} {i n B : Nat} {d : S42} (htk : ds.take (i + 1) = ds.take i ++ [d]) (hx : DeedsAt W1 wr B l R ds i n) (hd : deed R d = none) (hb : Below W.heap.size W w3) :
    PlayPost ds ns l W (.returned (.tuple #[.slice none 0 0, .int .i64 1])) w3 := by
  have h1 : deeds l (ds.take (i + 1)) = none := by rw [htk, deeds_snoc, hx.is]; exact hd
  have h2 : playL ds ns l = ([], 1) := by unfold playL; rw [take_none h1]
  refine ⟨.slice none 0 0, by rw [h2], ?_, hb⟩
  rw [h2]
  exact Kd.S_nil _ _ _ _ _
theorem deeds_next {W1 wr w3 : World} {l R R2 : List (List Int)} {ds : List S42} {i n B : Nat} {d : S42} (htk : ds.take (i + 1) = ds.take i ++ [d]) (hok : 0 ≤ d.f2 ∧ d.f2 < 256) (hx : DeedsAt W1 wr B l R ds i n) (hd : deed R d = some R2) (hb : Brd B w3 B R2) (hbel : Below B W1 w3) :
    DeedsAt W1 w3 B l R2 ds (i + 1) n := by
  have h2 := hx.slots.deed hd (by omega)
  exact ⟨by rw [htk, deeds_snoc, hx.is]; exact hd, h2.1, h2.2.trans hx.len, hb, hbel⟩
/-- at each round of the places -/
structure RowsAt (wb wr : World) (R : List (List Int)) (ns : List Int) (j : Nat) (v : Value) : Prop where
  S : Kd.S (Kd.slice 5 (Kd.int .u8)) 31 wr wb.heap.size (fun _ => True) v ((ns.take j).map fun z => R.getD z.toNat [])
  bel : Below wb.heap.size wb wr
  inn : ∀ z ∈ ns.take j, 0 ≤ z ∧ z < (R.length : Int)
theorem num_at {W : World} {A : Option Addr} {ns : List Int} (h : (Kd.int .i64).C W A ns.length ns) (j : Nat) (hj : j < ns.length) : ∃ ad, A = some ad ∧ W.cell? (ad.add j) = some (.int .i64 ns[j]) := by
  obtain ⟨ad, e, hc⟩ := (Gy.reads_of_kd h).2.2 (by omega)
  refine ⟨ad, e, ?_⟩
  rw [hc j hj]
  simp [List.getD_eq_getElem?_getD, hj]
theorem brd_has_out {base g : Nat} {w : World} {rows : List (List Int)} (h : Brd base w g rows) (z : Int) (hz : ¬ (0 ≤ z ∧ z < (rows.length : Int))) :
    Calls Try.prog 52 #[.pointer (some ⟨g, 0, none⟩), .int .i64 z] w fun e w' => e = .returned (.bool false) ∧ w = w' := by
  obtain ⟨hv, ks, h⟩ := h
  exact has_out base g hv ks rows z w h (by omega)
theorem brd_has_in {base g : Nat} {w : World} {rows : List (List Int)} (h : Brd base w g rows) (z : Int) (hz : 0 ≤ z ∧ z < (rows.length : Int)) :
    Calls Try.prog 52 #[.pointer (some ⟨g, 0, none⟩), .int .i64 z] w fun e w' => e = .returned (.bool true) ∧ w = w' := by
  obtain ⟨hv, ks, h⟩ := h
  obtain ⟨m, rfl⟩ : ∃ m : Nat, z = (m : Int) := ⟨z.toNat, by omega⟩
  exact has_in base g hv ks rows m w h (by omega)
theorem brd_slot {base g n : Nat} {w : World} {rows : List (List Int)} (h : Brd base w g rows) (hs : Slots rows n) (hn : n ≤ 100000) (z : Int) (hz : 0 ≤ z ∧ z < (rows.length : Int)) :
    Calls Try.prog 19 #[.pointer (some ⟨g, 0, none⟩), .int .i64 z] w fun e w' => ∃ A c, e = .returned (.slice A n c) ∧ MadeRow w n (rows.getD z.toNat []) A c w' := by
  obtain ⟨hv, ks, h⟩ := h
  obtain ⟨m, rfl⟩ : ∃ m : Nat, z = (m : Int) := ⟨z.toNat, by omega⟩
  have hm : m < rows.length := by omega
  have e : rows.getD (m : Int).toNat [] = rows[m] := by simp [List.getD_eq_getElem?_getD, hm]
  rw [e]
  have h1 := (hs.at hm).1
  refine (slot_in base g hv ks rows m w h hm (by omega)).mono ?_
  rintro e w' ⟨A, c, rfl, h2⟩
  rw [h1] at h2 ⊢
  exact ⟨A, c, rfl, h2⟩
theorem info_row : (Try.prog.info? 31).map (fun i => (i.zero, i.size, i.bytes)) = some (some (.slice none 0 0), 1, 24) := by kernel_rfl
theorem slots_at {R : List (List Int)} {n : Nat} (h : Slots R n) (z : Int) (hz : 0 ≤ z ∧ z < (R.length : Int)) : (R.getD z.toNat []).length = n := by
  have hm : z.toNat < R.length := by omega
  have e : R.getD z.toNat [] = R[z.toNat] := by simp [List.getD_eq_getElem?_getD, hm]
  rw [e]; exact (h.at hm).1
theorem rows_p {wb wr w3 : World} {R : List (List Int)} {ns : List Int} {j n c3 : Nat} {v : Value} {p : List Int} {A3 : Option Addr} (h : RowsAt wb wr R ns j v) (hm : MadeRow wr n p A3 c3 w3) (hp : p.length = n) :
    (Kd.slice 5 (Kd.int .u8)).M w3 wb.heap.size (fun k_ => some k_ = (.slice A3 n c3 : Value).ownBlock) p [.slice A3 n c3] := by
  have h1 := hm.1
  subst hp
  exact Kd.M_row (Kd.R_lower (Kd.R_tight rfl (R_bytes h1)) h.bel.size)
theorem rows_k {wb wr w3 : World} {R : List (List Int)} {ns : List Int} {j n c3 : Nat} {v : Value} {p : List Int} {A3 : Option Addr} (h : RowsAt wb wr R ns j v) (hm : MadeRow wr n p A3 c3 w3) :
    ∀ k, some k = (.slice A3 n c3 : Value).ownBlock → True ∧ some k ≠ v.ownBlock := by
  intro k hk
  refine ⟨trivial, fun e => ?_⟩
  have h1 := own_base hm.1 k hk.symm
  have h2 := Kd.S_lt h.S k e.symm
  omega
theorem rows_o {wb wr w3 : World} {R : List (List Int)} {ns : List Int} {j n c3 : Nat} {v : Value} {p : List Int} {A3 : Option Addr} (h : RowsAt wb wr R ns j v) (hm : MadeRow wr n p A3 c3 w3) :
    Kd.S (Kd.slice 5 (Kd.int .u8)) 31 w3 wb.heap.size (fun k => True ∧ ¬ some k = (.slice A3 n c3 : Value).ownBlock) v ((ns.take j).map fun z => R.getD z.toNat []) :=
  Kd.S_mono (Kd.S_elder' h.S (fun k hk => own_base hm.1 k hk) hm.2) (fun _ hk => ⟨trivial, hk.2⟩)
theorem rows_b {wb wr w3 : World} {R : List (List Int)} {ns : List Int} {j n c3 : Nat} {v : Value} {p : List Int} {A3 : Option Addr} (h : RowsAt wb wr R ns j v) (hm : MadeRow wr n p A3 c3 w3) : Below wb.heap.size wb w3 := h.bel.trans (hm.2.mono h.bel.size)
theorem rows_next {wb wr w5 : World} {R : List (List Int)} {ns : List Int} {j : Nat} {v v5 : Value} {z : Int} (h : RowsAt wb wr R ns j v) (htk : ns.take (j + 1) = ns.take j ++ [z]) (hz : 0 ≤ z ∧ z < (R.length : Int))
    (hs : Kd.S (Kd.slice 5 (Kd.int .u8)) 31 w5 wb.heap.size (fun _ => True) v5 (((ns.take j).map fun z => R.getD z.toNat []) ++ [R.getD z.toNat []])) (hb : Below wb.heap.size wb w5) : RowsAt wb w5 R ns (j + 1) v5 := by
  refine ⟨by rw [htk, List.map_append]; exact hs, hb, fun y hy => ?_⟩
  rw [htk] at hy
  rcases List.mem_append.1 hy with hy | hy
  · exact h.inn y hy
  · rw [List.mem_singleton.1 hy]; exact hz
theorem play_some {ds : List S42} {ns : List Int} {l R : List (List Int)} (h : deeds l ds = some R) (hi : ∀ z ∈ ns, 0 ≤ z ∧ z < (R.length : Int)) : playL ds ns l = (ns.map fun z => R.getD z.toNat [], 0) := by
  unfold playL
  rw [h]
  simp only []
  rw [if_pos]
  refine List.all_eq_true.2 fun z hz => ?_
  have := hi z hz
  simp only [Bool.and_eq_true, decide_eq_true_eq]
  exact this
theorem play_out {ds : List S42} {ns : List Int} {l R : List (List Int)} (h : deeds l ds = some R) (z : Int) (hz : z ∈ ns) (ho : z < 0 ∨ (R.length : Int) ≤ z) : playL ds ns l = ([], 1) := by
  unfold playL
  rw [h]
  simp only []
  rw [if_neg]
  intro hall
  have := List.all_eq_true.1 hall z hz
  simp only [Bool.and_eq_true, decide_eq_true_eq] at this
  omega
set_option maxHeartbeats 4000000 in
set_option maxRecDepth 100000 in
theorem play_calls (A00 : Option Addr) (c00 : Nat) (ds : List S42) (A01 : Option Addr) (c01 : Nat) (ns : List Int) (A1 : Option Addr) (c1 : Nat) (l : List (List Int)) (n : Nat) (W : World)
    (hd : k42.C W A00 ds.length ds) (hns : (Kd.int .i64).C W A01 ns.length ns) (hl : kvals.C W A1 l.length l) (hS : Slots l n) (hn : n ≤ 100000) (hll : l.length ≤ 1000) (hdl : ds.length ≤ 1000000) (hnl : ns.length ≤ 1000000) (hok : ∀ d ∈ ds, 0 ≤ d.f2 ∧ d.f2 < 256) :
    Calls Try.prog 21 #[.agg #[.slice A00 ds.length c00, .slice A01 ns.length c01], .slice A1 l.length c1] W (PlayPost ds ns l W) := by
  have HD := Lib.hid hd
  have HNS := Lib.hid hns
  have HB := Lib.hid (fun (w : World) (hw : Below W.heap.size W w) => (newboard_calls A1 c1 l l.length n w (Kd.C_below hl hw) (Nat.le_refl _) hn hll (fun h => (hS.at h).1) (fun i h _ => (hS.at h).1) (fun h => absurd h (Nat.lt_irrefl _))).mono
    fun e w' (h : (l.length = l.length ∧ e = .returned (.tuple #[.pointer (some ⟨w.heap.size, 0, none⟩), .int .i64 0]) ∧ Brd w.heap.size w' w.heap.size l ∨ l.length < l.length ∧ e = .returned (.tuple #[.pointer none, .int .i64 1])) ∧ Below w.heap.size w w') =>
      (show e = .returned (.tuple #[.pointer (some ⟨w.heap.size, 0, none⟩), .int .i64 0]) ∧ Brd w.heap.size w' w.heap.size l ∧ Below w.heap.size w w' from by
        rcases h with ⟨⟨_, h1, h2⟩ | ⟨h1, _⟩, h3⟩
        · exact ⟨h1, h2, h3⟩
        · omega))
  have HS := Lib.hid (And.intro hS (And.intro hn (And.intro hdl hok)))
  have HNL := Lib.hid hnl
  clear hd hns hl hS hn hll hdl hok hnl
  obtain ⟨W1, hW1⟩ : ∃ W1 : World, W1 = W.alloc (.cells #[.slice A00 ds.length c00, .slice A01 ns.length c01] 38) := ⟨_, rfl⟩
  have q0 : W1.cell? ⟨W.heap.size, 0, none⟩ = some (.slice A00 ds.length c00) := by rw [hW1]; unfold World.cell?; simp only [Gy.alloc_at]; rfl
  have q1 : W1.cell? ⟨W.heap.size, 1, none⟩ = some (.slice A01 ns.length c01) := by rw [hW1]; unfold World.cell?; simp only [Gy.alloc_at]; rfl
  have hsz : W1.heap.size = W.heap.size + 1 := by rw [hW1, size_alloc]
  have hbl : Below W.heap.size W W1 := by rw [hW1]; exact Gy.alloc_below W _
  have H1 := Lib.hid (And.intro q0 (And.intro q1 (And.intro hsz hbl)))
  clear q0 q1 hsz hbl
  go_enter Try.func21, Try.ntmps21
  go_wp2_with (go_at_call 15; (with_reducible refine (HB.out _ (Gy.alloc_below W _)).mono ?_); rintro e w1 ⟨rfl, h1, h2⟩; rw [← hW1] at h1 h2 ⊢; have H2 := Lib.hid (And.intro h1 h2); clear h1 h2; have k0 := below_cell H2.out.2 H1.out.1)
  have hi64 : ds.length ≤ 9223372036854775807 := by have := HS.out.2.2.1; omega
  have HI := Lib.hid hi64
  clear k0 hi64
  go_loopw [28] (fun v28 wr => ∃ i : Nat, i ≤ ds.length ∧ v28 = .int .i64 (i : Int) ∧ Gy.Hd (∃ R, DeedsAt W1 wr (W.heap.size + 1) l R ds i n)) (fun v28 _ => ds.length - (intOf v28).toNat)
  case atStart => exact ⟨0, Nat.zero_le _, rfl, ⟨l, ⟨rfl, HS.out.1, rfl, by have h := H2.out.1; rw [H1.out.2.2.1] at h; exact h, by have h := H2.out.2; rw [H1.out.2.2.1] at h; exact h⟩⟩⟩
  case round =>
    obtain ⟨i, hi, rfl, hx⟩ := hrel
    obtain ⟨R, hx⟩ := hx.out
    by_cases hlt : i < ds.length
    · have t3 := j_lt hlt
      obtain ⟨ad, rfl, k0, k1, k2⟩ := deed_cells (Kd.C_below HD.out (H1.out.2.2.2.trans (hx.bel.mono (by omega)))) i hlt
      have hd := HS.out.2.2.2 _ (List.getElem_mem hlt)
      have htk : ds.take (i + 1) = ds.take i ++ [ds[i]] := List.take_succ_eq_append_getElem hlt
      generalize ds[i] = d at k0 k1 k2 hd htk
      have HX := Lib.hid hx
      have HDD := Lib.hid (And.intro hd htk)
      have HJ := Lib.hid hlt
      have HWJ := Lib.hid (up_wrap hlt HI.out)
      have hwj := HWJ.out
      have hend := end_row hlt
      clear hx hd htk
      by_cases heq : d.f0 = d.f1
      · have t4 : (d.f0 == d.f1) = true := beq_iff_eq.2 heq
        have HC := Lib.hid (fun (w : World) (hb : Below wr.heap.size wr w) => do_same (W.heap.size + 1) (W.heap.size + 1) n R d w (brd_below HX.out.brd hb) HX.out.slots HS.out.2.1 heq HDD.out.1.1 HDD.out.1.2)
        clear heq
        go_wp2_with (go_at_call 55; (with_reducible refine (HC.out _ (Gy.alloc_below _ _)).mono ?_); rintro e w3 ⟨er, rfl, hb3, hc3⟩; have HB3 := Lib.hid (HX.out.bel.trans (((Gy.alloc_below wr _).mono (brd_base HX.out.brd)).trans hb3)); clear hb3; rcases hc3 with ⟨rfl, R2, hd2, hbrd2⟩ | ⟨rfl, hd2⟩ <;> (first | (have HR2 := Lib.hid (And.intro hd2 hbrd2); clear hd2 hbrd2) | (have HR2 := Lib.hid hd2; clear hd2)))
        · (try rw [HWJ.out]); exact ⟨⟨i + 1, HJ.out, by norm_cast, ⟨R2, deeds_next HDD.out.2 HDD.out.1 HX.out HR2.out.1 HR2.out.2 HB3.out⟩⟩, hend⟩
        · go_ret2
          exact deeds_stop HDD.out.2 HX.out HR2.out (H1.out.2.2.2.trans (HB3.out.mono (by omega)))
      · have t4 : (d.f0 == d.f1) = false := beq_eq_false_iff_ne.2 heq
        have HC := Lib.hid (fun (w : World) (hb : Below wr.heap.size wr w) => do_add (W.heap.size + 1) (W.heap.size + 1) n R d w (brd_below HX.out.brd hb) HX.out.slots HS.out.2.1 heq HDD.out.1.1 HDD.out.1.2)
        clear heq
        go_wp2_with (go_at_call 18; (with_reducible refine (HC.out _ (Gy.alloc_below _ _)).mono ?_); rintro e w3 ⟨er, rfl, hb3, hc3⟩; have HB3 := Lib.hid (HX.out.bel.trans (((Gy.alloc_below wr _).mono (brd_base HX.out.brd)).trans hb3)); clear hb3; rcases hc3 with ⟨rfl, R2, hd2, hbrd2⟩ | ⟨rfl, hd2⟩ <;> (first | (have HR2 := Lib.hid (And.intro hd2 hbrd2); clear hd2 hbrd2) | (have HR2 := Lib.hid hd2; clear hd2)))
        · (try rw [HWJ.out]); exact ⟨⟨i + 1, HJ.out, by norm_cast, ⟨R2, deeds_next HDD.out.2 HDD.out.1 HX.out HR2.out.1 HR2.out.2 HB3.out⟩⟩, hend⟩
        · go_ret2
          exact deeds_stop HDD.out.2 HX.out HR2.out (H1.out.2.2.2.trans (HB3.out.mono (by omega)))
    · obtain rfl : i = ds.length := Nat.le_antisymm hi (Nat.le_of_not_lt hlt)
      have t3 : decide ((ds.length : Int) < (ds.length : Int)) = false := by simp
      obtain ⟨wb, rfl⟩ : ∃ wb, wb = wr := ⟨wr, rfl⟩
      have h1 : deeds l ds = some R := by have := hx.is; rwa [List.take_length] at this
      have k1 := below_cell (hx.bel.mono (w := W1) (by rw [H1.out.2.2.1]; exact Nat.le_refl _)) H1.out.2.1
      have HX := Lib.hid (And.intro h1 hx)
      have HLE := Lib.hid (show W.heap.size ≤ wb.heap.size by have := HX.out.2.bel.size; have := H1.out.2.2.1; omega)
      have HI2 := Lib.hid (show ns.length ≤ 9223372036854775807 by have := HNL.out; omega)
      clear h1 hx hlt
      go_wp2_with fail
      go_loopw [14, 57] (fun v14 v57 wr => ∃ j : Nat, j ≤ ns.length ∧ v57 = .int .i64 (j : Int) ∧ Gy.Hd (RowsAt wb wr R ns j v14)) (fun _ v57 _ => ns.length - (intOf v57).toNat)
      case atStart => exact ⟨0, Nat.zero_le _, rfl, ⟨⟨Kd.S_nil _ _ _ _ _, Below.refl _ _, by intro z hz; cases hz⟩⟩⟩
      case round =>
        obtain ⟨j, hj, rfl, hy⟩ := hrel
        have HY := Lib.hid hy.out
        clear hy
        by_cases hjn : j < ns.length
        · have t3 := j_lt hjn
          obtain ⟨ad, rfl, kz⟩ := num_at (Kd.C_below HNS.out (H1.out.2.2.2.trans ((HX.out.2.bel.mono (by omega)).trans (HY.out.bel.mono HLE.out)))) j hjn
          have htk : ns.take (j + 1) = ns.take j ++ [ns[j]] := List.take_succ_eq_append_getElem hjn
          have hmem : ns[j] ∈ ns := List.getElem_mem hjn
          generalize ns[j] = z at kz htk hmem
          have HZ := Lib.hid (And.intro htk hmem)
          have HJ := Lib.hid hjn
          have HWJ := Lib.hid (up_wrap hjn HI2.out)
          have hwj := HWJ.out
          have hend := end_row hjn
          clear htk hmem
          by_cases hin : 0 ≤ z ∧ z < (R.length : Int)
          · have HH := Lib.hid (brd_has_in (brd_below HX.out.2.brd HY.out.bel) z hin)
            have HT := Lib.hid (brd_slot (brd_below HX.out.2.brd HY.out.bel) HX.out.2.slots HS.out.2.1 z hin)
            have HIN := Lib.hid hin
            have HLN := Lib.hid (fun (z : Int) (hz : 0 ≤ z ∧ z < (R.length : Int)) => slots_at HX.out.2.slots z hz)
            clear hin
            go_wp2_with (first
              | (go_at_call 52; (with_reducible refine HH.out.mono ?_); rintro e w3 ⟨rfl, rfl⟩)
              | (go_at_call 19; (with_reducible refine HT.out.mono ?_); rintro e w3 ⟨A3, c3, rfl, h3⟩; have H3 := Lib.hid h3; clear h3)
              | (at_builtin; refine Kd.S_append (Kd.slice 5 (Kd.int .u8)) (w0 := wb) wb.heap.size rfl (.tmp 65) (.tmp 69) 22 31 (.slice none 0 0) 24 rfl Try.underlying22 info_row rfl (by decide) (by omega) u14 ((ns.take j).map fun z => R.getD z.toNat []) (R.getD z.toNat []) [.slice A3 n c3] (fun _ => True) (fun k_ => some k_ = (.slice A3 n c3 : Value).ownBlock) rfl rfl ?aP ?aK (fun _ _ => trivial) ?aO ?aB ?aS ?aL ?_
                 (case aP => exact rows_p HY.out H3.out (HLN.out z HIN.out))
                 (case aK => exact rows_k HY.out H3.out)
                 (case aO => exact rows_o HY.out H3.out)
                 (case aB => exact rows_b HY.out H3.out)
                 (case aS => exact (rows_b HY.out H3.out).size)
                 (case aL => have := HNL.out; have := HJ.out; rw [List.length_map, List.length_take]; omega)
                 intro v15 w5 hs5 hb5 _ _
                 have H5 := Lib.hid (And.intro hs5 hb5)
                 clear hs5 hb5))
            (try rw [HWJ.out])
            exact ⟨⟨j + 1, HJ.out, by norm_cast, ⟨rows_next HY.out HZ.out.1 HIN.out H5.out.1 H5.out.2⟩⟩, hend⟩
          · have HO := Lib.hid (brd_has_out (brd_below HX.out.2.brd HY.out.bel) z hin)
            have HIN := Lib.hid hin
            clear hin
            go_wp2_with (go_at_call 52; (with_reducible refine HO.out.mono ?_); rintro e w3 ⟨rfl, rfl⟩)
            go_ret2
            have h2 := play_out HX.out.1 z HZ.out.2 (by have := HIN.out; omega)
            refine ⟨.slice none 0 0, by rw [h2]; rfl, ?_, H1.out.2.2.2.trans ((HX.out.2.bel.mono (by omega)).trans (HY.out.bel.mono HLE.out))⟩
            rw [h2]
            exact Kd.S_nil _ _ _ _ _
        · obtain rfl : j = ns.length := Nat.le_antisymm hj (Nat.le_of_not_lt hjn)
          have t3 : decide ((ns.length : Int) < (ns.length : Int)) = false := by simp
          go_wp2
          go_ret2
          have h1 := HY.out.inn
          rw [List.take_length] at h1
          have h2 := play_some HX.out.1 h1
          have h3 := HY.out.S
          rw [List.take_length] at h3
          refine ⟨_, by rw [h2]; rfl, ?_, H1.out.2.2.2.trans ((HX.out.2.bel.mono (by omega)).trans (HY.out.bel.mono HLE.out))⟩
          rw [h2]
          exact Kd.S_lower h3 HLE.out
/-! ### in the printer's form -/
theorem alike_or (l : List (List Int)) : (∃ n, ∀ r ∈ l, r.length = n) ∨ ∃ i0, ∃ h : i0 < l.length, (∀ i (h' : i < l.length), i < i0 → l[i].length = (l[0]'(by omega)).length) ∧ (l[i0]).length ≠ (l[0]'(by omega)).length := by
  cases l with
  | nil => exact .inl ⟨0, fun r hr => by cases hr⟩
  | cons a l =>
    by_cases hall : ∀ r ∈ a :: l, r.length = a.length
    · exact .inl ⟨a.length, hall⟩
    · right
      have hex : ∃ i, ∃ h : i < (a :: l).length, ((a :: l)[i]).length ≠ a.length := by
        rw [Classical.not_forall] at hall
        obtain ⟨r, hr⟩ := hall
        rw [Classical.not_imp] at hr
        obtain ⟨i, hi, rfl⟩ := List.mem_iff_getElem.1 hr.1
        exact ⟨i, hi, hr.2⟩
      have hmin : ∀ m, (∃ h : m < (a :: l).length, ((a :: l)[m]).length ≠ a.length) → ∃ i0, ∃ h : i0 < (a :: l).length, (∀ i (h' : i < (a :: l).length), i < i0 → ((a :: l)[i]).length = a.length) ∧ ((a :: l)[i0]).length ≠ a.length := by
        intro m
        induction m using Nat.strongRecOn with
        | _ m ih =>
          rintro ⟨hm, hne⟩
          by_cases hsm : ∀ i (h' : i < (a :: l).length), i < m → ((a :: l)[i]).length = a.length
          · exact ⟨m, hm, hsm, hne⟩
          · rw [Classical.not_forall] at hsm
            obtain ⟨i, hi⟩ := hsm
            rw [Classical.not_forall] at hi
            obtain ⟨h', hi⟩ := hi
            rw [Classical.not_imp] at hi
            exact ih i hi.1 ⟨h', hi.2⟩
      obtain ⟨m, hm⟩ := hex
      exact hmin m hm
def okD (ds : List S42) : Bool := ds.all fun d => decide (0 ≤ d.f2) && decide (d.f2 < 256)
def okV (l : List (List Int)) : Bool := l.all fun r => decide (r.length ≤ 100000) && okB r
def alikeB (l : List (List Int)) : Bool := l.all fun r => decide (r.length = (l.headD []).length)
def replay_Play.f (l0_0 : List S42) (l0_1 : List Int) (l1 : List (List Int)) : Option (List (List Int) × Int) :=
  if l0_0.length ≤ 1000000 ∧ l0_1.length ≤ 1000000 ∧ l1.length ≤ 1000 ∧ okD l0_0 = true ∧ okV l1 = true then some (if alikeB l1 = true then playL l0_0 l0_1 l1 else ([], 1)) else none
theorem play_apart (A00 : Option Addr) (c00 n00 : Nat) (A01 : Option Addr) (c01 n01 : Nat) (A1 : Option Addr) (c1 : Nat) (l : List (List Int)) (i0 : Nat) (hi : i0 < l.length) (W : World) (hl : kvals.C W A1 l.length l) (hll : l.length ≤ 1000) (hb : ∀ r ∈ l, r.length ≤ 100000)
    (h1 : ∀ i (h' : i < l.length), i < i0 → l[i].length = (l[0]'(by omega)).length) (h2 : (l[i0]).length ≠ (l[0]'(by omega)).length) :
    Calls Try.prog 21 #[.agg #[.slice A00 n00 c00, .slice A01 n01 c01], .slice A1 l.length c1] W fun e w' => e = .returned (.tuple #[.slice none 0 0, .int .i64 1]) ∧ Below W.heap.size W w' := by
  have HB := Lib.hid (fun (w : World) (hw : Below W.heap.size W w) => (newboard_calls A1 c1 l i0 (l[0]'(by omega)).length w (Kd.C_below hl hw) (by omega) (hb _ (List.getElem_mem _)) hll (fun _ => rfl) (fun i h hlt => h1 i h hlt) (fun h => ⟨h2, hb _ (List.getElem_mem h)⟩)).mono
    fun e w' (h : (i0 = l.length ∧ e = .returned (.tuple #[.pointer (some ⟨w.heap.size, 0, none⟩), .int .i64 0]) ∧ Brd w.heap.size w' w.heap.size l ∨ i0 < l.length ∧ e = .returned (.tuple #[.pointer none, .int .i64 1])) ∧ Below w.heap.size w w') =>
      (show e = .returned (.tuple #[.pointer none, .int .i64 1]) ∧ Below W.heap.size W w' from by
        rcases h with ⟨⟨h1, _⟩ | ⟨_, h1⟩, h3⟩
        · omega
        · exact ⟨h1, hw.trans (h3.mono hw.size)⟩))
  clear hl hll hb h1 h2
  go_enter Try.func21, Try.ntmps21
  go_wp2_with (go_at_call 15; (with_reducible refine (HB.out _ (Gy.alloc_below W _)).mono ?_); rintro e w1 ⟨rfl, h1⟩; have H1 := Lib.hid h1; clear h1)
  go_ret2
  exact ⟨rfl, H1.out⟩
theorem alikeB_iff {l : List (List Int)} : alikeB l = true ↔ ∀ r ∈ l, r.length = (l.headD []).length := by
  unfold alikeB
  rw [List.all_eq_true]
  exact ⟨fun h r hr => of_decide_eq_true (h r hr), fun h r hr => decide_eq_true (h r hr)⟩
theorem replay_Play.calls (A0_0 : Option Addr) (c0_0 : Nat) (l0_0 : List S42) (A0_1 : Option Addr) (c0_1 : Nat) (l0_1 : List Int) (A1 : Option Addr) (c1 : Nat) (l1 : List (List Int)) (r1 : List (List Int)) (r2 : Int) (w : World)
    (hr0_0 : Kd.C k42 w A0_0 l0_0.length l0_0) (_hc0_0 : l0_0.length ≤ c0_0) (hr0_1 : Kd.C (Kd.int .i64) w A0_1 l0_1.length l0_1) (_hc0_1 : l0_1.length ≤ c0_1) (hr1 : Kd.C (Kd.slice 5 (Kd.int .u8)) w A1 l1.length l1) (_hc1 : l1.length ≤ c1)
    (h : replay_Play.f l0_0 l0_1 l1 = some (r1, r2)) :
    Calls Try.prog 21 #[.agg #[.slice A0_0 l0_0.length c0_0, .slice A0_1 l0_1.length c0_1], .slice A1 l1.length c1] w fun e w' => ∃ v0_ : Value, e = .returned (.tuple #[v0_, .int .i64 r2]) ∧ Kd.S (Kd.slice 5 (Kd.int .u8)) 31 w' w.heap.size (fun _ => True) v0_ r1 ∧ Below w.heap.size w w' := by
  unfold replay_Play.f at h
  split at h
  · rename_i hc
    obtain ⟨g1, g2, g3, g4, g5⟩ := hc
    have hb : ∀ r ∈ l1, r.length ≤ 100000 ∧ By r := fun r hr => by
      have := List.all_eq_true.1 g5 r hr
      simp only [Bool.and_eq_true, decide_eq_true_eq] at this
      exact ⟨this.1, okB_by this.2⟩
    have hd : ∀ d ∈ l0_0, 0 ≤ d.f2 ∧ d.f2 < 256 := fun d hd => by
      have := List.all_eq_true.1 g4 d hd
      simp only [Bool.and_eq_true, decide_eq_true_eq] at this
      exact this
    have h := Option.some.inj h
    rcases alike_or l1 with ⟨n, hn⟩ | ⟨i0, hi, h1, h2⟩
    · have ha : alikeB l1 = true := alikeB_iff.2 fun r hr => by
        cases l1 with
        | nil => cases hr
        | cons a l => rw [hn r hr, hn (List.headD (a :: l) []) (by simp)]
      rw [if_pos ha] at h
      have hn2 : (if l1 = [] then 0 else n) ≤ 100000 ∧ ∀ r ∈ l1, r.length = (if l1 = [] then 0 else n) := by
        cases l1 with
        | nil => exact ⟨by simp, fun r hr => by cases hr⟩
        | cons a l =>
          rw [if_neg (by simp)]
          exact ⟨by have := (hb a List.mem_cons_self).1; rw [hn a List.mem_cons_self] at this; exact this, hn⟩
      refine (play_calls A0_0 c0_0 l0_0 A0_1 c0_1 l0_1 A1 c1 l1 (if l1 = [] then 0 else n) w hr0_0 hr0_1 hr1 ⟨hn2.2, fun r hr => (hb r hr).2⟩ hn2.1 g3 g1 g2 hd).mono ?_
      rintro e w' ⟨v, rfl, hS, hB⟩
      rw [h] at hS ⊢
      exact ⟨v, rfl, hS, hB⟩
    · have ha : ¬ alikeB l1 = true := fun ha => by
        have h3 := alikeB_iff.1 ha
        have h4 := h3 _ (List.getElem_mem hi)
        have h5 := h3 _ (List.getElem_mem (show 0 < l1.length by omega))
        exact h2 (h4.trans h5.symm)
      rw [if_neg ha] at h
      obtain ⟨rfl, rfl⟩ := Prod.mk.inj h
      refine (play_apart A0_0 c0_0 _ A0_1 c0_1 _ A1 c1 l1 i0 hi w hr1 g3 (fun r hr => (hb r hr).1) h1 h2).mono ?_
      rintro e w' ⟨rfl, hB⟩
      exact ⟨_, rfl, Kd.S_nil _ _ _ _ _, hB⟩
  · cases h
end Go.Proofs.Ytcmigmldecacpaa.Giv

/- The walk over the reference's digest in pieces: small facts. -/
import Derived.Test.YtnoebhnkkigkjaaShaRef0
namespace Go.Proofs.Ytnoebhnkkigkjaa.Dig
open Go Go.RowKit Go.Proofs.Ytnoebhnkkigkjaa.QDig Go.Proofs.YtnoebhnkkigkjaaW.PrintWords Go.Proofs.YtnoebhnkkigkjaaW.PrintLast Go.Proofs.YtnoebhnkkigkjaaW.PrintMore Gy

def sliceLen : Value → Nat
  | .slice _ n _ => n
  | _ => 0
set_option maxRecDepth 100000 in
theorem zero_64w : ∃ zs : Array Value, zs = (n64 (List.replicate 64 0)).toArray ∧ ∀ W : World, (zeroValue 83).run Try.prog W = .ok (.agg zs) W := by
  refine ⟨_, rfl, fun W => ?_⟩
  kernel_rfl
set_option maxRecDepth 100000 in
theorem zero_8w : ∃ zs : Array Value, zs = (n64 (List.replicate 8 0)).toArray ∧ ∀ W : World, (zeroValue 84).run Try.prog W = .ok (.agg zs) W := by
  refine ⟨_, rfl, fun W => ?_⟩
  kernel_rfl
set_option maxRecDepth 100000 in
theorem info_64w : (Try.prog.info? 83).map (·.size) = some (n64 kTab).toArray.size := by kernel_rfl
theorem info_8w : (Try.prog.info? 84).map (·.size) = some 8 := by kernel_rfl
theorem info_8a (s : St) : (Try.prog.info? 84).map (·.size) = some (n64 s.nats).length := info_8w
theorem info_8b (s : St) : (Try.prog.info? 84).map (·.size) = some (n64 s.nats).toArray.size := info_8w
theorem own_slice {w : World} {base : Nat} {e : TypeId} {size n : Nat} {v : Value} {xs : List Value} (h : w.ownsRow base e size v n xs) : ∃ A c, v = .slice A n c := by
  rcases h.2 with ⟨rfl, rfl⟩ | ⟨g, c, _, rfl, _⟩
  · exact ⟨none, 0, rfl⟩
  · exact ⟨_, c, rfl⟩
section
variable {P : Program} {ops : Array Oper} {rest : List Oper} {o : Oper} {a : Act} {W : World} {Q : Exit → Act → World → Prop}
theorem run_value {d : Tmp} {v : Value} (hgd : o.guard = none) (hd : o.dst = some d) (hrun : (execOp a.eval o).run P W = .ok (.value v) W) (h : wpList P ops Q rest (a.put (some d) v) W) : wpList P ops Q (o :: rest) a W := by
  refine Kd.event_run hgd hrun ?_
  rw [hd]; exact h
theorem store_row (hgd : o.guard = none) (ty : TypeId) (x y : Operand) (ho : o.op = .store ty x y) (hd : o.dst = none) (b : Nat) (cells : List Value) (hx : a.eval x = .pointer (some ⟨b, 0, none⟩)) (hy : a.eval y = .agg cells.toArray)
    (ht : W.there b 0 cells.toArray.size) (hi : (P.info? ty).map (·.size) = some cells.toArray.size) (h1 : ∀ v ∈ cells, v.oneCell' = true) (h : wpList P ops Q rest a (W.setCells b 0 cells)) : wpList P ops Q (o :: rest) a W := by
  refine wpList_store_mid hgd ty x y ho b 0 cells.toArray hx hy ht hi (all_oneCell_toArray h1) ?_
  rw [hd]; exact h
end
theorem own_below {w w' : World} {base : Nat} {e : TypeId} {size n : Nat} {v : Value} {xs : List Value} (h : w.ownsRow base e size v n xs) (hb : Below w.heap.size w w') : w'.ownsRow base e size v n xs := by
  refine ⟨h.1, ?_⟩
  rcases h.2 with hn | ⟨g, cap, cur, rfl, hg, hc, rest⟩
  · exact .inl hn
  · refine .inr ⟨g, cap, cur, rfl, hg, ?_, rest⟩
    have hlt : g < w.heap.size := by
      rcases Nat.lt_or_ge g w.heap.size with h' | h'
      · exact h'
      · rw [Array.getElem?_eq_none h'] at hc; cases hc
    rw [hb.block g hlt]; exact hc
/-- the bytes that grow -/
structure Gro (b : Nat) (W2 wr : World) (v : Value) (n : Nat) (L : List Int) : Prop where
  own : wr.ownsRow b 5 1 v n (nums .u8 L)
  bel : Below b W2 wr
  len : n = L.length
  le : b ≤ W2.heap.size
theorem Gro.below {b : Nat} {W2 wr w' : World} {v : Value} {n : Nat} {L : List Int} (h : Gro b W2 wr v n L) (hb : Below wr.heap.size wr w') : Gro b W2 w' v n L :=
  ⟨own_below h.own hb, h.bel.trans (hb.mono (Nat.le_trans h.le h.bel.size)), h.len, h.le⟩
theorem Gro.alloc {b : Nat} {W2 wr : World} {v : Value} {n : Nat} {L : List Int} (h : Gro b W2 wr v n L) (o : Obj) : Gro b W2 (wr.alloc o) v n L := h.below (Gy.alloc_below wr o)
theorem Gro.own' {b : Nat} {W2 wr : World} {v : Value} {n : Nat} {L : List Int} (h : Gro b W2 wr v n L) : wr.ownsRow b 5 1 v L.length (nums .u8 L) := by rw [← h.len]; exact h.own
theorem Gro.base {b : Nat} {W2 wr : World} {v : Value} {n : Nat} {L : List Int} (h : Gro b W2 wr v n L) : b ≤ wr.heap.size := Nat.le_trans h.le h.bel.size
theorem gro_next {b : Nat} {W2 w1 : World} {v1 : Value} {L : List Int} (hle : b ≤ W2.heap.size) (ho : w1.ownsRow b 5 1 v1 L.length (nums .u8 L)) (hb : Below b W2 w1) (n : Nat) (hn : n = L.length) : ∃ A c, v1 = .slice A n c ∧ Gro b W2 w1 v1 n L := by
  subst hn
  obtain ⟨A, c, e⟩ := own_slice ho
  exact ⟨A, c, e, ho, hb, rfl, hle⟩
/-- what lies there when the bytes begin to grow -/
structure RefH (w wr : World) (hs : List Nat) : Prop where
  R : Arr wr w.heap.size (nums .u8 (List.replicate 32 0))
  K : Arr wr (w.heap.size + 1) (n64 kTab)
  H : Arr wr (w.heap.size + 1 + 1) (n64 hs)
  B : Below w.heap.size w wr
  sz : wr.heap.size = w.heap.size + 1 + 1 + 1
structure RefK (w wr : World) : Prop where
  R : Arr wr w.heap.size (nums .u8 (List.replicate 32 0))
  K : Arr wr (w.heap.size + 1) (n64 kTab)
  B : Below w.heap.size w wr
  sz : wr.heap.size = w.heap.size + 1 + 1
theorem ref_k (w : World) (z32 zt : Array Value) (h32 : z32 = (nums .u8 (List.replicate 32 0)).toArray) (ht : zt = (n64 (List.replicate 64 0)).toArray) :
    ((w.alloc (.cells z32 49)).alloc (.cells zt 83)).there (w.heap.size + 1) 0 (n64 kTab).toArray.size ∧ RefK w (((w.alloc (.cells z32 49)).alloc (.cells zt 83)).setCells (w.heap.size + 1) 0 (n64 kTab)) := by
  have e1 : ∀ (w : World) (o : Obj), (w.alloc o).heap.size = w.heap.size + 1 := size_alloc'
  have h1 := Arr.fresh w _ z32 h32 49
  have h2 := Arr.fresh (w.alloc (.cells z32 49)) _ zt ht 83
  simp only [e1] at h1 h2
  have hl : (n64 kTab).length = (n64 (List.replicate 64 0)).length := by rw [n64_length, n64_length]; rfl
  refine ⟨h2.there2 _ hl, (h1.alloc _).far_cells (by omega) _ _, h2.put _ hl, setCells_below (by omega) _ _ (((Below.refl w.heap.size w).alloc (Nat.le_refl _) _).alloc (by rw [e1]; omega) _), ?_⟩
  rw [setCells_size, e1, e1]
theorem ref_h {w wr : World} (h : RefK w wr) (zs : Array Value) (hz : zs = (n64 (List.replicate 8 0)).toArray) (s : St) :
    (wr.alloc (.cells zs 84)).there (w.heap.size + 1 + 1) 0 (n64 s.nats).toArray.size ∧ RefH w ((wr.alloc (.cells zs 84)).setCells (w.heap.size + 1 + 1) 0 (n64 s.nats)) s.nats := by
  have h1 := Arr.fresh wr _ zs hz 84
  rw [h.sz] at h1
  have hl : (n64 s.nats).length = (n64 (List.replicate 8 0)).length := by rw [n64_length, n64_length]; rfl
  refine ⟨h1.there2 _ hl, (h.R.alloc _).far_cells (by omega) _ _, (h.K.alloc _).far_cells (by omega) _ _, h1.put _ hl, setCells_below (by omega) _ _ (h.B.alloc (by rw [h.sz]; omega) _), ?_⟩
  rw [setCells_size, size_alloc', h.sz]
theorem one_read (w : World) (x : Int) : ReadsInt (w.alloc (.cells #[.int .u8 x] 5 (0, 0))) .u8 (some ⟨w.heap.size, 0, none⟩) 1 [x] := by
  refine ⟨rfl, by decide, fun _ => ⟨_, rfl, fun j hj => ?_⟩⟩
  obtain rfl : j = 0 := by omega
  rw [Gy.addr_add]
  exact (Arr.fresh w [.int .u8 x] _ rfl 5).cell rfl
theorem gro_start {w W2 : World} {hs : List Nat} (h : RefH w W2 hs) : Gro (w.heap.size + 1 + 1 + 1) W2 (W2.alloc (.cells #[] 5)) (.slice (some ⟨w.heap.size + 1 + 1 + 1, 0, none⟩) 0 0) 0 [] := by
  have h1 := World.ownsRow_lit (base := W2.heap.size) (e := 5) (size := 1) W2 #[] 0 (Nat.le_refl _) (by decide) rfl
  have hz := h.sz
  rw [hz] at h1
  refine ⟨h1, ?_, rfl, by omega⟩
  exact (Gy.alloc_below W2 _).mono (by omega)
def grown (xs : List Int) (m : Nat) : List Int := xs ++ 128 :: List.replicate m 0
theorem grown_length (xs : List Int) (m : Nat) : (grown xs m).length = xs.length + 1 + m := by
  unfold grown; rw [List.length_append, List.length_cons, List.length_replicate]; omega
theorem grown_zero (xs : List Int) : xs ++ [128] = grown xs 0 := rfl
theorem grown_next (xs : List Int) (m : Nat) : grown xs m ++ [0] = grown xs (m + 1) := by
  unfold grown
  rw [List.append_assoc, List.cons_append, List.replicate_succ', ]
theorem grown_end (xs : List Int) (m : Nat) (h : xs.length + 1 + m = padN xs.length - 8) : grown xs m ++ wideN (xs.length * 8) 8 = padded xs := by
  have h1 := padN_le xs.length
  unfold grown padded
  rw [show m = padN xs.length - xs.length - 9 from by omega, wide8_eq]
theorem pad_tests (q : Nat) : ((q % 64 = 56 → (((q : Int) % 64) == 56) = true ∧ (((q : Int) % 64) != 56) = false ∧ ((q % 64) == 56) = true ∧ ((q % 64) != 56) = false)) ∧ (q % 64 ≠ 56 → (((q : Int) % 64) == 56) = false ∧ (((q : Int) % 64) != 56) = true ∧ ((q % 64) == 56) = false ∧ ((q % 64) != 56) = true) := by
  constructor
  · intro h
    have h2 : (q : Int) % 64 = 56 := by omega
    simp [h, h2]
  · intro h
    have h2 : ¬ (q : Int) % 64 = 56 := by omega
    simp [h, h2]
theorem gro_ref {w W2 w5 : World} {hs : List Nat} {A : Option Addr} {n c : Nat} {L : List Int} (G : RefH w W2 hs) (h : Gro (w.heap.size + 1 + 1 + 1) W2 w5 (.slice A n c) n L) (hp : 0 < n) (hl : n ≤ 9223372036854775807) :
    ∃ g, A = some ⟨g, 0, none⟩ ∧ n ≤ c ∧ RefC w w5 g L hs := by
  have hsz := G.sz
  have hlen := h.len
  obtain ⟨g, c', e⟩ := Gy.own_some h.own hp
  injection e with e1 e2 e3
  subst e1 e3
  have hb := h.own.lt g rfl
  have hcap : n ≤ c := by
    rcases h.own.2 with ⟨e, _⟩ | ⟨g', cap, cur, e, _, _, hnc, _⟩
    · cases e
    · injection e with _ _ e3
      subst e3
      exact hnc
  have hbel : Below W2.heap.size W2 w5 := by rw [hsz]; exact h.bel
  have hr := Gy.own_reads h.own' hlen (by omega)
  rw [hlen] at hr
  exact ⟨g, rfl, hcap, G.R.below hbel, G.K.below hbel, G.H.below hbel, hr, G.B.trans (hbel.mono (by omega)), hb.1⟩
theorem Wide_at (y : Int) (v n : Nat) (z : Int) (w : World) (hy : y = (v : Int)) (hz : z = (n : Int)) (hn : n ≤ 1000) (hv : v < 18446744073709551616) :
    Calls Try.prog 13 #[.int .u64 y, .int .i64 z] w fun e w' => ∃ A' c', e = .returned (.slice A' n c') ∧ ReadsInt w' .u8 A' n (wideN v n) ∧ Below w.heap.size w w' := by
  subst hy
  exact Wide_calls v n z w hz hn hv
/-- while zeros are added -/
structure Lp (w W2 wr : World) (xs : List Int) (v : Value) (q m : Nat) : Prop where
  G : Gro (w.heap.size + 1 + 1 + 1) W2 wr v q (grown xs m)
  eq : q = xs.length + 1 + m
  le : q ≤ padN xs.length - 8
theorem end_pad {P q c c' : Nat} {A A' : Option Addr} (h : q < P) : P - sliceLen (.slice A' (q + 1) c') < P - sliceLen (.slice A q c) := by
  show P - (q + 1) < P - q
  omega
theorem ref_w {w wr : World} {g : Nat} {al : List Int} {hs : List Nat} (h : RefC w wr g al hs) (hp : 0 < al.length) (zt : Array Value) (hz : zt = (n64 (List.replicate 64 0)).toArray) (b : List Int) : RefW w (wr.alloc (.cells zt 83)) g wr.heap.size al hs (wL b 0) := by
  refine ⟨h.below (Gy.alloc_below wr _), Arr.fresh wr _ zt hz _, ?_⟩
  obtain ⟨ad, e, hc⟩ := h.A.2.2 hp
  injection e with e
  subst e
  have := hc 0 hp
  rw [Gy.addr_add] at this
  exact Gy.cell_lt this
def rorI (n : Int) (x : Nat) : Nat := ror n.toNat x
theorem turned_lit (x : Nat) (n : Int) (w : World) (h : x < 4294967296) (h1 : 1 ≤ n ∧ n ≤ 31) :
    Calls Try.prog 42 #[.int .u64 (x : Int), .int .u64 n] w fun e w' => e = .returned (.int .u64 ((rorI n x : Nat) : Int)) ∧ w' = w :=
  turned_same x n w n.toNat h (by omega) (by omega) (by omega)
theorem xor64 {a b : Nat} (ha : a < 4294967296) (hb : b < 4294967296) : Go.bits .xor .u64 (a : Int) (b : Int) = ((a ^^^ b : Nat) : Int) := Go.bits_xor_u64_nat a b (by omega) (by omega)
theorem sig_forms {x15 x2 : Nat} (h15 : x15 < 4294967296) (h2 : x2 < 4294967296) :
    Go.bits .xor .u64 (Go.bits .xor .u64 ((rorI 7 x15 : Nat) : Int) ((rorI 18 x15 : Nat) : Int)) ((x15 : Int) / 8) = ((ss0 x15 : Nat) : Int) ∧ Go.bits .xor .u64 (Go.bits .xor .u64 ((rorI 17 x2 : Nat) : Int) ((rorI 19 x2 : Nat) : Int)) ((x2 : Int) / 1024) = ((ss1 x2 : Nat) : Int) ∧ ss0 x15 < 4294967296 ∧ ss1 x2 < 4294967296 := by
  have e8 : (x15 : Int) / 8 = ((x15 / 8 : Nat) : Int) := by omega
  have e9 : (x2 : Int) / 1024 = ((x2 / 1024 : Nat) : Int) := by omega
  refine ⟨?_, ?_, ss0_lt h15, ss1_lt h2⟩
  · show Go.bits .xor .u64 (Go.bits .xor .u64 ((ror 7 x15 : Nat) : Int) ((ror 18 x15 : Nat) : Int)) ((x15 : Int) / 8) = _
    rw [e8, xor64 (ror_lt h15) (ror_lt h15), xor64 (xor32 (ror_lt h15) (ror_lt h15)) (Nat.lt_of_le_of_lt (Nat.div_le_self _ _) h15)]
    rfl
  · show Go.bits .xor .u64 (Go.bits .xor .u64 ((ror 17 x2 : Nat) : Int) ((ror 19 x2 : Nat) : Int)) ((x2 : Int) / 1024) = _
    rw [e9, xor64 (ror_lt h2) (ror_lt h2), xor64 (xor32 (ror_lt h2) (ror_lt h2)) (Nat.lt_of_le_of_lt (Nat.div_le_self _ _) h2)]
    rfl
theorem sum_forms {a b c d : Nat} (ha : a < 4294967296) (hb : b < 4294967296) (hc : c < 4294967296) (hd : d < 4294967296) :
    IntKind.u64.wrap ((a : Int) + (b : Int)) = (a : Int) + (b : Int) ∧ IntKind.u64.wrap ((a : Int) + (b : Int) + (c : Int)) = (a : Int) + (b : Int) + (c : Int) ∧ IntKind.u64.wrap ((a : Int) + (b : Int) + (c : Int) + (d : Int)) = (a : Int) + (b : Int) + (c : Int) + (d : Int) ∧
      Go.bits .and .u64 ((a : Int) + (b : Int) + (c : Int) + (d : Int)) 4294967295 = (((a + b + c + d) % 4294967296 : Nat) : Int) := by
  refine ⟨u64id (by omega) (by omega), u64id (by omega) (by omega), u64id (by omega) (by omega), ?_⟩
  have h := Go.bits_and_u64_nat (a + b + c + d) 4294967295 (by omega) (by omega)
  rw [mask32] at h
  exact h
structure Sched (wr : World) (gw i x2 x16 x7 : Nat) (u : Value) : Prop where
  c2 : wr.cell? ⟨gw, i - 2, none⟩ = some (.int .u64 (x2 : Int))
  c16 : wr.cell? ⟨gw, i - 16, none⟩ = some (.int .u64 (x16 : Int))
  c7 : wr.cell? ⟨gw, i - 7, none⟩ = some (.int .u64 (x7 : Int))
  cw : wr.cell? ⟨gw, i, none⟩ = some u
  fw : wr.frozen? ⟨gw, i, none⟩ = false
theorem Sched.drewN {wr : World} {gw i x2 x16 x7 : Nat} {u : Value} (n : Nat) (h : Sched wr gw i x2 x16 x7 u) : Sched (wr.drewN n) gw i x2 x16 x7 u := by
  have e : (wr.drewN n).heap = wr.heap := by
    have := fun b => (pw_below_drewN (Below.refl wr.heap.size wr) n).block b
    apply Array.ext_getElem?
    intro b
    by_cases hb : b < wr.heap.size
    · exact this b hb
    · have hs : (wr.drewN n).heap.size = wr.heap.size := by simp
      rw [Array.getElem?_eq_none (by omega), Array.getElem?_eq_none (by omega)]
  obtain ⟨h1, h2, h3, h4, h5⟩ := h
  unfold World.cell? at h1 h2 h3 h4
  unfold World.frozen? at h5
  exact ⟨by unfold World.cell?; rw [e]; exact h1, by unfold World.cell?; rw [e]; exact h2, by unfold World.cell?; rw [e]; exact h3, by unfold World.cell?; rw [e]; exact h4, by unfold World.frozen?; rw [e]; exact h5⟩
theorem Sched.drew {wr : World} {gw i x2 x16 x7 : Nat} {u : Value} (h : Sched wr gw i x2 x16 x7 u) : Sched wr.drew gw i x2 x16 x7 u := ⟨h.c2, h.c16, h.c7, h.cw, h.fw⟩
theorem up_64 {i : Nat} (h : i < 64) : wrap64 ((i : Int) + 1) = (i : Int) + 1 := by unfold wrap64; omega
theorem end_16 {i : Nat} (h : i < 16) : 16 - (intOf (Value.int .i64 ((i : Int) + 1))).toNat < 16 - (intOf (Value.int .i64 (i : Int))).toNat := by
  show 16 - ((i : Int) + 1).toNat < 16 - ((i : Int)).toNat
  omega
theorem wAt_take (b : List Int) {i : Nat} (h : i < 16) : num4 ((b.drop (4 * i)).take 4) = wAt b i := by rw [num4_take, wAt_low b h]
/-- all[64j+4i : 64j+4i+4] -/
theorem mid_ref (A : Option Addr) (c : Nat) (b : List Int) (j i : Nat) (hi : i < 16) (h : 64 * j + 64 ≤ b.length) (hc : b.length ≤ c) :
    ∃ A' c', (∀ W : World, (Instr.slice 25 (.slice A b.length c) (some (.int .i64 (64 * (j : Int) + 4 * (i : Int)))) (some (.int .i64 (64 * (j : Int) + 4 * (i : Int) + 4))) none).run Try.prog W = .ok (.slice A' 4 c') W) ∧ (∀ w : World, ReadsInt w .u8 A b.length b → ReadsInt w .u8 A' 4 (((b.drop (64 * j)).drop (4 * i)).take 4)) ∧ 4 ≤ c' := by
  obtain ⟨A', h1, h2⟩ := Gy.mid_at (P := Try.prog) 25 5 Try.underlying25 info_u8 A c b (64 * j + 4 * i) 4 (by omega) hc
  have e : ((64 * j + 4 * i : Nat) : Int) = 64 * (j : Int) + 4 * (i : Int) := by omega
  rw [e] at h1
  refine ⟨A', c - (64 * j + 4 * i), h1, fun w hr => ?_, by omega⟩
  rw [List.drop_drop]
  exact h2 w hr
end Go.Proofs.Ytnoebhnkkigkjaa.Dig

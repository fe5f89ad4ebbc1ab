/- The walks over package sum: SHA-256. -/
import Derived.Test.YtnoebhnkkigkjaaShaMix
import Derived.Test.YtnoebhnkkigkjaaShaStill
namespace Go.Proofs.Ytnoebhnkkigkjaa.Dig
open Go Go.RowKit Go.Proofs.Ytnoebhnkkigkjaa.QDig Go.Proofs.YtnoebhnkkigkjaaW.PrintWords Go.Proofs.YtnoebhnkkigkjaaW.PrintLast Go.Proofs.YtnoebhnkkigkjaaW.PrintMore Gy

theorem mix_at (s : St) (A : Option Addr) (L c : Nat) (b : List Int) (w : World) (hs : s.ok) (hL : L = b.length) (hR : ReadsInt w .u8 A b.length b) (hb : Bytes b) (h64 : 64 ≤ b.length) (hc : b.length ≤ c) (hl : b.length ≤ 2000000) :
    Calls Try.prog 41 #[.agg (n32 s.nats).toArray, .slice A L c, .agg (n32 kTab).toArray] w fun e w' => e = .returned (.agg (n32 (mixSt kTab b s).nats).toArray) ∧ Below w.heap.size w w' := by
  subst hL
  exact mix_calls s A c b w hs hR hb h64 hc hl
/-- b[64*j:] -/
theorem cut_from (A : Option Addr) (c : Nat) (b : List Int) (j : Nat) (h : 64 * j + 64 ≤ b.length) (hc : b.length ≤ c) :
    ∃ A' L c', (∀ W : World, (Instr.slice 25 (.slice A b.length c) (some (.int .i64 (64 * (j : Int)))) none none).run Try.prog W = .ok (.slice A' L c') W) ∧ (∀ w : World, ReadsInt w .u8 A b.length b → ReadsInt w .u8 A' (b.drop (64 * j)).length (b.drop (64 * j))) ∧ L = (b.drop (64 * j)).length ∧ (b.drop (64 * j)).length ≤ c' ∧ 64 ≤ (b.drop (64 * j)).length := by
  obtain ⟨i0, hi, hzz⟩ := Option.map_eq_some_iff.1 info_u8
  simp only [Prod.mk.injEq] at hzz
  obtain ⟨hz0, hz1, hz2⟩ := hzz
  obtain ⟨A', h1, h2, h3⟩ := print_cut_int (P := Try.prog) (k := .u8) 25 5 Try.underlying25 hi hz1 A c b (64 * (j : Int)) (by omega) (by omega) hc
  have e : (64 * (j : Int)).toNat = 64 * j := by omega
  rw [e] at h2 h3
  refine ⟨A', _, _, h1, h2, by rw [e], ?_, by rw [List.length_drop]; omega⟩
  rw [e]; exact h3
/-- so many bytes are there -/
def bPart (s : St) (m : Nat) : List Int := (bytes32 s).take m ++ List.replicate (32 - m) 0
theorem bPart_length (s : St) (m : Nat) (h : m ≤ 32) : (bPart s m).length = 32 := by
  unfold bPart; rw [List.length_append, List.length_take, bytes32_length, List.length_replicate]; omega
theorem bPart_zero (s : St) : bPart s 0 = List.replicate 32 0 := rfl
theorem bPart_all (s : St) : bPart s 32 = bytes32 s := by
  unfold bPart; rw [List.take_of_length_le (by rw [bytes32_length]; omega)]; exact List.append_nil _
theorem bPart_set (s : St) (i j : Nat) (hi : i < 8) (hj : j < 4) : (bPart s (4 * i + j)).set (4 * i + j) (((s.nats.getD i 0) / 2 ^ (24 - 8 * j) % 256 : Nat) : Int) = bPart s (4 * i + j + 1) := by
  have hl : ((bytes32 s).take (4 * i + j)).length = 4 * i + j := by rw [List.length_take, bytes32_length]; omega
  have hm : 4 * i + j < (bytes32 s).length := by rw [bytes32_length]; omega
  have hv : (bytes32 s)[4 * i + j] = (((s.nats.getD i 0) / 2 ^ (24 - 8 * j) % 256 : Nat) : Int) := by
    have e : (bytes32 s)[4 * i + j]? = some (((s.nats.getD ((4 * i + j) / 4) 0) / 2 ^ (24 - 8 * ((4 * i + j) % 4)) % 256 : Nat) : Int) := by
      unfold bytes32
      rw [List.getElem?_map, List.getElem?_range (by omega)]
      rfl
    rw [show (4 * i + j) / 4 = i from by omega, show (4 * i + j) % 4 = j from by omega, List.getElem?_eq_getElem hm] at e
    exact Option.some.inj e
  unfold bPart
  rw [List.set_append_right _ _ (by omega), hl, Nat.sub_self, List.take_succ_eq_append_getElem hm, hv, show 32 - (4 * i + j) = (32 - (4 * i + j + 1)) + 1 from by omega, List.replicate_succ, List.append_assoc]
  rfl
set_option maxRecDepth 100000 in
theorem zero_32 : ∃ zs : Array Value, zs = (nums .u8 (List.replicate 32 0)).toArray ∧ ∀ W : World, (zeroValue 49).run Try.prog W = .ok (.agg zs) W := by
  refine ⟨_, rfl, fun W => ?_⟩
  kernel_rfl
theorem info_32 : (Try.prog.info? 49).map (·.size) = some 32 := by kernel_rfl
/-- the blocks of a digest's walk, chunk by chunk -/
structure DigAt (w wr : World) (g1 g2 g3 : Nat) (all : List Int) (s : St) : Prop where
  R : Arr wr w.heap.size (nums .u8 (List.replicate 32 0))
  K : Arr wr g1 (n32 kTab)
  S : Arr wr g2 (n32 s.nats)
  A : ReadsInt wr .u8 (some ⟨g3, 0, none⟩) all.length all
  B : Below w.heap.size w wr
  o1 : w.heap.size + 1 ≤ g1
  o2 : g1 + 1 ≤ g2
  o3 : g2 + 1 ≤ g3
theorem reads_far {w : World} {g b : Nat} {xs : List Int} (h : ReadsInt w .u8 (some ⟨g, 0, none⟩) xs.length xs) (hb : b ≠ g) (o : Nat) (us : List Value) : ReadsInt (w.setCells b o us) .u8 (some ⟨g, 0, none⟩) xs.length xs := by
  refine ⟨h.1, h.2.1, fun hn => ?_⟩
  obtain ⟨ad, e, hc⟩ := h.2.2 hn
  injection e with e
  subst e
  refine ⟨_, rfl, fun j hj => ?_⟩
  have := hc j hj
  rw [Gy.addr_add] at this ⊢
  unfold World.cell? at this ⊢
  rw [setCells_block hb]
  exact this
theorem DigAt.below {w wr w' : World} {g1 g2 g3 : Nat} {all : List Int} {s : St} (h : DigAt w wr g1 g2 g3 all s) (hb : Below wr.heap.size wr w') : DigAt w w' g1 g2 g3 all s :=
  ⟨h.R.below hb, h.K.below hb, h.S.below hb, Gy.reads_below h.A hb, h.B.trans (hb.mono h.B.size), h.o1, h.o2, h.o3⟩
theorem DigAt.put {w wr : World} {g1 g2 g3 : Nat} {all : List Int} {s : St} (h : DigAt w wr g1 g2 g3 all s) (t : St) : DigAt w (wr.setCells g2 0 (n32 t.nats)) g1 g2 g3 all t := by
  have o1 := h.o1
  have o2 := h.o2
  have o3 := h.o3
  exact ⟨h.R.far_cells (by omega) _ _, h.K.far_cells (by omega) _ _, h.S.put _ (by rw [n32_length, n32_length]; rfl), reads_far h.A (by omega) _ _, setCells_below (by omega) _ _ h.B, o1, o2, o3⟩
theorem end_chunks {j n : Nat} (h : j < n) : 64 * n - (intOf (Value.int .i64 (64 * (j : Int) + 64))).toNat < 64 * n - (intOf (Value.int .i64 (64 * (j : Int)))).toNat := by
  show 64 * n - (64 * (j : Int) + 64).toNat < 64 * n - (64 * (j : Int)).toNat
  omega
theorem chunk_facts {j n : Nat} (h : j < n) (hn : 64 * n ≤ 2000000) : decide (64 * (j : Int) < ((64 * n : Nat) : Int)) = true ∧ wrap64 (64 * (j : Int) + 64) = 64 * (j : Int) + 64 ∧ 64 * (j : Int) + 64 = 64 * ((j + 1 : Nat) : Int) := by
  refine ⟨by simp; omega, by unfold wrap64; omega, by omega⟩
theorem ended_at (A : Option Addr) (c : Nat) (xs al : List Int) (w : World) (hR : ReadsInt w .u8 A xs.length xs) (hx : xs.length ≤ 1000000) (ha : al = padded xs) :
    Calls Try.prog 40 #[.slice A xs.length c] w fun e w' => ∃ g, e = .returned (.slice (some ⟨g, 0, none⟩) al.length al.length) ∧ w.heap.size ≤ g ∧ ReadsInt w' .u8 (some ⟨g, 0, none⟩) al.length al ∧ Below w.heap.size w w' := by
  subst ha
  rw [padded_length]
  refine (ended_calls A c xs w hR hx).mono ?_
  rintro e w' ⟨rfl, h1, h2⟩
  exact ⟨_, rfl, Nat.le_refl _, h1, h2⟩
structure DigP (w wr : World) (g1 g2 : Nat) (s : St) : Prop where
  R : Arr wr w.heap.size (nums .u8 (List.replicate 32 0))
  K : Arr wr g1 (n32 kTab)
  S : Arr wr g2 (n32 s.nats)
  B : Below w.heap.size w wr
  o1 : w.heap.size + 1 ≤ g1
  o2 : g1 + 1 ≤ g2
  o3 : g2 + 1 ≤ wr.heap.size
theorem dig_pre (w w1 w2 : World) (z32 zt zs : Array Value) (s : St) (h32 : z32 = (nums .u8 (List.replicate 32 0)).toArray) (ht : zt = (n32 (List.replicate 64 0)).toArray) (hs : zs = (n32 (List.replicate 8 0)).toArray)
    (e1 : Below (w.alloc (.cells z32 49)).heap.size (w.alloc (.cells z32 49)) w1)
    (e2 : Below ((w1.alloc (.cells zt 76)).setCells w1.heap.size 0 (n32 kTab)).heap.size ((w1.alloc (.cells zt 76)).setCells w1.heap.size 0 (n32 kTab)) w2) :
    DigP w ((w2.alloc (.cells zs 79)).setCells w2.heap.size 0 (n32 s.nats)) w1.heap.size w2.heap.size s := by
  have a0 := (Arr.fresh w _ z32 h32 49).below e1
  have s1 := e1.size
  rw [size_alloc'] at s1
  have d1 := (Arr.fresh w1 _ zt ht 76).put (n32 kTab) (by rw [n32_length, n32_length]; rfl)
  have k1 := d1.below e2
  have s2 := e2.size
  rw [setCells_size, size_alloc'] at s2
  have a1 := ((a0.alloc (.cells zt 76)).far_cells (show w1.heap.size ≠ w.heap.size by omega) 0 (n32 kTab)).below e2
  have d2 := (Arr.fresh w2 _ zs hs 79).put (n32 s.nats) (by rw [n32_length, n32_length]; rfl)
  have b1 : Below w.heap.size w w1 := (Gy.alloc_below w _).trans (e1.mono (by rw [size_alloc']; omega))
  have b2 : Below w.heap.size w w2 := (setCells_below (by omega) (n32 kTab) 0 (b1.alloc (by omega) (.cells zt 76))).trans (e2.mono (by rw [setCells_size, size_alloc']; omega))
  refine ⟨(a1.alloc _).far_cells (by omega) _ _, (k1.alloc _).far_cells (by omega) _ _, d2, setCells_below (by omega) _ _ (b2.alloc (by omega) _), by omega, by omega, by rw [setCells_size, size_alloc']; omega⟩
theorem DigP.dig {w wr w' : World} {g1 g2 g3 : Nat} {s : St} {al : List Int} (h : DigP w wr g1 g2 s) (hg : wr.heap.size ≤ g3) (hr : ReadsInt w' .u8 (some ⟨g3, 0, none⟩) al.length al) (hb : Below wr.heap.size wr w') : DigAt w w' g1 g2 g3 al s :=
  ⟨h.R.below hb, h.K.below hb, h.S.below hb, hr, h.B.trans (hb.mono h.B.size), h.o1, h.o2, by have := h.o3; omega⟩
/-- the blocks of a digest's walk, byte by byte -/
structure OutAt (w wr : World) (g : Nat) (s : St) (m : Nat) : Prop where
  R : Arr wr w.heap.size (nums .u8 (List.replicate 32 0))
  O : Arr wr g (nums .u8 (bPart s m))
  B : Below w.heap.size w wr
  o : w.heap.size + 1 ≤ g
theorem OutAt.set {w wr : World} {g : Nat} {s : St} {i j : Nat} (h : OutAt w wr g s (4 * i + j)) (hi : i < 8) (hj : j < 4) : OutAt w (wr.setCell ⟨g, 4 * i + j, none⟩ (.int .u8 (((s.nats.getD i 0) / 2 ^ (24 - 8 * j) % 256 : Nat) : Int))) g s (4 * i + j + 1) := by
  have o := h.o
  have h2 := h.O.set (i := 4 * i + j) (by rw [nums_len, bPart_length _ _ (by omega)]; omega) (.int .u8 (((s.nats.getD i 0) / 2 ^ (24 - 8 * j) % 256 : Nat) : Int))
  rw [nums_set, bPart_set s i j hi hj] at h2
  exact ⟨h.R.far (by omega) _ _, h2, h.B.setCell (show w.heap.size ≤ g by omega) _, o⟩
theorem OutAt.cell {w wr : World} {g : Nat} {s : St} {i j : Nat} (h : OutAt w wr g s (4 * i + j)) (hi : i < 8) (hj : j < 4) : ∃ v, wr.cell? ⟨g, 4 * i + j, none⟩ = some v ∧ wr.frozen? ⟨g, 4 * i + j, none⟩ = false :=
  ⟨_, h.O.cell (nums_getD (by rw [bPart_length _ _ (by omega)]; omega)), h.O.fr _⟩
theorem out_start {w wr : World} {g1 g2 g3 : Nat} {al : List Int} {s : St} (h : DigAt w wr g1 g2 g3 al s) (z32 : Array Value) (h32 : z32 = (nums .u8 (List.replicate 32 0)).toArray) (t : St) : OutAt w (wr.alloc (.cells z32 49)) wr.heap.size t 0 := by
  have hl := h.R.lt
  exact ⟨h.R.alloc _, Arr.fresh wr _ z32 (by rw [bPart_zero]; exact h32) _, h.B.alloc (by omega) _, by omega⟩
theorem index_8 (a b c d e f g h : Int) : ∀ (i : Nat), i < 8 → ∀ W : World, (Instr.index 82 (.agg #[.int .u32 a, .int .u32 b, .int .u32 c, .int .u32 d, .int .u32 e, .int .u32 f, .int .u32 g, .int .u32 h]) (.int .i64 (i : Int))).run Try.prog W = .ok (.int .u32 ([a, b, c, d, e, f, g, h].getD i 0)) W
  | 0, _, _ => by kernel_rfl
  | 1, _, _ => by kernel_rfl
  | 2, _, _ => by kernel_rfl
  | 3, _, _ => by kernel_rfl
  | 4, _, _ => by kernel_rfl
  | 5, _, _ => by kernel_rfl
  | 6, _, _ => by kernel_rfl
  | 7, _, _ => by kernel_rfl
  | _ + 8, h, _ => by omega
theorem nats_getD (s : St) : ∀ i, i < 8 → ([(s.a : Int), s.b, s.c, s.d, s.e, s.f, s.g, s.h] : List Int).getD i 0 = ((s.nats.getD i 0 : Nat) : Int)
  | 0, _ => rfl
  | 1, _ => rfl
  | 2, _ => rfl
  | 3, _ => rfl
  | 4, _ => rfl
  | 5, _ => rfl
  | 6, _ => rfl
  | 7, _ => rfl
  | _ + 8, h => by omega
theorem index_st (s : St) (i : Nat) (hi : i < 8) (W : World) : (Instr.index 82 (.agg #[.int .u32 (s.a : Int), .int .u32 (s.b : Int), .int .u32 (s.c : Int), .int .u32 (s.d : Int), .int .u32 (s.e : Int), .int .u32 (s.f : Int), .int .u32 (s.g : Int), .int .u32 (s.h : Int)]) (.int .i64 (i : Int))).run Try.prog W = .ok (.int .u32 ((s.nats.getD i 0 : Nat) : Int)) W := by
  rw [index_8 _ _ _ _ _ _ _ _ i hi W, nats_getD s i hi]
theorem end_8 {i : Nat} (h : i < 8) : 8 - (intOf (Value.int .i64 ((i : Int) + 1))).toNat < 8 - (intOf (Value.int .i64 (i : Int))).toNat := by
  show 8 - ((i : Int) + 1).toNat < 8 - ((i : Int)).toNat
  omega
theorem end_4 {i : Nat} (h : i < 4) : 4 - (intOf (Value.int .i64 ((i : Int) + 1))).toNat < 4 - (intOf (Value.int .i64 (i : Int))).toNat := by
  show 4 - ((i : Int) + 1).toNat < 4 - ((i : Int)).toNat
  omega
theorem info_32a {l : List Int} (h : l.length = 32) : (Try.prog.info? 49).map (·.size) = some (nums .u8 l).length := by rw [nums_len, h]; exact info_32
theorem info_32b {l : List Int} (h : l.length = 32) : (Try.prog.info? 49).map (·.size) = some (nums .u8 l).toArray.size := by rw [List.size_toArray]; exact info_32a h
theorem len_32 {l : List Int} (h : l.length = 32) : (nums .u8 l).length = (nums .u8 (List.replicate 32 0)).length := by rw [nums_len, nums_len, h]; rfl
theorem out_facts {i j : Nat} (hi : i < 8) (hj : j < 4) : (4 * (i : Int) + (j : Int)).toNat = 4 * i + j ∧ 4 * (i : Int) + (j : Int) < 32 ∧ 8 * (j : Int) ≤ 24 := by
  refine ⟨by omega, by omega, by omega⟩
theorem byte_val (x k : Nat) : (x : Int) / 2 ^ k % 256 = ((x / 2 ^ k % 256 : Nat) : Int) := by
  have e2 : (x : Int) / 2 ^ k = ((x / 2 ^ k : Nat) : Int) := by norm_cast
  rw [e2]
  exact (Int.natCast_emod _ 256).symm
theorem len_st (s t : St) : (n32 s.nats).length = (n32 t.nats).length := by rw [n32_length, n32_length]; rfl
theorem mixAll_step (al : List Int) (s : St) (j : Nat) : mixSt kTab (al.drop (64 * j)) (mixAll kTab al s j) = mixAll kTab al s (j + 1) := rfl
theorem zero_64j : (Value.int .i64 0 : Value) = .int .i64 (64 * ((0 : Nat) : Int)) := rfl
set_option maxHeartbeats 8000000 in
set_option maxRecDepth 100000 in
theorem digest_calls (A : Option Addr) (n c : Nat) (xs : List Int) (w : World) (hR : ReadsInt w .u8 A n xs) (hb : Bytes xs) (hx : xs.length ≤ 1000000) :
    Calls Try.prog 26 #[.slice A n c] w fun e w' => e = .returned (.agg (nums .u8 (sha xs)).toArray) ∧ Below w.heap.size w w' := by
  obtain rfl : xs.length = n := hR.1
  obtain ⟨al, hal⟩ : ∃ al, al = padded xs := ⟨_, rfl⟩
  obtain ⟨N, hN⟩ : ∃ N, N = padN xs.length / 64 := ⟨_, rfl⟩
  obtain ⟨fin, hfin⟩ : ∃ f, f = mixAll kTab al Gy.begun N := ⟨_, rfl⟩
  obtain ⟨bl, hbl⟩ : ∃ b, b = bytes32 fin := ⟨_, rfl⟩
  have hsha : sha xs = bl := by rw [hbl, hfin, hal, hN]; rfl
  have hlen : al.length = 64 * N := by rw [hal, padded_length, hN]; unfold padN; omega
  have hbn : 64 * N ≤ 1000072 := by rw [hN]; unfold padN; omega
  have hba : Bytes al := by rw [hal]; exact padded_bytes hb
  rw [hsha]
  have hbl2 : bl.length = 32 := by rw [hbl, bytes32_length]
  have HBL := Lib.hid (And.intro hbl hbl2)
  clear hbl hbl2
  have HL := Lib.hid (And.intro hal (And.intro hlen (And.intro hbn (And.intro hba hfin))))
  clear hal hN hfin hsha hlen hbn hba
  obtain ⟨z32, hz32, hzr⟩ := zero_32
  obtain ⟨zt, hzt, hz64⟩ := zero_64
  obtain ⟨zs, hzs, hz8⟩ := zero_st
  have HR := Lib.hid (And.intro hR (And.intro hb hx))
  have HZ := Lib.hid (And.intro hz32 (And.intro hzt hzs))
  have A0 := Lib.hid (Arr.fresh w _ z32 hz32 49)
  clear hR hb hx hz32 hzt hzs
  go_enter Try.func26, Try.ntmps26
  go_wp2_with (first
    | (go_at_call 38; (with_reducible refine (rounds_calls _).mono ?_); rintro e w1 ⟨rfl, e1⟩; have E1 := Lib.hid e1; clear e1; have D1 := Lib.hid (Arr.fresh w1 _ zt HZ.out.2.1 76))
    | (with_reducible refine wpList_store_mid rfl 76 (.tmp 3) (.tmp 11) rfl w1.heap.size 0 (n32 kTab).toArray rfl rfl (D1.out.there2 _ rfl) info_k64b (all_oneCell_toArray (n32_one kTab)) ?_)
    | (go_at_call 39; (with_reducible refine (begin_calls _).mono ?_); rintro e w2 ⟨rfl, e1⟩; have E2 := Lib.hid e1; clear e1; have D2 := Lib.hid (Arr.fresh w2 _ zs HZ.out.2.2 79))
    | (with_reducible refine wpList_store_mid rfl 79 (.tmp 4) (.tmp 12) rfl w2.heap.size 0 (n32 Gy.begun.nats).toArray rfl rfl (D2.out.there2 _ rfl) (info_stB _) (all_oneCell_toArray (n32_one _)) ?_)
    | (go_at_call 40; (with_reducible refine (ended_at A c xs al _ (Gy.reads_below HR.out.1 (dig_pre w w1 w2 z32 zt zs Gy.begun HZ.out.1 HZ.out.2.1 HZ.out.2.2 E1.out E2.out).B) HR.out.2.2 HL.out.1).mono ?_); rintro e w3 ⟨g3, rfl, e1, e2, e3⟩; have HD := Lib.hid ((dig_pre w w1 w2 z32 zt zs Gy.begun HZ.out.1 HZ.out.2.1 HZ.out.2.2 E1.out E2.out).dig e1 e2 e3); clear e1 e2 e3))
  clear A0 D1 D2 E1 E2
  generalize w1.heap.size = g1 at HD ⊢
  generalize w2.heap.size = g2 at HD ⊢
  go_loopw [6] (fun v6 wr => ∃ j : Nat, j ≤ N ∧ v6 = .int .i64 (64 * (j : Int)) ∧ Gy.Hd (DigAt w wr g1 g2 g3 al (mixAll kTab al Gy.begun j))) (fun v6 _ => 64 * N - (intOf v6).toNat)
  case atStart => exact ⟨0, Nat.zero_le _, zero_64j, ⟨HD.out⟩⟩
  case round =>
    obtain ⟨j, hj, rfl, hH⟩ := hrel
    clear HD
    by_cases hjn : j < N
    · have HJ := Lib.hid hjn
      have hend := end_chunks hjn
      obtain ⟨t1, t2, t3⟩ := chunk_facts hjn (by have := HL.out.2.2.1; omega)
      have HT3 := Lib.hid t3
      rw [← HL.out.2.1] at t1
      obtain ⟨A', L, c', m1, m2, m3, m4, m5⟩ := cut_from (some ⟨g3, 0, none⟩) al.length al j (by have := HL.out.2.1; omega) (Nat.le_refl _)
      have HM := Lib.hid (And.intro m2 (And.intro m3 (And.intro m4 m5)))
      have HOK := Lib.hid (mixAll_ok (K := kTab) (all := al) begun_ok j)
      have HST := Lib.hid (mixAll_step al Gy.begun j)
      clear m2 m3 m4 m5 t3 hj hjn
      generalize mixAll kTab al Gy.begun j = s at hH HOK HST
      go_wp2
      have M3 := Lib.hid (hH.out.below (Gy.drew_below _))
      refine wp_region_still_tail 5 (by kernel_rfl) (by kernel_rfl) ?_
      simp only [List.take_succ_cons, List.take_zero, List.drop_succ_cons, List.drop_zero]
      refine Gy.still_load rfl 79 (.tmp 4) rfl g2 rfl (n32 s.nats) _ M3.out.S.at_ Try.underlying79 rfl (info_stA s) ?_
      repeat still_step
      refine Gy.still_load rfl 76 (.tmp 3) rfl g1 rfl (n32 kTab) _ M3.out.K.at_ Try.underlying76 rfl info_k64a ?_
      refine wpStill_nil ?_
      change wpList _ _ _ _ _ wr.drew
      clear hH
      generalize wr.drew = w3 at M3 ⊢
      go_wp2_with (first
        | (go_at_call 41; (with_reducible refine (mix_at s A' L c' (al.drop (64 * j)) _ HOK.out HM.out.2.1 (HM.out.1 _ M3.out.A) (HL.out.2.2.2.1.drop _) HM.out.2.2.2 HM.out.2.2.1 (by have := HL.out.2.1; have := HL.out.2.2.1; rw [List.length_drop]; omega)).mono ?_); rw [HST.out]; rintro e w4 ⟨rfl, e1⟩; have M4 := Lib.hid (M3.out.below e1); clear e1; have M5 := Lib.hid (M4.out.S.there2 (n32 (mixAll kTab al Gy.begun (j + 1)).nats) (len_st _ _)))
        | (with_reducible refine wpList_store_mid rfl 79 (.tmp 4) (.tmp 26) rfl g2 0 (n32 (mixAll kTab al Gy.begun (j + 1)).nats).toArray rfl rfl M5.out (info_stB _) (all_oneCell_toArray (n32_one _)) ?_))
      rw [t2]
      exact ⟨⟨j + 1, HJ.out, by rw [HT3.out], ⟨M4.out.put _⟩⟩, hend⟩
    · obtain rfl : j = N := by omega
      have t1 : decide (64 * (j : Int) < (al.length : Int)) = false := by have := HL.out.2.1; simp; omega
      obtain ⟨wo, rfl⟩ : ∃ wo : World, wo = wr := ⟨_, rfl⟩
      have hH2 := hH.out
      rw [← HL.out.2.2.2.2] at hH2
      have c0 := hH2.S.cell (show (n32 fin.nats)[0]? = some (.int .u32 (fin.a : Int)) from rfl)
      have c1 := hH2.S.cell (show (n32 fin.nats)[1]? = some (.int .u32 (fin.b : Int)) from rfl)
      have c2 := hH2.S.cell (show (n32 fin.nats)[2]? = some (.int .u32 (fin.c : Int)) from rfl)
      have c3 := hH2.S.cell (show (n32 fin.nats)[3]? = some (.int .u32 (fin.d : Int)) from rfl)
      have c4 := hH2.S.cell (show (n32 fin.nats)[4]? = some (.int .u32 (fin.e : Int)) from rfl)
      have c5 := hH2.S.cell (show (n32 fin.nats)[5]? = some (.int .u32 (fin.f : Int)) from rfl)
      have c6 := hH2.S.cell (show (n32 fin.nats)[6]? = some (.int .u32 (fin.g : Int)) from rfl)
      have c7 := hH2.S.cell (show (n32 fin.nats)[7]? = some (.int .u32 (fin.h : Int)) from rfl)
      have lt2 := hH2.S.lt
      have HO := Lib.hid (out_start hH2 z32 HZ.out.1 fin)
      clear hH hH2 hj
      go_wp2
      clear c0 c1 c2 c3 c4 c5 c6 c7 lt2
      generalize wo.heap.size = g7 at HO ⊢
      go_loopw [44] (fun v44 wr => ∃ i : Nat, i ≤ 8 ∧ v44 = .int .i64 (i : Int) ∧ Gy.Hd (OutAt w wr g7 fin (4 * i))) (fun v44 _ => 8 - (intOf v44).toNat)
      case atStart => exact ⟨0, by omega, rfl, ⟨HO.out⟩⟩
      case round =>
        obtain ⟨i, hi, rfl, hH⟩ := hrel
        clear HO
        by_cases hi8 : i < 8
        · have t2 : decide ((i : Int) < 8) = true := by simp; omega
          have hidx := index_st fin i hi8
          have HI := Lib.hid hi8
          have hend := end_8 hi8
          obtain ⟨wp, rfl⟩ : ∃ wp : World, wp = wr := ⟨_, rfl⟩
          go_wp2
          go_loopw [48] (fun v48 wr => ∃ j : Nat, j ≤ 4 ∧ v48 = .int .i64 (j : Int) ∧ Gy.Hd (OutAt w wr g7 fin (4 * i + j))) (fun v48 _ => 4 - (intOf v48).toNat)
          case atStart => exact ⟨0, by omega, rfl, hH⟩
          case round =>
            obtain ⟨j, hj, rfl, hH⟩ := hrel
            by_cases hj4 : j < 4
            · have t3 : decide ((j : Int) < 4) = true := by simp; omega
              have HJ := Lib.hid hj4
              have hend4 := end_4 hj4
              obtain ⟨u0, c0, f0⟩ := hH.out.cell HI.out hj4
              obtain ⟨p1, p2, p3⟩ := out_facts HI.out hj4
              have hwj : wrap64 ((j : Int) + 1) = (j : Int) + 1 := by unfold wrap64; omega
              clear hj
              go_wp2
              refine ⟨⟨j + 1, HJ.out, by norm_cast, ⟨?_⟩⟩, hend4⟩
              rw [byte_val]
              exact hH.out.set HI.out HJ.out
            · obtain rfl : j = 4 := by omega
              have t3 : decide (((4 : Nat) : Int) < 4) = false := by decide
              have hwi : wrap64 ((i : Int) + 1) = (i : Int) + 1 := by have := HI.out; unfold wrap64; omega
              go_wp2
              exact ⟨⟨i + 1, HI.out, by norm_cast, hH⟩, hend⟩
        · obtain rfl : i = 8 := by omega
          have t2 : decide (((8 : Nat) : Int) < 8) = false := by decide
          have hq := hH.out
          rw [show 4 * 8 = 32 from rfl] at hq
          have HO32 := hq.O
          rw [bPart_all, ← HBL.out.1] at HO32
          have HM := Lib.hid HO32
          have HB := Lib.hid (And.intro (hq.R.there2 (nums .u8 (bl)) (len_32 HBL.out.2)) (And.intro ((hq.R.put (nums .u8 (bl)) (len_32 HBL.out.2)).loadV (P := Try.prog) Try.underlying49 rfl (info_32a HBL.out.2)) (setCells_below (Nat.le_refl _) (nums .u8 (bl)) 0 hq.B)))
          clear hH hq HO32
          go_wp2_with (first
            | (with_reducible refine wpList_load_mid rfl 49 (.tmp 7) rfl g7 0 rfl (nums .u8 (bl)) _ HM.out.at_ Try.underlying49 rfl (info_32a HBL.out.2) ?_)
            | (with_reducible refine wpList_store_mid rfl 49 (.tmp 2) (.tmp 64) rfl w.heap.size 0 (nums .u8 (bl)).toArray rfl rfl HB.out.1 (info_32b HBL.out.2) (all_oneCell_toArray (nums_one _ _)) ?_))
          exact bodyPost_ret (results_arr rfl rfl HB.out.2.1) rfl ⟨rfl, HB.out.2.2⟩
end Go.Proofs.Ytnoebhnkkigkjaa.Dig

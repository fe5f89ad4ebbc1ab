/- The walks over package sum: a chunk of bytes is mixed in. -/
import Derived.Test.YtnoebhnkkigkjaaShaRight
import Derived.StillTailTactics
import Derived.Deep.QuietTactic
import Derived.BigQuiet
namespace Go.Proofs.Ytnoebhnkkigkjaa.Dig
open Go Go.RowKit Go.Proofs.Ytnoebhnkkigkjaa.QDig Go.Proofs.YtnoebhnkkigkjaaW.PrintWords Go.Proofs.YtnoebhnkkigkjaaW.PrintLast Go.Proofs.YtnoebhnkkigkjaaW.PrintMore Gy

/-- so many words are there -/
def wL (b : List Int) (i : Nat) : List Nat := (List.range i).map (wAt b) ++ List.replicate (64 - i) 0
theorem wL_length (b : List Int) (i : Nat) (h : i ≤ 64) : (wL b i).length = 64 := by
  unfold wL; rw [List.length_append, List.length_map, List.length_range, List.length_replicate]; omega
theorem wL_set (b : List Int) (i : Nat) (h : i < 64) : (wL b i).set i (wAt b i) = wL b (i + 1) := by
  have hl : ((List.range i).map (wAt b)).length = i := by rw [List.length_map, List.length_range]
  unfold wL
  rw [List.set_append_right _ _ (by omega), hl, Nat.sub_self, show 64 - i = (64 - (i + 1)) + 1 from by omega, List.replicate_succ, List.set_cons_zero, List.range_succ, List.map_append, List.append_assoc]
  rfl
theorem wL_at (b : List Int) (i j : Nat) (h : j < i) : (wL b i).getD j 0 = wAt b j := by
  unfold wL
  rw [List.getD_eq_getElem?_getD, List.getElem?_append_left (by rw [List.length_map, List.length_range]; omega), List.getElem?_map, List.getElem?_range h]
  rfl
structure MixAt (w wr : World) (b : List Int) (s : St) (j i : Nat) : Prop where
  S : Arr wr w.heap.size (n32 s.nats)
  K : Arr wr (w.heap.size + 1) (n32 kTab)
  R : Arr wr (w.heap.size + 1 + 1) (n32 (List.replicate 8 0))
  W : Arr wr (w.heap.size + 1 + 1 + 1) (n32 (wL b j))
  T : Arr wr (w.heap.size + 1 + 1 + 1 + 1) (n32 (mixed kTab b s i).nats)
  B : Below w.heap.size w wr
set_option maxRecDepth 100000 in
theorem zero_st : ∃ zs : Array Value, zs = (n32 (List.replicate 8 0)).toArray ∧ ∀ W : World, (zeroValue 79).run Try.prog W = .ok (.agg zs) W := by
  refine ⟨_, rfl, fun W => ?_⟩
  kernel_rfl
theorem info_st : (Try.prog.info? 79).map (·.size) = some 8 := by kernel_rfl
theorem sub_facts (i : Nat) (z : Int) (k : Nat) (hz : z = (k : Int)) (h : k ≤ i) (h2 : i ≤ 64) : IntKind.i64.wrap ((i : Int) - z) = (i : Int) - z ∧ 0 ≤ (i : Int) - z ∧ ((i : Int) - z).toNat = i - k := by
  subst hz
  refine ⟨?_, by omega, by omega⟩
  rw [Gy.wrapI64]; omega
theorem MixAt.wcell {w wr : World} {b : List Int} {s : St} {i : Nat} (h : MixAt w wr b s i i) (hi : i < 64) (j : Nat) (hj : j < i) : wr.cell? ⟨w.heap.size + 1 + 1 + 1, j, none⟩ = some (.int .u32 ((wAt b j : Nat) : Int)) := by
  have := h.W.cell (n32_at (l := wL b i) (i := j) (by rw [wL_length _ _ (by omega)]; omega))
  rw [wL_at _ _ _ hj] at this
  exact this
theorem MixAt.below {w wr w' : World} {b : List Int} {s : St} {j i : Nat} (h : MixAt w wr b s j i) (hb : Below wr.heap.size wr w') : MixAt w w' b s j i :=
  ⟨h.S.below hb, h.K.below hb, h.R.below hb, h.W.below hb, h.T.below hb, h.B.trans (hb.mono h.B.size)⟩
theorem MixAt.setW {w wr : World} {b : List Int} {s : St} {i : Nat} (h : MixAt w wr b s i i) (hi : i < 64) : MixAt w (wr.setCell ⟨w.heap.size + 1 + 1 + 1, i, none⟩ (.int .u32 ((wAt b i : Nat) : Int))) b s (i + 1) i := by
  have h2 := h.W.set (i := i) (by rw [n32_length, wL_length _ _ (by omega)]; omega) (.int .u32 ((wAt b i : Nat) : Int))
  rw [n32_set, wL_set b i hi] at h2
  exact ⟨h.S.far (by omega) _ _, h.K.far (by omega) _ _, h.R.far (by omega) _ _, h2, h.T.far (by omega) _ _, h.B.setCell (show w.heap.size ≤ w.heap.size + 1 + 1 + 1 by omega) _⟩
theorem MixAt.setT {w wr : World} {b : List Int} {s : St} {i : Nat} (h : MixAt w wr b s (i + 1) i) :
    MixAt w (wr.setCells (w.heap.size + 1 + 1 + 1 + 1) 0 (n32 (rnd (mixed kTab b s i) ((kTab.getD i 0 + wAt b i) % 4294967296)).nats)) b s (i + 1) (i + 1) :=
  ⟨h.S.far_cells (by omega) _ _, h.K.far_cells (by omega) _ _, h.R.far_cells (by omega) _ _, h.W.far_cells (by omega) _ _, h.T.put _ (by rw [n32_length, n32_length]; rfl), setCells_below (show w.heap.size ≤ w.heap.size + 1 + 1 + 1 + 1 by omega) _ _ h.B⟩
theorem mix_before (w : World) (zs zt : Array Value) (s : St) :
    Arr ((((w.alloc (.cells (n32 s.nats).toArray 79)).alloc (.cells (n32 kTab).toArray 76)).alloc (.cells zs 79)).alloc (.cells zt 76)) w.heap.size (n32 s.nats) :=
  (((Arr.fresh w (n32 s.nats) _ rfl 79).alloc _).alloc _).alloc _
theorem mix_start (w : World) (zs zt : Array Value) (hz : zs = (n32 (List.replicate 8 0)).toArray) (ht : zt = (n32 (List.replicate 64 0)).toArray) (b : List Int) (s : St) (wr : World)
    (hw : wr = (((((w.alloc (.cells (n32 s.nats).toArray 79)).alloc (.cells (n32 kTab).toArray 76)).alloc (.cells zs 79)).alloc (.cells zt 76)).alloc (.cells zs 79))) :
    wr.there (w.heap.size + 1 + 1 + 1 + 1) 0 (n32 s.nats).toArray.size ∧ MixAt w (wr.setCells (w.heap.size + 1 + 1 + 1 + 1) 0 (n32 s.nats)) b s 0 0 := by
  subst hw
  have e1 : ∀ (w : World) (o : Obj), (w.alloc o).heap.size = w.heap.size + 1 := size_alloc'
  have h1 := Arr.fresh w (n32 s.nats) _ rfl 79
  have h2 := Arr.fresh (w.alloc (.cells (n32 s.nats).toArray 79)) (n32 kTab) _ rfl 76
  have h3 := Arr.fresh ((w.alloc (.cells (n32 s.nats).toArray 79)).alloc (.cells (n32 kTab).toArray 76)) _ zs hz 79
  have h4 := Arr.fresh (((w.alloc (.cells (n32 s.nats).toArray 79)).alloc (.cells (n32 kTab).toArray 76)).alloc (.cells zs 79)) _ zt ht 76
  have h5 := Arr.fresh ((((w.alloc (.cells (n32 s.nats).toArray 79)).alloc (.cells (n32 kTab).toArray 76)).alloc (.cells zs 79)).alloc (.cells zt 76)) _ zs hz 79
  simp only [e1] at h1 h2 h3 h4 h5
  have hl : (n32 s.nats).length = (n32 (List.replicate 8 0)).length := by rw [n32_length, n32_length]; rfl
  refine ⟨h5.there2 _ hl, ((((h1.alloc _).alloc _).alloc _).alloc _).far_cells (by omega) _ _, (((h2.alloc _).alloc _).alloc _).far_cells (by omega) _ _, ((h3.alloc _).alloc _).far_cells (by omega) _ _, (h4.alloc _).far_cells (by omega) _ _, h5.put _ hl, ?_⟩
  have b1 := Below.refl w.heap.size w
  exact setCells_below (by omega) _ _ (((((b1.alloc (Nat.le_refl _) _).alloc (by simp only [e1]; omega) _).alloc (by simp only [e1]; omega) _).alloc (by simp only [e1]; omega) _).alloc (by simp only [e1]; omega) _)
theorem info_stA (s : St) : (Try.prog.info? 79).map (·.size) = some (n32 s.nats).length := info_st
theorem info_stB (s : St) : (Try.prog.info? 79).map (·.size) = some (n32 s.nats).toArray.size := info_st
/-- b[4*i:] -/
theorem cut_at (A : Option Addr) (c : Nat) (b : List Int) (i : Nat) (h : 4 * i + 4 ≤ b.length) (hc : b.length ≤ c) :
    ∃ A' L c', (∀ W : World, (Instr.slice 25 (.slice A b.length c) (some (.int .i64 (4 * (i : Int)))) none none).run Try.prog W = .ok (.slice A' L c') W) ∧ (∀ w : World, ReadsInt w .u8 A b.length b → ReadsInt w .u8 A' L (b.drop (4 * i))) ∧ 4 ≤ L ∧ L ≤ c' := by
  obtain ⟨i0, hi, hzz⟩ := Option.map_eq_some_iff.1 info_u8
  simp only [Prod.mk.injEq] at hzz
  obtain ⟨hz0, hz1, hz2⟩ := hzz
  obtain ⟨A', h1, h2, h3⟩ := print_cut_int (P := Try.prog) (k := .u8) 25 5 Try.underlying25 hi hz1 A c b (4 * (i : Int)) (by omega) (by omega) hc
  have e : (4 * (i : Int)).toNat = 4 * i := by omega
  rw [e] at h2
  refine ⟨A', _, _, h1, fun w hr => ?_, ?_, h3⟩
  · have := h2 w hr
    rw [e]; exact this
  · rw [e, List.length_drop]; omega
theorem round_at (s : St) (y : Int) (x : Nat) (w : World) (h : s.ok) (hy : y = (x : Int)) :
    Calls Try.prog 57 #[.agg #[.int .u32 (s.a : Int), .int .u32 (s.b : Int), .int .u32 (s.c : Int), .int .u32 (s.d : Int), .int .u32 (s.e : Int), .int .u32 (s.f : Int), .int .u32 (s.g : Int), .int .u32 (s.h : Int)], .int .u32 y] w fun e w' => e = .returned (.agg (n32 (rnd s x).nats).toArray) ∧ Below w.heap.size w w' := by
  subst hy
  exact round_calls s x w h
theorem end_64 {i : Nat} (h : i < 64) : 64 - (intOf (Value.int .i64 ((i : Int) + 1))).toNat < 64 - (intOf (Value.int .i64 (i : Int))).toNat := by
  show 64 - ((i : Int) + 1).toNat < 64 - ((i : Int)).toNat
  omega
/-- what the round's end reads -/
structure MixFacts (w wr : World) (t : St) (k x i : Nat) : Prop where
  c0 : wr.cell? ⟨w.heap.size + 1 + 1 + 1 + 1, 0, none⟩ = some (.int .u32 (t.a : Int))
  c1 : wr.cell? ⟨w.heap.size + 1 + 1 + 1 + 1, 1, none⟩ = some (.int .u32 (t.b : Int))
  c2 : wr.cell? ⟨w.heap.size + 1 + 1 + 1 + 1, 2, none⟩ = some (.int .u32 (t.c : Int))
  c3 : wr.cell? ⟨w.heap.size + 1 + 1 + 1 + 1, 3, none⟩ = some (.int .u32 (t.d : Int))
  c4 : wr.cell? ⟨w.heap.size + 1 + 1 + 1 + 1, 4, none⟩ = some (.int .u32 (t.e : Int))
  c5 : wr.cell? ⟨w.heap.size + 1 + 1 + 1 + 1, 5, none⟩ = some (.int .u32 (t.f : Int))
  c6 : wr.cell? ⟨w.heap.size + 1 + 1 + 1 + 1, 6, none⟩ = some (.int .u32 (t.g : Int))
  c7 : wr.cell? ⟨w.heap.size + 1 + 1 + 1 + 1, 7, none⟩ = some (.int .u32 (t.h : Int))
  ck : wr.cell? ⟨w.heap.size + 1, i, none⟩ = some (.int .u32 (k : Int))
  cx : wr.cell? ⟨w.heap.size + 1 + 1 + 1, i, none⟩ = some (.int .u32 (x : Int))
theorem MixAt.facts {w wr : World} {b : List Int} {s : St} {i : Nat} (h : MixAt w wr b s (i + 1) i) (hi : i < 64) : MixFacts w wr (mixed kTab b s i) (kTab.getD i 0) (wAt b i) i := by
  refine ⟨h.T.cell rfl, h.T.cell rfl, h.T.cell rfl, h.T.cell rfl, h.T.cell rfl, h.T.cell rfl, h.T.cell rfl, h.T.cell rfl, h.K.cell (n32_at (by rw [kTab_length]; exact hi)), ?_⟩
  have := h.W.cell (n32_at (l := wL b (i + 1)) (i := i) (by rw [wL_length _ _ (by omega)]; exact hi))
  rw [wL_at _ _ _ (Nat.lt_succ_self i)] at this
  exact this
theorem sched_form {x16 x15 x7 x2 : Nat} (_h16 : x16 < 4294967296) (h15 : x15 < 4294967296) (_h7 : x7 < 4294967296) (h2 : x2 < 4294967296) :
    ((((x16 : Int) + (x7 : Int)) % 4294967296 + Go.bits .xor .u32 (Go.bits .xor .u32 ((ror 7 x15 : Nat) : Int) ((ror 18 x15 : Nat) : Int)) ((x15 : Int) / 8)) % 4294967296 + Go.bits .xor .u32 (Go.bits .xor .u32 ((ror 17 x2 : Nat) : Int) ((ror 19 x2 : Nat) : Int)) ((x2 : Int) / 1024)) % 4294967296 = (((x16 + ss0 x15 + x7 + ss1 x2) % 4294967296 : Nat) : Int) := by
  have e8 : (x15 : Int) / 8 = ((x15 / 8 : Nat) : Int) := by omega
  have e9 : (x2 : Int) / 1024 = ((x2 / 1024 : Nat) : Int) := by omega
  rw [e8, e9, xorN (ror_lt h15) (ror_lt h15), xorN (xor32 (ror_lt h15) (ror_lt h15)) (Nat.lt_of_le_of_lt (Nat.div_le_self _ _) h15), xorN (ror_lt h2) (ror_lt h2), xorN (xor32 (ror_lt h2) (ror_lt h2)) (Nat.lt_of_le_of_lt (Nat.div_le_self _ _) h2)]
  change ((((x16 : Int) + (x7 : Int)) % 4294967296 + ((ss0 x15 : Nat) : Int)) % 4294967296 + ((ss1 x2 : Nat) : Int)) % 4294967296 = _
  generalize ss0 x15 = p
  generalize ss1 x2 = q
  omega
theorem sum_form (k x : Nat) : ((k : Int) + (x : Int)) % 4294967296 = (((k + x) % 4294967296 : Nat) : Int) := by
  rw [← Int.natCast_add]
  exact (Int.natCast_emod _ 4294967296).symm
set_option maxHeartbeats 8000000 in
set_option maxRecDepth 100000 in
theorem mix_calls (s : St) (A : Option Addr) (c : Nat) (b : List Int) (w : World) (hs : s.ok) (hR : ReadsInt w .u8 A b.length b) (hb : Bytes b) (h64 : 64 ≤ b.length) (hc : b.length ≤ c) (hl : b.length ≤ 2000000) :
    Calls Try.prog 41 #[.agg (n32 s.nats).toArray, .slice A b.length c, .agg (n32 kTab).toArray] w fun e w' => e = .returned (.agg (n32 (mixSt kTab b s).nats).toArray) ∧ Below w.heap.size w w' := by
  obtain ⟨t64, ht⟩ : ∃ t, t = mixed kTab b s 64 := ⟨_, rfl⟩
  have hmx : mixSt kTab b s = s.plus t64 := by rw [ht]; rfl
  rw [hmx]
  have HT64 := Lib.hid ht
  clear ht hmx
  obtain ⟨zs, hzs, hz8⟩ := zero_st
  obtain ⟨zt, hzt, hz64⟩ := zero_64
  have HS := Lib.hid (And.intro (mix_before w zs zt s) (mix_start w zs zt hzs hzt b s _ rfl))
  have HR := Lib.hid (And.intro hR (And.intro hb (And.intro h64 (And.intro hc hl))))
  have HO := Lib.hid hs
  clear hR hb h64 hc hl hzs hzt hs
  go_enter Try.func41, Try.ntmps41
  go_wp2_with (first
    | (with_reducible refine wpList_load_mid rfl 79 (.tmp 3) rfl w.heap.size 0 rfl (n32 s.nats) _ HS.out.1.at_ Try.underlying79 rfl (info_stA s) ?_)
    | (with_reducible refine wpList_store_mid rfl 79 (.tmp 8) (.tmp 12) rfl (w.heap.size + 1 + 1 + 1 + 1) 0 (n32 s.nats).toArray rfl rfl HS.out.2.1 (info_stB s) (all_oneCell_toArray (n32_one s.nats)) ?_))
  go_loopw [13] (fun v13 wr => ∃ i : Nat, i ≤ 64 ∧ v13 = .int .i64 (i : Int) ∧ Gy.Hd (MixAt w wr b s i i)) (fun v13 _ => 64 - (intOf v13).toNat)
  case atStart => exact ⟨0, by omega, rfl, ⟨HS.out.2.2⟩⟩
  case round =>
    obtain ⟨i, hi, rfl, hM⟩ := hrel
    clear HS
    by_cases hi64 : i < 64
    · have t1 : decide ((i : Int) < 64) = true := by simp; omega
      have HI := Lib.hid hi64
      have hwi : wrap64 ((i : Int) + 1) = (i : Int) + 1 := by unfold wrap64; omega
      have hend := end_64 hi64
      clear hi
      by_cases hi16 : i < 16
      · have t2 : decide ((i : Int) < 16) = true := by simp; omega
        obtain ⟨A', L, c', m1, m2, m3, m4⟩ := cut_at A c b i (by have := HR.out.2.2.1; omega) HR.out.2.2.2.1
        have HN := Lib.hid (And.intro (m2 wr (Gy.reads_below HR.out.1 hM.out.B)) (And.intro m4 (And.intro (HR.out.2.1.drop (4 * i)) m3)))
        have HW := Lib.hid (wAt_low b hi16)
        clear m2 m3 m4
        go_wp2_with (first
          | (go_at_call 55; (with_reducible refine (number_calls A' L c' (b.drop (4 * i)) _ HN.out.1 HN.out.2.1 HN.out.2.2.1 HN.out.2.2.2).mono ?_); rw [← HW.out]; rintro e w1 ⟨rfl, e1⟩; have E1 := Lib.hid (hM.out.below e1.below); clear e1; have cw := E1.out.W.cell (n32_at (i := i) (by rw [wL_length _ _ (by have := HI.out; omega)]; exact HI.out)); have fw := E1.out.W.fr i))
        have M2 := Lib.hid (E1.out.setW HI.out)
        generalize w1.setCell ⟨w.heap.size + 1 + 1 + 1, i, none⟩ (.int .u32 ((wAt b i : Nat) : Int)) = w2 at M2 ⊢
        clear E1 cw fw HN HW m1
        have HP := Lib.hid (fun (w3 : World) (h : MixAt w w3 b s (i + 1) i) => h.setT)
        have hf := M2.out.facts HI.out
        have HT := Lib.hid (mixed_ok (K := kTab) (b := b) HO.out i)
        generalize mixed kTab b s i = t at hf HT HP
        generalize kTab.getD i 0 = k at hf HP
        generalize wAt b i = x at hf HP ⊢
        obtain ⟨c0, c1, c2, c3, c4, c5, c6, c7, ck, cx⟩ := hf
        have HXY := Lib.hid (sum_form k x)
        have hlt : (i : Int) < 64 := by have := HI.out; omega
        go_still_tail 8, (by kernel_rfl)
        change wpList _ _ _ _ _ w2.drew
        have M3 := Lib.hid (M2.out.below (Gy.drew_below _))
        generalize w2.drew = w3 at M3 ⊢
        clear c0 c1 c2 c3 c4 c5 c6 c7 ck cx M2
        go_wp2_with (first
          | (go_at_call 57; (with_reducible refine (round_at t _ ((k + x) % 4294967296) _ HT.out HXY.out).mono ?_); rintro e w4 ⟨rfl, e1⟩; have M4 := Lib.hid (M3.out.below e1); clear e1; have M5 := Lib.hid (M4.out.T.there2 (n32 (rnd t ((k + x) % 4294967296)).nats) (by rw [n32_length, n32_length]; rfl)))
          | (with_reducible refine wpList_store_mid rfl 79 (.tmp 8) (.tmp 70) rfl (w.heap.size + 1 + 1 + 1 + 1) 0 (n32 (rnd t ((k + x) % 4294967296)).nats).toArray rfl rfl M5.out (info_stB _) (all_oneCell_toArray (n32_one _)) ?_))
        exact ⟨⟨i + 1, HI.out, by norm_cast, ⟨HP.out _ M4.out⟩⟩, hend⟩
      · have t2 : decide ((i : Int) < 16) = false := by simp; omega
        have HWA := Lib.hid (wAt_high b hi16)
        have b16 : (16 : Int) ≤ (i : Int) := by omega
        have b15 : (15 : Int) ≤ (i : Int) := by omega
        have b7 : (7 : Int) ≤ (i : Int) := by omega
        have b2 : (2 : Int) ≤ (i : Int) := by omega
        have l16 : (i : Int) - 16 < 64 := by omega
        have l15 : (i : Int) - 15 < 64 := by omega
        have l7 : (i : Int) - 7 < 64 := by omega
        have l2 : (i : Int) - 2 < 64 := by omega
        have hlt : (i : Int) < 64 := by omega
        have c15 := hM.out.wcell hi64 (i - 15) (by omega)
        have c2 := hM.out.wcell hi64 (i - 2) (by omega)
        have HBT := Lib.hid HR.out.2.1
        have HLT := Lib.hid (And.intro (wAt_lt HBT.out (i - 16)) (And.intro (wAt_lt HBT.out (i - 15)) (And.intro (wAt_lt HBT.out (i - 7)) (wAt_lt HBT.out (i - 2)))))
        have HI16 := Lib.hid hi16
        clear hi16
        go_wp2
        go_quiet (fail)
        have M1 := Lib.hid (hM.out.below (pw_below_drewN (Below.refl _ _) nq))
        generalize wr.drewN nq = w1 at M1 ⊢
        clear c15 c2
        go_wp2
        have c16 := M1.out.wcell HI.out (i - 16) (by have := HI16.out; omega)
        have c7 := M1.out.wcell HI.out (i - 7) (by have := HI16.out; omega)
        have cw := M1.out.W.cell (n32_at (i := i) (by rw [wL_length _ _ (by have := HI.out; omega)]; exact HI.out))
        have fw := M1.out.W.fr i
        obtain ⟨p16, q16, r16⟩ := sub_facts i 16 16 rfl (by have := HI16.out; omega) (by have := HI.out; omega)
        obtain ⟨p7, q7, r7⟩ := sub_facts i 7 7 rfl (by have := HI16.out; omega) (by have := HI.out; omega)
        generalize wAt b (i - 16) = x16 at c16 HWA HLT ⊢
        generalize wAt b (i - 15) = x15 at HWA HLT ⊢
        generalize wAt b (i - 7) = x7 at c7 HWA HLT ⊢
        generalize wAt b (i - 2) = x2 at HWA HLT ⊢
        go_still_tail 29, (by kernel_rfl)
        still_call (right_same x15 7 _ 7 HLT.out.2.1 rfl (by omega) (by omega))
        repeat still_step
        still_call (right_same x15 18 _ 18 HLT.out.2.1 rfl (by omega) (by omega))
        repeat still_step
        still_call (right_same x2 17 _ 17 HLT.out.2.2.2 rfl (by omega) (by omega))
        repeat still_step
        still_call (right_same x2 19 _ 19 HLT.out.2.2.2 rfl (by omega) (by omega))
        repeat still_step
        refine wpStill_nil ?_
        change wpList _ _ _ _ _ w1.drew
        go_wp2
        rw [sched_form HLT.out.1 HLT.out.2.1 HLT.out.2.2.1 HLT.out.2.2.2, ← HWA.out]
        have M2 := Lib.hid ((M1.out.setW HI.out).below (Gy.drew_below _))
        generalize (w1.setCell ⟨w.heap.size + 1 + 1 + 1, i, none⟩ (.int .u32 ((wAt b i : Nat) : Int))).drew = w2 at M2 ⊢
        clear c16 c7 cw fw M1 p16 q16 r16 p7 q7 r7 b16 b15 b7 b2 l16 l15 l7 l2 HWA HLT
        have HP := Lib.hid (fun (w3 : World) (h : MixAt w w3 b s (i + 1) i) => h.setT)
        have hf := M2.out.facts HI.out
        have HT := Lib.hid (mixed_ok (K := kTab) (b := b) HO.out i)
        generalize mixed kTab b s i = t at hf HT HP
        generalize kTab.getD i 0 = k at hf HP
        generalize wAt b i = x at hf HP ⊢
        obtain ⟨c0, c1, c2, c3, c4, c5, c6, c7, ck, cx⟩ := hf
        have HXY := Lib.hid (sum_form k x)
        have hlt : (i : Int) < 64 := by have := HI.out; omega
        go_still_tail 8, (by kernel_rfl)
        change wpList _ _ _ _ _ w2.drew
        have M3 := Lib.hid (M2.out.below (Gy.drew_below _))
        generalize w2.drew = w3 at M3 ⊢
        clear c0 c1 c2 c3 c4 c5 c6 c7 ck cx M2
        go_wp2_with (first
          | (go_at_call 57; (with_reducible refine (round_at t _ ((k + x) % 4294967296) _ HT.out HXY.out).mono ?_); rintro e w4 ⟨rfl, e1⟩; have M4 := Lib.hid (M3.out.below e1); clear e1; have M5 := Lib.hid (M4.out.T.there2 (n32 (rnd t ((k + x) % 4294967296)).nats) (by rw [n32_length, n32_length]; rfl)))
          | (with_reducible refine wpList_store_mid rfl 79 (.tmp 8) (.tmp 70) rfl (w.heap.size + 1 + 1 + 1 + 1) 0 (n32 (rnd t ((k + x) % 4294967296)).nats).toArray rfl rfl M5.out (info_stB _) (all_oneCell_toArray (n32_one _)) ?_))
        exact ⟨⟨i + 1, HI.out, by norm_cast, ⟨HP.out _ M4.out⟩⟩, hend⟩
    · obtain rfl : i = 64 := by omega
      have t1 : decide (((64 : Nat) : Int) < 64) = false := by decide
      have HM := Lib.hid hM.out
      have H4 : Hid (Arr wr (w.heap.size + 1 + 1 + 1 + 1) (n32 t64.nats)) := by rw [HT64.out]; exact Lib.hid hM.out.T
      have HQ := Lib.hid (fun (w4 : World) (e1 : Below wr.heap.size wr w4) => (And.intro ((hM.out.below e1).R.there2 (n32 (s.plus t64).nats) (by rw [n32_length, n32_length]; rfl)) (And.intro (((hM.out.below e1).R.put (n32 (s.plus t64).nats) (by rw [n32_length, n32_length]; rfl)).loadV (P := Try.prog) Try.underlying79 rfl (info_stA _)) (setCells_below (show w.heap.size ≤ w.heap.size + 1 + 1 by omega) (n32 (s.plus t64).nats) 0 (hM.out.below e1).B))))
      clear hM hi
      go_wp2_with (first
        | (with_reducible refine wpList_load_mid rfl 79 (.tmp 3) rfl w.heap.size 0 rfl (n32 s.nats) _ HM.out.S.at_ Try.underlying79 rfl (info_stA s) ?_)
        | (with_reducible refine wpList_load_mid rfl 79 (.tmp 8) rfl (w.heap.size + 1 + 1 + 1 + 1) 0 rfl (n32 t64.nats) _ H4.out.at_ Try.underlying79 rfl (info_stA _) ?_)
        | (go_at_call 58; (with_reducible refine (plus_calls s t64 _).mono ?_); rintro e w4 ⟨rfl, e1⟩; have E4 := Lib.hid (HQ.out w4 e1); clear e1)
        | (with_reducible refine wpList_store_mid rfl 79 (.tmp 6) (.tmp 74) rfl (w.heap.size + 1 + 1) 0 (n32 (s.plus t64).nats).toArray rfl rfl E4.out.1 (info_stB _) (all_oneCell_toArray (n32_one _)) ?_))
      exact bodyPost_ret (results_arr rfl rfl E4.out.2.1) rfl ⟨rfl, E4.out.2.2⟩
end Go.Proofs.Ytnoebhnkkigkjaa.Dig

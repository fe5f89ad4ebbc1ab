/- The walks over package sum: small functions, the rounds' numbers, bytes filled up. -/
import Derived.Test.YtnoebhnkkigkjaaShaPure
import Derived.Test.YtnoebhnkkigkjaaArr
import Derived.Laws.CopyOwn
import Derived.Deep.RegionWith
namespace Go.Proofs.Ytnoebhnkkigkjaa.Dig
open Go Go.RowKit Go.Proofs.Ytnoebhnkkigkjaa.QDig Go.Proofs.YtnoebhnkkigkjaaW.PrintWords Go.Proofs.YtnoebhnkkigkjaaW.PrintLast Go.Proofs.YtnoebhnkkigkjaaW.PrintMore Gy

def n32 (l : List Nat) : List Value := l.map fun x : Nat => Value.int .u32 (x : Int)
def n64 (l : List Nat) : List Value := l.map fun x : Nat => Value.int .u64 (x : Int)
theorem n32_one (l : List Nat) : ∀ v ∈ n32 l, v.oneCell' = true := by
  intro v hv
  obtain ⟨x, _, rfl⟩ := List.mem_map.1 hv
  rfl
theorem n64_one (l : List Nat) : ∀ v ∈ n64 l, v.oneCell' = true := by
  intro v hv
  obtain ⟨x, _, rfl⟩ := List.mem_map.1 hv
  rfl
theorem n32_at {l : List Nat} {i : Nat} (h : i < l.length) : (n32 l)[i]? = some (.int .u32 ((l.getD i 0 : Nat) : Int)) := by
  unfold n32
  rw [List.getElem?_map, List.getElem?_eq_getElem h, List.getD_eq_getElem?_getD, List.getElem?_eq_getElem h]
  rfl
theorem n64_at {l : List Nat} {i : Nat} (h : i < l.length) : (n64 l)[i]? = some (.int .u64 ((l.getD i 0 : Nat) : Int)) := by
  unfold n64
  rw [List.getElem?_map, List.getElem?_eq_getElem h, List.getD_eq_getElem?_getD, List.getElem?_eq_getElem h]
  rfl
theorem n32_set (l : List Nat) (i x : Nat) : (n32 l).set i (.int .u32 (x : Int)) = n32 (l.set i x) := by unfold n32; rw [List.map_set]
theorem n64_set (l : List Nat) (i x : Nat) : (n64 l).set i (.int .u64 (x : Int)) = n64 (l.set i x) := by unfold n64; rw [List.map_set]
theorem n32_length (l : List Nat) : (n32 l).length = l.length := List.length_map _
theorem n64_length (l : List Nat) : (n64 l).length = l.length := List.length_map _
theorem kd_of_reads {w : World} {A : Option Addr} {n : Nat} {xs : List Int} (h : ReadsInt w .u8 A n xs) : Kd.C (Kd.int .u8) w A xs.length xs := by
  obtain rfl : xs.length = n := h.1
  exact Kd.C_of_reads (enc := Value.int .u8) (d := (0 : Int)) (h1 := fun _ => rfl) h
theorem round_calls (s : St) (x : Nat) (w : World) (h : s.ok) :
    Calls Try.prog 57 #[.agg (n32 s.nats).toArray, .int .u32 (x : Int)] w fun e w' => e = .returned (.agg (n32 (rnd s x).nats).toArray) ∧ Below w.heap.size w w' :=
  (sum_state_round.calls _ _ _ _ _ _ _ _ _ _ _ _ _ _ _ _ _ w (round_f (x := x) h)).mono fun _ _ h => h
theorem plus_calls (s t : St) (w : World) :
    Calls Try.prog 58 #[.agg (n32 s.nats).toArray, .agg (n32 t.nats).toArray] w fun e w' => e = .returned (.agg (n32 (s.plus t).nats).toArray) ∧ Below w.heap.size w w' :=
  (sum_state_plus.calls _ _ _ _ _ _ _ _ _ _ _ _ _ _ _ _ _ _ _ _ _ _ _ _ w (plus_f s t)).mono fun _ _ h => h
theorem begin_calls (w : World) :
    Calls Try.prog 39 #[] w fun e w' => e = .returned (.agg (n32 Gy.begun.nats).toArray) ∧ Below w.heap.size w w' :=
  (sum_begin.calls _ _ _ _ _ _ _ _ w begin_f).mono fun _ _ h => h
theorem number_calls (A : Option Addr) (n c : Nat) (xs : List Int) (w : World) (hR : ReadsInt w .u8 A n xs) (hc : n ≤ c) (hb : Bytes xs) (h4 : 4 ≤ n) :
    Calls Try.prog 55 #[.slice A n c] w fun e w' => e = .returned (.int .u32 ((num4 xs : Nat) : Int)) ∧ Drawn0 w w' := by
  have hl := hR.1
  have hk := kd_of_reads hR
  subst hl
  exact (sum_number.calls 9 A c xs _ w hk hc (number_f hb h4 (by omega))).mono fun _ _ h => h
theorem Number_calls (A : Option Addr) (n c : Nat) (xs : List Int) (w : World) (hR : ReadsInt w .u8 A n xs) (hc : n ≤ c) (hb : Bytes xs) (h4 : n = 4) :
    Calls Try.prog 23 #[.slice A n c] w fun e w' => e = .returned (.int .u64 ((num4 xs : Nat) : Int)) ∧ Drawn0 w w' := by
  have hl := hR.1
  have hk := kd_of_reads hR
  subst hl
  exact (geyserref01_Number.calls 9 A c xs _ w hk hc (Number_f hb h4 (by omega))).mono fun _ _ h => h
theorem prime_calls (p : Nat) (w : World) (h1 : 2 ≤ p) (h2 : p < 312) :
    Calls Try.prog 53 #[.int .u64 (p : Int)] w fun e w' => e = .returned (.bool (primeN p)) ∧ Drawn0 w w' := by
  have h := chk_at h1 h2
  unfold chkP at h
  rw [Bool.and_eq_true] at h
  have h3 : sum_prime.f 30 (p : Int) = some (primeN p) := by simpa using h.1
  exact (sum_prime.calls 30 _ _ w h3).mono fun _ _ h => h
theorem cube_calls (p : Nat) (w : World) (h1 : 2 ≤ p) (h2 : p < 312) (hp : primeN p = true) :
    Calls Try.prog 54 #[.int .u64 (p : Int)] w fun e w' => e = .returned (.int .u32 ((kTab.getD (cnt p) 0 : Nat) : Int)) ∧ Drawn0 w w' := by
  have h := chk_at h1 h2
  unfold chkP at h
  rw [Bool.and_eq_true, if_pos hp, Bool.and_eq_true] at h
  have h3 : sum_cube.f 40 (p : Int) = some ((kTab.getD (cnt p) 0 : Nat) : Int) := by simpa using h.2.2
  exact (sum_cube.calls 40 _ _ w h3).mono fun _ _ h => h
theorem cnt_yes {p : Nat} (h1 : 2 ≤ p) (h2 : p < 312) (hp : primeN p = true) : cnt (p + 1) = cnt p + 1 := by
  have h := chk_at h1 h2
  unfold chkP at h
  rw [Bool.and_eq_true, if_pos hp, Bool.and_eq_true] at h
  simpa using h.2.1
theorem cnt_no {p : Nat} (h1 : 2 ≤ p) (h2 : p < 312) (hp : primeN p = false) : cnt (p + 1) = cnt p := by
  have h := chk_at h1 h2
  unfold chkP at h
  rw [Bool.and_eq_true, hp] at h
  simpa using h.2
/-- so many of the rounds' numbers are there -/
def kPart (n : Nat) : List Nat := kTab.take n ++ List.replicate (64 - n) 0
theorem kPart_length {n : Nat} (h : n ≤ 64) : (kPart n).length = 64 := by
  unfold kPart; rw [List.length_append, List.length_take, List.length_replicate, kTab_length]; omega
theorem kPart_all : kPart 64 = kTab := by
  unfold kPart; rw [List.take_of_length_le (by rw [kTab_length]; omega)]; exact List.append_nil _
theorem kPart_set {n : Nat} (h : n < 64) : (kPart n).set n (kTab.getD n 0) = kPart (n + 1) := by
  have hl : (kTab.take n).length = n := by rw [List.length_take, kTab_length]; omega
  have hg : kTab.getD n 0 = kTab[n]'(by rw [kTab_length]; omega) := by rw [List.getD_eq_getElem?_getD, List.getElem?_eq_getElem (by rw [kTab_length]; omega)]; rfl
  unfold kPart
  rw [List.set_append_right _ _ (by omega), hl, Nat.sub_self, hg, List.take_succ_eq_append_getElem (by rw [kTab_length]; omega), List.append_assoc]
  congr 1
  rw [show 64 - n = (64 - (n + 1)) + 1 from by omega, List.replicate_succ]
  rfl
set_option maxRecDepth 100000 in
theorem zero_64 : ∃ zs : Array Value, zs = (n32 (List.replicate 64 0)).toArray ∧ ∀ W : World, (zeroValue 76).run Try.prog W = .ok (.agg zs) W := by
  refine ⟨_, rfl, fun W => ?_⟩
  kernel_rfl
set_option maxRecDepth 100000 in
theorem info_64 : (Try.prog.info? 76).map (·.size) = some 64 := by kernel_rfl
theorem info_k64a : (Try.prog.info? 76).map (·.size) = some (n32 kTab).length := by rw [n32_length]; exact info_64
theorem info_k64b : (Try.prog.info? 76).map (·.size) = some (n32 kTab).toArray.size := by rw [List.size_toArray]; exact info_k64a
theorem results_arr {P : Program} {f : Func} {t : TypeId} {s : Nat} {tmps : Array Value} {w : World} {b : Nat} {vs : List Value} (hf : f.results = #[ResultVar.cell s t]) (hp : tmps.getD s undef = .pointer (some ⟨b, 0, none⟩)) (hT : (loadVar t ⟨b, 0, none⟩).run P w = .ok (.agg vs.toArray) w) :
    (results f tmps).run P w = .ok (.agg vs.toArray) w := by
  unfold results
  rw [hf, show #[ResultVar.cell s t] = [ResultVar.cell s t].toArray from rfl, List.mapM_toArray]
  simp only [Sem.run_bind, Sem.run_map]
  have hp2 : tmps[s]?.getD undef = .pointer (some ⟨b, 0, none⟩) := by rw [← hp, Array.getD_eq_getD_getElem?]
  simp [List.mapM_cons, hp2, asAddr, hT]
theorem cnt_lt_end {p : Nat} (h : cnt p < 64) : p < 312 := by
  rcases Nat.lt_or_ge p 312 with h1 | h1
  · exact h1
  · have := cnt_mono h1
    rw [cnt_end] at this
    omega
theorem end_rounds {p : Nat} (h : p < 312) : 400 - (intOf (Value.int .u64 ((p : Int) + 1))).toNat < 400 - (intOf (Value.int .u64 (p : Int))).toNat := by
  show 400 - ((p : Int) + 1).toNat < 400 - ((p : Int)).toNat
  omega
/-- two rows of 64 words, the first still empty -/
structure Rnds (w wr : World) (n : Nat) : Prop where
  r : Arr wr w.heap.size (n32 (List.replicate 64 0))
  k : Arr wr (w.heap.size + 1) (n32 (kPart n))
  b : Below w.heap.size w wr
theorem Rnds.dr {w wr w' : World} {n : Nat} (h : Rnds w wr n) (hd : Drawn0 wr w') : Rnds w w' n := by
  obtain ⟨m, rfl⟩ := hd.out
  exact ⟨h.r.drewN m, h.k.drewN m, pw_below_drewN h.b m⟩
theorem Rnds.set {w wr : World} {n : Nat} (h : Rnds w wr n) (hn : n < 64) : Rnds w (wr.setCell ⟨w.heap.size + 1, n, none⟩ (.int .u32 ((kTab.getD n 0 : Nat) : Int))) (n + 1) := by
  have h2 := h.k.set (i := n) (by rw [n32_length, kPart_length (by omega)]; omega) (.int .u32 ((kTab.getD n 0 : Nat) : Int))
  rw [n32_set, kPart_set hn] at h2
  exact ⟨h.r.far (by omega) _ _, h2, h.b.setCell (Nat.le_succ _) _⟩
theorem Rnds.cell {w wr : World} {n : Nat} (h : Rnds w wr n) (hn : n < 64) : ∃ v, wr.cell? ⟨w.heap.size + 1, n, none⟩ = some v ∧ wr.frozen? ⟨w.heap.size + 1, n, none⟩ = false :=
  ⟨_, h.k.cell (n32_at (by rw [kPart_length (by omega)]; omega)), h.k.fr n⟩
theorem rnds_start (w : World) (zs : Array Value) (hz : zs = (n32 (List.replicate 64 0)).toArray) (t : TypeId) : Rnds w ((w.alloc (.cells zs t)).alloc (.cells zs t)) 0 := by
  refine ⟨(Arr.fresh w _ zs hz t).alloc _, ?_, ?_⟩
  · have := Arr.fresh (w.alloc (.cells zs t)) _ zs hz t
    rw [size_alloc'] at this
    exact this
  · exact (Gy.alloc_below w _).trans ((Gy.alloc_below _ _).mono (by rw [size_alloc']; omega))
set_option maxHeartbeats 4000000 in
set_option maxRecDepth 100000 in
theorem rounds_calls (w : World) :
    Calls Try.prog 38 #[] w fun e w' => e = .returned (.agg (n32 kTab).toArray) ∧ Below w.heap.size w w' := by
  obtain ⟨zs, hzs, hz⟩ := zero_64
  have HS := Lib.hid (rnds_start w zs hzs 76)
  clear hzs
  go_enter Try.func38, Try.ntmps38
  go_wp2
  go_loopw [2, 3] (fun v2 v3 wr => ∃ p n : Nat, 2 ≤ p ∧ n = cnt p ∧ n ≤ 64 ∧ v2 = .int .i64 (n : Int) ∧ v3 = .int .u64 (p : Int) ∧ Gy.Hd (Rnds w wr n)) (fun _ v3 _ => 400 - (intOf v3).toNat)
  case atStart => exact ⟨2, 0, Nat.le_refl _, cnt_start.symm, by omega, rfl, rfl, ⟨HS.out⟩⟩
  case round =>
    obtain ⟨p, n, hp, hn, hn2, rfl, rfl, hH⟩ := hrel
    clear HS
    by_cases hlt : n < 64
    · have hp2 : p < 312 := cnt_lt_end (by omega)
      have t1 : decide ((n : Int) < 64) = true := by simp; omega
      have hw : IntKind.u64.wrap ((p : Int) + 1) = (p : Int) + 1 := u64id (by omega) (by omega)
      have hw2 : wrap64 ((n : Int) + 1) = (n : Int) + 1 := by unfold wrap64; omega
      have hend := end_rounds hp2
      have HP := Lib.hid (And.intro hp (And.intro hp2 (And.intro hn hlt)))
      cases hpr : primeN p with
      | true =>
        have HY := Lib.hid hpr
        clear hn hp hp2 hpr hn2
        go_wp2_with (first
          | (go_at_call 53; (with_reducible refine (prime_calls p _ HP.out.1 HP.out.2.1).mono ?_); rw [HY.out]; rintro e w1 ⟨rfl, e1⟩; have E1 := Lib.hid (hH.out.dr e1); clear e1)
          | (go_at_call 54; (with_reducible refine (cube_calls p _ HP.out.1 HP.out.2.1 HY.out).mono ?_); rw [← HP.out.2.2.1]; rintro e w2 ⟨rfl, e1⟩; have E2 := Lib.hid (E1.out.dr e1); clear e1; obtain ⟨u0, c0, f0⟩ := E2.out.cell HP.out.2.2.2))
        refine ⟨⟨p + 1, n + 1, by have := HP.out.1; omega, ?_, HP.out.2.2.2, by norm_cast, by norm_cast, ⟨E2.out.set HP.out.2.2.2⟩⟩, hend⟩
        rw [cnt_yes HP.out.1 HP.out.2.1 HY.out, ← HP.out.2.2.1]
      | false =>
        have HY := Lib.hid hpr
        clear hn hlt hp hp2 hpr hn2
        go_wp2_with (first
          | (go_at_call 53; (with_reducible refine (prime_calls p _ HP.out.1 HP.out.2.1).mono ?_); rw [HY.out]; rintro e w1 ⟨rfl, e1⟩; have E1 := Lib.hid (hH.out.dr e1); clear e1))
        refine ⟨⟨p + 1, n, by have := HP.out.1; omega, ?_, Nat.le_of_lt HP.out.2.2.2, rfl, by norm_cast, ⟨E1.out⟩⟩, hend⟩
        rw [cnt_no HP.out.1 HP.out.2.1 HY.out, ← HP.out.2.2.1]
    · obtain rfl : n = 64 := by omega
      have t1 : decide (((64 : Nat) : Int) < 64) = false := by decide
      have hR := hH.out
      have hK := hR.k
      rw [kPart_all] at hK
      have HK := Lib.hid hK
      have HR := Lib.hid (And.intro (hR.r.there2 (n32 kTab) (by rw [n32_length, n32_length]; rfl)) (And.intro info_k64a info_k64b))
      have hp2 := (hR.r.put (n32 kTab) (by rw [n32_length, n32_length]; rfl)).loadV (P := Try.prog) Try.underlying76 rfl (by rw [n32_length]; exact info_64)
      have hb := setCells_below (Nat.le_refl _) (n32 kTab) 0 hR.b
      have HB := Lib.hid (And.intro hp2 hb)
      clear hn hn2 hH hR hK hp2 hb hp
      go_wp2_with (first
        | (with_reducible refine wpList_load_mid rfl 76 (.tmp 1) rfl (w.heap.size + 1) 0 rfl (n32 kTab) _ HK.out.at_ Try.underlying76 rfl info_k64a ?_)
        | (with_reducible refine wpList_store_mid rfl 76 (.tmp 0) (.tmp 16) rfl w.heap.size 0 (n32 kTab).toArray rfl rfl HR.out.1 info_k64b (all_oneCell_toArray (n32_one kTab)) ?_))
      exact bodyPost_ret (results_arr rfl rfl HB.out.1) rfl ⟨rfl, HB.out.2⟩
end Go.Proofs.Ytnoebhnkkigkjaa.Dig

/- The walks over package vector: tables, sums, products. -/
import Derived.Test.YtcmigmldecacpaaZVec
import Derived.Laws.Cover3
import Derived.Deep.MidRow
import Derived.Deep.QuietTactic
import Derived.BigQuiet
import Derived.Deep.RegionWith
namespace Go.Proofs.Ytcmigmldecacpaa.Vec
open Go Go.RowKit Go.Proofs.YtcmigmldecacpaaW.PrintWords Go.Proofs.YtcmigmldecacpaaW.PrintMore

theorem info_u8 : (Try.prog.info? 5).map (fun i => (i.zero, i.size, i.bytes)) = some (some (.int .u8 0), 1, 1) := by kernel_rfl
theorem eql_nil {P : Program} (w : World) (t e : TypeId) (a : Option Addr) (l c : Nat) (h : P.underlying t = some (.slice e)) : (binOp .eql t (.slice a l c) (.slice none 0 0)).run P w = .ok (.bool a.isNone) w := by
  simp [binOp, run_equal_slice_nil w t e a l c h]
theorem own_slice {w : World} {base : Nat} {e : TypeId} {size n : Nat} {v : Value} {xs : List Value} (h : w.ownsRow base e size v n xs) : ∃ A c, v = .slice A n c := by
  rcases h.2 with ⟨rfl, rfl⟩ | ⟨g, c, _, rfl, _⟩
  · exact ⟨none, 0, rfl⟩
  · exact ⟨_, c, rfl⟩
theorem reads_alloc {w : World} {k : IntKind} {A : Option Addr} {n : Nat} {xs : List Int} (h : ReadsInt w k A n xs) (o : Obj) : ReadsInt (w.alloc o) k A n xs := Gy.reads_below h (Gy.alloc_below w o)
/-- a copy stands in a row of its own -/
def CopyPost (w : World) (xs : List Int) (e : Ending) (w' : World) : Prop := ∃ v, e = .returned v ∧ w'.ownsRow w.heap.size 5 1 v xs.length (nums .u8 xs) ∧ Below w.heap.size w w'
set_option maxHeartbeats 2000000 in
set_option maxRecDepth 100000 in
theorem clone_calls (A : Option Addr) (n c : Nat) (xs : List Int) (w : World) (hR : ReadsInt w .u8 A n xs) (hl : xs.length ≤ 140737488355328) :
    Calls Try.prog 51 #[.slice A n c] w fun e w' => CopyPost w xs e w' := by
  have HR := Lib.hid hR
  have HL := Lib.hid hl
  have hnil : ∀ W : World, (binOp .eql 31 (.slice A n c) (.slice none 0 0)).run Try.prog W = .ok (.bool A.isNone) W := fun W => eql_nil W _ _ A n c Try.underlying31
  rcases A with _ | ad
  · have h0 : xs = [] := by
      rcases Nat.eq_zero_or_pos n with h | h
      · exact List.eq_nil_of_length_eq_zero (hR.1.trans h)
      · obtain ⟨ad, h, _⟩ := hR.2.2 h; cases h
    subst h0
    clear hR hl
    go_enter Try.func51, Try.ntmps51
    go_wp2
    go_ret
    exact ⟨_, rfl, ⟨rfl, .inl ⟨rfl, rfl⟩⟩, Below.refl _ _⟩
  · clear hR hl
    go_enter Try.func51, Try.ntmps51
    go_wp2_with (at_builtin; refine print_append_row (w0 := w) w.heap.size rfl (.tmp 5) (.tmp 6) 31 5 .u8 1 rfl Try.underlying31 info_u8 (by decide) (.slice (some ⟨w.heap.size, 0, none⟩) 0 0) [] xs (some ad) n c rfl rfl (World.ownsRow_lit w #[] 0 (Nat.le_refl _) (by decide) rfl) (reads_alloc HR.out _) ((Below.refl _ _).alloc (Nat.le_refl _) _) (by simp) (by have := HR.out.1; have := HL.out; simp; omega) ?_; intro v1 w1 ho hb hgr hat; have E := Lib.hid (And.intro ho hb); clear ho hb hgr hat)
    go_ret
    exact ⟨_, rfl, E.out.1, E.out.2⟩
/-- all products of c, so many of them filled in -/
def tab (c k : Nat) : List Value := (List.range 256).map fun x => .int .u8 ((if x < k then Gy.gmul x c else 0 : Nat) : Int)
theorem tab_length (c k : Nat) : (tab c k).length = 256 := by unfold tab; rw [List.length_map, List.length_range]
theorem tab_at (c k x : Nat) (h : x < 256) : (tab c k)[x]? = some (.int .u8 ((if x < k then Gy.gmul x c else 0 : Nat) : Int)) := by
  unfold tab
  rw [List.getElem?_map, List.getElem?_range h]
  rfl
theorem tab_set (c k : Nat) (h : k < 256) : (tab c k).set k (.int .u8 ((Gy.gmul k c : Nat) : Int)) = tab c (k + 1) := by
  apply List.ext_getElem?
  intro i
  by_cases hi : i < 256
  · rw [tab_at c (k + 1) i hi, List.getElem?_set, tab_length]
    by_cases e : k = i
    · subst e
      rw [if_pos rfl, if_pos h, if_pos (by omega)]
    · rw [if_neg e, tab_at c k i hi]
      congr 3
      by_cases h1 : i < k
      · rw [if_pos h1, if_pos (by omega)]
      · rw [if_neg h1, if_neg (by omega)]
  · rw [List.getElem?_eq_none (by rw [List.length_set, tab_length]; omega), List.getElem?_eq_none (by rw [tab_length]; omega)]
/-- a table lies in a block -/
def TabAt (w : World) (b c k : Nat) : Prop := w.rangeAt b 0 (tab c k) ∧ ∀ o, w.frozen? ⟨b, o, none⟩ = false
theorem TabAt.cell {w : World} {b c k : Nat} (h : TabAt w b c k) (x : Nat) (hx : x < 256) : w.cell? ⟨b, x, none⟩ = some (.int .u8 ((if x < k then Gy.gmul x c else 0 : Nat) : Int)) := by
  have h1 := h.1 x _ (tab_at c k x hx)
  rw [Nat.zero_add] at h1
  exact h1
theorem TabAt.lt {w : World} {b c k : Nat} (h : TabAt w b c k) : b < w.heap.size := Gy.cell_lt (h.cell 0 (by omega))
theorem TabAt.below {w w' : World} {b c k : Nat} (h : TabAt w b c k) (hb : Below w.heap.size w w') : TabAt w' b c k := by
  have e := hb.block b h.lt
  refine ⟨fun j v hv => ?_, fun o => ?_⟩
  · have := h.1 j v hv
    unfold World.cell? at this ⊢
    rw [e]; exact this
  · have := h.2 o
    unfold World.frozen? at this ⊢
    rw [e]; exact this
theorem TabAt.set {w : World} {b c k : Nat} (h : TabAt w b c k) (hk : k < 256) : TabAt (w.setCell ⟨b, k, none⟩ (.int .u8 ((Gy.gmul k c : Nat) : Int))) b c (k + 1) := by
  refine ⟨fun j v hv => ?_, fun o => by rw [Gy.set_frozen]; exact h.2 o⟩
  have hj : j < 256 := by have := (List.getElem?_eq_some_iff.1 hv).1; rw [tab_length] at this; exact this
  rw [Nat.zero_add]
  rw [tab_at c (k + 1) j hj] at hv
  injection hv with hv
  subst hv
  by_cases e : k = j
  · subst e
    rw [Gy.cell_set (h.cell k hk), if_pos (by omega)]
  · rw [Gy.set_other _ _ _ _ _ e, h.cell j hj]
    congr 3
    by_cases h1 : j < k
    · rw [if_pos h1, if_pos (by omega)]
    · rw [if_neg h1, if_neg (by omega)]
theorem tab_one (c k : Nat) : ∀ v ∈ tab c k, v.oneCell' = true := by
  intro v hv
  unfold tab at hv
  obtain ⟨x, _, rfl⟩ := List.mem_map.1 hv
  rfl
theorem tab_zero (c : Nat) : tab c 0 = List.replicate 256 (.int .u8 0) := by
  unfold tab
  rw [List.eq_replicate_iff]
  refine ⟨by simp, fun v hv => ?_⟩
  obtain ⟨x, _, rfl⟩ := List.mem_map.1 hv
  rfl
set_option maxRecDepth 100000 in
theorem row_zero : ∃ zs : Array Value, zs = (List.replicate 256 (.int .u8 0)).toArray ∧ ∀ W : World, (zeroValue 121).run Try.prog W = .ok (.agg zs) W := by
  refine ⟨_, rfl, fun W => ?_⟩
  kernel_rfl
theorem row_info : (Try.prog.info? 121).map (·.size) = some 256 := by kernel_rfl
theorem size_alloc (w : World) (o : Obj) : (w.alloc o).heap.size = w.heap.size + 1 := by
  show (w.heap.push o).size = _
  simp
theorem tab_start (w : World) (c : Nat) (zs : Array Value) (t : TypeId) (hz : zs = (List.replicate 256 (.int .u8 0)).toArray) : TabAt (w.alloc (.cells zs t)) w.heap.size c 0 := by
  subst hz
  have h := Gy.alloc_at w (.cells (List.replicate 256 (.int .u8 0)).toArray t)
  refine ⟨fun j v hv => ?_, fun o => ?_⟩
  · rw [tab_zero] at hv
    unfold World.cell?
    simp only [h, Nat.zero_add]
    rw [← hv]
    exact List.getElem?_toArray
  · unfold World.frozen?
    simp only [h]
    simp
theorem TabAt.there {w : World} {b c k : Nat} (h : TabAt w b c k) : w.there b 0 256 := fun j hj => by
  rw [Nat.zero_add]
  exact ⟨by rw [h.cell j hj]; rfl, h.2 j⟩
theorem TabAt.load {w : World} {b c k : Nat} (h : TabAt w b c k) : (Instr.loadAt 121 (.pointer (some ⟨b, 0, none⟩))).run Try.prog w = .ok (.agg (tab c k).toArray) w :=
  run_loadAt_mid w b 0 121 (tab c k) _ h.1 Try.underlying121 rfl (by rw [tab_length]; exact row_info)
theorem TabAt.loadV {w : World} {b c k : Nat} (h : TabAt w b c k) : (loadVar 121 ⟨b, 0, none⟩).run Try.prog w = .ok (.agg (tab c k).toArray) w :=
  run_loadVar_mid w b 0 121 (tab c k) _ h.1 Try.underlying121 rfl (by rw [tab_length]; exact row_info)
theorem store_tab {w : World} {b c c' k k' : Nat} (h : TabAt w b c k) : (Instr.storeAt 121 (.pointer (some ⟨b, 0, none⟩)) (.agg (tab c' k').toArray)).run Try.prog w = .ok () (w.setCells b 0 (tab c' k')) := by
  have h1 := run_storeAt_mid (P := Try.prog) w b 0 121 (tab c' k').toArray (by rw [List.size_toArray, tab_length]; exact h.there) (by rw [List.size_toArray, tab_length]; exact row_info) (all_oneCell_toArray (tab_one c' k'))
  exact h1
theorem set_tab {w : World} {b c c' k k' : Nat} (h : TabAt w b c k) : TabAt (w.setCells b 0 (tab c' k')) b c' k' := by
  refine ⟨World.rangeAt_setCells_same w b 0 (tab c' k') (by rw [tab_length]; exact h.there), fun o => ?_⟩
  rw [World.frozen?_setCells]
  exact h.2 o
theorem set_below {B b : Nat} {a : World} (hb : B ≤ b) : ∀ (vs : List Value) (o : Nat) {w : World}, Below B a w → Below B a (w.setCells b o vs)
  | [], _, _, h => h
  | v :: r, o, _, h => set_below hb r (o + 1) (h.setCell (show B ≤ (⟨b, o, none⟩ : Addr).block from hb) v)
theorem tab_info (c k : Nat) : (Try.prog.info? 121).map (·.size) = some (tab c k).length := by rw [tab_length]; exact row_info
theorem tab_info2 (c k : Nat) : (Try.prog.info? 121).map (·.size) = some (tab c k).toArray.size := by rw [List.size_toArray, tab_length]; exact row_info
theorem TabAt.there2 {w : World} {b c k : Nat} (h : TabAt w b c k) (c' k' : Nat) : w.there b 0 (tab c' k').toArray.size := by rw [List.size_toArray, tab_length]; exact h.there
theorem end_tab {k : Nat} (h : k < 256) : 256 - (intOf (Value.int .i64 ((k : Int) + 1))).toNat < 256 - (intOf (Value.int .i64 (k : Int))).toNat := by
  show 256 - ((k : Int) + 1).toNat < 256 - ((k : Int)).toNat
  omega
theorem tab_far {w : World} {b c k b' o : Nat} {v : Value} (h : TabAt w b c k) (hb : b' ≠ b) : TabAt (w.setCell ⟨b', o, none⟩ v) b c k := by
  have e : (w.setCell ⟨b', o, none⟩ v).heap[b]? = w.heap[b]? := Below.heap_setCell w _ _ _ (fun e => hb e.symm)
  refine ⟨fun j u hu => ?_, fun o' => ?_⟩
  · have := h.1 j u hu
    unfold World.cell? at this ⊢
    rw [e]; exact this
  · have := h.2 o'
    unfold World.frozen? at this ⊢
    rw [e]; exact this
theorem results_tab {tmps : Array Value} {w : World} {b c k : Nat} (hp : tmps.getD 2 undef = .pointer (some ⟨b, 0, none⟩)) (hT : TabAt w b c k) : (results Try.f78 tmps).run Try.prog w = .ok (.agg (tab c k).toArray) w := by
  unfold results
  rw [show (Try.f78).results = [ResultVar.cell 2 121].toArray from rfl, List.mapM_toArray]
  simp only [Sem.run_bind, Sem.run_map]
  have hp2 : tmps[2]?.getD undef = .pointer (some ⟨b, 0, none⟩) := by rw [← hp, Array.getD_eq_getD_getElem?]
  simp [List.mapM_cons, hp2, asAddr, hT.loadV]
set_option maxHeartbeats 4000000 in
set_option maxRecDepth 100000 in
theorem table_calls (c : Nat) (w : World) (hc : c < 256) :
    Calls Try.prog 78 #[.int .u8 c] w fun e w' => e = .returned (.agg (tab c 256).toArray) ∧ Below w.heap.size w w' := by
  obtain ⟨zs, hzs, hz⟩ := row_zero
  have HZ := Lib.hid hzs
  clear hzs
  have HT := Lib.hid (And.intro ((tab_start w c zs 121 HZ.out).below (Gy.alloc_below _ (.cells zs 121))) (And.intro (size_alloc w (.cells zs 121) ▸ tab_start (w.alloc (.cells zs 121)) c zs 121 HZ.out) ((Gy.alloc_below w (.cells zs 121)).trans ((Gy.alloc_below _ (.cells zs 121)).mono (Gy.alloc_below w _).size))))
  have HC := Lib.hid hc
  clear hc
  go_enter Try.func78, Try.ntmps78
  go_wp2
  go_loopw [5] (fun v5 wr => ∃ k : Nat, k ≤ 256 ∧ v5 = .int .i64 (k : Int) ∧ TabAt wr w.heap.size c 0 ∧ TabAt wr (w.heap.size + 1) c k ∧ Below w.heap.size w wr) (fun v5 _ => 256 - (intOf v5).toNat)
  case atStart => exact ⟨0, by omega, rfl, HT.out⟩
  case round =>
    obtain ⟨k, hk, rfl, hR, hT, hB⟩ := hrel
    clear HT
    by_cases hkn : k < 256
    · have t3 : decide ((k : Int) < 256) = true := by simp; omega
      have t3n : decide (k < 256) = true := by simp; omega
      have HK := Lib.hid hkn
      have HH := Lib.hid (And.intro hR (And.intro hT hB))
      have hw : wrap64 ((k : Int) + 1) = (k : Int) + 1 := by unfold wrap64; omega
      have hu : IntKind.u8.wrap (k : Int) = (k : Int) := by show (k : Int) % 256 = _; omega
      have hu2 : (k : Int) % 256 = (k : Int) := by omega
      clear hR hT hB
      go_wp2_with (go_at_call 95; (with_reducible refine (mul_calls k c _ HK.out HC.out).mono ?_); rintro e w1 ⟨rfl, e1⟩; have E1 := Lib.hid e1; clear e1; have x0 := (HH.out.2.1.below E1.out).cell k HK.out; have x1 := (HH.out.2.1.below E1.out).2 k)
      exact ⟨⟨k + 1, HK.out, by norm_cast, tab_far (HH.out.1.below E1.out) (by omega), (HH.out.2.1.below E1.out).set HK.out, (HH.out.2.2.trans (E1.out.mono HH.out.2.2.size)).setCell (Nat.le_succ _) _⟩, end_tab HK.out⟩
    · obtain rfl : k = 256 := by omega
      have t3 : decide (((256 : Nat) : Int) < 256) = false := by decide
      have HH := Lib.hid (And.intro hR (And.intro hT hB))
      clear hR hT hB
      go_wp2
      rename_i K1 h1 K2 h2
      refine wp_load_mid 121 (.tmp 3) rfl (w.heap.size + 1) 0 rfl (tab c 256) _ HH.out.2.1.1 Try.underlying121 rfl (tab_info _ _) (h2 _ _ ?_)
      refine wpList_store_mid rfl 121 (.tmp 2) (.tmp 15) rfl w.heap.size 0 (tab c 256).toArray rfl rfl (HH.out.1.there2 _ _) (tab_info2 _ _) (all_oneCell_toArray (tab_one c 256)) ?_
      have hT2 : TabAt (wr.setCells w.heap.size 0 (tab c 256)) w.heap.size c 256 := set_tab HH.out.1
      have B2 := Lib.hid (set_below (Nat.le_refl _) (tab c 256) 0 HH.out.2.2)
      rw [List.toList_toArray]
      generalize wr.setCells w.heap.size 0 (tab c 256) = w3 at hT2 B2 ⊢
      have HT2 := Lib.hid hT2
      clear hT2
      go_wp2
      exact bodyPost_ret (results_tab rfl HT2.out) rfl ⟨rfl, B2.out⟩
theorem nums_at {xs : List Int} {i : Nat} (h : i < xs.length) : (nums .u8 xs)[i]? = some (.int .u8 xs[i]) := by
  unfold nums; rw [List.getElem?_map, List.getElem?_eq_getElem h]; rfl
/-- so many places are done -/
def mixL (f : Int → Int → Int) (a b : List Int) (j : Nat) : List Int := (List.zipWith f a b).take j ++ a.drop j
theorem mixL_length (f : Int → Int → Int) {a b : List Int} (h : b.length = a.length) (j : Nat) : (mixL f a b j).length = a.length := by
  unfold mixL; rw [List.length_append, List.length_take, List.length_zipWith, List.length_drop]; omega
theorem mixL_set (f : Int → Int → Int) {a b : List Int} (h : b.length = a.length) (j : Nat) (hj : j < a.length) : (mixL f a b j).set j (f a[j] (b[j]'(by omega))) = mixL f a b (j + 1) := by
  have hz : j < (List.zipWith f a b).length := by rw [List.length_zipWith]; omega
  unfold mixL
  rw [List.take_succ_eq_append_getElem hz, List.set_append_right _ _ (by rw [List.length_take]; omega), List.length_take, Nat.min_eq_left (by omega), Nat.sub_self, List.drop_eq_getElem_cons hj, List.set_cons_zero, List.getElem_zipWith, List.append_assoc]
  rfl
theorem mixL_at (f : Int → Int → Int) {a b : List Int} (h : b.length = a.length) (j : Nat) (hj : j < a.length) : (mixL f a b j)[j]? = some a[j] := by
  have hl : ((List.zipWith f a b).take j).length = j := by rw [List.length_take, List.length_zipWith]; omega
  unfold mixL
  rw [List.getElem?_append_right (by omega), hl, Nat.sub_self, List.getElem?_drop, Nat.add_zero, List.getElem?_eq_getElem hj]
theorem mixL_zero (f : Int → Int → Int) (a b : List Int) : mixL f a b 0 = a := by simp [mixL]
theorem mixL_all (f : Int → Int → Int) {a b : List Int} (h : b.length = a.length) : mixL f a b a.length = List.zipWith f a b := by
  unfold mixL
  rw [List.take_of_length_le (by rw [List.length_zipWith]; omega), List.drop_length, List.append_nil]
/-- the row that is made, at each round -/
def RowAt (w wr : World) (h n cap : Nat) (xs : List Int) : Prop := wr.ownsRow w.heap.size 5 1 (.slice (some ⟨h, 0, none⟩) n cap) n (nums .u8 xs) ∧ Below w.heap.size w wr
end Go.Proofs.Ytcmigmldecacpaa.Vec

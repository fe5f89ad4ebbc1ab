/- Arrays of bytes held against each other. -/
import Derived.Test.YtnoebhnkkigkjaaArr
import Derived.ChangeKeysEq
namespace Gy
open Go Go.RowKit Go.Proofs.YtnoebhnkkigkjaaW.PrintWords Go.Proofs.YtnoebhnkkigkjaaW.PrintMore

theorem run_eqItems_bytes {P : Program} (w : World) (d : Nat) {e : TypeId} (he : P.underlying e = some (.int .u8)) (xs ys : List Int) : ∀ (is : List Nat), (∀ i ∈ is, i < xs.length ∧ i < ys.length) →
    (Op.eqItems (d + 1) e 1 (nums .u8 xs).toArray (nums .u8 ys).toArray is).run P w = .ok (is.all fun i => xs.getD i 0 == ys.getD i 0) w := by
  intro is
  induction is with
  | nil => intro _; rfl
  | cons i is ih =>
    intro h
    have hp : P.plainKey e = true := by unfold Program.plainKey; rw [he]
    obtain ⟨h1, h2⟩ := h i List.mem_cons_self
    have k1 : (nums .u8 xs).toArray[i * 1]? = some (.int .u8 (xs.getD i 0)) := by rw [Nat.mul_one, List.getElem?_toArray]; exact nums_getD h1
    have k2 : (nums .u8 ys).toArray[i * 1]? = some (.int .u8 (ys.getD i 0)) := by rw [Nat.mul_one, List.getElem?_toArray]; exact nums_getD h2
    have ih := ih (fun j hj => h j (List.mem_cons_of_mem _ hj))
    simp only [Op.eqItems, Sem.run_bind, run_part_plain w hp k1, run_part_plain w hp k2, Result.andThen_ok, run_equalIn_int w d e .u8 .u8 _ _ he, List.all_cons]
    cases hb : (xs.getD i 0 == ys.getD i 0) with
    | true => simp [ih]
    | false => simp
theorem all_eq {xs ys : List Int} {n : Nat} (hx : xs.length = n) (hy : ys.length = n) : ((List.range n).all fun i => xs.getD i 0 == ys.getD i 0) = decide (xs = ys) := by
  rw [Bool.eq_iff_iff, List.all_eq_true, decide_eq_true_eq]
  constructor
  · intro h
    apply List.ext_getElem (by omega)
    intro i h1 h2
    have := h i (List.mem_range.2 (by omega))
    simpa [List.getD_eq_getElem?_getD, h1, h2] using this
  · rintro rfl i _
    simp
theorem run_eql_arr {P : Program} (w : World) (t e : TypeId) (n : Nat) {i : TypeInfo} (hu : P.underlying t = some (.array n e)) (hi : P.info? e = some i) (hc : P.cellsOf e = 1) (he : P.underlying e = some (.int .u8)) (xs ys : List Int) (hx : xs.length = n) (hy : ys.length = n) :
    (binOp .eql t (.agg (nums .u8 xs).toArray) (.agg (nums .u8 ys).toArray)).run P w = .ok (.bool (decide (xs = ys))) w := by
  have h1 : (Op.equal t (.agg (nums .u8 xs).toArray) (.agg (nums .u8 ys).toArray)).run P w = .ok (decide (xs = ys)) w := by
    unfold Op.equal
    rw [show Op.maxDepth = 9998 + 1 + 1 from rfl, run_equalIn_array w (9998 + 1) _ _ hu hi, hc, run_eqItems_bytes w 9998 he xs ys _ (fun j hj => by have := List.mem_range.1 hj; omega), all_eq hx hy]
  simp only [binOp, Sem.run_bind, h1, Result.andThen_ok]
  rfl
end Gy

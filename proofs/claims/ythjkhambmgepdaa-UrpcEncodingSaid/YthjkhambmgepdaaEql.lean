/- Equality of arrays of bytes. -/
import Derived.Test.YthjkhambmgepdaaRow
import Derived.ChangeKeysEq
import Derived.Laws.StructEq
namespace Go.Proofs.Ythjkhambmgepdaa
open Go.RowKit
set_option linter.unusedVariables false
section
variable {P : Program} (w : World)
theorem run_part_u8 {e : TypeId} (he : P.underlying e = some (.int .u8)) (p : List UInt8) (i : Nat) (h : i < p.length) : (part e (p.map bv).toArray i).run P w = .ok (bv p[i]) w :=
  run_part_plain w (by simp [Program.plainKey, he]) (by simp [h])
theorem run_eqItems_u8 (d : Nat) {e : TypeId} (he : P.underlying e = some (.int .u8)) (p q : List UInt8) : ∀ (is : List Nat), (∀ i ∈ is, i < p.length ∧ i < q.length) →
    (Op.eqItems (d + 1) e 1 (p.map bv).toArray (q.map bv).toArray is).run P w = .ok (is.all fun i => p[i]? == q[i]?) w
  | [], _ => by simp [Op.eqItems]
  | i :: is, h => by
    obtain ⟨h1, h2⟩ := h i (List.mem_cons_self ..)
    have ih := run_eqItems_u8 d he p q is fun j hj => h j (List.mem_cons_of_mem _ hj)
    have he3 : ((p[i].toNat : Int) == (q[i].toNat : Int)) = (p[i] == q[i]) := by
      rw [Bool.eq_iff_iff, beq_iff_eq, beq_iff_eq]
      constructor
      · intro e; exact UInt8.toNat_inj.1 (by omega)
      · intro e; rw [e]
    have he2 : (Op.equalIn (d + 1) e (bv p[i]) (bv q[i])).run P w = .ok (p[i] == q[i]) w := by
      unfold bv
      rw [run_equalIn_int w d e .u8 .u8 _ _ he, he3]
    simp only [Op.eqItems, Nat.mul_one, Sem.run_bind, run_part_u8 w he p i h1, run_part_u8 w he q i h2, Result.andThen_ok, he2, List.all_cons, List.getElem?_eq_getElem h1, List.getElem?_eq_getElem h2]
    cases hpq : (p[i] == q[i])
    · simp [hpq]
    · simp [hpq, ih]
theorem range_all (p q : List UInt8) (h : p.length = q.length) : ((List.range p.length).all fun i => p[i]? == q[i]?) = (p == q) := by
  rw [Bool.eq_iff_iff, List.all_eq_true, beq_iff_eq]
  constructor
  · intro ha
    apply List.ext_getElem?
    intro i
    rcases Nat.lt_or_ge i p.length with hi | hi
    · simpa using ha i (List.mem_range.2 hi)
    · rw [List.getElem?_eq_none hi, List.getElem?_eq_none (by omega)]
  · rintro rfl i _
    simp
theorem run_equalIn_bytes (d : Nat) {t e : TypeId} {n : Nat} {i : TypeInfo} (hu : P.underlying t = some (.array n e)) (hi : P.info? e = some i) (hc : P.cellsOf e = 1) (he : P.underlying e = some (.int .u8)) (p q : List UInt8) (hp : p.length = n) (hq : q.length = n) :
    (Op.equalIn (d + 2) t (.agg (p.map bv).toArray) (.agg (q.map bv).toArray)).run P w = .ok (p == q) w := by
  subst hp
  rw [show d + 2 = (d + 1) + 1 from rfl, run_equalIn_array w (d + 1) _ _ hu hi, hc, run_eqItems_u8 w d he p q _ fun j hj => by rw [hq]; simpa using hj, range_all p q hq.symm]
end
end Go.Proofs.Ythjkhambmgepdaa

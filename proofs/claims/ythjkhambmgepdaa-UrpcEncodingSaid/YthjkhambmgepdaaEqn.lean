/- Equality of lines, of payloads. -/
import Derived.Test.YthjkhambmgepdaaEql
import Derived.Test.YthjkhambmgepdaaLine
import Derived.DeepKeys
namespace Go.Proofs.Ythjkhambmgepdaa
open Go.RowKit
set_option linter.unusedVariables false
theorem cells5 : Try.prog.cellsOf 5 = 1 := by kernel_rfl
theorem info5x : ∃ i, Try.prog.info? 5 = some i := info_of_underlying Try.underlying5
theorem eq_pay (w : World) (d : Nat) (p q : List UInt8) (hp : p.length = 56) (hq : q.length = 56) : (Op.equalIn (d + 2) 38 (.agg (p.map bv).toArray) (.agg (q.map bv).toArray)).run Try.prog w = .ok (p == q) w := by
  obtain ⟨i, hi⟩ := info5x
  exact run_equalIn_bytes w d Try.underlying38 hi cells5 Try.underlying5 p q hp hq
theorem eq_64 (w : World) (d : Nat) (p q : List UInt8) (hp : p.length = 64) (hq : q.length = 64) : (Op.equalIn (d + 2) 147 (.agg (p.map bv).toArray) (.agg (q.map bv).toArray)).run Try.prog w = .ok (p == q) w := by
  obtain ⟨i, hi⟩ := info5x
  exact run_equalIn_bytes w d Try.underlying147 hi cells5 Try.underlying5 p q hp hq
theorem cells38 : Try.prog.cellsOf 38 = 56 := by kernel_rfl
theorem part_pay (w : World) (k : Int) (e f : Bool) (n a : Int) (p : List UInt8) (hp : p.length = 56) : (part 38 (LV k e f n a p) 5).run Try.prog w = .ok (.agg (p.map bv).toArray) w := by
  obtain ⟨i, hi⟩ := info_of_underlying Try.underlying38
  have hs : (LV k e f n a p).extract 5 61 = (p.map bv).toArray := by
    apply Array.toList_inj.1
    rw [Array.toList_extract]
    simp [LV, List.extract, List.take_of_length_le, hp]
  simp [part, isAgg, run_underlying Try.underlying38, hs]
theorem eqF_cons {P : Program} {w : World} {d : Nat} {xs ys : Array Value} {f : Field} {fs : List Field} {a b : Value} {r c : Bool} (hn : f.name ≠ "_") (h1 : (part f.type xs f.offset).run P w = .ok a w) (h2 : (part f.type ys f.offset).run P w = .ok b w)
    (h3 : (Op.equalIn d f.type a b).run P w = .ok r w) (h : (Op.eqFields d xs ys fs).run P w = .ok c w) : (Op.eqFields d xs ys (f :: fs)).run P w = .ok (r && c) w := by
  unfold Op.eqFields
  rw [if_pos hn]
  simp only [Sem.run_bind, h1, h2, h3, Result.andThen_ok]
  cases r
  · simp
  · simpa using h
theorem eq_line (w : World) (k k' : Int) (e e' f f' : Bool) (n n' a a' : Int) (p p' : List UInt8) (hp : p.length = 56) (hp' : p'.length = 56) :
    (Op.equalIn 10000 40 (.agg (LV k e f n a p)) (.agg (LV k' e' f' n' a' p'))).run Try.prog w = .ok (k == k' && (e == e' && (f == f' && (n == n' && (a == a' && p == p'))))) w := by
  have part0 : ∀ (k : Int) (e f : Bool) (n a : Int) (p : List UInt8), (part 3 (LV k e f n a p) 0).run Try.prog w = .ok (.int .i64 k) w := fun k e f n a p => run_part_plain w (by simp [Program.plainKey, Try.underlying3]) rfl
  have part1 : ∀ (k : Int) (e f : Bool) (n a : Int) (p : List UInt8), (part 4 (LV k e f n a p) 1).run Try.prog w = .ok (.bool e) w := fun k e f n a p => run_part_plain w (by simp [Program.plainKey, Try.underlying4]) rfl
  have part2 : ∀ (k : Int) (e f : Bool) (n a : Int) (p : List UInt8), (part 4 (LV k e f n a p) 2).run Try.prog w = .ok (.bool f) w := fun k e f n a p => run_part_plain w (by simp [Program.plainKey, Try.underlying4]) rfl
  have part3 : ∀ (k : Int) (e f : Bool) (n a : Int) (p : List UInt8), (part 3 (LV k e f n a p) 3).run Try.prog w = .ok (.int .i64 n) w := fun k e f n a p => run_part_plain w (by simp [Program.plainKey, Try.underlying3]) rfl
  have part4 : ∀ (k : Int) (e f : Bool) (n a : Int) (p : List UInt8), (part 23 (LV k e f n a p) 4).run Try.prog w = .ok (.int .u16 a) w := fun k e f n a p => run_part_plain w (by simp [Program.plainKey, Try.underlying23]) rfl
  have e0 : (Op.equalIn 9999 3 (.int .i64 k) (.int .i64 k')).run Try.prog w = .ok (k == k') w := run_equalIn_int (P := Try.prog) w 9998 3 .i64 .i64 k k' Try.underlying3
  have e1 : (Op.equalIn 9999 4 (.bool e) (.bool e')).run Try.prog w = .ok (e == e') w := run_equalIn_bool' (P := Try.prog) w 9998 4 e e' Try.underlying4
  have e2 : (Op.equalIn 9999 4 (.bool f) (.bool f')).run Try.prog w = .ok (f == f') w := run_equalIn_bool' (P := Try.prog) w 9998 4 f f' Try.underlying4
  have e3 : (Op.equalIn 9999 3 (.int .i64 n) (.int .i64 n')).run Try.prog w = .ok (n == n') w := run_equalIn_int (P := Try.prog) w 9998 3 .i64 .i64 n n' Try.underlying3
  have e4 : (Op.equalIn 9999 23 (.int .u16 a) (.int .u16 a')).run Try.prog w = .ok (a == a') w := run_equalIn_int (P := Try.prog) w 9998 23 .u16 .u16 a a' Try.underlying23
  have e5 : (Op.equalIn 9999 38 (.agg (p.map bv).toArray) (.agg (p'.map bv).toArray)).run Try.prog w = .ok (p == p') w := eq_pay w 9997 p p' hp hp'
  rw [show (10000 : Nat) = 9999 + 1 from rfl, run_equalIn_struct w 9999 40 _ _ (by kernel_rfl) (by kernel_rfl)]
  simp only [Program.fieldsOf, Try.underlying40]
  refine Eq.trans (b := .ok (k == k' && (e == e' && (f == f' && (n == n' && (a == a' && (p == p' && true)))))) w) ?_ (by rw [Bool.and_true])
  refine eqF_cons (by decide) (part0 ..) (part0 ..) e0 ?_
  refine eqF_cons (by decide) (part1 ..) (part1 ..) e1 ?_
  refine eqF_cons (by decide) (part2 ..) (part2 ..) e2 ?_
  refine eqF_cons (by decide) (part3 ..) (part3 ..) e3 ?_
  refine eqF_cons (by decide) (part4 ..) (part4 ..) e4 ?_
  refine eqF_cons (by decide) (part_pay w _ _ _ _ _ p hp) (part_pay w _ _ _ _ _ p' hp') e5 ?_
  rfl
end Go.Proofs.Ythjkhambmgepdaa

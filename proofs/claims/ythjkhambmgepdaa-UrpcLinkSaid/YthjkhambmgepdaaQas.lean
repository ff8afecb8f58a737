/- Texts Eql Eqn Enc Encq Uint Dec, without what this claim does not use. -/
import Derived.ChangeKeysEq
import Derived.Laws.StructEq
import Derived.DeepKeys
import Derived.Great.BuildSlice
import Derived.Test.YthjkhambmgepdaaQar
namespace Go.Proofs.Ythjkhambmgepdaa
section
open Go.RowKit
set_option linter.unusedVariables false
section
variable {P : Program} (w : World)
theorem run_part_u8 {e : TypeId} (he : P.underlying e = some (.int .u8)) (p : List UInt8) (i : Nat) (h : i < p.length) : (part e (p.map bv).toArray i).run P w = .ok (bv p[i]) w :=
  run_part_plain w (by simp [Program.plainKey, he]) (by simp [h])
theorem run_eqItems_u8 (d : Nat) {e : TypeId} (he : P.underlying e = some (.int .u8)) (p q : List UInt8) : ∀ (is : List Nat), (∀ i ∈ is, i < p.length ∧ i < q.length) →
    (Op.eqItems (d + 1) e 1 (p.map bv).toArray (q.map bv).toArray is).run P w = .ok (is.all fun i => p[i]? == q[i]?) w
  | [], _ => by simp [Op.eqItems]
  | i :: is, h => by
    obtain ⟨h1, h2⟩ := h i (List.mem_cons_self ..)
    have ih := run_eqItems_u8 d he p q is fun j hj => h j (List.mem_cons_of_mem _ hj)
    have he3 : ((p[i].toNat : Int) == (q[i].toNat : Int)) = (p[i] == q[i]) := by
      rw [Bool.eq_iff_iff, beq_iff_eq, beq_iff_eq]
      constructor
      · intro e; exact UInt8.toNat_inj.1 (by omega)
      · intro e; rw [e]
    have he2 : (Op.equalIn (d + 1) e (bv p[i]) (bv q[i])).run P w = .ok (p[i] == q[i]) w := by
      unfold bv
      rw [run_equalIn_int w d e .u8 .u8 _ _ he, he3]
    simp only [Op.eqItems, Nat.mul_one, Sem.run_bind, run_part_u8 w he p i h1, run_part_u8 w he q i h2, Result.andThen_ok, he2, List.all_cons, List.getElem?_eq_getElem h1, List.getElem?_eq_getElem h2]
    cases hpq : (p[i] == q[i])
    · simp [hpq]
    · simp [hpq, ih]
theorem range_all (p q : List UInt8) (h : p.length = q.length) : ((List.range p.length).all fun i => p[i]? == q[i]?) = (p == q) := by
  rw [Bool.eq_iff_iff, List.all_eq_true, beq_iff_eq]
  constructor
  · intro ha
    apply List.ext_getElem?
    intro i
    rcases Nat.lt_or_ge i p.length with hi | hi
    · simpa using ha i (List.mem_range.2 hi)
    · rw [List.getElem?_eq_none hi, List.getElem?_eq_none (by omega)]
  · rintro rfl i _
    simp
theorem run_equalIn_bytes (d : Nat) {t e : TypeId} {n : Nat} {i : TypeInfo} (hu : P.underlying t = some (.array n e)) (hi : P.info? e = some i) (hc : P.cellsOf e = 1) (he : P.underlying e = some (.int .u8)) (p q : List UInt8) (hp : p.length = n) (hq : q.length = n) :
    (Op.equalIn (d + 2) t (.agg (p.map bv).toArray) (.agg (q.map bv).toArray)).run P w = .ok (p == q) w := by
  subst hp
  rw [show d + 2 = (d + 1) + 1 from rfl, run_equalIn_array w (d + 1) _ _ hu hi, hc, run_eqItems_u8 w d he p q _ fun j hj => by rw [hq]; simpa using hj, range_all p q hq.symm]
end
end
section
open Go.RowKit
set_option linter.unusedVariables false
theorem cells5 : Try.prog.cellsOf 5 = 1 := by kernel_rfl
theorem info5x : ∃ i, Try.prog.info? 5 = some i := info_of_underlying Try.underlying5
theorem eq_pay (w : World) (d : Nat) (p q : List UInt8) (hp : p.length = 56) (hq : q.length = 56) : (Op.equalIn (d + 2) 38 (.agg (p.map bv).toArray) (.agg (q.map bv).toArray)).run Try.prog w = .ok (p == q) w := by
  obtain ⟨i, hi⟩ := info5x
  exact run_equalIn_bytes w d Try.underlying38 hi cells5 Try.underlying5 p q hp hq
theorem part_pay (w : World) (k : Int) (e f : Bool) (n a : Int) (p : List UInt8) (hp : p.length = 56) : (part 38 (LV k e f n a p) 5).run Try.prog w = .ok (.agg (p.map bv).toArray) w := by
  obtain ⟨i, hi⟩ := info_of_underlying Try.underlying38
  have hs : (LV k e f n a p).extract 5 61 = (p.map bv).toArray := by
    apply Array.toList_inj.1
    rw [Array.toList_extract]
    simp [LV, List.extract, List.take_of_length_le, hp]
  simp [part, isAgg, run_underlying Try.underlying38, hs]
theorem eqF_cons {P : Program} {w : World} {d : Nat} {xs ys : Array Value} {f : Field} {fs : List Field} {a b : Value} {r c : Bool} (hn : f.name ≠ "_") (h1 : (part f.type xs f.offset).run P w = .ok a w) (h2 : (part f.type ys f.offset).run P w = .ok b w)
    (h3 : (Op.equalIn d f.type a b).run P w = .ok r w) (h : (Op.eqFields d xs ys fs).run P w = .ok c w) : (Op.eqFields d xs ys (f :: fs)).run P w = .ok (r && c) w := by
  unfold Op.eqFields
  rw [if_pos hn]
  simp only [Sem.run_bind, h1, h2, h3, Result.andThen_ok]
  cases r
  · simp
  · simpa using h
theorem eq_line (w : World) (k k' : Int) (e e' f f' : Bool) (n n' a a' : Int) (p p' : List UInt8) (hp : p.length = 56) (hp' : p'.length = 56) :
    (Op.equalIn 10000 40 (.agg (LV k e f n a p)) (.agg (LV k' e' f' n' a' p'))).run Try.prog w = .ok (k == k' && (e == e' && (f == f' && (n == n' && (a == a' && p == p'))))) w := by
  have part0 : ∀ (k : Int) (e f : Bool) (n a : Int) (p : List UInt8), (part 3 (LV k e f n a p) 0).run Try.prog w = .ok (.int .i64 k) w := fun k e f n a p => run_part_plain w (by simp [Program.plainKey, Try.underlying3]) rfl
  have part1 : ∀ (k : Int) (e f : Bool) (n a : Int) (p : List UInt8), (part 4 (LV k e f n a p) 1).run Try.prog w = .ok (.bool e) w := fun k e f n a p => run_part_plain w (by simp [Program.plainKey, Try.underlying4]) rfl
  have part2 : ∀ (k : Int) (e f : Bool) (n a : Int) (p : List UInt8), (part 4 (LV k e f n a p) 2).run Try.prog w = .ok (.bool f) w := fun k e f n a p => run_part_plain w (by simp [Program.plainKey, Try.underlying4]) rfl
  have part3 : ∀ (k : Int) (e f : Bool) (n a : Int) (p : List UInt8), (part 3 (LV k e f n a p) 3).run Try.prog w = .ok (.int .i64 n) w := fun k e f n a p => run_part_plain w (by simp [Program.plainKey, Try.underlying3]) rfl
  have part4 : ∀ (k : Int) (e f : Bool) (n a : Int) (p : List UInt8), (part 23 (LV k e f n a p) 4).run Try.prog w = .ok (.int .u16 a) w := fun k e f n a p => run_part_plain w (by simp [Program.plainKey, Try.underlying23]) rfl
  have e0 : (Op.equalIn 9999 3 (.int .i64 k) (.int .i64 k')).run Try.prog w = .ok (k == k') w := run_equalIn_int (P := Try.prog) w 9998 3 .i64 .i64 k k' Try.underlying3
  have e1 : (Op.equalIn 9999 4 (.bool e) (.bool e')).run Try.prog w = .ok (e == e') w := run_equalIn_bool' (P := Try.prog) w 9998 4 e e' Try.underlying4
  have e2 : (Op.equalIn 9999 4 (.bool f) (.bool f')).run Try.prog w = .ok (f == f') w := run_equalIn_bool' (P := Try.prog) w 9998 4 f f' Try.underlying4
  have e3 : (Op.equalIn 9999 3 (.int .i64 n) (.int .i64 n')).run Try.prog w = .ok (n == n') w := run_equalIn_int (P := Try.prog) w 9998 3 .i64 .i64 n n' Try.underlying3
  have e4 : (Op.equalIn 9999 23 (.int .u16 a) (.int .u16 a')).run Try.prog w = .ok (a == a') w := run_equalIn_int (P := Try.prog) w 9998 23 .u16 .u16 a a' Try.underlying23
  have e5 : (Op.equalIn 9999 38 (.agg (p.map bv).toArray) (.agg (p'.map bv).toArray)).run Try.prog w = .ok (p == p') w := eq_pay w 9997 p p' hp hp'
  rw [show (10000 : Nat) = 9999 + 1 from rfl, run_equalIn_struct w 9999 40 _ _ (by kernel_rfl) (by kernel_rfl)]
  simp only [Program.fieldsOf, Try.underlying40]
  refine Eq.trans (b := .ok (k == k' && (e == e' && (f == f' && (n == n' && (a == a' && (p == p' && true)))))) w) ?_ (by rw [Bool.and_true])
  refine eqF_cons (by decide) (part0 ..) (part0 ..) e0 ?_
  refine eqF_cons (by decide) (part1 ..) (part1 ..) e1 ?_
  refine eqF_cons (by decide) (part2 ..) (part2 ..) e2 ?_
  refine eqF_cons (by decide) (part3 ..) (part3 ..) e3 ?_
  refine eqF_cons (by decide) (part4 ..) (part4 ..) e4 ?_
  refine eqF_cons (by decide) (part_pay w _ _ _ _ _ p hp) (part_pay w _ _ _ _ _ p' hp') e5 ?_
  rfl
end
section
open Go.RowKit
set_option linter.unusedVariables false
def EncNo (E : Int) (W : World) (e : Ending) (W' : World) : Prop := e = .returned (.tuple #[.slice none 0 0, .int .i64 E]) ∧ Below W.heap.size W W'
def EncPost (k : Int) (e f : Bool) (n a : Int) (p : List UInt8) (W : World) (e' : Ending) (W' : World) : Prop :=
  (lnE k e f n p ≠ 0 ∧ e' = .returned (.tuple #[.slice none 0 0, .int .i64 (lnE k e f n p)]) ∨ lnE k e f n p = 0 ∧ ∃ g, W.heap.size ≤ g ∧ e' = .returned (.tuple #[.slice (some ⟨g, 0, none⟩) 64 64, .int .i64 0]) ∧ Row W' g 5 ((lnB k e f n a p).map bv).toArray) ∧ Below W.heap.size W W'
theorem encPost_no {k : Int} {e f : Bool} {n a : Int} {p : List UInt8} {W W' : World} (h : lnE k e f n p = 54) (hB : Below W.heap.size W W') : EncPost k e f n a p W (.returned (.tuple #[.slice none 0 0, .int .i64 54])) W' := ⟨.inl (by rw [h]; exact ⟨by decide, rfl⟩), hB⟩
theorem encPost_yes {k : Int} {e f : Bool} {n a : Int} {p : List UInt8} {W W' : World} {g : Nat} (h : lnE k e f n p = 0) (hg : W.heap.size ≤ g) (hr : Row W' g 5 ((lnB k e f n a p).map bv).toArray) (hB : Below W.heap.size W W') : EncPost k e f n a p W (.returned (.tuple #[.slice (some ⟨g, 0, none⟩) 64 64, .int .i64 0])) W' := ⟨.inr ⟨h, g, hg, rfl, hr⟩, hB⟩
def cpU (m : Nat) (p : List UInt8) : List UInt8 := p.take m ++ z56.drop m
theorem cpU_len {m : Nat} {p : List UInt8} (hp : p.length = 56) (hm : m ≤ 56) : (cpU m p).length = 56 := by simp [cpU, z56, hp]; omega
theorem copy0 {m : Nat} {p : List UInt8} (hp : p.length = 56) (hm : m ≤ 56) : ((z56.map bv).take 0 ++ ((p.take m).map bv ++ (z56.map bv).drop (0 + ((p.take m).map bv).length))).toArray = ((cpU m p).map bv).toArray := by
  have e : 0 + ((p.take m).map bv).length = m := by simp [hp]; omega
  rw [e, List.take_zero, List.nil_append, cpU, List.map_append, List.map_drop]
theorem clr_z {l : List UInt8} (h : l.all (· == 0) = true) : l = List.replicate l.length 0 := by
  rw [List.eq_replicate_iff]
  refine ⟨rfl, fun b hb => ?_⟩
  have := List.all_eq_true.1 h b hb
  simpa using this
theorem cpU_eq {m : Nat} {p : List UInt8} (hp : p.length = 56) (hm : m ≤ 56) : (cpU m p == p) = clr (m : Int) p := by
  have e1 : p = p.take m ++ p.drop m := (List.take_append_drop m p).symm
  have e2 : z56.drop m = List.replicate (56 - m) 0 := by unfold z56; rw [List.drop_replicate]
  rw [Bool.eq_iff_iff, beq_iff_eq]
  unfold cpU clr
  rw [Int.toNat_natCast, e2]
  constructor
  · intro h
    have h' : p.take m ++ List.replicate (56 - m) 0 = p.take m ++ p.drop m := h.trans e1
    rw [← List.append_cancel_left h']
    simp
  · intro h
    have h2 := clr_z h
    rw [List.length_drop, hp] at h2
    rw [← h2, ← e1]
theorem clr_two {m : Nat} {e f : Bool} {a : Int} {p : List UInt8} (hp : p.length = 56) (hc : clr (m : Int) p = true) (h : (!((m : Int) == 0) || f || e) = false) : (2 == (2 : Int) && (e == false && (f == false && ((m : Int) == 0 && (a == a && p == z56))))) = true := by
  simp only [Bool.or_eq_false_iff, Bool.not_eq_false', beq_iff_eq] at h
  obtain ⟨⟨h1, rfl⟩, rfl⟩ := h
  have hm : m = 0 := by omega
  subst hm
  unfold clr at hc
  have h2 := clr_z hc
  simp only [Int.toNat_natCast, List.drop_zero, hp] at h2
  have h3 : p = z56 := h2
  simp [h3]
theorem clr_two_no {m : Nat} {e f : Bool} {a : Int} {p : List UInt8} (h : (!((m : Int) == 0) || f || e) = true) : (2 == (2 : Int) && (e == false && (f == false && ((m : Int) == 0 && (a == a && p == z56))))) = false := by
  cases e <;> cases f <;> cases hm : ((m : Int) == 0) <;> simp_all
theorem pay_cell {k : Int} {e f : Bool} {n a : Int} {p : List UInt8} {m j : Nat} {v : Value} (hv : ((p.take m).map bv)[j]? = some v) : (LV k e f n a p)[5 + j]? = some v := by
  unfold LV
  rw [List.getElem?_toArray, Nat.add_comm]
  rw [List.map_take, List.getElem?_take] at hv
  split at hv
  · simpa using hv
  · cases hv
theorem info38 : (Try.prog.info? 38).map (·.size) = some 56 := by kernel_rfl
theorem guard38 : Try.prog.eqGuardType Try.prog.depth 38 = false := by kernel_rfl
theorem guard40 : Try.prog.eqGuardType Try.prog.depth 40 = false := by kernel_rfl
theorem line_pay {w : World} {g : Nat} {t : TypeId} {k : Int} {e f : Bool} {n a : Int} {p : List UInt8} (h : Row w g t (LV k e f n a p)) : w.rangeAt g 5 (p.map bv).toArray.toList := by
  intro j v hv
  rw [h.cell (5 + j)]
  unfold LV
  rw [List.getElem?_toArray, Nat.add_comm]
  simpa using hv
set_option maxRecDepth 100000 in
set_option maxHeartbeats 4000000 in
theorem enc_bad30 (k : Int) (e f : Bool) (n a : Int) (p : List UInt8) (h : lnOk1 k n = false) (W : World) : Calls Try.prog 30 #[.agg (LV k e f n a p)] W (EncNo 6 W) := by
  have hc : (k ≠ 1 ∧ k ≠ 2) ∨ ((k = 1 ∨ k = 2) ∧ (n < 0 ∨ 56 < n)) := by
    simp only [lnOk1, Bool.and_eq_false_iff, Bool.or_eq_false_iff, beq_eq_false_iff_ne, decide_eq_false_iff_not] at h
    omega
  clear h
  rcases hc with ⟨h1, h2⟩ | ⟨rfl | rfl, h3 | h3⟩
  · skip
    have hB := (Below.refl W.heap.size W).alloc (Nat.le_refl _) (.cells (LV k e f n a p) 40)
    have r1 := Row.born W 40 (LV k e f n a p)
    go_enter Try.func30, Try.ntmps30
    go_upto_region 1 with (fail)
    generalize W.alloc (.cells (LV k e f n a p) 40) = w1 at *
    have hl1 := r1.lt
    obtain ⟨c0, c1, c2, c3, c4⟩ := line_cells r1
    have b1 : (k == 1) = false := by simpa using h1
    have b2 : (k == 2) = false := by simpa using h2
    go_wp2
    exact bodyPost_ret (v := .tuple #[.slice none 0 0, .int .i64 6]) (by simp [results, Try.results30, go_sem]) rfl ⟨rfl, hB⟩
  · skip
    have hB := (Below.refl W.heap.size W).alloc (Nat.le_refl _) (.cells (LV 1 e f n a p) 40)
    have r1 := Row.born W 40 (LV 1 e f n a p)
    go_enter Try.func30, Try.ntmps30
    go_upto_region 1 with (fail)
    generalize W.alloc (.cells (LV 1 e f n a p) 40) = w1 at *
    have hl1 := r1.lt
    obtain ⟨c0, c1, c2, c3, c4⟩ := line_cells r1
    have b3 : decide (n < 0) = true := by simpa using h3
    go_wp2
    exact bodyPost_ret (v := .tuple #[.slice none 0 0, .int .i64 6]) (by simp [results, Try.results30, go_sem]) rfl ⟨rfl, hB⟩
  · skip
    have hB := (Below.refl W.heap.size W).alloc (Nat.le_refl _) (.cells (LV 1 e f n a p) 40)
    have r1 := Row.born W 40 (LV 1 e f n a p)
    go_enter Try.func30, Try.ntmps30
    go_upto_region 1 with (fail)
    generalize W.alloc (.cells (LV 1 e f n a p) 40) = w1 at *
    have hl1 := r1.lt
    obtain ⟨c0, c1, c2, c3, c4⟩ := line_cells r1
    have b3 : decide (n < 0) = false := by simp; omega
    have b4 : decide (56 < n) = true := by simpa using h3
    go_wp2
    exact bodyPost_ret (v := .tuple #[.slice none 0 0, .int .i64 6]) (by simp [results, Try.results30, go_sem]) rfl ⟨rfl, hB⟩
  · skip
    have hB := (Below.refl W.heap.size W).alloc (Nat.le_refl _) (.cells (LV 2 e f n a p) 40)
    have r1 := Row.born W 40 (LV 2 e f n a p)
    go_enter Try.func30, Try.ntmps30
    go_upto_region 1 with (fail)
    generalize W.alloc (.cells (LV 2 e f n a p) 40) = w1 at *
    have hl1 := r1.lt
    obtain ⟨c0, c1, c2, c3, c4⟩ := line_cells r1
    have b3 : decide (n < 0) = true := by simpa using h3
    go_wp2
    exact bodyPost_ret (v := .tuple #[.slice none 0 0, .int .i64 6]) (by simp [results, Try.results30, go_sem]) rfl ⟨rfl, hB⟩
  · skip
    have hB := (Below.refl W.heap.size W).alloc (Nat.le_refl _) (.cells (LV 2 e f n a p) 40)
    have r1 := Row.born W 40 (LV 2 e f n a p)
    go_enter Try.func30, Try.ntmps30
    go_upto_region 1 with (fail)
    generalize W.alloc (.cells (LV 2 e f n a p) 40) = w1 at *
    have hl1 := r1.lt
    obtain ⟨c0, c1, c2, c3, c4⟩ := line_cells r1
    have b3 : decide (n < 0) = false := by simp; omega
    have b4 : decide (56 < n) = true := by simpa using h3
    go_wp2
    exact bodyPost_ret (v := .tuple #[.slice none 0 0, .int .i64 6]) (by simp [results, Try.results30, go_sem]) rfl ⟨rfl, hB⟩
set_option maxRecDepth 100000 in
set_option maxHeartbeats 4000000 in
theorem enc_ok1 (e f : Bool) (m : Nat) (a : Int) (p : List UInt8) (hm : m ≤ 56) (a0 : 0 ≤ a) (a1 : a < 65536) (hp : p.length = 56) (W : World) : Calls Try.prog 30 #[.agg (LV 1 e f m a p)] W (EncPost 1 e f m a p W) := by
  have hB := (Below.refl W.heap.size W).alloc (Nat.le_refl _) (.cells (LV 1 e f m a p) 40)
  have r1 := Row.born W 40 (LV 1 e f m a p)
  go_enter Try.func30, Try.ntmps30
  go_upto_region 1 with (fail)
  generalize W.alloc (.cells (LV 1 e f m a p) 40) = w1 at *
  have hl1 := r1.lt
  obtain ⟨c0, c1, c2, c3, c4⟩ := line_cells r1
  have b3 : decide ((m : Int) < 0) = false := by simp
  have b4 : decide (56 < (m : Int)) = false := by simp; omega
  have b4' : decide (56 < m) = false := by simp; omega
  have hmi : (m : Int) ≤ 56 := by omega
  have hm0 : 0 ≤ (m : Int) := by omega
  go_upto_region 4 with (fail)
  have q4 := Row.born w1 38 (z56.map bv).toArray
  have r1 := r1.alloc (.cells (z56.map bv).toArray 38)
  have hB := hB.alloc hB.size (.cells (z56.map bv).toArray 38)
  have q4 : Row (w1.alloc _) w1.heap.size 38 _ := q4
  generalize hw2 : w1.alloc (.cells (z56.map bv).toArray 38) = w2 at *
  have hw2' : w1.alloc (.cells #[.int .u8 0, .int .u8 0, .int .u8 0, .int .u8 0, .int .u8 0, .int .u8 0, .int .u8 0, .int .u8 0, .int .u8 0, .int .u8 0, .int .u8 0, .int .u8 0, .int .u8 0, .int .u8 0, .int .u8 0, .int .u8 0, .int .u8 0, .int .u8 0, .int .u8 0, .int .u8 0, .int .u8 0, .int .u8 0, .int .u8 0, .int .u8 0, .int .u8 0, .int .u8 0, .int .u8 0, .int .u8 0, .int .u8 0, .int .u8 0, .int .u8 0, .int .u8 0, .int .u8 0, .int .u8 0, .int .u8 0, .int .u8 0, .int .u8 0, .int .u8 0, .int .u8 0, .int .u8 0, .int .u8 0, .int .u8 0, .int .u8 0, .int .u8 0, .int .u8 0, .int .u8 0, .int .u8 0, .int .u8 0, .int .u8 0, .int .u8 0, .int .u8 0, .int .u8 0, .int .u8 0, .int .u8 0, .int .u8 0, .int .u8 0] 38) = w2 := hw2
  rw [hw2']
  generalize w1.heap.size = g4 at *
  clear hw2 hw2' c0 c1 c2 c3 c4
  obtain ⟨c0, c1, c2, c3, c4⟩ := line_cells r1
  have hlg := q4.lt
  have hl1 := r1.lt
  refine wp_region_tailN (n := 47) 5 (fun w' => Below w2.heap.size w2 w') (fun w1 w2 => Below w1.heap.size w1 w2) (by kernel_rfl) (by kernel_rfl) (by decide) (by rfl) (Below.refl _ _).drew ?_
  simp only [List.take_succ_cons, List.take_zero, List.drop_succ_cons, List.drop_zero]
  refine tail_pure (fun w => Below.refl _ w) (v := .slice (some ⟨g4, 0, none⟩) 56 56) (fun _ => rfl) ?_ ?_; (focus (intro us w9 hS9 hF; clear hF; have k3 := (hS9.cell (p := ⟨W.heap.size, 3, none⟩) hl1).trans c3; clear hS9; go_simp; (try with_reducible rfl); done)); simp only [Act.put, zA, zB, zC, Nat.reduceAdd]
  refine tail_pure (fun w => Below.refl _ w) (v := .pointer (some ⟨W.heap.size, 5, none⟩)) (fun _ => rfl) ?_ ?_; (focus (intro us w9 hS9 hF; clear hF; have k3 := (hS9.cell (p := ⟨W.heap.size, 3, none⟩) hl1).trans c3; clear hS9; go_simp; (try with_reducible rfl); done)); simp only [Act.put, zA, zB, zC, Nat.reduceAdd]
  refine tail_pure (fun w => Below.refl _ w) (v := .pointer (some ⟨W.heap.size, 3, none⟩)) (fun _ => rfl) ?_ ?_; (focus (intro us w9 hS9 hF; clear hF; have k3 := (hS9.cell (p := ⟨W.heap.size, 3, none⟩) hl1).trans c3; clear hS9; go_simp; (try with_reducible rfl); done)); simp only [Act.put, zA, zB, zC, Nat.reduceAdd]
  refine tail_pure (fun w => Below.refl _ w) (v := .int .i64 (m : Int)) (fun _ => rfl) ?_ ?_; (focus (intro us w9 hS9 hF; clear hF; have k3 := (hS9.cell (p := ⟨W.heap.size, 3, none⟩) hl1).trans c3; clear hS9; go_simp; (try with_reducible rfl); done)); simp only [Act.put, zA, zB, zC, Nat.reduceAdd]
  refine tail_pure (fun w => Below.refl _ w) (v := .slice (some ⟨W.heap.size, 5, none⟩) m 56) (fun _ => rfl) ?_ ?_; (focus (intro us w9 hS9 hF; clear hF; have k3 := (hS9.cell (p := ⟨W.heap.size, 3, none⟩) hl1).trans c3; clear hS9; go_simp; (try with_reducible rfl); done)); simp only [Act.put, zA, zB, zC, Nat.reduceAdd]
  refine tail_done fun us w6 hS6 hF => ?_
  clear hF
  have q6 := q4.below hS6 hlg
  have r6 := r1.below hS6 hl1
  have hB := hB.trans (hS6.mono hB.size)
  clear hS6 q4 r1 c0 c1 c2 c3 c4
  refine wp_row_copy (P := Try.prog) (off := 0) (dCap := 56) (sCap := 56) (cs := (p.take m).map bv) q6 Try.underlying44 info_u8s (by rw [List.length_map, List.length_take, hp]) (fun _ => ⟨rfl, _, rfl, fun j v hv => ?_⟩) (by simp [z56, hp, Nat.min_le_right]) (bv_one _) rfl rfl ?_
  · rw [Addr.add_mid, r6.cell (5 + j)]
    exact pay_cell hv
  intro w7 u7 q7
  rw [copy0 hp hm] at q7
  have r7 := r6.upd u7 (by omega)
  have hB := Upd.below hB u7 (by omega)
  clear q6 u7 r6
  have hUl := cpU_len (p := p) hp hm
  have hUe := cpU_eq hp hm
  have hpay := line_pay r7
  have hUs : ((cpU m p).map bv).toArray.size = 56 := by simp [hUl]
  have hps : (p.map bv).toArray.size = 56 := by simp [hp]
  generalize cpU m p = U at *
  obtain ⟨c0, c1, c2, c3, c4⟩ := line_cells r7
  cases hcl : clr m p
  · have hU : (U == p) = false := hUe.trans hcl
    go_wp2_with (first | ((with_reducible refine wp_load_g ?_ q7.range Try.underlying38 rfl (by rw [hUs]; exact info38) ?_ ?_); rfl; rfl) | ((with_reducible refine wp_load_g ?_ hpay Try.underlying38 rfl (by rw [hps]; exact info38) ?_ ?_); rfl; rfl) | ((with_reducible refine wp_load_g ?_ r7.range Try.underlying40 rfl (line_info _ _ _ _ _ hp) ?_ ?_); rfl; rfl) | ((with_reducible refine wp_neq_g ?_ guard38 (eq_pay _ 9998 _ p hUl hp) ?_ ?_ ?_); rfl; rfl; rfl))
    exact bodyPost_ret (v := .tuple #[.slice none 0 0, .int .i64 54]) (by simp [results, Try.results30, go_sem]) rfl (encPost_no (by simp [lnE, lnOk1, lnOk2, hcl, hmi]) hB)
  · have hU : (U == p) = true := hUe.trans hcl
    have HE := Lib.hid (show lnE 1 e f m p = 0 by simp [lnE, lnOk1, lnOk2, hcl, hmi])
    clear hcl hUe
    go_upto_region 7 with (first | ((with_reducible refine wp_load_g ?_ q7.range Try.underlying38 rfl (by rw [hUs]; exact info38) ?_ ?_); rfl; rfl) | ((with_reducible refine wp_load_g ?_ hpay Try.underlying38 rfl (by rw [hps]; exact info38) ?_ ?_); rfl; rfl) | ((with_reducible refine wp_load_g ?_ r7.range Try.underlying40 rfl (line_info _ _ _ _ _ hp) ?_ ?_); rfl; rfl) | ((with_reducible refine wp_neq_g ?_ guard38 (eq_pay _ 9998 _ p hUl hp) ?_ ?_ ?_); rfl; rfl; rfl))
    go_wp2_with (first | ((with_reducible refine wp_load_g ?_ r7.range Try.underlying40 rfl (line_info _ _ _ _ _ hp) ?_ ?_); rfl; rfl) | (go_at_call 94; refine (pack 1 e f m a p (by omega) (by omega) (by omega) a0 a1 hp _).mono ?_; rintro e' w8 ⟨g, hg, rfl, hr, hb⟩))
    exact bodyPost_ret (v := .tuple #[.slice (some ⟨g, 0, none⟩) 64 64, .int .i64 0]) (by simp [results, Try.results30, go_sem]) rfl (encPost_yes HE.out (Nat.le_trans hB.size hg) hr (hB.trans (hb.mono hB.size)))
set_option maxRecDepth 100000 in
set_option maxHeartbeats 4000000 in
theorem enc_ok2 (e f : Bool) (m : Nat) (a : Int) (p : List UInt8) (hm : m ≤ 56) (a0 : 0 ≤ a) (a1 : a < 65536) (hp : p.length = 56) (W : World) : Calls Try.prog 30 #[.agg (LV 2 e f m a p)] W (EncPost 2 e f m a p W) := by
  have hB := (Below.refl W.heap.size W).alloc (Nat.le_refl _) (.cells (LV 2 e f m a p) 40)
  have r1 := Row.born W 40 (LV 2 e f m a p)
  go_enter Try.func30, Try.ntmps30
  go_upto_region 1 with (fail)
  generalize W.alloc (.cells (LV 2 e f m a p) 40) = w1 at *
  have hl1 := r1.lt
  obtain ⟨c0, c1, c2, c3, c4⟩ := line_cells r1
  have b3 : decide ((m : Int) < 0) = false := by simp
  have b4 : decide (56 < (m : Int)) = false := by simp; omega
  have b4' : decide (56 < m) = false := by simp; omega
  have hmi : (m : Int) ≤ 56 := by omega
  have hm0 : 0 ≤ (m : Int) := by omega
  go_upto_region 4 with (fail)
  have q4 := Row.born w1 38 (z56.map bv).toArray
  have r1 := r1.alloc (.cells (z56.map bv).toArray 38)
  have hB := hB.alloc hB.size (.cells (z56.map bv).toArray 38)
  have q4 : Row (w1.alloc _) w1.heap.size 38 _ := q4
  generalize hw2 : w1.alloc (.cells (z56.map bv).toArray 38) = w2 at *
  have hw2' : w1.alloc (.cells #[.int .u8 0, .int .u8 0, .int .u8 0, .int .u8 0, .int .u8 0, .int .u8 0, .int .u8 0, .int .u8 0, .int .u8 0, .int .u8 0, .int .u8 0, .int .u8 0, .int .u8 0, .int .u8 0, .int .u8 0, .int .u8 0, .int .u8 0, .int .u8 0, .int .u8 0, .int .u8 0, .int .u8 0, .int .u8 0, .int .u8 0, .int .u8 0, .int .u8 0, .int .u8 0, .int .u8 0, .int .u8 0, .int .u8 0, .int .u8 0, .int .u8 0, .int .u8 0, .int .u8 0, .int .u8 0, .int .u8 0, .int .u8 0, .int .u8 0, .int .u8 0, .int .u8 0, .int .u8 0, .int .u8 0, .int .u8 0, .int .u8 0, .int .u8 0, .int .u8 0, .int .u8 0, .int .u8 0, .int .u8 0, .int .u8 0, .int .u8 0, .int .u8 0, .int .u8 0, .int .u8 0, .int .u8 0, .int .u8 0, .int .u8 0] 38) = w2 := hw2
  rw [hw2']
  generalize w1.heap.size = g4 at *
  clear hw2 hw2' c0 c1 c2 c3 c4
  obtain ⟨c0, c1, c2, c3, c4⟩ := line_cells r1
  have hlg := q4.lt
  have hl1 := r1.lt
  refine wp_region_tailN (n := 47) 5 (fun w' => Below w2.heap.size w2 w') (fun w1 w2 => Below w1.heap.size w1 w2) (by kernel_rfl) (by kernel_rfl) (by decide) (by rfl) (Below.refl _ _).drew ?_
  simp only [List.take_succ_cons, List.take_zero, List.drop_succ_cons, List.drop_zero]
  refine tail_pure (fun w => Below.refl _ w) (v := .slice (some ⟨g4, 0, none⟩) 56 56) (fun _ => rfl) ?_ ?_; (focus (intro us w9 hS9 hF; clear hF; have k3 := (hS9.cell (p := ⟨W.heap.size, 3, none⟩) hl1).trans c3; clear hS9; go_simp; (try with_reducible rfl); done)); simp only [Act.put, zA, zB, zC, Nat.reduceAdd]
  refine tail_pure (fun w => Below.refl _ w) (v := .pointer (some ⟨W.heap.size, 5, none⟩)) (fun _ => rfl) ?_ ?_; (focus (intro us w9 hS9 hF; clear hF; have k3 := (hS9.cell (p := ⟨W.heap.size, 3, none⟩) hl1).trans c3; clear hS9; go_simp; (try with_reducible rfl); done)); simp only [Act.put, zA, zB, zC, Nat.reduceAdd]
  refine tail_pure (fun w => Below.refl _ w) (v := .pointer (some ⟨W.heap.size, 3, none⟩)) (fun _ => rfl) ?_ ?_; (focus (intro us w9 hS9 hF; clear hF; have k3 := (hS9.cell (p := ⟨W.heap.size, 3, none⟩) hl1).trans c3; clear hS9; go_simp; (try with_reducible rfl); done)); simp only [Act.put, zA, zB, zC, Nat.reduceAdd]
  refine tail_pure (fun w => Below.refl _ w) (v := .int .i64 (m : Int)) (fun _ => rfl) ?_ ?_; (focus (intro us w9 hS9 hF; clear hF; have k3 := (hS9.cell (p := ⟨W.heap.size, 3, none⟩) hl1).trans c3; clear hS9; go_simp; (try with_reducible rfl); done)); simp only [Act.put, zA, zB, zC, Nat.reduceAdd]
  refine tail_pure (fun w => Below.refl _ w) (v := .slice (some ⟨W.heap.size, 5, none⟩) m 56) (fun _ => rfl) ?_ ?_; (focus (intro us w9 hS9 hF; clear hF; have k3 := (hS9.cell (p := ⟨W.heap.size, 3, none⟩) hl1).trans c3; clear hS9; go_simp; (try with_reducible rfl); done)); simp only [Act.put, zA, zB, zC, Nat.reduceAdd]
  refine tail_done fun us w6 hS6 hF => ?_
  clear hF
  have q6 := q4.below hS6 hlg
  have r6 := r1.below hS6 hl1
  have hB := hB.trans (hS6.mono hB.size)
  clear hS6 q4 r1 c0 c1 c2 c3 c4
  refine wp_row_copy (P := Try.prog) (off := 0) (dCap := 56) (sCap := 56) (cs := (p.take m).map bv) q6 Try.underlying44 info_u8s (by rw [List.length_map, List.length_take, hp]) (fun _ => ⟨rfl, _, rfl, fun j v hv => ?_⟩) (by simp [z56, hp, Nat.min_le_right]) (bv_one _) rfl rfl ?_
  · rw [Addr.add_mid, r6.cell (5 + j)]
    exact pay_cell hv
  intro w7 u7 q7
  rw [copy0 hp hm] at q7
  have r7 := r6.upd u7 (by omega)
  have hB := Upd.below hB u7 (by omega)
  clear q6 u7 r6
  have hUl := cpU_len (p := p) hp hm
  have hUe := cpU_eq hp hm
  have hpay := line_pay r7
  have hUs : ((cpU m p).map bv).toArray.size = 56 := by simp [hUl]
  have hps : (p.map bv).toArray.size = 56 := by simp [hp]
  generalize cpU m p = U at *
  obtain ⟨c0, c1, c2, c3, c4⟩ := line_cells r7
  cases hcl : clr m p
  · have hU : (U == p) = false := hUe.trans hcl
    go_wp2_with (first | ((with_reducible refine wp_load_g ?_ q7.range Try.underlying38 rfl (by rw [hUs]; exact info38) ?_ ?_); rfl; rfl) | ((with_reducible refine wp_load_g ?_ hpay Try.underlying38 rfl (by rw [hps]; exact info38) ?_ ?_); rfl; rfl) | ((with_reducible refine wp_load_g ?_ r7.range Try.underlying40 rfl (line_info _ _ _ _ _ hp) ?_ ?_); rfl; rfl) | ((with_reducible refine wp_neq_g ?_ guard38 (eq_pay _ 9998 _ p hUl hp) ?_ ?_ ?_); rfl; rfl; rfl) | ((with_reducible refine wp_neq_g ?_ guard40 (HL _) ?_ ?_ ?_); rfl; rfl; rfl))
    exact bodyPost_ret (v := .tuple #[.slice none 0 0, .int .i64 54]) (by simp [results, Try.results30, go_sem]) rfl (encPost_no (by simp [lnE, lnOk1, lnOk2, hcl, hmi]) hB)
  · have hU : (U == p) = true := hUe.trans hcl
    cases hg2 : (!((m : Int) == 0) || f || e)
    · have hq : (2 == (2 : Int) && (e == false && (f == false && ((m : Int) == 0 && (a == a && p == z56))))) = true := clr_two hp hcl hg2
      have HL : ∀ w : World, (Op.equalIn 10000 40 (.agg (LV 2 e f m a p)) (.agg (LV 2 false false 0 a z56))).run Try.prog w = .ok true w := fun w => by rw [eq_line w 2 2 e false f false m 0 a a p z56 hp z56_len, hq]
      clear hq
      have HE := Lib.hid (show lnE 2 e f m p = 0 by simp [lnE, lnOk1, lnOk2, hcl, hmi, hg2])
      clear hcl hUe hg2
      go_upto_region 7 with (first | ((with_reducible refine wp_load_g ?_ q7.range Try.underlying38 rfl (by rw [hUs]; exact info38) ?_ ?_); rfl; rfl) | ((with_reducible refine wp_load_g ?_ hpay Try.underlying38 rfl (by rw [hps]; exact info38) ?_ ?_); rfl; rfl) | ((with_reducible refine wp_load_g ?_ r7.range Try.underlying40 rfl (line_info _ _ _ _ _ hp) ?_ ?_); rfl; rfl) | ((with_reducible refine wp_neq_g ?_ guard38 (eq_pay _ 9998 _ p hUl hp) ?_ ?_ ?_); rfl; rfl; rfl) | ((with_reducible refine wp_neq_g ?_ guard40 (HL _) ?_ ?_ ?_); rfl; rfl; rfl))
      go_wp2_with (first | ((with_reducible refine wp_load_g ?_ r7.range Try.underlying40 rfl (line_info _ _ _ _ _ hp) ?_ ?_); rfl; rfl) | (go_at_call 94; refine (pack 2 e f m a p (by omega) (by omega) (by omega) a0 a1 hp _).mono ?_; rintro e' w8 ⟨g, hg, rfl, hr, hb⟩))
      exact bodyPost_ret (v := .tuple #[.slice (some ⟨g, 0, none⟩) 64 64, .int .i64 0]) (by simp [results, Try.results30, go_sem]) rfl (encPost_yes HE.out (Nat.le_trans hB.size hg) hr (hB.trans (hb.mono hB.size)))
    · have hq : (2 == (2 : Int) && (e == false && (f == false && ((m : Int) == 0 && (a == a && p == z56))))) = false := clr_two_no hg2
      have HL : ∀ w : World, (Op.equalIn 10000 40 (.agg (LV 2 e f m a p)) (.agg (LV 2 false false 0 a z56))).run Try.prog w = .ok false w := fun w => by rw [eq_line w 2 2 e false f false m 0 a a p z56 hp z56_len, hq]
      clear hq
      have HE := Lib.hid (show lnE 2 e f m p = 54 by simp [lnE, lnOk1, lnOk2, hcl, hmi, hg2])
      clear hcl hUe hg2
      go_wp2_with (first | ((with_reducible refine wp_load_g ?_ q7.range Try.underlying38 rfl (by rw [hUs]; exact info38) ?_ ?_); rfl; rfl) | ((with_reducible refine wp_load_g ?_ hpay Try.underlying38 rfl (by rw [hps]; exact info38) ?_ ?_); rfl; rfl) | ((with_reducible refine wp_load_g ?_ r7.range Try.underlying40 rfl (line_info _ _ _ _ _ hp) ?_ ?_); rfl; rfl) | ((with_reducible refine wp_neq_g ?_ guard38 (eq_pay _ 9998 _ p hUl hp) ?_ ?_ ?_); rfl; rfl; rfl) | ((with_reducible refine wp_neq_g ?_ guard40 (HL _) ?_ ?_ ?_); rfl; rfl; rfl))
      exact bodyPost_ret (v := .tuple #[.slice none 0 0, .int .i64 54]) (by simp [results, Try.results30, go_sem]) rfl (encPost_no HE.out hB)
theorem encode_line (k : Int) (e f : Bool) (n a : Int) (p : List UInt8) (a0 : 0 ≤ a) (a1 : a < 65536) (hp : p.length = 56) (W : World) : Calls Try.prog 30 #[.agg (LV k e f n a p)] W (EncPost k e f n a p W) := by
  cases h : lnOk1 k n
  · refine (enc_bad30 k e f n a p h W).mono ?_
    rintro e' W' ⟨rfl, hB⟩
    exact ⟨.inl (by simp [lnE, h]), hB⟩
  · obtain ⟨hk, n0, n1⟩ := lnOk1_k h
    obtain ⟨m, rfl⟩ := Int.eq_ofNat_of_zero_le n0
    rcases hk with rfl | rfl
    · exact enc_ok1 e f m a p (by omega) a0 a1 hp W
    · exact enc_ok2 e f m a p (by omega) a0 a1 hp W
end
section
open Go.RowKit
set_option linter.unusedVariables false
theorem pay_isB {w : World} {g : Nat} {t : TypeId} {k : Int} {e f : Bool} {n a : Int} {p : List UInt8} (h : Row w g t (LV k e f n a p)) (hp : p.length = 56) : IsB w (some ⟨g, 5, none⟩) 56 p := by
  refine ⟨hp.symm, fun _ => ⟨g, 5, rfl, fun i hi => ?_⟩⟩
  have := line_pay h i (bv p[i]) (by simp [hi])
  exact this
end
section
open Go.RowKit
set_option linter.unusedVariables false
theorem uint32_01 (A : Option Addr) (n c : Nat) (bs : List UInt8) (off : Int) (w : World) (hA : IsB w A n bs) (hn : n ≤ 1000000000) (b0 : -9223372036854775808 ≤ off) (b1 : off < 9223372036854775808) :
    Calls Try.prog 140 #[.slice A n c, .int .i64 off] w (FixPost bs off 4 .u32 w) := by
  have hC := fixed01 A n c bs off 4 w hA hn (by omega) (by omega) b0 b1
  have hv := fixR_lt bs off 4
  change Calls _ _ #[.slice A n c, .int .i64 off, .int .i64 4] _ _ at hC
  unfold FixPost at *
  generalize fixR bs off 4 = r at *
  obtain ⟨v, er⟩ := r
  have HV : Hid ((v : Int) % 4294967296 = (v : Int)) := Lib.hid (by
    have h1 : v < 4294967296 := hv
    omega)
  clear hv
  go_enter Try.func140, Try.ntmps140
  go_wp2_with (go_at_call 135; refine hC.mono ?_; rintro e w' ⟨rfl, rfl⟩)
  refine bodyPost_ret (v := .tuple #[.int .u32 (v : Nat), .int .i64 (er : Nat)]) (by simp [results, Try.results140, go_sem, HV.out]) rfl ⟨rfl, rfl⟩
end
section
open Go.RowKit
set_option linter.unusedVariables false
theorem zl_61 : ZL.size = 61 := LV_size _ _ _ _ _ z56_len
theorem IsB.sufB {w : World} {b o n : Nat} {bs : List UInt8} (h : IsB w (some ⟨b, o, none⟩) n bs) (k : Nat) (hk : k ≤ n) : IsB w (some ⟨b, o + k, none⟩) (n - k) (bs.drop k) := by
  refine ⟨by rw [List.length_drop, h.1], fun hn => ?_⟩
  obtain ⟨b', o', e, hc⟩ := h.2 (by omega)
  injection e with e
  injection e with e1 e2 e3
  subst e1 e2
  refine ⟨b, o + k, rfl, fun i hi => ?_⟩
  simp only [List.length_drop] at hi
  rw [Nat.add_assoc, hc (k + i) (by omega)]
  simp
end
end Go.Proofs.Ythjkhambmgepdaa

/- The walk of the ring laws' awake: it returns true. -/
import Derived.Test.YthjkhambmgepdaaR3
namespace Go.Proofs.Ythjkhambmgepdaa
open Go.RowKit
set_option linter.unusedVariables false
theorem Row.bornAt {w : World} {g : Nat} (hg : w.heap.size = g) (t : TypeId) (cs : Array Value) : Row (w.alloc (.cells cs t)) g t cs := by subst hg; exact Row.born w t cs
theorem len_pay {bs : List UInt8} {m : Nat} (h : bs.length = m) (hm : m ≤ 56) : (bs ++ z56.drop m).length = 56 := by simp [z56, h]; omega
set_option maxRecDepth 100000 in
set_option maxHeartbeats 4000000 in
theorem awake19 (W : World) : Calls Try.prog 23 #[] W (True1 W) := by
  have e1 : nsN 4 = 4 := rfl
  have e2 : nsE 4 = 0 := rfl
  go_enter Try.func23, Try.ntmps23
  go_wp2_with (go_at_call 27; refine (new_sender _ _).mono ?_; rintro e w1 ⟨rfl, hB⟩)
  have hz := hB.size
  go_loopw [3] (fun i wr => ∃ k : Nat, k ≤ 4 ∧ i = .int .i64 k ∧ Row wr w1.heap.size 27 #[.int .i64 4, .int .u64 k, .int .u64 0] ∧ Below W.heap.size W wr) (fun i _ => 4 - (intOf i).toNat)
  case atStart => exact ⟨0, by omega, rfl, Row.born _ _ _, hB.alloc hB.size _⟩
  case round =>
    obtain ⟨k, hk, rfl, hr, hB'⟩ := hrel
    obtain ⟨⟨c0, c1, c2⟩, f1⟩ := three_cells hr
    by_cases hlt : k < 4
    · have hvl : vs 4 (k : Int) 0 = true := vs_mk ⟨rfl, by omega, by omega, by omega, by omega, by omega⟩
      have hv := Lib.hid hvl
      have hf : Hid ((fr 4 (k : Int) 0 == 0) = false) := Lib.hid (by simp [fr, hvl]; omega)
      have he : Hid (ep 4 (k : Int) = true) := Lib.hid (by simp [ep]; omega)
      have hq : Hid ((k : Int) % 4 = k) := Lib.hid (by omega)
      clear hvl
      go_wp2_with fail
      refine (send_ok 4 k 0 0 _ 1 1 true [1] (by omega) (by omega) hv.out (by omega) hf.out (by omega) _ (IsB.of_row (bs := [1]) (Row.born wr 5 _))).mono ?_
      rintro e w2 ⟨rfl, hb⟩
      rw [he.out, hq.out]
      have hr := (hr.alloc _).below hb (by have := hr.lt; simp; omega)
      have hB' := (hB'.alloc hB'.size _).trans (hb.mono (by have := hB'.size; simp; omega))
      have hl := hr.lt
      obtain ⟨⟨c0, c1, c2⟩, f1⟩ := three_cells hr
      clear hb
      go_wp2_with ((with_reducible refine wp_row_store (L := LV 1 true true ((1 : Nat) : Int) 0 ([1] ++ z56.drop 1)) (Row.bornAt (g := w2.heap.size + 1) (by simp) _ _) ?_ (line_info _ _ _ _ _ (len_pay rfl (by omega))) (LV_one _ _ _ _ _ _) ?_ ?_ ?_); rfl; rfl; rfl; intro w3 u3 r3; have r4 : Row w3 w2.heap.size 27 #[.int .i64 4, .int .u64 ((k : Int) + 1), .int .u64 0] := ((Row.born w2 27 _).alloc _).upd u3 (by omega); have hr := ((hr.alloc _).alloc _).upd u3 (by omega); have hB' := Upd.below ((hB'.alloc hB'.size _).alloc (by have := hB'.size; simp; omega) _) u3 (by have := hB'.size; omega); have hz3 := u3.size; obtain ⟨⟨c0, c1, c2⟩, f1⟩ := three_cells hr; obtain ⟨⟨d0, d1, d2⟩, f2⟩ := three_cells r4; obtain ⟨p0, p1, p2, p3, p4⟩ :=line_cells r3)
      have hR := ((hr.set 0 (.int .i64 4)).set 1 (.int .u64 ((k : Int) + 1))).set 2 (.int .u64 0)
      have hL := ((hB'.setCell (p := ⟨w1.heap.size, 0, none⟩) hz (.int .i64 4)).setCell (p := ⟨w1.heap.size, 1, none⟩) hz (.int .u64 ((k : Int) + 1))).setCell (p := ⟨w1.heap.size, 2, none⟩) hz (.int .u64 0)
      exact ⟨⟨k + 1, by omega, by go_num, by simpa using hR, hL⟩, by simp [intOf]; omega⟩
    · obtain rfl : k = 4 := by omega
      go_wp2_with fail
      refine (send_full 4 4 0 0 none 0 0 true (by omega) (by omega) (by omega) (by decide) (by omega) (by decide) _).mono ?_
      rintro e w2 ⟨rfl, hb⟩
      have hr := hr.below hb hr.lt
      have hB' := hB'.trans (hb.mono hB'.size)
      have hl := hr.lt
      clear c0 c1 c2 f1 hb
      obtain ⟨⟨c0, c1, c2⟩, f1⟩ := three_cells hr
      unfold ZS
      go_wp2_with ((with_reducible refine wp_row_store (L := ZL) (Row.bornAt (g := w2.heap.size + 1) (by simp) _ _) ?_ zl_info zl_one ?_ ?_ ?_); rfl; rfl; rfl; intro w3 u3 r3; have hr := ((hr.alloc _).alloc _).upd u3 (by omega); have hB' := Upd.below ((hB'.alloc hB'.size _).alloc (by have := hB'.size; simp; omega) _) u3 (by have := hB'.size; omega); obtain ⟨⟨c0, c1, c2⟩, f1⟩ := three_cells hr)
      refine (acknowledge _ _ _ _ (by omega) (by omega) (by omega) (by omega) (by omega) _).mono ?_
      rintro e w4 ⟨rfl, hb⟩
      rw [show akN 4 4 0 2 = 4 by decide, show akS 4 4 0 2 = 4 by decide, show akA 4 4 0 2 = 2 by decide, show akE 4 4 0 2 = 0 by decide]
      have hB' := hB'.trans (hb.mono hB'.size)
      clear c0 c1 c2 f1 hb
      go_wp2_with fail
      refine (send_ok 4 4 2 0 none 0 0 true [] (by omega) (by omega) (by decide) (by omega) (by decide) (by omega) _ (IsB.nil _ _)).mono ?_
      rintro e w5 ⟨rfl, hb⟩
      rw [show (4 : Int) % 4 = 0 by decide, show ep 4 4 = false by decide]
      have r12 : Row w5 w4.heap.size 27 #[.int .i64 4, .int .u64 4, .int .u64 2] := (Row.born w4 27 _).below hb (by simp)
      have hB' := (hB'.alloc hB'.size _).trans (hb.mono (by have := hB'.size; simp; omega))
      have hl5 := r12.lt
      clear hb
      go_wp2_with ((with_reducible refine wp_row_store (L := LV 1 false true ((0 : Nat) : Int) 0 ([] ++ z56.drop 0)) (Row.bornAt (g := w5.heap.size + 1) (by simp) _ _) ?_ (line_info _ _ _ _ _ (len_pay rfl (by omega))) (LV_one _ _ _ _ _ _) ?_ ?_ ?_); rfl; rfl; rfl; intro w6 u6 r16; have r12 := ((r12.alloc _).alloc _).upd u6 (by omega); have hB' := Upd.below ((hB'.alloc hB'.size _).alloc (by have := hB'.size; simp; omega) _) u6 (by have := hB'.size; omega); obtain ⟨⟨c0, c1, c2⟩, f1⟩ := three_cells r12; obtain ⟨p0, p1, p2, p3, p4⟩ := line_cells r16)
      refine (free _ _ _ (by omega) (by omega) (by omega) _).mono ?_
      rintro e w7 ⟨rfl, hb⟩
      rw [show fr 4 4 2 = 2 by decide]
      go_wp2
      go_ret
      exact ⟨rfl, hB'.trans (hb.mono hB'.size)⟩
end Go.Proofs.Ythjkhambmgepdaa

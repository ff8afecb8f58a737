/- Ring: the reference's Send, its good way. -/
import Derived.Test.YthjkhambmgepdaaRf3
import Derived.Test.YthjkhambmgepdaaSd
import Derived.Test.YthjkhambmgepdaaR4
namespace Go.Proofs.Ythjkhambmgepdaa
open Go.RowKit
set_option linter.unusedVariables false
def SendT (B g : Nat) (cs L : Array Value) (w : World) : Prop := Row w B 27 cs ∧ Row w g 40 L
theorem SendT.upd {B g x : Nat} {cs L : Array Value} {w w' : World} (h : SendT B g cs L w) (u : Upd w w' x) (h1 : B ≠ x) (h2 : g ≠ x) : SendT B g cs L w' := ⟨h.1.upd u h1, h.2.upd u h2⟩
def pj (j : Nat) (bs : List UInt8) : List UInt8 := bs.take j ++ z56.drop j
theorem pj_len {j : Nat} {bs : List UInt8} (hj : j ≤ bs.length) (hb : bs.length ≤ 56) : (pj j bs).length = 56 := by simp [pj, z56]; omega
theorem pj_set {j : Nat} {bs : List UInt8} (hj : j < bs.length) (hb : bs.length ≤ 56) (K : Int) (E F : Bool) (n a : Int) : (LV K E F n a (pj j bs)).setIfInBounds (5 + j) (bv bs[j]) = LV K E F n a (pj (j + 1) bs) := by
  have h1 : (pj j bs).set j bs[j] = pj (j + 1) bs := by
    apply List.ext_getElem?
    intro i
    unfold pj
    rw [List.getElem?_set]
    have hl : (bs.take j).length = j := by simp; omega
    have hl1 : (bs.take (j + 1)).length = j + 1 := by simp; omega
    rcases Nat.lt_trichotomy i j with h | h | h
    · rw [if_neg (by omega), List.getElem?_append_left (by omega), List.getElem?_append_left (by omega), List.getElem?_take, List.getElem?_take, if_pos h, if_pos (by omega)]
    · subst h
      rw [if_pos rfl, if_pos (by simp [z56]; omega), List.getElem?_append_left (by omega), List.getElem?_take, if_pos (by omega), List.getElem?_eq_getElem hj]
    · rw [if_neg (by omega), List.getElem?_append_right (by omega), List.getElem?_append_right (by omega), hl, hl1, List.getElem?_drop, List.getElem?_drop]
      congr 1
      omega
  unfold LV
  rw [List.setIfInBounds_toArray, Nat.add_comm 5 j]
  simp only [List.set_cons_succ, ← List.map_set, h1]
set_option maxRecDepth 100000 in
set_option maxHeartbeats 4000000 in
theorem rsend_ok (n s a k : Int) (A : Option Addr) (m c : Nat) (f : Bool) (bs : List UInt8) (hs : 0 ≤ s) (ha : 0 ≤ a) (hv : vs n s a = true) (hm : m ≤ 56) (hf : (fr n s a == 0) = false) (hlim : s < 4611686018427387904) (W : World) (hb0 : IsB W A m bs) :
    Calls Try.prog 34 #[.agg #[.int .i64 n, .int .u64 s, .int .u64 a], .slice A m c, .bool f, .int .u16 k] W (SendOk n s a k f m bs W) := by
  have hs1 : s < 18446744073709551616 := by omega
  have hl : (s == 4611686018427387904) = false := by simp; omega
  obtain ⟨hvl, n0, n1, h1, h2, h3⟩ := vs_yes hv
  have q0 : 0 ≤ s % n := Int.emod_nonneg _ (by omega)
  have q1 : s % n < n := Int.emod_lt_of_pos _ (by omega)
  go_enter Try.func34, Try.ntmps34
  go_wp2_with fail
  refine (sender_ref _ _ _ hs hs1 ha _).mono ?_
  rintro e w1 ⟨rfl, hb⟩
  obtain ⟨r1, r2, r3, hz, hB⟩ := three_new hb
  have r3 : Row w1 (W.heap.size + 2) 40 ZL := r3
  have r2 : Row w1 (W.heap.size + 1) 27 ZS := r2
  clear hb
  obtain ⟨⟨c0, c1, c2⟩, f1⟩ := three_cells r1
  go_wp2_with fail
  refine (free_ref _ _ _ hs hs1 ha _).mono ?_
  rintro e w1' ⟨rfl, hb⟩
  have r1 := r1.below hb r1.lt
  have r2 := r2.below hb r2.lt
  have r3 := r3.below hb r3.lt
  have hB := hB.trans (hb.mono hB.size)
  clear hb c0 c1 c2 f1 hz
  obtain ⟨⟨c0, c1, c2⟩, f1⟩ := three_cells r1
  go_wp2_with fail
  refine (epoch_ref _ _ hs hs1 n0 n1 _).mono ?_
  rintro e w2 ⟨rfl, h9⟩
  rw [← h9]
  clear h9
  have hsz : W.heap.size + 2 < w1'.heap.size := r3.lt
  go_upto_region 13 with ((with_reducible refine wp_row_store (L := LV 1 (ep n s) f m k z56) (Row.bornAt (g := w1'.heap.size) rfl 40 _) ?_ (line_info _ _ _ _ _ z56_len) (LV_one _ _ _ _ _ _) ?_ ?_ ?_); exact (LV_size _ _ _ _ _ z56_len).symm; rfl; rfl; intro w3 u3 r13)
  have hbz := Upd.below ((Below.refl w1'.heap.size w1').alloc (Nat.le_refl _) _) u3 (Nat.le_refl _)
  have r1 := r1.below hbz r1.lt
  have r2 := r2.below hbz r2.lt
  have r3 := r3.below hbz r3.lt
  have hB3 := hB.trans (hbz.mono hB.size)
  generalize w1'.heap.size = g13 at *
  clear hbz u3 hB c0 c1 c2 f1
  have hml := hb0.1
  have HML := Lib.hid hml
  clear hml
  have r13 : Row w3 g13 40 (LV 1 (ep n s) f m k (pj 0 bs)) := r13
  go_upto_region 14 with (fail)
  go_loopw [14] (fun i wr => ∃ j : Nat, j ≤ m ∧ i = .int .i64 j ∧ Row wr g13 40 (LV 1 (ep n s) f m k (pj j bs)) ∧ Row wr W.heap.size 27 #[.int .i64 n, .int .u64 s, .int .u64 a] ∧ Row wr (W.heap.size + 1) 27 ZS ∧ Row wr (W.heap.size + 2) 40 ZL ∧ Below W.heap.size W wr) (fun i _ => m - (intOf i).toNat)
  case atStart => exact ⟨0, by omega, rfl, r13, r1, r2, r3, hB3⟩
  case round =>
    clear r13 r1 r2 r3 hB3
    obtain ⟨j, hj, rfl, r13, r1, r2, r3, hB⟩ := hrel
    rcases Nat.lt_or_ge j m with hjm | hjm
    · have hd : decide (j < m) = true := by simpa using hjm
      have hj56 : decide (j < 56) = true := by simp; omega
      have hji : (j : Int) < 56 := by omega
      have hjm' : (j : Int) < m := by omega
      have hjl : j < bs.length := by have := HML.out; omega
      obtain ⟨b, o, hA, _, hc⟩ := (hb0.below hB).at_ (by omega)
      subst hA
      have x := hc j hjl
      obtain ⟨y, hy⟩ : ∃ y, wr.cell? ⟨g13, 5 + j, none⟩ = some y := by
        rw [r13.cell (5 + j)]
        have : 5 + j < (LV 1 (ep n s) f m k (pj j bs)).size := by rw [LV_size _ _ _ _ _ (pj_len (by omega) (by have := HML.out; omega))]; omega
        exact ⟨_, Array.getElem?_eq_getElem this⟩
      have ff := r13.frozen
      clear hc
      go_wp2
      have q := r13.set (5 + j) (bv bs[j])
      rw [pj_set hjl (by have := HML.out; omega)] at q
      exact ⟨⟨j + 1, by omega, by go_num, q, r1.other (by simp; omega) _, r2.other (by simp; omega) _, r3.other (by simp; omega) _, hB.setCell (by simp; omega) _⟩, by simp [intOf]; omega⟩
    · obtain rfl : j = m := by omega
      have hd : decide (j < j) = false := by simp
      have hPe : pj j bs = bs ++ z56.drop j := by unfold pj; rw [List.take_of_length_le (by have := HML.out; omega)]
      have hpl : (pj j bs).length = 56 := pj_len (by have := HML.out; omega) (by have := HML.out; omega)
      have EP := Lib.hid hPe
      clear hPe
      generalize pj j bs = P at *
      obtain ⟨⟨c0, c1, c2⟩, f1⟩ := three_cells r1
      go_upto_region 19 with (fail)
      have p1 : Row (wr.setCell ⟨W.heap.size, 1, none⟩ (.int .u64 (s + 1))) W.heap.size 27 #[.int .i64 n, .int .u64 (s + 1), .int .u64 a] := r1.set 1 _
      have p2 := r2.other (p := ⟨W.heap.size, 1, none⟩) (by simp) (.int .u64 (s + 1))
      have p3 := r3.other (p := ⟨W.heap.size, 1, none⟩) (by simp) (.int .u64 (s + 1))
      have p13 := r13.other (p := ⟨W.heap.size, 1, none⟩) (by simp; omega) (.int .u64 (s + 1))
      have hB4 := hB.setCell (p := ⟨W.heap.size, 1, none⟩) (Nat.le_refl _) (.int .u64 (s + 1))
      generalize wr.setCell ⟨W.heap.size, 1, none⟩ (.int .u64 (s + 1)) = w4 at *
      clear c0 c1 c2 f1 r1 r2 r3 r13 hB
      have hS : SendT W.heap.size g13 #[.int .i64 n, .int .u64 (s + 1), .int .u64 a] (LV 1 (ep n s) f j k P) w4 := ⟨p1, p13⟩
      have hi4 := line_info 1 (ep n s) f j k hpl
      refine wp_region_held (S := SendT W.heap.size g13 #[.int .i64 n, .int .u64 (s + 1), .int .u64 a] (LV 1 (ep n s) f j k P)) (by kernel_rfl) ?_
      have e5 : ({ w4 with drawn := w4.drawn + 1 } : World) = w4.drew := rfl
      rw [e5]
      have hS : SendT W.heap.size g13 #[.int .i64 n, .int .u64 (s + 1), .int .u64 a] (LV 1 (ep n s) f j k P) w4.drew := hS
      have p2 : Row w4.drew (W.heap.size + 1) 27 ZS := p2
      have p3 : Row w4.drew (W.heap.size + 2) 40 ZL := p3
      have hB4 : Below W.heap.size W w4.drew := hB4.drew
      generalize w4.drew = w5 at *
      clear p1 p13 e5
      refine take_load 0 rfl (by kernel_rfl) (by kernel_rfl) (by kernel_rfl) (fun _ _ _ _ h => h) hS (fun _ h => h.1) Try.underlying27 rfl info27 rfl ?_
      refine take_move 1 rfl (by kernel_rfl) (by kernel_rfl) (by kernel_rfl) (fun _ _ _ _ h => h) hS ?_
      refine take_load 2 rfl (by kernel_rfl) (by kernel_rfl) (by kernel_rfl) (fun _ _ _ _ h => h) hS (fun _ h => h.2) Try.underlying40 rfl hi4 rfl ?_
      refine one_store 3 (L := #[.int .i64 n, .int .u64 (s + 1), .int .u64 a]) rfl (by kernel_rfl) p2 rfl info27 (sender_one _ _ _) rfl rfl (fun w6 u6 r6 => ?_)
      have hS6 := hS.upd u6 (by omega) (by omega)
      have p3 := p3.upd u6 (by omega)
      refine ⟨hS6, ?_⟩
      refine one_assign 4 rfl (by kernel_rfl) hS6 ?_
      refine one_store 5 rfl (by kernel_rfl) p3 (zl_size.trans (LV_size _ _ _ _ _ hpl).symm) hi4 (LV_one _ _ _ _ _ _) rfl rfl (fun w7 u7 r7 => ?_)
      have r6 := r6.upd u7 (by omega)
      have hS7 := hS6.upd u7 (by omega) (by omega)
      refine ⟨hS7, ?_⟩
      refine one_assign 6 rfl (by kernel_rfl) hS7 ?_
      refine wpAnyH_done (by kernel_rfl) ?_ _
      go_wp2
      refine bodyPost_ret (results_ctct rfl rfl rfl r6 r7 Try.underlying27 Try.underlying40 rfl rfl info27 hi4) rfl ?_
      refine ⟨?_, Upd.below (Upd.below hB4 u6 (by omega)) u7 (by omega)⟩
      rw [← EP.out]
      kernel_rfl
theorem rsend_any (n s a k : Int) (A : Option Addr) (m c : Nat) (f : Bool) (bs : List UInt8) (hs : 0 ≤ s) (hs1 : s < 18446744073709551616) (ha : 0 ≤ a) (W : World) (hb0 : IsB W A m bs) :
    Calls Try.prog 34 #[.agg #[.int .i64 n, .int .u64 s, .int .u64 a], .slice A m c, .bool f, .int .u16 k] W (SdPost n s a m f k bs W) := by
  cases hv : vs n s a
  · exact (rsend_state n s a k A m c f hs hs1 ha hv W).mono fun e W' ⟨h1, h2⟩ => by rw [h1]; exact sd_err (by simp [sdE, hv]) (by decide) h2
  · by_cases hm : 56 < m
    · exact (rsend_long n s a k A m c f hs hs1 ha hv hm W).mono fun e W' ⟨h1, h2⟩ => by rw [h1]; exact sd_err (by simp [sdE, hv, hm]) (by decide) h2
    · by_cases hf : fr n s a = 0
      · exact (rsend_full n s a k A m c f hs hs1 ha hv (by omega) hf W).mono fun e W' ⟨h1, h2⟩ => by rw [h1]; exact sd_err (by simp [sdE, hv, hm, hf]) (by decide) h2
      · have hf' : (fr n s a == 0) = false := by simpa using hf
        by_cases hl : s = 4611686018427387904
        · subst hl
          exact (rsend_limit n a k A m c f ha hv (by omega) hf' W).mono fun e W' ⟨h1, h2⟩ => by rw [h1]; exact sd_err (by simp [sdE, hv, hm, hf]) (by decide) h2
        · have h3 := (vs_yes hv).m
          exact (rsend_ok n s a k A m c f bs hs ha hv (by omega) hf' (by omega) W hb0).mono fun e W' ⟨h1, h2⟩ => by rw [h1]; exact sd_ok (by simp [sdE, hv, hm, hf, hl]) h2
end Go.Proofs.Ythjkhambmgepdaa

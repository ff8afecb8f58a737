/- Contracts of AppendBytes and of the reference's AppendBytes. -/
import Derived.Test.YthjkhambmgepdaaUva
namespace Go.Proofs.Ythjkhambmgepdaa
open Go.RowKit
set_option linter.unusedVariables false
theorem below_two {a b c : World} (h : Below a.heap.size a b) (k : Below b.heap.size b c) : Below a.heap.size a c := h.trans (k.mono h.size)
set_option maxRecDepth 20000 in
set_option maxHeartbeats 2000000 in
theorem append_bytes (A : Option Addr) (n c : Nat) (bs : List UInt8) (B : Option Addr) (m d : Nat) (ps : List UInt8) (s : Nat) (w : World) (hA : IsB w A n bs) (hn : n ≤ 1000000) (hB : IsB w B m ps) (hm : m ≤ 1000000) (hg : Grp m s) :
    Calls Try.prog 114 #[.slice A n c, .slice B m d] w (NewB w 5 (bs ++ (uvB m s ++ ps))) := by
  have hl := Lib.hid hA.1
  have hl2 := Lib.hid hB.1
  have hs10 := hg.le (show m < 18446744073709551616 by omega)
  have HC := Lib.hid (append_uvarint A n c bs m s w hA (by omega) (by omega) hg)
  have HB := Lib.hid hB
  clear hA hB hg
  go_enter Try.func114, Try.ntmps114
  go_wp2_with fail
  refine HC.out.mono ?_
  rintro e w1 ⟨g1, h, hge1, hh, rfl, hr1, hb1⟩
  change Hid (h = _) at hh
  have hi1 := IsB.of_row hr1
  rw [← hh.out] at hi1
  have HH : Hid (h = n + s) := Lib.hid (by have := hh.out; have := hl.out; simp [uvB_len] at *; omega)
  have hh2 : h ≤ 2000000 := by have := HH.out; omega
  have HI1 := Lib.hid hi1
  obtain ⟨hd, HD⟩ : ∃ hd, Hid (hd = bs ++ uvB m s) := ⟨_, Lib.hid rfl⟩
  rw [← HD.out] at hh HI1
  clear hr1 hi1 HC
  go_upto_region 3 with ((at_make; refine wp_make (h + m) Try.underlying44 info_w8 rfl (by omega) (by omega) rfl rfl (by omega) (by omega) ?_; intro w2 r2 hb2))
  have hi2 := HI1.out.below hb2
  have hp2 := HB.out.below (below_two hb1 hb2)
  have g1' : (hd.map bv).length = Nat.min h (h + m) := by rw [List.length_map, ← hh.out]; exact (Nat.min_eq_left (by omega)).symm
  have g2 : CopyOk w2 (some ⟨w1.heap.size, 0, none⟩) w1.heap.size 0 (some ⟨g1, 0, none⟩) (hd.map bv) := fun hp => ⟨rfl, hi2.src (by have := hh.out; simp at hp; omega)⟩
  have g3 : 0 + (hd.map bv).length ≤ (List.replicate (h + m) (Value.int .u8 0)).length := by have := hh.out; simp; omega
  have G1 := Lib.hid g1'
  clear g1'
  go_upto_region 4 with ((with_reducible refine wp_row_copy (dCap := h + m) (sCap := h) r2 Try.underlying44 info_w8s G1.out g2 g3 (bv_one hd) ?_ ?_ ?_); rfl; rfl; intro w3 u3 r3)
  have hb3 := Upd.below hb2 u3 (Nat.le_refl _)
  have hp3 := HB.out.below (below_two hb1 hb3)
  have r3 : Row w3 w1.heap.size 5 (hd.map bv ++ List.replicate m (Value.int .u8 0)).toArray := by
    have e := hh.out
    subst e
    simpa using r3
  clear g2 g3 G1 u3 r2 hi2 hp2 hb2
  rcases Nat.eq_zero_or_pos m with h0 | h0
  · subst h0
    have hps : ps = [] := List.eq_nil_of_length_eq_zero hl2.out.symm
    subst hps
    have q1 : (([] : List UInt8).map bv).length = Nat.min 0 0 := rfl
    have q2 : CopyOk w3 (some ⟨w1.heap.size, 0, none⟩) w1.heap.size 0 B (([] : List UInt8).map bv) := fun hp => absurd hp (by simp)
    have q3 : 0 + (([] : List UInt8).map bv).length ≤ (hd.map bv ++ List.replicate 0 (Value.int .u8 0)).length := by simp
    have Q1 := Lib.hid q1
    clear q1
    go_upto_region 5 with ((with_reducible refine wp_row_copy (dCap := 0) (sCap := d) r3 Try.underlying44 info_w8s Q1.out q2 q3 (bv_one []) ?_ ?_ ?_); rfl; rfl; intro w4 u4 r4)
    have hb4 := Upd.below hb3 u4 (Nat.le_refl _)
    have r4 : Row w4 w1.heap.size 5 ((hd ++ []).map bv).toArray := by simpa using r4
    have HL : Hid (h = (hd ++ []).length) := Lib.hid (by have := hh.out; simpa using this)
    clear q2 q3 Q1 u4 r3
    go_wp2
    go_ret
    exact ⟨w1.heap.size, h, hb1.size, by rw [← List.append_assoc, ← HD.out]; exact HL, rfl, by rw [← List.append_assoc, ← HD.out]; exact r4, below_two hb1 hb4⟩
  · have q1 : (ps.map bv).length = Nat.min m m := by rw [List.length_map, ← hl2.out]; simp
    have q2 : CopyOk w3 (some ⟨w1.heap.size, h, none⟩) w1.heap.size h B (ps.map bv) := fun hp => ⟨rfl, hp3.src (by have := hl2.out; simp at hp; omega)⟩
    have q3 : h + (ps.map bv).length ≤ (hd.map bv ++ List.replicate m (Value.int .u8 0)).length := by have := hh.out; have := hl2.out; simp; omega
    have Q1 := Lib.hid q1
    clear q1
    go_upto_region 5 with ((with_reducible refine wp_row_copy (dCap := m) (sCap := d) r3 Try.underlying44 info_w8s Q1.out q2 q3 (bv_one ps) ?_ ?_ ?_); rfl; rfl; intro w4 u4 r4)
    have hb4 := Upd.below hb3 u4 (Nat.le_refl _)
    have r4 : Row w4 w1.heap.size 5 ((hd ++ ps).map bv).toArray := by
      have e := hh.out
      have e2 := hl2.out
      subst e
      have e3 : (hd.map bv ++ List.replicate m (Value.int .u8 0)).take hd.length = hd.map bv := List.take_left' (by simp)
      have e4 : (hd.map bv ++ List.replicate m (Value.int .u8 0)).drop (hd.length + (ps.map bv).length) = [] := List.drop_eq_nil_of_le (by simp; omega)
      rw [e3, e4] at r4
      simpa using r4
    have HL : Hid (h + m = (hd ++ ps).length) := Lib.hid (by have := hh.out; have := hl2.out; simp; omega)
    clear q2 q3 Q1 u4 r3
    go_wp2
    go_ret
    exact ⟨w1.heap.size, h + m, hb1.size, by rw [← List.append_assoc, ← HD.out]; exact HL, rfl, by rw [← List.append_assoc, ← HD.out]; exact r4, below_two hb1 hb4⟩
theorem append_bytes_ref (A : Option Addr) (n c : Nat) (bs : List UInt8) (B : Option Addr) (m d : Nat) (ps : List UInt8) (s : Nat) (w : World) (hA : IsB w A n bs) (hn : n ≤ 1000000) (hB : IsB w B m ps) (hm : m ≤ 1000000) (hg : Grp m s) :
    Calls Try.prog 130 #[.slice A n c, .slice B m d] w (GivesB w (bs ++ (uvB m s ++ ps))) := by
  have hs10 := hg.le (show m < 18446744073709551616 by omega)
  have HC := Lib.hid (append_uvown A n c bs m s w hA (by omega) (by omega) hg)
  have HB := Lib.hid hB
  have hl := Lib.hid hA.1
  clear hA hB hg
  go_enter Try.func130, Try.ntmps130
  go_wp2_with fail
  refine HC.out.mono ?_
  rintro e w1 ⟨A1, n1, c1, rfl, ho1, hb1⟩
  have hn1 : n1 + m ≤ 140737488355328 := by have h1 := ho1.len; have := hl.out; simp [uvB_len] at h1; omega
  go_wp2_with ((at_builtin; (refine wp_append_b (P := Try.prog) rfl _ _ 44 rfl Try.underlying44 info_b ho1 (HB.out.below hb1) hn1 hb1.size rfl rfl ?_); intro A2 n2 c2 w2 hn2 ho2 hb2 hg2 hat2))
  go_ret
  exact ⟨A2, n2, c2, rfl, by rw [← List.append_assoc]; exact ho2.isB, hb1.trans hb2⟩
end Go.Proofs.Ythjkhambmgepdaa

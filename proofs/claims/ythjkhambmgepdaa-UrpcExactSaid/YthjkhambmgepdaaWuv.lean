/- Contract of AppendUvarint. -/
import Derived.Test.YthjkhambmgepdaaRows
import Derived.Test.YthjkhambmgepdaaUv
import Derived.Test.YthjkhambmgepdaaMake
import Derived.Test.YthjkhambmgepdaaBits
import Derived.WalkSpells
import Derived.WalkLawsBesides
import Derived.Lib.Hide
import Derived.Deep.DeepCutAuto
namespace Go.Proofs.Ythjkhambmgepdaa
open Go.RowKit
set_option linter.unusedVariables false
theorem info_w8 : (Try.prog.info? 5).map (fun i => (i.zero, i.size, i.bytes)) = some (some (.int .u8 0), 1, 1) := by kernel_rfl
theorem info_w8s : (Try.prog.info? 5).map (·.size) = some 1 := by kernel_rfl
theorem and127 {V : Nat} (h : V < 18446744073709551616) : bits .and .u64 (V : Int) 127 = ((V % 128 : Nat) : Int) := by
  have := u64_and_nat V 127 h (by omega)
  rw [show V &&& 127 = V % 128 from Nat.and_two_pow_sub_one_eq_mod V 7] at this
  exact this
theorem or128 {x : Nat} (h : x < 128) : bits .or .u8 (x : Int) 128 = ((x + 128 : Nat) : Int) := by
  have := u8_or_nat x 128 (by omega) (by omega)
  have e := Nat.two_pow_add_eq_or_of_lt (i := 7) h 1
  rw [Nat.or_comm, show (128 : Nat) = 2 ^ 7 * 1 from rfl, ← e] at this
  rw [show x + 128 = 2 ^ 7 * 1 + x by omega]
  exact this
theorem div_step (v s : Nat) : v / 128 ^ s / 128 = v / 128 ^ (s + 1) := by rw [Nat.div_div_eq_div_mul, Nat.pow_succ]
set_option maxHeartbeats 2000000 in
theorem append_uvarint (A : Option Addr) (n c : Nat) (bs : List UInt8) (v s : Nat) (w : World) (hA : IsB w A n bs) (hn : n ≤ 1000000000) (hv : v < 18446744073709551616) (hg : Grp v s) :
    Calls Try.prog 113 #[.slice A n c, .int .u64 v] w (NewB w 5 (bs ++ uvB v s)) := by
  have hs10 := hg.le hv
  have hl := Lib.hid hA.1
  have HG := Lib.hid hg
  go_enter Try.func113, Try.ntmps113
  go_wp2
  go_loop [5, 6] (fun z r => ∃ t : Nat, 1 ≤ t ∧ t ≤ s ∧ z = .int .i64 t ∧ r = .int .u64 (v / 128 ^ t : Nat) ∧ (t = 1 ∨ 128 ^ (t - 1) ≤ v)) (fun _ r => (intOf r).toNat)
  case atStart => exact ⟨1, by omega, HG.out.1, rfl, by go_num, .inl rfl⟩
  case round =>
    obtain ⟨t, t1, ts, rfl, rfl, ht⟩ := hrel
    have HT := Lib.hid ht
    clear ht
    have HD := Lib.hid (div_step v t)
    have HR : Hid (0 < v / 128 ^ t → 128 ^ t ≤ v) := Lib.hid (fun h => by
      rcases Nat.lt_or_ge v (128 ^ t) with h1 | h1
      · rw [Nat.div_eq_of_lt h1] at h; omega
      · exact h1)
    have HZ : Hid (v / 128 ^ t = 0 → v < 128 ^ t) := Lib.hid (fun h => by
      rcases Nat.lt_or_ge v (128 ^ t) with h1 | h1
      · exact h1
      · have := Nat.div_pos h1 (Nat.pow_pos (by omega)); omega)
    have hRv : v / 128 ^ t ≤ v := Nat.div_le_self _ _
    generalize hR : v / 128 ^ t = R at *
    have HRe := Lib.hid hR
    clear hR
    by_cases h0 : 0 < R
    · have hts : t < s := by
        rcases Nat.lt_or_ge t s with h1 | h1
        · exact h1
        · have := HG.out.2.1
          have : 128 ^ s ≤ 128 ^ t := Nat.pow_le_pow_right (by omega) h1
          have := HR.out h0
          omega
      go_wp2
      exact ⟨⟨t + 1, by omega, by omega, by go_num, by rw [← HD.out, ← HRe.out]; go_num, .inr (HR.out h0)⟩, by simp [intOf]; omega⟩
    · obtain rfl : R = 0 := by omega
      have hts : t = s := Grp.uniq (v := v) ⟨t1, HZ.out rfl, HT.out⟩ HG.out
      subst hts
      clear HT HD HR HZ HRe hRv
      go_upto_region 7 with ((at_make; refine wp_make (n + t) Try.underlying44 info_w8 rfl (by omega) (by omega) rfl rfl (by omega) (by omega) ?_; intro w1 r1 hB1))
      have hbs := hA.below hB1
      have g1 : (bs.map bv).length = Nat.min n (n + t) := by rw [List.length_map, ← hl.out]; exact (Nat.min_eq_left (by omega)).symm
      have g2 : CopyOk w1 (some ⟨w.heap.size, 0, none⟩) w.heap.size 0 A (bs.map bv) := fun h => ⟨rfl, hbs.src (by have := hl.out; simp at h; omega)⟩
      have g3 : 0 + (bs.map bv).length ≤ (List.replicate (n + t) (Value.int .u8 0)).length := by have := hl.out; simp; omega
      have G1 := Lib.hid g1
      clear g1
      go_upto_region 8 with ((with_reducible refine wp_row_copy (dCap := n + t) (sCap := c) r1 Try.underlying44 info_w8s G1.out g2 g3 (bv_one bs) ?_ ?_ ?_); rfl; rfl; intro w2 u2 r2)
      have hB2 := Upd.below hB1 u2 (Nat.le_refl _)
      have r2 : Row w2 w.heap.size 5 ((bs ++ (uvB v t).take 0 ++ List.replicate (t - 0) 0).map bv).toArray := by
        have e := hl.out
        subst e
        simpa [bv] using r2
      clear g2 g3 G1 u2 r1 hB1
      go_wp2
      go_loopw [1, 8] (fun x i wr => ∃ k : Nat, k ≤ t ∧ i = .int .i64 k ∧ x = .int .u64 (v / 128 ^ k : Nat) ∧ Row wr w.heap.size 5 ((bs ++ (uvB v t).take k ++ List.replicate (t - k) 0).map bv).toArray ∧ Below w.heap.size w wr) (fun _ i _ => t - (intOf i).toNat)
      case atStart => exact ⟨0, by omega, rfl, by go_num, r2, hB2⟩
      case round =>
        obtain ⟨k, hk, rfl, rfl, hr, hB⟩ := hrel
        by_cases hkt : k < t
        · have HD := Lib.hid (div_step v k)
          have hV : v / 128 ^ k < 18446744073709551616 := Nat.lt_of_le_of_lt (Nat.div_le_self _ _) hv
          have hc : Hid ((bs ++ (uvB v t).take k).length = n + k) := Lib.hid (by have := hl.out; simp [uvB_len]; omega)
          have hcell : wr.cell? ⟨w.heap.size, n + k, none⟩ = some (.int .u8 0) := by
            rw [hr.cell, ← hc.out, show t - k = (t - (k + 1)) + 1 by omega, List.replicate_succ]
            simp [bv]
          have hfz := hr.frozen (n + k)
          have HN : Hid (∀ x, x = uvByte v t k → Row (wr.setCell ⟨w.heap.size, n + k, none⟩ (bv x)) w.heap.size 5 ((bs ++ (uvB v t).take (k + 1) ++ List.replicate (t - (k + 1)) 0).map bv).toArray) := Lib.hid (fun x hx => by
            have h := hr.set (n + k) (bv x)
            rw [← hc.out, show t - k = (t - (k + 1)) + 1 by omega, List.replicate_succ, bv_set] at h
            rw [uvB_take v t k hkt, ← hx, ← hc.out]
            simpa using h)
          have hUb : Hid (uvByte v t k = UInt8.ofNat (v / 128 ^ k % 128 + if k + 1 < t then 128 else 0)) := Lib.hid rfl
          generalize v / 128 ^ k = V at *
          have e1 := and127 hV
          have e2 := or128 (x := V % 128) (by omega)
          by_cases hlast : k + 1 < t
          · go_wp2
            have hv1 : Value.int .u8 (bits BinOp.or IntKind.u8 ((V : Int) % 128) 128) = bv (UInt8.ofNat (V % 128 + 128)) := by
              rw [show ((V : Int) % 128) = ((V % 128 : Nat) : Int) by omega, or128 (by omega)]; exact bv_nat _ (by omega)
            rw [hv1]
            exact ⟨⟨k + 1, by omega, by go_num, by rw [← HD.out]; go_num, HN.out _ (by rw [hUb.out, if_pos hlast]), hB.setCell (Nat.le_refl _) _⟩, by simp [intOf]; omega⟩
          · go_wp2
            have hv1 : Value.int .u8 ((V : Int) % 128) = bv (UInt8.ofNat (V % 128 + 0)) := by
              rw [show ((V : Int) % 128) = ((V % 128 : Nat) : Int) by omega]; exact bv_nat _ (by omega)
            rw [hv1]
            exact ⟨⟨k + 1, by omega, by go_num, by rw [← HD.out]; go_num, HN.out _ (by rw [hUb.out, if_neg hlast]), hB.setCell (Nat.le_refl _) _⟩, by simp [intOf]; omega⟩
        · obtain rfl : k = t := by omega
          have hk1 : (uvB v k).take k = uvB v k := List.take_of_length_le (by rw [uvB_len]; omega)
          rw [hk1, Nat.sub_self, List.replicate_zero, List.append_nil] at hr
          have hlen : n + k = (bs ++ uvB v k).length := by have := hl.out; simp [uvB_len]; omega
          have HL := Lib.hid hlen
          clear hk1 hlen
          go_wp2
          go_ret
          exact ⟨w.heap.size, n + k, Nat.le_refl _, HL.out, rfl, hr, hB⟩
end Go.Proofs.Ythjkhambmgepdaa

/- Contracts of appendFixed, of AppendUint16, AppendUint32, AppendUint64, and of the reference's Append. -/
import Derived.Test.YtigbmlgllgcbhaaDoorCpy
import Derived.Test.YtigbmlgllgcbhaaDoorFix
namespace Go.Proofs.YtigbmlgllgcbhaaDoor
open Go.RowKit
set_option linter.unusedVariables false
theorem IsB.lit (w : World) (e : TypeId) (fr : Nat × Nat) (bs : List UInt8) : IsB (w.alloc (.cells (bs.map bv).toArray e fr)) (some ⟨w.heap.size, 0, none⟩) bs.length bs := by
  refine ⟨rfl, fun _ => ⟨w.heap.size, 0, rfl, fun i hi => ?_⟩⟩
  rw [Nat.zero_add, cell_of_row _ _ _ _ _ _ (heap_alloc_new w _)]
  simp [hi, bv]
theorem info_b : (Tryd.prog.info? 5).map (fun i => (i.zero, i.size, i.bytes)) = some (some (.int .u8 0), 1, 1) := by kernel_rfl
theorem info_u8 : (Tryd.prog.info? 5).map (fun i => (i.zero, i.size, i.bytes)) = some (some (.int .u8 0), 1, 1) := by kernel_rfl
theorem info_u8s : (Tryd.prog.info? 5).map (·.size) = some 1 := by kernel_rfl
def fixB (v s : Nat) : List UInt8 := (List.range s).map (fun i => UInt8.ofNat (v / 256 ^ i % 256))
theorem fixB_len (v s : Nat) : (fixB v s).length = s := by simp [fixB]
theorem fixB_snoc (v s : Nat) : fixB v (s + 1) = fixB v s ++ [UInt8.ofNat (v / 256 ^ s % 256)] := by simp [fixB, List.range_succ]
theorem fixB_take (v s i : Nat) (h : i < s) : (fixB v s).take (i + 1) = (fixB v s).take i ++ [UInt8.ofNat (v / 256 ^ i % 256)] := by
  rw [List.take_succ_eq_append_getElem (by rw [fixB_len]; exact h)]
  simp [fixB]
theorem fixB_mod (v s : Nat) : fixB (v % 256 ^ s) s = fixB v s := by
  unfold fixB
  apply List.map_congr_left
  intro i hi
  have hi := List.mem_range.1 hi
  congr 1
  have e : 256 ^ s = 256 ^ i * 256 ^ (s - i) := by rw [← Nat.pow_add]; congr 1; omega
  rw [e, Nat.mod_mul_right_div_self]
  rw [Nat.mod_mod_of_dvd]
  exact Nat.dvd_trans (by exact Nat.dvd_refl 256) (by rw [show s - i = (s - i - 1) + 1 by omega, Nat.pow_succ]; exact Nat.dvd_mul_left _ _)
set_option maxHeartbeats 2000000 in
theorem append_fixed (A : Option Addr) (n c : Nat) (bs : List UInt8) (v s : Nat) (w : World) (hA : IsB w A n bs) (hn : n ≤ 1000000000) (hv : v < 18446744073709551616) (s0 : 0 < s) (s8 : s ≤ 8) :
    Calls Tryd.prog 43 #[.slice A n c, .int .u64 v, .int .i64 s] w (NewB w 5 (bs ++ fixB v s)) := by
  have hl := Lib.hid hA.1
  go_enter Tryd.func43, Tryd.ntmps43
  go_upto_region 2 with ((at_make; refine wp_make (n + s) Tryd.underlying23 info_u8 rfl (by omega) (by omega) rfl rfl (by omega) (by omega) ?_; intro w1 r1 hB1))
  have hbs := hA.below hB1
  have g1 : (bs.map bv).length = Nat.min n (n + s) := by rw [List.length_map, ← hl.out]; exact (Nat.min_eq_left (by omega)).symm
  have g2 : CopyOk w1 (some ⟨w.heap.size, 0, none⟩) w.heap.size 0 A (bs.map bv) := fun h => ⟨rfl, hbs.src (by have := hl.out; simp at h; omega)⟩
  have g3 : 0 + (bs.map bv).length ≤ (List.replicate (n + s) (Value.int .u8 0)).length := by have := hl.out; simp; omega
  have G1 := Lib.hid g1
  clear g1
  go_upto_region 3 with ((with_reducible refine wp_row_copy (dCap := n + s) (sCap := c) r1 Tryd.underlying23 info_u8s G1.out g2 g3 (bv_one bs) ?_ ?_ ?_); rfl; rfl; intro w2 u2 r2)
  have hB2 := Upd.below hB1 u2 (Nat.le_refl _)
  have r2 : Row w2 w.heap.size 5 ((bs ++ (fixB v s).take 0 ++ List.replicate (s - 0) 0).map bv).toArray := by
    have e := hl.out
    subst e
    simpa [bv] using r2
  clear g2 g3 G1 u2 r1 hB1
  go_wp2
  go_loopw [8] (fun i wr => ∃ k : Nat, k ≤ s ∧ i = .int .i64 k ∧ Row wr w.heap.size 5 ((bs ++ (fixB v s).take k ++ List.replicate (s - k) 0).map bv).toArray ∧ Below w.heap.size w wr) (fun i _ => s - (intOf i).toNat)
  case atStart => exact ⟨0, by omega, rfl, r2, hB2⟩
  case round =>
    obtain ⟨k, hk, rfl, hr, hB⟩ := hrel
    by_cases hkt : k < s
    · have hc : Hid ((bs ++ (fixB v s).take k).length = n + k) := Lib.hid (by have := hl.out; simp [fixB_len]; omega)
      have hcell : wr.cell? ⟨w.heap.size, n + k, none⟩ = some (.int .u8 0) := by
        rw [hr.cell, ← hc.out, show s - k = (s - (k + 1)) + 1 by omega, List.replicate_succ]
        simp [bv]
      have hfz := hr.frozen (n + k)
      have HN : Hid (Row (wr.setCell ⟨w.heap.size, n + k, none⟩ (bv (UInt8.ofNat (v / 256 ^ k % 256)))) w.heap.size 5 ((bs ++ (fixB v s).take (k + 1) ++ List.replicate (s - (k + 1)) 0).map bv).toArray) := Lib.hid (by
        have h := hr.set (n + k) (bv (UInt8.ofNat (v / 256 ^ k % 256)))
        rw [← hc.out, show s - k = (s - (k + 1)) + 1 by omega, List.replicate_succ, bv_set] at h
        rw [fixB_take v s k hkt, ← hc.out]
        simpa using h)
      have HW : Hid (Value.int .u8 ((v : Int) / 2 ^ (8 * k) % 256) = bv (UInt8.ofNat (v / 256 ^ k % 256))) := Lib.hid (by
        rw [show ((2 : Int) ^ (8 * k)) = ((256 ^ k : Nat) : Int) by rw [pow_256r]; simp, ← bv_nat _ (Nat.mod_lt _ (by omega))]
        simp)
      clear r2 hB2
      go_upto_region 5 with (fail)
      rw [HW.out]
      go_wp2
      exact ⟨⟨k + 1, by omega, by go_num, HN.out, hB.setCell (Nat.le_refl _) _⟩, by simp [intOf]; omega⟩
    · obtain rfl : k = s := by omega
      have hk1 : (fixB v k).take k = fixB v k := List.take_of_length_le (by rw [fixB_len]; omega)
      rw [hk1, Nat.sub_self, List.replicate_zero, List.append_nil] at hr
      have hlen : n + k = (bs ++ fixB v k).length := by have := hl.out; simp [fixB_len]; omega
      have HL := Lib.hid hlen
      clear hk1 hlen
      go_wp2
      go_ret
      exact ⟨w.heap.size, n + k, Nat.le_refl _, HL.out, rfl, hr, hB⟩

theorem app16 (A : Option Addr) (n c : Nat) (bs : List UInt8) (v : Nat) (w : World) (hA : IsB w A n bs) (hn : n ≤ 1000000000) (hv : v < 65536) :
    Calls Tryd.prog 30 #[.slice A n c, .int .u16 v] w (NewB w 5 (bs ++ fixB v 2)) := by
  have hC := append_fixed A n c bs v 2 w hA hn (by omega) (by omega) (by omega)
  change Calls _ _ #[.slice A n c, .int .u64 v, .int .i64 2] _ _ at hC
  go_enter Tryd.func30, Tryd.ntmps30
  go_wp2_with (go_at_call 43; refine hC.mono ?_; rintro e w' ⟨g, m, hge, hm, rfl, hr, hb⟩)
  go_ret
  exact ⟨g, m, hge, hm, rfl, hr, hb⟩
theorem app32 (A : Option Addr) (n c : Nat) (bs : List UInt8) (v : Nat) (w : World) (hA : IsB w A n bs) (hn : n ≤ 1000000000) (hv : v < 4294967296) :
    Calls Tryd.prog 29 #[.slice A n c, .int .u32 v] w (NewB w 5 (bs ++ fixB v 4)) := by
  have hC := append_fixed A n c bs v 4 w hA hn (by omega) (by omega) (by omega)
  change Calls _ _ #[.slice A n c, .int .u64 v, .int .i64 4] _ _ at hC
  go_enter Tryd.func29, Tryd.ntmps29
  go_wp2_with (go_at_call 43; refine hC.mono ?_; rintro e w' ⟨g, m, hge, hm, rfl, hr, hb⟩)
  go_ret
  exact ⟨g, m, hge, hm, rfl, hr, hb⟩
/-- A slice of bytes that the call hands back, of whatever capacity. -/
def GivesB (W : World) (bs : List UInt8) (e : Ending) (w' : World) : Prop := ∃ A n c, e = .returned (.slice A n c) ∧ IsB w' A n bs ∧ Below W.heap.size W w'
theorem append_ref (A : Option Addr) (n c : Nat) (bs : List UInt8) (v s : Nat) (w : World) (hA : IsB w A n bs) (hn : n ≤ 1000000) (hv : v < 18446744073709551616) (s8 : s ≤ 8) :
    Calls Tryd.prog 50 #[.slice A n c, .int .u64 v, .int .i64 s] w (GivesB w (bs ++ fixB v s)) := by
  have hl := Lib.hid hA.1
  have hl1 : 0 + n ≤ 140737488355328 := by omega
  go_enter Tryd.func50, Tryd.ntmps50
  go_upto_region 2 with ((at_builtin; (refine wp_append_b (P := Tryd.prog) rfl _ _ 23 rfl Tryd.underlying23 info_b (OwnB.nil w w.heap.size 5) hA hl1 (Nat.le_refl _) rfl rfl ?_); intro A1 n1 c1 w1 hn1 ho1 hb1 hg1 hat1))
  have ho2 : OwnB w1 w.heap.size 5 A1 n1 c1 (bs ++ (fixB v s).take 0) := by simpa using ho1
  clear hg1 hat1 ho1
  go_wp2
  go_loopw [7, 8] (fun o i wr => ∃ (k : Nat) (A8 : Option Addr) (n8 c8 : Nat), k ≤ s ∧ i = .int .i64 k ∧ o = .slice A8 n8 c8 ∧ OwnB wr w.heap.size 5 A8 n8 c8 (bs ++ (fixB v s).take k) ∧ Below w.heap.size w wr) (fun _ i _ => s - (intOf i).toNat)
  case atStart => exact ⟨0, A1, n1, c1, by omega, rfl, rfl, ho2, hb1⟩
  case round =>
    obtain ⟨k, A8, n8, c8, hk, rfl, rfl, ho8, hb8⟩ := hrel
    clear ho2 hb1
    by_cases hks : k < s
    · have HW : Value.int .u8 ((v : Int) / 2 ^ (8 * k) % 256) = bv (UInt8.ofNat (v / 256 ^ k % 256)) := by
        rw [show ((2 : Int) ^ (8 * k)) = ((256 ^ k : Nat) : Int) by rw [pow_256r]; simp, ← bv_nat _ (Nat.mod_lt _ (by omega))]
        simp
      have i1 : ∀ w : World, IsB (w.alloc (.cells #[.int .u8 ((v : Int) / 2 ^ (8 * k) % 256)] 5)) (some ⟨w.heap.size, 0, none⟩) 1 [UInt8.ofNat (v / 256 ^ k % 256)] := fun w => by
        rw [HW]
        exact IsB.lit w 5 (0, 0) [UInt8.ofNat (v / 256 ^ k % 256)]
      have HT := Lib.hid (fixB_take v s k hks)
      have l8 : n8 + 1 ≤ 140737488355328 := by have h1 := ho8.len; have h2 := hl.out; simp [fixB_len] at h1; omega
      have HWh := Lib.hid HW
      clear HW
      go_wp2_with ((at_builtin; (refine wp_append_b (P := Tryd.prog) rfl _ _ 23 rfl Tryd.underlying23 info_b (OwnB.alloc ho8 _) (i1 _) l8 (by have := hb8.size; simp; omega) rfl rfl ?_); intro A2 n2 c2 w2 hn2 ho2 hb2 hg2 hat2))
      exact ⟨⟨k + 1, A2, n2, c2, by omega, by go_num, rfl, by rw [HT.out, ← List.append_assoc]; exact ho2, (hb8.alloc hb8.size _).trans hb2⟩, by simp [intOf]; omega⟩
    · obtain rfl : k = s := by omega
      rw [List.take_of_length_le (by rw [fixB_len]; omega)] at ho8
      go_wp2
      go_ret
      exact ⟨A8, n8, c8, rfl, ho8.isB, hb8⟩
end Go.Proofs.YtigbmlgllgcbhaaDoor

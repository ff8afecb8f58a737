/- Contract of ring.Send. -/
import Derived.Test.YthjkhambmgepdaaLine
import Derived.Deep.DeepCutAuto
namespace Go.Proofs.Ythjkhambmgepdaa
open Go.RowKit
set_option linter.unusedVariables false
def ZS : Array Value := #[.int .i64 0, .int .u64 0, .int .u64 0]
theorem info27 : (Try.prog.info? 27).map (·.size) = some 3 := by kernel_rfl
theorem zs_one : ZS.all (·.oneCell') = true := by simp [ZS, Value.oneCell']
theorem zs_info : (Try.prog.info? 27).map (·.size) = some ZS.size := info27
def ZL : Array Value := LV 0 false false 0 0 z56
theorem zl_one : ZL.all (·.oneCell') = true := LV_one _ _ _ _ _ _
theorem zl_info : (Try.prog.info? 40).map (·.size) = some ZL.size := line_info _ _ _ _ _ z56_len
def SendErr (E : Int) (W : World) (e : Ending) (W' : World) : Prop :=
  e = .returned (.tuple #[.agg ZS, .int .i64 0, .agg ZL, .int .i64 E]) ∧ Below W.heap.size W W'
set_option maxRecDepth 100000 in
set_option maxHeartbeats 4000000 in
theorem send_state (n s a k : Int) (A : Option Addr) (m c : Nat) (f : Bool) (hs : 0 ≤ s) (hs1 : s < 18446744073709551616) (ha : 0 ≤ a) (hv : vs n s a = false) (W : World) :
    Calls Try.prog 25 #[.agg #[.int .i64 n, .int .u64 s, .int .u64 a], .slice A m c, .bool f, .int .u16 k] W (SendErr 74 W) := by
  go_enter Try.func25, Try.ntmps25
  go_wp2_with fail
  refine (valid_sender _ _ _ hs hs1 ha _).mono ?_
  rintro e w1 ⟨rfl, hb⟩
  obtain ⟨r1, r2, r3, hz, hB⟩ := three_new hb
  have r3 : Row w1 (W.heap.size + 2) 40 ZL := r3
  have r2 : Row w1 (W.heap.size + 1) 27 ZS := r2
  clear hb
  go_wp2_with (first
    | ((with_reducible refine wp_row_store (L := ZS) r2 rfl zs_info zs_one ?_ ?_ ?_); rfl; rfl; intro w2 u2 r2')
    | ((with_reducible refine wp_row_store (L := ZL) (r3.upd u2 (by omega)) rfl zl_info zl_one ?_ ?_ ?_); rfl; rfl; intro w3 u3 r3'))
  refine bodyPost_ret (results_ctct rfl rfl rfl (r2'.upd u3 (by omega)) r3' Try.underlying27 Try.underlying40 rfl rfl zs_info zl_info) rfl ?_
  exact ⟨rfl, Upd.below (Upd.below hB u2 (by omega)) u3 (by omega)⟩
set_option maxRecDepth 100000 in
set_option maxHeartbeats 4000000 in
theorem send_long (n s a k : Int) (A : Option Addr) (m c : Nat) (f : Bool) (hs : 0 ≤ s) (hs1 : s < 18446744073709551616) (ha : 0 ≤ a) (hv : vs n s a = true) (hm : 56 < m) (W : World) :
    Calls Try.prog 25 #[.agg #[.int .i64 n, .int .u64 s, .int .u64 a], .slice A m c, .bool f, .int .u16 k] W (SendErr 67 W) := by
  go_enter Try.func25, Try.ntmps25
  go_wp2_with fail
  refine (valid_sender _ _ _ hs hs1 ha _).mono ?_
  rintro e w1 ⟨rfl, hb⟩
  obtain ⟨r1, r2, r3, hz, hB⟩ := three_new hb
  have r3 : Row w1 (W.heap.size + 2) 40 ZL := r3
  have r2 : Row w1 (W.heap.size + 1) 27 ZS := r2
  clear hb
  go_wp2_with (first
    | ((with_reducible refine wp_row_store (L := ZS) r2 rfl zs_info zs_one ?_ ?_ ?_); rfl; rfl; intro w2 u2 r2')
    | ((with_reducible refine wp_row_store (L := ZL) (r3.upd u2 (by omega)) rfl zl_info zl_one ?_ ?_ ?_); rfl; rfl; intro w3 u3 r3'))
  refine bodyPost_ret (results_ctct rfl rfl rfl (r2'.upd u3 (by omega)) r3' Try.underlying27 Try.underlying40 rfl rfl zs_info zl_info) rfl ?_
  exact ⟨rfl, Upd.below (Upd.below hB u2 (by omega)) u3 (by omega)⟩
set_option maxRecDepth 100000 in
set_option maxHeartbeats 4000000 in
theorem send_full (n s a k : Int) (A : Option Addr) (m c : Nat) (f : Bool) (hs : 0 ≤ s) (hs1 : s < 18446744073709551616) (ha : 0 ≤ a) (hv : vs n s a = true) (hm : m ≤ 56) (hf : fr n s a = 0) (W : World) :
    Calls Try.prog 25 #[.agg #[.int .i64 n, .int .u64 s, .int .u64 a], .slice A m c, .bool f, .int .u16 k] W (SendErr 65 W) := by
  go_enter Try.func25, Try.ntmps25
  go_wp2_with fail
  refine (valid_sender _ _ _ hs hs1 ha _).mono ?_
  rintro e w1 ⟨rfl, hb⟩
  obtain ⟨r1, r2, r3, hz, hB⟩ := three_new hb
  have r3 : Row w1 (W.heap.size + 2) 40 ZL := r3
  have r2 : Row w1 (W.heap.size + 1) 27 ZS := r2
  clear hb
  obtain ⟨⟨c0, c1, c2⟩, f1⟩ := three_cells r1
  go_wp2_with fail
  refine (free _ _ _ hs hs1 ha _).mono ?_
  rintro e w1' ⟨rfl, hb⟩
  have r1 := r1.below hb r1.lt
  have r2 := r2.below hb r2.lt
  have r3 := r3.below hb r3.lt
  have hB := hB.trans (hb.mono hB.size)
  clear hb c0 c1 c2 f1 hz
  obtain ⟨⟨c0, c1, c2⟩, f1⟩ := three_cells r1
  go_wp2_with (first
    | ((with_reducible refine wp_row_store (L := ZS) r2 rfl zs_info zs_one ?_ ?_ ?_); rfl; rfl; intro w2 u2 r2')
    | ((with_reducible refine wp_row_store (L := ZL) (r3.upd u2 (by omega)) rfl zl_info zl_one ?_ ?_ ?_); rfl; rfl; intro w3 u3 r3'))
  refine bodyPost_ret (results_ctct rfl rfl rfl (r2'.upd u3 (by omega)) r3' Try.underlying27 Try.underlying40 rfl rfl zs_info zl_info) rfl ?_
  exact ⟨rfl, Upd.below (Upd.below hB u2 (by omega)) u3 (by omega)⟩
set_option maxRecDepth 100000 in
set_option maxHeartbeats 4000000 in
theorem send_limit (n a k : Int) (A : Option Addr) (m c : Nat) (f : Bool) (ha : 0 ≤ a) (hv : vs n 4611686018427387904 a = true) (hm : m ≤ 56) (hf : (fr n 4611686018427387904 a == 0) = false) (W : World) :
    Calls Try.prog 25 #[.agg #[.int .i64 n, .int .u64 4611686018427387904, .int .u64 a], .slice A m c, .bool f, .int .u16 k] W (SendErr 15 W) := by
  have hs : (0 : Int) ≤ 4611686018427387904 := by omega
  have hs1 : (4611686018427387904 : Int) < 18446744073709551616 := by omega
  go_enter Try.func25, Try.ntmps25
  go_wp2_with fail
  refine (valid_sender _ _ _ hs hs1 ha _).mono ?_
  rintro e w1 ⟨rfl, hb⟩
  obtain ⟨r1, r2, r3, hz, hB⟩ := three_new hb
  have r3 : Row w1 (W.heap.size + 2) 40 ZL := r3
  have r2 : Row w1 (W.heap.size + 1) 27 ZS := r2
  clear hb
  obtain ⟨⟨c0, c1, c2⟩, f1⟩ := three_cells r1
  go_wp2_with fail
  refine (free _ _ _ hs hs1 ha _).mono ?_
  rintro e w1' ⟨rfl, hb⟩
  have r1 := r1.below hb r1.lt
  have r2 := r2.below hb r2.lt
  have r3 := r3.below hb r3.lt
  have hB := hB.trans (hb.mono hB.size)
  clear hb c0 c1 c2 f1 hz
  obtain ⟨⟨c0, c1, c2⟩, f1⟩ := three_cells r1
  go_wp2_with (first
    | ((with_reducible refine wp_row_store (L := ZS) r2 rfl zs_info zs_one ?_ ?_ ?_); rfl; rfl; intro w2 u2 r2')
    | ((with_reducible refine wp_row_store (L := ZL) (r3.upd u2 (by omega)) rfl zl_info zl_one ?_ ?_ ?_); rfl; rfl; intro w3 u3 r3'))
  refine bodyPost_ret (results_ctct rfl rfl rfl (r2'.upd u3 (by omega)) r3' Try.underlying27 Try.underlying40 rfl rfl zs_info zl_info) rfl ?_
  exact ⟨rfl, Upd.below (Upd.below hB u2 (by omega)) u3 (by omega)⟩
end Go.Proofs.Ythjkhambmgepdaa

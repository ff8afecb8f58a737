/- Contract of ring.Send where it sends. -/
import Derived.Test.YthjkhambmgepdaaR2
import Derived.Test.YthjkhambmgepdaaDraw
import Derived.Deep.DeepCutAuto
namespace Go.Proofs.Ythjkhambmgepdaa
open Go.RowKit
set_option linter.unusedVariables false
theorem info5 : (Try.prog.info? 5).map (·.size) = some 1 := by kernel_rfl
theorem zl_size : ZL.size = 61 := LV_size _ _ _ _ _ z56_len
def lcells (k : Int) (e f : Bool) (n a : Int) (p : List UInt8) : List Value := .int .i64 k :: .bool e :: .bool f :: .int .i64 n :: .int .u16 a :: p.map bv
def SendOk (n s a k : Int) (f : Bool) (m : Nat) (bs : List UInt8) (W : World) (e : Ending) (W' : World) : Prop :=
  e = .returned (.tuple #[.agg #[.int .i64 n, .int .u64 (s + 1), .int .u64 a], .int .i64 (s % n), .agg (LV 1 (ep n s) f m k (bs ++ z56.drop m)), .int .i64 0]) ∧ Below W.heap.size W W'
def SendS (B : Nat) (cs L : Array Value) (w : World) : Prop := Row w B 27 cs ∧ Row w (B + 2) 40 L
theorem SendS.upd {B : Nat} {cs L : Array Value} {w w' : World} (h : SendS B cs L w) (u : Upd w w' (B + 1)) : SendS B cs L w' := ⟨h.1.upd u (by omega), h.2.upd u (by omega)⟩
theorem sender_one (n s a : Int) : (#[.int .i64 n, .int .u64 s, .int .u64 a] : Array Value).all (·.oneCell') = true := by simp [Value.oneCell']
theorem lcells_copy {k' : Int} {e f : Bool} {n a : Int} {bs : List UInt8} {m : Nat} (h : m = bs.length) (hm : m ≤ 56) :
    ((lcells k' e f n a z56).take 5 ++ (bs.map bv ++ (lcells k' e f n a z56).drop (5 + (bs.map bv).length))).toArray = LV k' e f n a (bs ++ z56.drop m) := by
  subst h
  simp [lcells, LV, Nat.add_comm 5, List.map_drop]
set_option maxRecDepth 100000 in
set_option maxHeartbeats 4000000 in
theorem send_ok (n s a k : Int) (A : Option Addr) (m c : Nat) (f : Bool) (bs : List UInt8) (hs : 0 ≤ s) (ha : 0 ≤ a) (hv : vs n s a = true) (hm : m ≤ 56) (hf : (fr n s a == 0) = false) (hlim : s < 4611686018427387904) (W : World) (hb0 : IsB W A m bs) :
    Calls Try.prog 25 #[.agg #[.int .i64 n, .int .u64 s, .int .u64 a], .slice A m c, .bool f, .int .u16 k] W (SendOk n s a k f m bs W) := by
  have hs1 : s < 18446744073709551616 := by omega
  have hl : (s == 4611686018427387904) = false := by simp; omega
  obtain ⟨hvl, n0, n1, h1, h2, h3⟩ := vs_yes hv
  have q0 : 0 ≤ s % n := Int.emod_nonneg _ (by omega)
  have q1 : s % n < n := Int.emod_lt_of_pos _ (by omega)
  go_enter Try.func25, Try.ntmps25
  go_wp2_with fail
  refine (valid_sender _ _ _ hs hs1 ha _).mono ?_
  rintro e w1 ⟨rfl, hb⟩
  obtain ⟨r1, r2, r3, hz, hB⟩ := three_new hb
  have r3 : Row w1 (W.heap.size + 2) 40 ZL := r3
  have r2 : Row w1 (W.heap.size + 1) 27 ZS := r2
  clear hb
  obtain ⟨⟨c0, c1, c2⟩, f1⟩ := three_cells r1
  go_wp2_with fail
  refine (free _ _ _ hs hs1 ha _).mono ?_
  rintro e w1' ⟨rfl, hb⟩
  have r1 := r1.below hb r1.lt
  have r2 := r2.below hb r2.lt
  have r3 := r3.below hb r3.lt
  have hB := hB.trans (hb.mono hB.size)
  clear hb c0 c1 c2 f1 hz
  obtain ⟨⟨c0, c1, c2⟩, f1⟩ := three_cells r1
  go_wp2_with fail
  refine (epoch _ _ hs hs1 n0 n1 _).mono ?_
  rintro e w' ⟨rfl, rfl⟩
  have hbs := hb0.below hB
  have hml := Lib.hid hb0.1
  go_upto_region 13 with ((with_reducible refine wp_row_store (L := LV 1 (ep n s) f m k z56) r3 (zl_size.trans (LV_size _ _ _ _ _ z56_len).symm) (line_info _ _ _ _ _ z56_len) (LV_one _ _ _ _ _ _) ?_ ?_ ?_); rfl; rfl; intro w2 u2 r3')
  have hB2 := Upd.below hB u2 (by omega)
  have hbs := hb0.below hB2
  have r3c : Row w2 (W.heap.size + 2) 40 (lcells 1 (ep n s) f m k z56).toArray := r3'
  have g1 : (bs.map bv).length = Nat.min m 56 := by rw [List.length_map, ← hml.out]; exact (Nat.min_eq_left hm).symm
  have g2 : CopyOk w2 (some ⟨W.heap.size + 2, 5, none⟩) (W.heap.size + 2) 5 A (bs.map bv) := fun h => ⟨rfl, hbs.src (by have := hml.out; simp at h; omega)⟩
  have g3 : 5 + (bs.map bv).length ≤ (lcells 1 (ep n s) f m k z56).length := by have := hml.out; simp [lcells, z56]; omega
  have G1 := Lib.hid g1
  have r1 := r1.upd u2 (by omega)
  have r2 := r2.upd u2 (by omega)
  clear g1 hbs c0 c1 c2 f1
  go_upto_region 15 with ((with_reducible refine wp_row_copy (dCap := 56) (sCap := c) r3c Try.underlying44 info5 G1.out g2 g3 (bv_one bs) ?_ ?_ ?_); rfl; rfl; intro w3 u3 r3''; have r1 := r1.upd u3 (by omega); obtain ⟨⟨c0, c1, c2⟩, f1⟩ := three_cells r1)
  have hP : Row w3 (W.heap.size + 2) 40 (LV 1 (ep n s) f m k (bs ++ z56.drop m)) := by rw [lcells_copy hb0.1 hm] at r3''; exact r3''
  have hB3 := Upd.below hB2 u3 (by omega)
  have r2 := r2.upd u3 (by omega)
  have hpl : (bs ++ z56.drop m).length = 56 := by have := hml.out; simp [z56]; omega
  clear r3'' r3c g2 G1 u2 u3 r3' hb0 hml g3 hf
  obtain ⟨P, eP⟩ : ∃ P, P = bs ++ z56.drop m := ⟨_, rfl⟩
  rw [← eP] at hP hpl
  have EP := Lib.hid eP; clear eP
  have p1 : Row (w3.setCell ⟨W.heap.size, 1, none⟩ (.int .u64 (s + 1))) W.heap.size 27 #[.int .i64 n, .int .u64 (s + 1), .int .u64 a] := r1.set 1 _
  have p2 : Row (w3.setCell ⟨W.heap.size, 1, none⟩ (.int .u64 (s + 1))) (W.heap.size + 1) 27 ZS := r2.other (by simp) _
  have p3 : Row (w3.setCell ⟨W.heap.size, 1, none⟩ (.int .u64 (s + 1))) (W.heap.size + 2) 40 (LV 1 (ep n s) f m k P) := hP.other (by simp) _
  have hB4 : Below W.heap.size W (w3.setCell ⟨W.heap.size, 1, none⟩ (.int .u64 (s + 1))) := hB3.setCell (Nat.le_refl _) _
  generalize w3.setCell ⟨W.heap.size, 1, none⟩ (.int .u64 (s + 1)) = w4 at *
  clear c0 c1 c2 f1 r1 r2 hP hB3
  have hS : SendS W.heap.size #[.int .i64 n, .int .u64 (s + 1), .int .u64 a] (LV 1 (ep n s) f m k P) w4 := ⟨p1, p3⟩
  have hi4 := line_info 1 (ep n s) f m k hpl
  refine wp_region_held (S := SendS W.heap.size #[.int .i64 n, .int .u64 (s + 1), .int .u64 a] (LV 1 (ep n s) f m k P)) (by kernel_rfl) ?_
  have e5 : ({ w4 with drawn := w4.drawn + 1 } : World) = w4.drew := rfl
  rw [e5]
  have hS : SendS W.heap.size #[.int .i64 n, .int .u64 (s + 1), .int .u64 a] (LV 1 (ep n s) f m k P) w4.drew := hS
  have p2 : Row w4.drew (W.heap.size + 1) 27 ZS := p2
  have hB4 : Below W.heap.size W w4.drew := hB4.drew
  generalize w4.drew = w5 at *
  clear p1 p3 e5
  refine take_load 0 rfl (by kernel_rfl) (by kernel_rfl) (by kernel_rfl) (fun _ _ _ _ h => h) hS (fun _ h => h.1) Try.underlying27 rfl info27 rfl ?_
  refine take_move 1 rfl (by kernel_rfl) (by kernel_rfl) (by kernel_rfl) (fun _ _ _ _ h => h) hS ?_
  refine take_load 2 rfl (by kernel_rfl) (by kernel_rfl) (by kernel_rfl) (fun _ _ _ _ h => h) hS (fun _ h => h.2) Try.underlying40 rfl hi4 rfl ?_
  refine one_store 3 (L := #[.int .i64 n, .int .u64 (s + 1), .int .u64 a]) rfl (by kernel_rfl) p2 rfl info27 (sender_one _ _ _) rfl rfl (fun w6 u6 r6 => ?_)
  have hS6 := hS.upd u6
  refine ⟨hS6, ?_⟩
  refine one_assign 4 rfl (by kernel_rfl) hS6 ?_
  refine one_store 5 rfl (by kernel_rfl) hS6.2 rfl hi4 (LV_one _ _ _ _ _ _) rfl rfl (fun w7 u7 r7 => ?_)
  have r6 := r6.upd u7 (by omega)
  refine ⟨⟨hS6.1.upd u7 (by omega), r7⟩, ?_⟩
  refine one_assign 6 rfl (by kernel_rfl) ⟨hS6.1.upd u7 (by omega), r7⟩ ?_
  refine wpAnyH_done (by kernel_rfl) ?_ _
  go_wp2
  refine bodyPost_ret (results_ctct rfl rfl rfl r6 r7 Try.underlying27 Try.underlying40 rfl rfl info27 hi4) rfl ?_
  exact ⟨by rw [← EP.out]; rfl, Upd.below (Upd.below hB4 u6 (by omega)) u7 (by omega)⟩
end Go.Proofs.Ythjkhambmgepdaa

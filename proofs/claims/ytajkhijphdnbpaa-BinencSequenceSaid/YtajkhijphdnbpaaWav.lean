/- Contract of AppendVarint; the walk of the binenc laws' awake. -/
import Derived.Test.YtajkhijphdnbpaaWuv
import Derived.Test.YtajkhijphdnbpaaWcrc
import Derived.Test.YtajkhijphdnbpaaWsum
import Derived.Test.YtajkhijphdnbpaaZig
import Derived.Lib.SlBytesConst
namespace Go.Proofs.Ytajkhijphdnbpaa
open Go.RowKit
set_option linter.unusedVariables false
theorem append_varint (A : Option Addr) (n c : Nat) (bs : List UInt8) (v : Int) (s : Nat) (w : World) (hA : IsB w A n bs) (hn : n ≤ 1000000000) (h0 : -9223372036854775808 ≤ v) (h1 : v < 9223372036854775808) (hg : Grp (zz v) s) :
    Calls Try.prog 34 #[.slice A n c, .int .i64 v] w (NewB w 5 (bs ++ uvB (zz v) s)) := by
  rcases (by omega : 0 ≤ v ∨ v < 0) with hv | hv
  · go_enter Try.func34, Try.ntmps34
    go_wp2_with fail
    rw [zpos hv h1]
    refine (append_uvarint A n c bs (zz v) s _ hA hn (zz_lt h0 h1) hg).mono ?_
    rintro e w' ⟨g, m, hge, hm, rfl, hr, hb⟩
    go_wp2
    go_ret
    exact ⟨g, m, hge, hm, rfl, hr, hb⟩
  · go_enter Try.func34, Try.ntmps34
    go_wp2_with fail
    rw [zneg hv h0]
    refine (append_uvarint A n c bs (zz v) s _ hA hn (zz_lt h0 h1) hg).mono ?_
    rintro e w' ⟨g, m, hge, hm, rfl, hr, hb⟩
    go_wp2
    go_ret
    exact ⟨g, m, hge, hm, rfl, hr, hb⟩
def True1 (W : World) (e : Ending) (W' : World) : Prop := e = .returned (.bool true) ∧ Below W.heap.size W W'
/-- A literal's row, marked by the run-time. -/
theorem IsB.lit (w : World) (e : TypeId) (fr : Nat × Nat) (bs : List UInt8) : IsB (w.alloc (.cells (bs.map bv).toArray e fr)) (some ⟨w.heap.size, 0, none⟩) bs.length bs := by
  refine ⟨rfl, fun _ => ⟨w.heap.size, 0, rfl, fun i hi => ?_⟩⟩
  rw [Nat.zero_add, cell_of_row _ _ _ _ _ _ (heap_alloc_new w _)]
  simp [hi, bv]
theorem awake01 (w : World) : Calls Try.prog 13 #[] w (True1 w) := by
  have h9 : Hid (crc [49, 50, 51, 52, 53, 54, 55, 56, 57] = 3421780262) := Lib.hid (by decide +kernel)
  have kc := fun (w : World) (C : Array Value) (n c : Nat) => Lib.run_convert_bytes_const (P := Try.prog) w 22 5 C n c Try.underlying22 Try.underlying5
  have i9 : ∀ w : World, IsB (w.alloc (.cells #[.int .u8 49, .int .u8 50, .int .u8 51, .int .u8 52, .int .u8 53, .int .u8 54, .int .u8 55, .int .u8 56, .int .u8 57] 5 (9, 10))) (some ⟨w.heap.size, 0, none⟩) 9 [49, 50, 51, 52, 53, 54, 55, 56, 57] := fun w => IsB.lit w 5 (9, 10) [49, 50, 51, 52, 53, 54, 55, 56, 57]
  have i8 : ∀ w : World, IsB (w.alloc (.cells #[.int .u8 0, .int .u8 1, .int .u8 242, .int .u8 3, .int .u8 244, .int .u8 245, .int .u8 246, .int .u8 247] 5)) (some ⟨w.heap.size, 0, none⟩) 8 [0, 1, 242, 3, 244, 245, 246, 247] := fun w => IsB.lit w 5 (0, 0) [0, 1, 242, 3, 244, 245, 246, 247]
  have h8 : Hid (sum16 [0, 1, 242, 3, 244, 245, 246, 247] = 8717) := Lib.hid (by decide +kernel)
  go_enter Try.func13, Try.ntmps13
  go_wp2_with fail
  refine (append_uvarint none 0 0 [] 300 2 _ (IsB.nil _ _) (by omega) (by omega) ⟨by omega, by decide, .inr (by decide)⟩).mono ?_
  rintro e w1 ⟨g, m, hge, hm, rfl, hr, hb⟩
  have hs := run_str (P := Try.prog) (dst := 9) Try.underlying22 Try.underlying5 Try.underlying9 m (IsB.of_row hr)
  rw [← hm.out, show ([] ++ uvB 300 2) = [172, 2] by decide +kernel] at hs
  clear hm hr
  go_wp2_with fail
  refine (append_varint none 0 0 [] (-1) 1 _ (IsB.nil _ _) (by omega) (by omega) (by omega) ⟨by omega, by decide +kernel, .inl rfl⟩).mono ?_
  rintro e w2 ⟨g2, m2, hge2, hm2, rfl, hr2, hb2⟩
  have hs2 := run_str (P := Try.prog) (dst := 9) Try.underlying22 Try.underlying5 Try.underlying9 m2 (IsB.of_row hr2)
  rw [← hm2.out, show ([] ++ uvB (zz (-1)) 1) = [1] by decide +kernel] at hs2
  clear hm2 hr2
  have hbw : Below w.heap.size w w2 := hb.trans (hb2.mono hb.size)
  go_wp2_with (first
    | (go_at_call 14; refine (crc32 _ 9 9 [49, 50, 51, 52, 53, 54, 55, 56, 57] _ (i9 _) (by omega)).mono ?_; rintro e w3 ⟨rfl, hb3⟩; rw [h9.out])
    | (go_at_call 17; refine (sum16_any _ 8 8 [0, 1, 242, 3, 244, 245, 246, 247] _ (i8 _) (by omega)).mono ?_; rintro e w4 ⟨rfl, rfl⟩; rw [h8.out]))
  go_ret
  exact ⟨rfl, ((hbw.alloc hbw.size _).trans (hb3.mono (by have := hbw.size; simp; omega))).alloc (by have := hbw.size; have := hb3.size; simp at this; omega) _⟩
end Go.Proofs.Ytajkhijphdnbpaa

/- Contract of spare: a copy with room behind it. -/
import Derived.Test.YtajkhijphdnbpaaWav
import Derived.Test.YtajkhijphdnbpaaApp
namespace Go.Proofs.Ytajkhijphdnbpaa
open Go.RowKit
set_option linter.unusedVariables false
theorem info_b : (Try.prog.info? 5).map (fun i => (i.zero, i.size, i.bytes)) = some (some (.int .u8 0), 1, 1) := by kernel_rfl
def SpareB (W : World) (bs : List UInt8) (n : Nat) (e : Ending) (w' : World) : Prop :=
  ∃ g c, e = .returned (.slice (some ⟨g, 0, none⟩) n c) ∧ OwnB w' W.heap.size 5 (some ⟨g, 0, none⟩) (n + 1) c (bs ++ [99]) ∧ Below W.heap.size W w'
theorem spare01 (A : Option Addr) (n c : Nat) (bs : List UInt8) (w : World) (hA : IsB w A n bs) (hn : n ≤ 1000000) :
    Calls Try.prog 15 #[.slice A n c] w (SpareB w bs n) := by
  have i1 : ∀ w : World, IsB (w.alloc (.cells #[.int .u8 99] 5)) (some ⟨w.heap.size, 0, none⟩) 1 [99] := fun w => IsB.lit w 5 (0, 0) [99]
  have hl1 : 0 + n ≤ 140737488355328 := by omega
  go_enter Try.func15, Try.ntmps15
  go_wp2_with (first
    | (at_builtin; (refine wp_append_b (P := Try.prog) rfl _ _ 22 rfl Try.underlying22 info_b (OwnB.nil w w.heap.size 5) hA hl1 (Nat.le_refl _) rfl rfl ?_); intro A1 n1 c1 w1 hn1 ho1 hb1 hg1 hat1)
    | (at_builtin; (refine wp_append_b (P := Try.prog) rfl _ _ 22 rfl Try.underlying22 info_b (OwnB.alloc ho1 _) (i1 _) (by have := hn1.out; omega) (by have := hb1.size; simp; omega) rfl rfl ?_); intro A2 n2 c2 w2 hn2 ho2 hb2 hg2 hat2; have h2 : n2 = n + 1 := (by have := hn1.out; have := hn2.out; omega); obtain ⟨g2, rfl, hge2, hlt2, hle2⟩ := ho2.form (by omega); have hle3 : n ≤ c2 := (by omega); clear hat2 hat1 hg2 hg1; subst h2))
  go_ret
  exact ⟨g2, c2, rfl, by simpa using ho2, (hb1.alloc hb1.size _).trans hb2⟩
end Go.Proofs.Ytajkhijphdnbpaa

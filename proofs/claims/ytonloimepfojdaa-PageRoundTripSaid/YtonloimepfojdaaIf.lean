/- Moves of a told region (XTold) for operations behind guards that are not decided: the value is 'v' where the guard g holds, 'undef' where it does not. So a chain of '&&' and '||' is walked once. -/
import Derived.Test.YtonloimepfojdaaTold
namespace Go.Proofs.Ytonloimepfojdaa
set_option linter.unusedVariables false
section
variable {P : Program} {ops : Array Oper} {S : World → Prop} {G : World → World → Prop} {Q : Exit → Act → World → Prop}
variable {o : Oper} {rest : List Oper} {i : Nat} {F : List (Nat × (Value → World → Prop))} {A : (Nat → Value) → Act}
theorem walk_if (hG : ∀ w, G w w) (g : Bool) {v : Value} (hw : ∀ us, Region.wanted o (yielded ops (A us).tmps) = g) (hy : g = true → ∀ us w, S w → (∀ p ∈ F, waits o p.1 = true → p.2 (us p.1) w) → (execOp (A us).eval o).run P w = .ok (.value v) w)
    (h : Walk P ops S G Q rest (i + 1) F (fun us => (A us).put o.dst (bif g then v else undef))) : Walk P ops S G Q (o :: rest) i F A :=
  .inl ⟨bif g then v else undef, fun us w hS hF K hK => by
    rw [hw us]
    cases g
    · rw [if_neg (by simp)]
      exact hK _ _ hS (hG w) rfl
    · rw [if_pos rfl]
      unfold Oper.wp
      rw [hy rfl us w hS hF]
      exact hK _ _ hS (hG w) rfl, h⟩
theorem walk_if_call (hG : ∀ w, G w w) (g : Bool) (v : Value) (hw : ∀ us, Region.wanted o (yielded ops (A us).tmps) = g) (hs : g = true → ∀ us w, S w → (∀ p ∈ F, waits o p.1 = true → p.2 (us p.1) w) → ∀ K : Act → World → Prop, (∀ w', S w' → G w w' → K ((A us).put o.dst v) w') → Oper.wp P o (A us) w K (fun _ _ _ => False))
    (h : Walk P ops S G Q rest (i + 1) F (fun us => (A us).put o.dst (bif g then v else undef))) : Walk P ops S G Q (o :: rest) i F A :=
  .inl ⟨bif g then v else undef, fun us w hS hF K hK => by
    rw [hw us]
    cases g
    · rw [if_neg (by simp)]
      exact hK _ _ hS (hG w) rfl
    · rw [if_pos rfl]
      exact hs rfl us w hS hF K fun w' h1 h2 => hK _ w' h1 h2 rfl, h⟩
end
end Go.Proofs.Ytonloimepfojdaa

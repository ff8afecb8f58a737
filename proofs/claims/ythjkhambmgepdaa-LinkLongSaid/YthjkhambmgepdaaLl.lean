/- Links: contracts at known values; words for a call whose arguments are made in a region that draws its order, and whose result names new memory. -/
import Derived.Test.YthjkhambmgepdaaLj
namespace Go.Proofs.Ythjkhambmgepdaa
open Go.RowKit
set_option linter.unusedVariables false
theorem HeldI.lower {w : World} {lo lo' hi : Nat} {e : LE} {A B : Option Addr} {c d : Nat} (h : HeldI w lo hi e A c B d) (hl : lo' ≤ lo) : HeldI w lo' hi e A c B d := ⟨h.1, fun w' hk => h.2 w' fun g h3 h4 => hk g (Nat.le_trans hl h3) h4⟩
/-- Results that name new memory. -/
def EnI (e : LE) (E : Int) (W : World) (en : Ending) (W' : World) : Prop := ∃ A c B d, en = .returned (.tuple #[.agg (LEV e A c B d), .int .i64 E]) ∧ HeldI W' W.heap.size W'.heap.size e A c B d ∧ Below W.heap.size W W'
def NxI (e : LE) (L : Array Value) (E : Int) (W : World) (en : Ending) (W' : World) : Prop := ∃ A c B d, en = .returned (.tuple #[.agg (LEV e A c B d), .agg L, .int .i64 E]) ∧ HeldI W' W.heap.size W'.heap.size e A c B d ∧ Below W.heap.size W W'
theorem enq_is {e e' : LE} {m : List UInt8} {E : Int} {A B Am : Option Addr} {c d cm n : Nat} {W : World} (hE : enqE e m = E) (hL : enqL e m = e') (hn : n = m.length) (ht : e.ty) (hH : Held W e A c B d) (hm : IsB W Am n m) : Calls Try.prog 42 #[.agg (LEV e A c B d), .slice Am n cm] W (EnI e' E W) := by
  subst hn hE hL
  exact enqueue e A B c d Am cm m W ht hH hm
theorem next_is {e e' : LE} {L : Array Value} {E : Int} {A B : Option Addr} {c d : Nat} {W : World} (hE : nxE e = E) (hL : nxL e = e') (hV : nxV e = L) (ht : e.ty) (hH : Held W e A c B d) : Calls Try.prog 45 #[.agg (LEV e A c B d)] W (NxI e' L E W) := by
  subst hE hL hV
  exact next e A B c d W ht hH
theorem pend_is {e : LE} {k : Int} {A B : Option Addr} {c d : Nat} {W : World} (hk : pendE e = k) (ht : e.ty) (hH : Held W e A c B d) : Calls Try.prog 43 #[.agg (LEV e A c B d)] W (fun en W' => en = .returned (.int .i64 k) ∧ Below W.heap.size W W') := by
  subst hk
  exact pending e A B c d W ht hH
theorem idle_is {e : LE} {b : Bool} {A B : Option Addr} {c d : Nat} {W : World} (hk : idleE e = b) (ht : e.ty) (hH : Held W e A c B d) : Calls Try.prog 54 #[.agg (LEV e A c B d)] W (fun en W' => en = .returned (.bool b) ∧ Below W.heap.size W W') := by
  subst hk
  exact idle e A B c d W ht hH
theorem new_is {n : Int} (hv : vl n = true) (W : World) : Calls Try.prog 41 #[.int .i64 n] W (fun en W' => en = .returned (.tuple #[.agg (LEV (newL n) none 0 none 0), .int .i64 0]) ∧ Below W.heap.size W W') := by
  have h := new_any n W
  unfold NwP nwE nsE at h
  rw [if_pos hv, if_pos hv] at h
  exact h
theorem held_new (n : Int) (w : World) : Held w (newL n) none 0 none 0 := ⟨⟨rfl, fun h => by simp [newL] at h⟩, Nat.le_refl _, IsB.nil _ _, Nat.le_refl _⟩
/-- Five links of a chain: what is known of the last one's value. -/
def Ch5 (Q0 : World → Prop) (i1 : Nat) (Q1 : Value → World → Prop) (i2 : Nat) (Q2 : Value → World → Prop) (i3 : Nat) (Q3 : Value → World → Prop) (i4 : Nat) (Q4 : Value → World → Prop) (i5 : Nat) (Q5 : Value → World → Prop) (c : Nat) (us : Nat → Value) (w : World) : Prop :=
  (c = 0 → Q0 w) ∧ (c = 1 → Q1 (us i1) w) ∧ (c = 2 → Q2 (us i2) w) ∧ (c = 3 → Q3 (us i3) w) ∧ (c = 4 → Q4 (us i4) w) ∧ (5 ≤ c → Q5 (us i5) w)
theorem Ch5.loc {Q0 : World → Prop} {i1 i2 i3 i4 i5 : Nat} {Q1 Q2 Q3 Q4 Q5 : Value → World → Prop} {ops : Array Oper} {st : List Nat} (h1 : i1 ∈ st.take 1) (h2 : i2 ∈ st.take 2) (h3 : i3 ∈ st.take 3) (h4 : i4 ∈ st.take 4) (h5 : ∀ c, 5 ≤ c → mayAt ops st c i5 = false) :
    ∀ c us us' w', (∀ k, mayAt ops st c k = false ∨ k ∈ st.take c → us k = us' k) → Ch5 Q0 i1 Q1 i2 Q2 i3 Q3 i4 Q4 i5 Q5 c us w' → Ch5 Q0 i1 Q1 i2 Q2 i3 Q3 i4 Q4 i5 Q5 c us' w' := by
  intro c us us' w' hk ⟨a0, a1, a2, a3, a4, a5⟩
  refine ⟨a0, fun hc => ?_, fun hc => ?_, fun hc => ?_, fun hc => ?_, fun hc => ?_⟩
  · subst hc; rw [← hk i1 (.inr h1)]; exact a1 rfl
  · subst hc; rw [← hk i2 (.inr h2)]; exact a2 rfl
  · subst hc; rw [← hk i3 (.inr h3)]; exact a3 rfl
  · subst hc; rw [← hk i4 (.inr h4)]; exact a4 rfl
  · rw [← hk i5 (.inl (h5 c hc))]; exact a5 hc
section
variable {Q0 : World → Prop} {i1 i2 i3 i4 i5 : Nat} {Q1 Q2 Q3 Q4 Q5 : Value → World → Prop} {us : Nat → Value} {w w' : World}
theorem Ch5.zero (h : Q0 w) : Ch5 Q0 i1 Q1 i2 Q2 i3 Q3 i4 Q4 i5 Q5 0 us w := ⟨fun _ => h, fun h => by omega, fun h => by omega, fun h => by omega, fun h => by omega, fun h => by omega⟩
theorem Ch5.one (h : Q1 (us i1) w) : Ch5 Q0 i1 Q1 i2 Q2 i3 Q3 i4 Q4 i5 Q5 1 us w := ⟨fun h => by omega, fun _ => h, fun h => by omega, fun h => by omega, fun h => by omega, fun h => by omega⟩
theorem Ch5.two (h : Q2 (us i2) w) : Ch5 Q0 i1 Q1 i2 Q2 i3 Q3 i4 Q4 i5 Q5 2 us w := ⟨fun h => by omega, fun h => by omega, fun _ => h, fun h => by omega, fun h => by omega, fun h => by omega⟩
theorem Ch5.three (h : Q3 (us i3) w) : Ch5 Q0 i1 Q1 i2 Q2 i3 Q3 i4 Q4 i5 Q5 3 us w := ⟨fun h => by omega, fun h => by omega, fun h => by omega, fun _ => h, fun h => by omega, fun h => by omega⟩
theorem Ch5.four (h : Q4 (us i4) w) : Ch5 Q0 i1 Q1 i2 Q2 i3 Q3 i4 Q4 i5 Q5 4 us w := ⟨fun h => by omega, fun h => by omega, fun h => by omega, fun h => by omega, fun _ => h, fun h => by omega⟩
theorem Ch5.five (h : Q5 (us i5) w) : Ch5 Q0 i1 Q1 i2 Q2 i3 Q3 i4 Q4 i5 Q5 5 us w := ⟨fun h => by omega, fun h => by omega, fun h => by omega, fun h => by omega, fun h => by omega, fun _ => h⟩
end
/-- A link of the chain that has a temporary, of whose value V is known. -/
theorem late_chain_is {P : Program} {ops : Array Oper} {st : List Nat} {S : Nat → (Nat → Value) → World → Prop} {G : World → World → Prop} {Q : Exit → Act → World → Prop} {o : Oper} {rest : List Oper} {i c : Nat} {F : List (Nat × (Value → World → Prop))} {A : (Nat → Value) → Act}
    (V : Value → Prop) (hne : o.dst ≠ none) (hs : ∀ us w, S c us w → (∀ p ∈ F, waits o p.1 = true → p.2 (us p.1) w) → ∀ K : Act → World → Prop, (∀ u w', V u → S (c + 1) (fun k => if k = i then u else us k) w' → G w w' → K ((A us).put o.dst u) w') →
      if Region.wanted o (yielded ops (A us).tmps) = true then Oper.wp P o (A us) w K (fun _ _ _ => False) else K ((A us).put o.dst undef) w)
    (h : WalkL P ops st S G Q rest (i + 1) (c + 1) ((i, fun u _ => V u) :: F) (fun us => (A us).put o.dst (us i))) (hi : i ∈ st := by decide) : WalkL P ops st S G Q (o :: rest) i c F A :=
  .inr (.inl ⟨hi, hne, fun u _ => V u, fun _ _ _ _ h => h, fun us w hS hF K hK => hs us w hS hF K fun u w' h0 h1 h2 => hK u w' trivial h2 ⟨h0, h1⟩, h⟩)
/-- New memory of n zero bytes. -/
theorem step_make {P : Program} {K : Act → World → Prop} {Q : Exit → Act → World → Prop} {a : Act} {w : World} {dst : Option Tmp} {typ : TypeId} {pos : String} {after : Array Edge} {gd : Option (Nat × Bool)} {t e : TypeId} {bytes : Nat} {l c : Operand} {kl kc : IntKind} {L C : Int} (n : Nat) (ht : P.underlying t = some (.slice e))
    (hinfo : (P.info? e).map (fun i => (i.zero, i.size, i.bytes)) = some (some (.int .u8 0), 1, bytes)) (hb : bytes * n ≤ 281474976710656) (h63 : n ≤ 9223372036854775807)
    (hl : a.eval l = .int kl L) (hc : a.eval c = .int kc C) (hL : L = (n : Int)) (hC : C = (n : Int))
    (h : ∀ w', IsB w' (some ⟨w.heap.size, 0, none⟩) n (List.replicate n 0) → Below w.heap.size w w' → K (a.put dst (.slice (some ⟨w.heap.size, 0, none⟩) n n)) w') :
    Oper.wp P { dst := dst, op := .makeSlice t l c, type := typ, pos := pos, after := after, guard := gd } a w K Q := by
  subst hL
  subst hC
  have hrun := run_make_row' (P := P) t e (.int .u8 0) bytes ht hinfo rfl kl kc n hb h63 w
  have e1 : madeCells #[Value.int .u8 0] n = ((List.replicate n (0 : UInt8)).map bv).toArray := by
    rw [← bv_zeros, ← toList_madeCells_one]
  rw [e1] at hrun
  unfold Oper.wp
  simp only [execOp, hl, hc, Sem.run_bind, hrun, Result.andThen, Sem.run_pure]
  refine h _ ?_ ((Below.refl _ _).alloc (Nat.le_refl _) _)
  have hB := IsB.of_row (Row.born w e ((List.replicate n (0 : UInt8)).map bv).toArray)
  rwa [List.length_replicate] at hB
end Go.Proofs.Ythjkhambmgepdaa

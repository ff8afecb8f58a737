/- urpc: what the program and its reference hand back, in the same letters. -/
import Derived.Test.YthjkhambmgepdaaEd
namespace Go.Proofs.Ythjkhambmgepdaa
open Go.RowKit
set_option linter.unusedVariables false
set_option linter.unusedSimpArgs false
def RR (w : World) (b : Nat) : Prop := ∃ m A c, Row w b 97 (RMV m A c)
/-- How the law's drawn regions may change memory. -/
structure G8 (w w' : World) : Prop where
  k : Keeps [112, 97] w w'
  b : ∀ g o x, w.cell? ⟨g, o, none⟩ = some (.int .u8 x) → w'.heap[g]? = w.heap[g]?
  u : ∀ b, UR w b → UR w' b
  r : ∀ b, RR w b → RR w' b
theorem G8.refl (w : World) : G8 w w := ⟨Keeps.refl _ _, fun _ _ _ _ => rfl, fun _ h => h, fun _ h => h⟩
theorem G8.below {w w' : World} (h : Below w.heap.size w w') : G8 w w' := ⟨Keeps.below h, fun g o x hx => h.block g (block_lt_of_cell hx), fun b ⟨e, A, c, B, d, hr⟩ => ⟨e, A, c, B, d, hr.below h hr.lt⟩, fun b ⟨m, A, c, hr⟩ => ⟨m, A, c, hr.below h hr.lt⟩⟩
theorem row_types {w : World} {b : Nat} {t t' : TypeId} {cs cs' : Array Value} (h : Row w b t cs) (h' : Row w b t' cs') : t = t' := by
  have e2 := h.symm.trans h'
  injection e2 with e2
  injection e2
theorem rmv_no_byte {m : RM} {A : Option Addr} {c k : Nat} {x : Int} (h : (RMV m A c)[k]? = some (.int .u8 x)) : False := by
  unfold RMV at h
  rcases k with _ | _ | _ | _ | _ | k <;> simp at h
theorem G8.putU {w w' : World} {b : Nat} {e : UE} {A B : Option Addr} {c d : Nat} (h : UR w b) (u : Upd w w' b) (hr : Row w' b 112 (UEV e A c B d)) : G8 w w' := by
  obtain ⟨e0, A0, c0, B0, d0, r0⟩ := h
  refine ⟨Keeps.upd u r0 (by simp), fun g o x hx => u.block g (fun h => ?_), fun b' h' => ?_, fun b' h' => ?_⟩
  · subst h
    rw [r0.cell] at hx
    exact uev_no_byte hx
  · by_cases hb : b' = b
    · subst hb
      exact ⟨e, A, c, B, d, hr⟩
    · obtain ⟨e1, A1, c1, B1, d1, r1⟩ := h'
      exact ⟨e1, A1, c1, B1, d1, r1.upd u hb⟩
  · by_cases hb : b' = b
    · subst hb
      obtain ⟨m, A1, c1, r1⟩ := h'
      exact absurd (row_types r0 r1) (by decide)
    · obtain ⟨m, A1, c1, r1⟩ := h'
      exact ⟨m, A1, c1, r1.upd u hb⟩
theorem G8.putR {w w' : World} {b : Nat} {m : RM} {A : Option Addr} {c : Nat} (h : RR w b) (u : Upd w w' b) (hr : Row w' b 97 (RMV m A c)) : G8 w w' := by
  obtain ⟨m0, A0, c0, r0⟩ := h
  refine ⟨Keeps.upd u r0 (by simp), fun g o x hx => u.block g (fun h => ?_), fun b' h' => ?_, fun b' h' => ?_⟩
  · subst h
    rw [r0.cell] at hx
    exact rmv_no_byte hx
  · by_cases hb : b' = b
    · subst hb
      obtain ⟨e1, A1, c1, B1, d1, r1⟩ := h'
      exact absurd (row_types r0 r1) (by decide)
    · obtain ⟨e1, A1, c1, B1, d1, r1⟩ := h'
      exact ⟨e1, A1, c1, B1, d1, r1.upd u hb⟩
  · by_cases hb : b' = b
    · subst hb
      exact ⟨m, A, c, hr⟩
    · obtain ⟨m1, A1, c1, r1⟩ := h'
      exact ⟨m1, A1, c1, r1.upd u hb⟩
theorem IsB.g8 {w w' : World} {D : Option Addr} {l : Nat} {bs : List UInt8} (h : IsB w D l bs) (hg : G8 w w') : IsB w' D l bs := by
  refine h.of_same fun b o e h0 => ?_
  obtain ⟨b', o', e', hc⟩ := h.2 h0
  rw [e] at e'
  injection e' with e'
  injection e' with e1 e2
  subst e1 e2
  exact hg.b b _ _ (hc 0 (by have := h.1; omega))
/-- An end in new memory. -/
def EuV (base : Nat) (e9 : UE) (u : Value) (w : World) : Prop := ∃ A c B d, u = .agg (UEV e9 A c B d) ∧ OwnU w base e9 A c B d
theorem EuV.mono {base : Nat} {e9 : UE} (u : Value) (w w' : World) (hg : G8 w w') (h : EuV base e9 u w) : EuV base e9 u w' := by
  obtain ⟨A, c, B, d, h1, h2⟩ := h
  exact ⟨A, c, B, d, h1, h2.keeps hg.k (by decide)⟩
/-- Some bytes. -/
def ByV (bs : List UInt8) (u : Value) (w : World) : Prop := ∃ D l dc, u = .slice D l dc ∧ IsB w D l bs
theorem ByV.mono {bs : List UInt8} (u : Value) (w w' : World) (hg : G8 w w') (h : ByV bs u w) : ByV bs u w' := by
  obtain ⟨D, l, dc, h1, h2⟩ := h
  exact ⟨D, l, dc, h1, h2.g8 hg⟩
/-- A copy of bytes. -/
def CyV (bs : List UInt8) (u : Value) (w : World) : Prop := ∃ D dc, u = .slice D bs.length dc ∧ IsB w D bs.length bs ∧ bs.length ≤ dc
theorem CyV.mono {bs : List UInt8} (u : Value) (w w' : World) (hg : G8 w w') (h : CyV bs u w) : CyV bs u w' := by
  obtain ⟨D, dc, h1, h2, h3⟩ := h
  exact ⟨D, dc, h1, h2.g8 hg, h3⟩
def RmV (m : RM) (u : Value) (w : World) : Prop := ∃ D dc, u = .agg (RMV m D dc) ∧ IsB w D m.b.length m.b
theorem RmV.mono {m : RM} (u : Value) (w w' : World) (hg : G8 w w') (h : RmV m u w) : RmV m u w' := by
  obtain ⟨D, dc, h1, h2⟩ := h
  exact ⟨D, dc, h1, h2.g8 hg⟩
def PtR (base : Nat) (u : Value) (w : World) : Prop := ∃ g, u = .pointer (some ⟨g, 0, none⟩) ∧ base ≤ g ∧ RR w g
theorem PtR.mono {base : Nat} (u : Value) (w w' : World) (hg : G8 w w') (h : PtR base u w) : PtR base u w' := by
  obtain ⟨g, h1, h2, h3⟩ := h
  exact ⟨g, h1, h2, hg.r g h3⟩
/-- An end, a number, a message, an error. -/
def D4V (base : Nat) (e9 : UE) (x : Int) (bs : List UInt8) (y : Int) (u : Value) (w : World) : Prop := ∃ A c B d D l dc, u = .tuple #[.agg (UEV e9 A c B d), .int .i64 x, .slice D l dc, .int .i64 y] ∧ OwnU w base e9 A c B d ∧ IsB w D l bs
theorem D4V.mono {base : Nat} {e9 : UE} {x y : Int} {bs : List UInt8} (u : Value) (w w' : World) (hg : G8 w w') (h : D4V base e9 x bs y u w) : D4V base e9 x bs y u w' := by
  obtain ⟨A, c, B, d, D, l, dc, h1, h2, h3⟩ := h
  exact ⟨A, c, B, d, D, l, dc, h1, h2.keeps hg.k (by decide), h3.g8 hg⟩
def D3V (base : Nat) (e9 : UE) (bs : List UInt8) (y : Int) (u : Value) (w : World) : Prop := ∃ A c B d D l dc, u = .tuple #[.agg (UEV e9 A c B d), .slice D l dc, .int .i64 y] ∧ OwnU w base e9 A c B d ∧ IsB w D l bs
theorem D3V.mono {base : Nat} {e9 : UE} {y : Int} {bs : List UInt8} (u : Value) (w w' : World) (hg : G8 w w') (h : D3V base e9 bs y u w) : D3V base e9 bs y u w' := by
  obtain ⟨A, c, B, d, D, l, dc, h1, h2, h3⟩ := h
  exact ⟨A, c, B, d, D, l, dc, h1, h2.keeps hg.k (by decide), h3.g8 hg⟩
def DRV (base : Nat) (e9 : UE) (m : RM) (y : Int) (u : Value) (w : World) : Prop := ∃ A c B d D dc, u = .tuple #[.agg (UEV e9 A c B d), .agg (RMV m D dc), .int .i64 y] ∧ OwnU w base e9 A c B d ∧ IsB w D m.b.length m.b
theorem DRV.mono {base : Nat} {e9 : UE} {y : Int} {m : RM} (u : Value) (w w' : World) (hg : G8 w w') (h : DRV base e9 m y u w) : DRV base e9 m y u w' := by
  obtain ⟨A, c, B, d, D, dc, h1, h2, h3⟩ := h
  exact ⟨A, c, B, d, D, dc, h1, h2.keeps hg.k (by decide), h3.g8 hg⟩
theorem D4V.lower {base lo : Nat} {e9 : UE} {x y : Int} {bs : List UInt8} {u : Value} {w : World} (h : D4V base e9 x bs y u w) (hl : lo ≤ base) : D4V lo e9 x bs y u w := by
  obtain ⟨A, c, B, d, D, l, dc, h1, h2, h3⟩ := h
  exact ⟨A, c, B, d, D, l, dc, h1, h2.lower hl, h3⟩
theorem D3V.lower {base lo : Nat} {e9 : UE} {y : Int} {bs : List UInt8} {u : Value} {w : World} (h : D3V base e9 bs y u w) (hl : lo ≤ base) : D3V lo e9 bs y u w := by
  obtain ⟨A, c, B, d, D, l, dc, h1, h2, h3⟩ := h
  exact ⟨A, c, B, d, D, l, dc, h1, h2.lower hl, h3⟩
theorem DRV.lower {base lo : Nat} {e9 : UE} {y : Int} {m : RM} {u : Value} {w : World} (h : DRV base e9 m y u w) (hl : lo ≤ base) : DRV lo e9 m y u w := by
  obtain ⟨A, c, B, d, D, dc, h1, h2, h3⟩ := h
  exact ⟨A, c, B, d, D, dc, h1, h2.lower hl, h3⟩
-- the contracts
def NwC (F : Nat) (n : Int) (v : UE) (x : Int) : Prop := ∀ W : World, Calls Try.prog F #[.int .i64 n] W (fun en W' => en = .returned (.tuple #[.agg (UEV v none 0 none 0), .int .i64 x]) ∧ Below W.heap.size W W')
def VdC (F : Nat) (e : UE) (x : Bool) : Prop := ∀ (W : World) (A : Option Addr) (c : Nat) (B : Option Addr) (d : Nat), HeldU W e A c B d → Calls Try.prog F #[.agg (UEV e A c B d)] W (fun en W' => en = .returned (.bool x) ∧ Below W.heap.size W W')
def ClC (e : UE) (s : Int) (b : List UInt8) (v : UE) (n : Int) (bs : List UInt8) (y : Int) : Prop := ∀ (W : World) (A : Option Addr) (c : Nat) (B : Option Addr) (d : Nat) (D : Option Addr) (dc : Nat), HeldU W e A c B d → IsB W D b.length b →
  Calls Try.prog 76 #[.agg (UEV e A c B d), .int .i64 s, .slice D b.length dc] W (fun en W' => ∃ u, en = .returned u ∧ D4V W.heap.size v n bs y u W' ∧ Below W.heap.size W W')
def ClR (e : UE) (s : Int) (b : List UInt8) (v : UE) (n : Int) (bs : List UInt8) (y : Int) : Prop := ∀ (W : World) (A : Option Addr) (c : Nat) (B : Option Addr) (d : Nat) (D : Option Addr) (dc : Nat), HeldU W e A c B d → IsB W D b.length b →
  Calls Try.prog 77 #[.agg (UEV e A c B d), .int .i64 s, .slice D b.length dc] W (fun en W' => ∃ A c B d D l dc, en = .returned (.tuple #[.agg (UEV v A c B d), .int .i64 n, .slice D l dc, .int .i64 y]) ∧ TwoN W' W.heap.size v A c B d ∧ IsB W' D l bs ∧ Below W.heap.size W W')
def RcC (e : UE) (ms : List UInt8) (v : UE) (m : RM) (y : Int) : Prop := ∀ (W : World) (A : Option Addr) (c : Nat) (B : Option Addr) (d : Nat) (D : Option Addr) (dc : Nat), HeldU W e A c B d → IsB W D ms.length ms → ms.length ≤ dc →
  Calls Try.prog 78 #[.agg (UEV e A c B d), .slice D ms.length dc] W (fun en W' => ∃ u, en = .returned u ∧ DRV W.heap.size v m y u W' ∧ Below W.heap.size W W')
def RcR (e : UE) (ms : List UInt8) (v : UE) (m : RM) (y : Int) : Prop := ∀ (W : World) (A : Option Addr) (c : Nat) (B : Option Addr) (d : Nat) (D : Option Addr) (dc : Nat), HeldU W e A c B d → IsB W D ms.length ms → ms.length ≤ dc →
  Calls Try.prog 79 #[.agg (UEV e A c B d), .slice D ms.length dc] W (fun en W' => ∃ A c B d D dc, en = .returned (.tuple #[.agg (UEV v A c B d), .agg (RMV m D dc), .int .i64 y]) ∧ TwoN W' W.heap.size v A c B d ∧ IsB W' D m.b.length m.b ∧ Below W.heap.size W W')
def RpC (e : UE) (n r : Int) (b : List UInt8) (v : UE) (bs : List UInt8) (y : Int) : Prop := ∀ (W : World) (A : Option Addr) (c : Nat) (B : Option Addr) (d : Nat) (D : Option Addr) (dc : Nat), HeldU W e A c B d → IsB W D b.length b →
  Calls Try.prog 80 #[.agg (UEV e A c B d), .int .i64 n, .int .i64 r, .slice D b.length dc] W (fun en W' => ∃ u, en = .returned u ∧ D3V W.heap.size v bs y u W' ∧ Below W.heap.size W W')
def RpR (e : UE) (n r : Int) (b : List UInt8) (v : UE) (bs : List UInt8) (y : Int) : Prop := ∀ (W : World) (A : Option Addr) (c : Nat) (B : Option Addr) (d : Nat) (D : Option Addr) (dc : Nat), HeldU W e A c B d → e.ss.length ≤ d → IsB W D b.length b →
  Calls Try.prog 81 #[.agg (UEV e A c B d), .int .i64 n, .int .i64 r, .slice D b.length dc] W (fun en W' => ∃ A c B d D l dc, en = .returned (.tuple #[.agg (UEV v A c B d), .slice D l dc, .int .i64 y]) ∧ TwoN W' W.heap.size v A c B d ∧ IsB W' D l bs ∧ Below W.heap.size W W')
def LsC (F : Nat) (e v : UE) (l : List Int) (y : Int) : Prop := ∀ (W : World) (A : Option Addr) (c : Nat) (B : Option Addr) (d : Nat), HeldU W e A c B d →
  Calls Try.prog F #[.agg (UEV e A c B d)] W (fun en W' => ∃ D dc, en = .returned (.tuple #[.agg (UEV v none 0 none 0), .slice D l.length dc, .int .i64 y]) ∧ OwnN W' W.heap.size 3 D l.length dc l ∧ Below W.heap.size W W')
def EnC (F : Nat) (m : RM) (bs : List UInt8) (y : Int) : Prop := ∀ (W : World) (A : Option Addr) (c : Nat), IsB W A m.b.length m.b →
  Calls Try.prog F #[.agg (RMV m A c)] W (fun en W' => ∃ D l dc, en = .returned (.tuple #[.slice D l dc, .int .i64 y]) ∧ IsB W' D l bs ∧ Below W.heap.size W W')
def DcM (F : Nat) (ms : List UInt8) (m : RM) (y : Int) : Prop := ∀ (W : World) (D : Option Addr) (dc : Nat), IsB W D ms.length ms → ms.length ≤ dc →
  Calls Try.prog F #[.slice D ms.length dc] W (fun en W' => ∃ A c, en = .returned (.tuple #[.agg (RMV m A c), .int .i64 y]) ∧ IsB W' A m.b.length m.b ∧ Below W.heap.size W W')
-- the letters
def nwV (n : Int) : UE := if nwK n = true then nwU n else ue0
def nwX (n : Int) : Int := if nwK n = true then 0 else 6
def clE9 (e : UE) (s : Int) (b : List UInt8) : UE := if calE e s b = 0 then calU e else ue0
def clN (e : UE) (s : Int) (b : List UInt8) : Int := if calE e s b = 0 then e.la + 1 else 0
noncomputable def clB (e : UE) (s : Int) (b : List UInt8) : List UInt8 := if calE e s b = 0 then (rqM (e.la + 1) s b).by else []
def rcV (e : UE) (ms : List UInt8) : UE := if rcvE e ms = 0 then rcvU e ms else ue0
def rcM (e : UE) (ms : List UInt8) : RM := if rcvE e ms = 0 then dM ms else rm0
def rpV (e : UE) (n r : Int) (b : List UInt8) : UE := if repE e n r b = 0 then repU e n else ue0
noncomputable def rpB (e : UE) (n r : Int) (b : List UInt8) : List UInt8 := if repE e n r b = 0 then (rpM n r b).by else []
def lsV (e : UE) : UE := if uE e = 0 then lstU e else ue0
def lsL (e : UE) : List Int := if uE e = 0 then e.cs else []
noncomputable def enB (m : RM) : List UInt8 := if m.ok = true then m.by else []
def enX (m : RM) : Int := if m.ok = true then 0 else 1
def deM (ms : List UInt8) : RM := if dOk ms = true then dM ms else rm0
def deX (ms : List UInt8) : Int := if dOk ms = true then 0 else 14
theorem twoN_0 (w : World) (base : Nat) : TwoN w base ue0 none 0 none 0 := ⟨OwnN.nil _ _ _, OwnN.nil _ _ _, Nat.zero_le _, Nat.zero_le _⟩
theorem nwC {F : Nat} {n : Int} (h : ∀ W, Calls Try.prog F #[.int .i64 n] W (NwU n W)) : NwC F n (nwV n) (nwX n) := fun W => (h W).mono fun en W' h => by
  obtain ⟨hb, ⟨h1, h2⟩ | ⟨h1, h2⟩⟩ := h
  · unfold nwV nwX
    rw [if_neg (by rw [h1]; simp), if_neg (by rw [h1]; simp)]
    exact ⟨h2, hb⟩
  · unfold nwV nwX
    rw [if_pos h1, if_pos h1]
    exact ⟨h2, hb⟩
theorem clC (e : UE) (s : Int) (b : List UInt8) : ClC e s b (clE9 e s b) (clN e s b) (clB e s b) (calE e s b) := fun W A c B d D dc hH hD => (callU e A B c d s D dc b W hH hD).mono fun en W' h => by
  obtain ⟨hb, ⟨h1, h2⟩ | ⟨h1, A', c', B', d', g, l, h2, h3, h4, h5, h6⟩⟩ := h
  · unfold clE9 clN clB
    rw [if_neg h1, if_neg h1, if_neg h1]
    exact ⟨_, h2, ⟨none, 0, none, 0, none, 0, 0, rfl, ownU_0 _ _, IsB.nil _ _⟩, hb⟩
  · unfold clE9 clN clB
    rw [if_pos h1, if_pos h1, if_pos h1, h1]
    exact ⟨_, h2, ⟨A', c', B', d', _, l, l, rfl, h3, h6⟩, hb⟩
theorem clR (e : UE) (s : Int) (b : List UInt8) : ClR e s b (clE9 e s b) (clN e s b) (clB e s b) (calE e s b) := fun W A c B d D dc hH hD => (callR e A B c d s D dc b W hH hD).mono fun en W' h => by
  obtain ⟨hb, ⟨h1, h2⟩ | ⟨h1, A', c', B', d', M, l, mc, h2, h3, h6⟩⟩ := h
  · unfold clE9 clN clB
    rw [if_neg h1, if_neg h1, if_neg h1]
    exact ⟨none, 0, none, 0, none, 0, 0, h2, twoN_0 _ _, IsB.nil _ _, hb⟩
  · unfold clE9 clN clB
    rw [if_pos h1, if_pos h1, if_pos h1, h1]
    exact ⟨A', c', B', d', M, l, mc, h2, h3, h6, hb⟩
theorem rcC (e : UE) (ms : List UInt8) (hn : ms.length ≤ 1000000) : RcC e ms (rcV e ms) (rcM e ms) (rcvE e ms) := fun W A c B d D dc hH hD hc => (receiveU e A B c d D dc ms W hH hD hn hc).mono fun en W' h => by
  obtain ⟨hb, ⟨h1, h2⟩ | ⟨h1, A', c', B', d', M, mc, h2, h3, h6⟩⟩ := h
  · unfold rcV rcM
    rw [if_neg h1, if_neg h1]
    exact ⟨_, h2, ⟨none, 0, none, 0, none, 0, rfl, ownU_0 _ _, IsB.nil _ _⟩, hb⟩
  · unfold rcV rcM
    rw [if_pos h1, if_pos h1, h1]
    exact ⟨_, h2, ⟨A', c', B', d', M, mc, rfl, h3, h6.isB⟩, hb⟩
theorem rcR (e : UE) (ms : List UInt8) (hn : ms.length ≤ 1000000) : RcR e ms (rcV e ms) (rcM e ms) (rcvE e ms) := fun W A c B d D dc hH hD hc => (receiveR e A B c d D dc ms W hH hD hn hc).mono fun en W' h => by
  obtain ⟨hb, ⟨h1, h2⟩ | ⟨h1, A', c', B', d', M, mc, h2, h3, h6⟩⟩ := h
  · unfold rcV rcM
    rw [if_neg h1, if_neg h1]
    exact ⟨none, 0, none, 0, none, 0, h2, twoN_0 _ _, IsB.nil _ _, hb⟩
  · unfold rcV rcM
    rw [if_pos h1, if_pos h1, h1]
    exact ⟨A', c', B', d', M, mc, h2, h3, h6, hb⟩
theorem rpC (e : UE) (n r : Int) (b : List UInt8) : RpC e n r b (rpV e n r b) (rpB e n r b) (repE e n r b) := fun W A c B d D dc hH hD => (replyU e A B c d n r D dc b W hH hD).mono fun en W' h => by
  obtain ⟨hb, ⟨h1, h2⟩ | ⟨h1, A', c', B', d', g, h2, h3, h4, h6⟩⟩ := h
  · unfold rpV rpB
    rw [if_neg h1, if_neg h1]
    exact ⟨_, h2, ⟨none, 0, none, 0, none, 0, 0, rfl, ownU_0 _ _, IsB.nil _ _⟩, hb⟩
  · unfold rpV rpB
    rw [if_pos h1, if_pos h1, h1]
    exact ⟨_, h2, ⟨A', c', B', d', _, _, _, rfl, h3, h6⟩, hb⟩
theorem rpR (e : UE) (n r : Int) (b : List UInt8) : RpR e n r b (rpV e n r b) (rpB e n r b) (repE e n r b) := fun W A c B d D dc hH hd hD => (replyR e A B c d n r D dc b W hH hd hD).mono fun en W' h => by
  obtain ⟨hb, ⟨h1, h2⟩ | ⟨h1, A', c', B', d', M, l, mc, h2, h3, h6⟩⟩ := h
  · unfold rpV rpB
    rw [if_neg h1, if_neg h1]
    exact ⟨none, 0, none, 0, none, 0, 0, h2, twoN_0 _ _, IsB.nil _ _, hb⟩
  · unfold rpV rpB
    rw [if_pos h1, if_pos h1, h1]
    exact ⟨A', c', B', d', M, l, mc, h2, h3, h6, hb⟩
theorem lsC (e : UE) : LsC 82 e (lsV e) (lsL e) (uE e) := fun W A c B d hH => (lostU e A B c d W hH).mono fun en W' h => by
  obtain ⟨hb, ⟨h1, h2⟩ | ⟨h1, A', c', h2, h3⟩⟩ := h
  · unfold lsV lsL
    rw [if_neg h1, if_neg h1]
    exact ⟨none, 0, h2, OwnN.nil _ _ _, hb⟩
  · unfold lsV lsL
    rw [if_pos h1, if_pos h1, h1]
    exact ⟨A', c', h2, h3, hb⟩
theorem lsR (e : UE) : LsC 83 e (lsV e) (lsL e) (uE e) := fun W A c B d hH => (lostR e A B c d W hH).mono fun en W' h => by
  obtain ⟨hb, ⟨h1, h2⟩ | ⟨h1, A', c', h2, h3⟩⟩ := h
  · unfold lsV lsL
    rw [if_neg h1, if_neg h1]
    exact ⟨none, 0, h2, OwnN.nil _ _ _, hb⟩
  · unfold lsV lsL
    rw [if_pos h1, if_pos h1, h1]
    exact ⟨A', c', h2, h3, hb⟩
theorem enC (m : RM) : EnC 63 m (enB m) (enX m) := fun W A c hA => (encode m A c W hA).mono fun en W' h => by
  obtain ⟨hb, ⟨h1, h2⟩ | ⟨h1, g, l, h2, h3, h4, h5⟩⟩ := h
  · unfold enB enX
    rw [if_neg (by rw [h1]; simp), if_neg (by rw [h1]; simp)]
    exact ⟨none, 0, 0, h2, IsB.nil _ _, hb⟩
  · unfold enB enX
    rw [if_pos h1, if_pos h1]
    exact ⟨_, l, l, h4, h5, hb⟩
theorem enR (m : RM) : EnC 84 m (enB m) (enX m) := fun W A c hA => (encodeR m A c W hA).mono fun en W' h => by
  obtain ⟨hb, ⟨h1, h2⟩ | ⟨h1, D, l, dc, h4, h5⟩⟩ := h
  · unfold enB enX
    rw [if_neg (by rw [h1]; simp), if_neg (by rw [h1]; simp)]
    exact ⟨none, 0, 0, h2, IsB.nil _ _, hb⟩
  · unfold enB enX
    rw [if_pos h1, if_pos h1]
    exact ⟨D, l, dc, h4, h5, hb⟩
theorem deC {F : Nat} {ms : List UInt8} (h : ∀ (W : World) (D : Option Addr) (dc : Nat), IsB W D ms.length ms → ms.length ≤ dc → Calls Try.prog F #[.slice D ms.length dc] W (DecP ms W)) : DcM F ms (deM ms) (deX ms) := fun W D dc hD hc => (h W D dc hD hc).mono fun en W' h => by
  obtain ⟨hb, ⟨h1, h2⟩ | ⟨h1, A, c, h2, h3⟩⟩ := h
  · unfold deM deX
    rw [if_neg (by rw [h1]; simp), if_neg (by rw [h1]; simp)]
    exact ⟨none, 0, h2, IsB.nil _ _, hb⟩
  · unfold deM deX
    rw [if_pos h1, if_pos h1]
    exact ⟨A, c, h2, h3.isB, hb⟩
end Go.Proofs.Ythjkhambmgepdaa

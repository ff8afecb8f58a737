/- The law UrpcExact: the program and its reference answer alike. -/
import Derived.Test.YthjkhambmgepdaaEe
import Derived.Test.YthjkhambmgepdaaUw
namespace Go.Proofs.Ythjkhambmgepdaa
open Go.RowKit
set_option linter.unusedVariables false
set_option linter.unusedSimpArgs false
/-- What stays through the law: the two boxes of the parameters, the copy, and two boxes for the answers. -/
structure LX (W : World) (e : UE) (A : Option Addr) (c : Nat) (B : Option Addr) (d : Nat) (m : RM) (Am : Option Addr) (cm gx ga gb : Nat) (Ax : Option Addr) (cx : Nat) (Bx : Option Addr) (dx : Nat) (w : World) : Prop where
  bl : Below W.heap.size W w
  ru : Row w W.heap.size 112 (UEV e A c B d)
  rr : Row w (W.heap.size + 1) 97 (RMV m Am cm)
  rx : Row w gx 112 (UEV e Ax cx Bx dx)
  ox : OwnU w W.heap.size e Ax cx Bx dx
  ua : UR w ga
  ub : UR w gb
  lx : W.heap.size + 1 < gx
  la : gx < ga
  lb : ga < gb
theorem UR.below {w w' : World} {g : Nat} (h : UR w g) (hb : Below w.heap.size w w') : UR w' g := by
  obtain ⟨e, A, c, B, d, r⟩ := h
  exact ⟨e, A, c, B, d, r.below hb r.lt⟩
theorem UR.upd {w w' : World} {g b : Nat} (h : UR w g) (u : Upd w w' b) (hb : g ≠ b) : UR w' g := by
  obtain ⟨e, A, c, B, d, r⟩ := h
  exact ⟨e, A, c, B, d, r.upd u hb⟩
theorem UR.lt {w : World} {g : Nat} (h : UR w g) : g < w.heap.size := by
  obtain ⟨e, A, c, B, d, r⟩ := h
  exact r.lt
section
variable {W : World} {e : UE} {A : Option Addr} {c : Nat} {B : Option Addr} {d : Nat} {m : RM} {Am : Option Addr} {cm gx ga gb : Nat} {Ax : Option Addr} {cx : Nat} {Bx : Option Addr} {dx : Nat} {w w' : World}
theorem LX.below (h : LX W e A c B d m Am cm gx ga gb Ax cx Bx dx w) (hb : Below w.heap.size w w') : LX W e A c B d m Am cm gx ga gb Ax cx Bx dx w' := ⟨h.bl.trans (hb.mono h.bl.size), h.ru.below hb h.ru.lt, h.rr.below hb h.rr.lt, h.rx.below hb h.rx.lt, h.ox.below hb, h.ua.below hb, h.ub.below hb, h.lx, h.la, h.lb⟩
theorem LX.drew (h : LX W e A c B d m Am cm gx ga gb Ax cx Bx dx w) : LX W e A c B d m Am cm gx ga gb Ax cx Bx dx w.drew := h.below (Below.refl _ _).drew
theorem LX.putA (h : LX W e A c B d m Am cm gx ga gb Ax cx Bx dx w) (u : Upd w w' ga) {v : UE} {A1 B1 : Option Addr} {c1 d1 : Nat} (r : Row w' ga 112 (UEV v A1 c1 B1 d1)) : LX W e A c B d m Am cm gx ga gb Ax cx Bx dx w' := by
  have h1 := h.lx
  have h2 := h.la
  have h3 := h.lb
  obtain ⟨_, _, _, _, _, r0⟩ := h.ua
  exact ⟨Upd.below h.bl u (by omega), h.ru.upd u (by omega), h.rr.upd u (by omega), h.rx.upd u (by omega), h.ox.keeps (Keeps.upd (ts := [112]) u r0 (by simp)) (by decide), ⟨_, _, _, _, _, r⟩, h.ub.upd u (by omega), h1, h2, h3⟩
theorem LX.putB (h : LX W e A c B d m Am cm gx ga gb Ax cx Bx dx w) (u : Upd w w' gb) {v : UE} {A1 B1 : Option Addr} {c1 d1 : Nat} (r : Row w' gb 112 (UEV v A1 c1 B1 d1)) : LX W e A c B d m Am cm gx ga gb Ax cx Bx dx w' := by
  have h1 := h.lx
  have h2 := h.la
  have h3 := h.lb
  obtain ⟨_, _, _, _, _, r0⟩ := h.ub
  exact ⟨Upd.below h.bl u (by omega), h.ru.upd u (by omega), h.rr.upd u (by omega), h.rx.upd u (by omega), h.ox.keeps (Keeps.upd (ts := [112]) u r0 (by simp)) (by decide), h.ua.upd u (by omega), ⟨_, _, _, _, _, r⟩, h1, h2, h3⟩
theorem LX.putR (h : LX W e A c B d m Am cm gx ga gb Ax cx Bx dx w) {g : Nat} (hg : gb < g) (u : Upd w w' g) (hr : RR w g) : LX W e A c B d m Am cm gx ga gb Ax cx Bx dx w' := by
  have h1 := h.lx
  have h2 := h.la
  have h3 := h.lb
  obtain ⟨_, _, _, r0⟩ := hr
  exact ⟨Upd.below h.bl u (by omega), h.ru.upd u (by omega), h.rr.upd u (by omega), h.rx.upd u (by omega), h.ox.keeps (Keeps.upd (ts := [97]) u r0 (by simp)) (by decide), h.ua.upd u (by omega), h.ub.upd u (by omega), h1, h2, h3⟩
theorem LX.xh (h : LX W e A c B d m Am cm gx ga gb Ax cx Bx dx w) (h1 : e.cs.length ≤ 1000) (h2 : e.ss.length ≤ 1000) : HeldU w e Ax cx Bx dx := h.ox.held h1 h2
end
/-- The chain of a drawn region which stores an end, and then a message in a new box. -/
def RvS (L : World → Prop) (base lo ga ia : Nat) (v : UE) (m : RM) (k : Nat) (us : Nat → Value) (w : World) : Prop := L w ∧ (1 ≤ k → ∃ A c B d, Row w ga 112 (UEV v A c B d) ∧ OwnU w base v A c B d) ∧ (2 ≤ k → ∃ g D dc, us ia = .pointer (some ⟨g, 0, none⟩) ∧ lo ≤ g ∧ Row w g 97 (RMV m D dc) ∧ IsB w D m.b.length m.b)
theorem RvS.loc {L : World → Prop} {base lo ga ia is it : Nat} {v : UE} {m : RM} {ops : Array Oper} (hw : waits (opOf ops is) ia = true) : ∀ c us us' w', (∀ k, mayAt ops [is, it] c k = false ∨ k ∈ [is, it].take c → us k = us' k) → RvS L base lo ga ia v m c us w' → RvS L base lo ga ia v m c us' w' := by
  intro c us us' w' hk ⟨a, b, h⟩
  refine ⟨a, b, fun hc => ?_⟩
  rw [← hk ia (.inl (mayAt_no (d := 0) hw (by omega) (by simp)))]
  exact h hc
set_option maxRecDepth 100000 in
set_option maxHeartbeats 8000000 in
theorem urpc_big1 (e : UE) (A : Option Addr) (c : Nat) (B : Option Addr) (d : Nat) (s n k r : Int) (D : Option Addr) (bc : Nat) (b : List UInt8) (M : Option Addr) (mc : Nat) (ms : List UInt8) (m : RM) (Am : Option Addr) (cm : Nat) (W : World)  (g1 : 30 < e.cs.length) : Calls Try.prog 17 #[.agg (UEV e A c B d), .int .i64 s, .int .i64 n, .int .i64 k, .int .i64 r, .slice D b.length bc, .slice M ms.length mc, .agg (RMV m Am cm)] W (True1 W) := by
  have dg : decide (30 < e.cs.length) = true := dt (by omega)
  have dgi : decide ((30 : Int) < (e.cs.length : Int)) = true := dt (by omega)
  have hB0 := ((Below.refl W.heap.size W).alloc (Nat.le_refl _) (.cells (UEV e A c B d) 112)).alloc (by simp) (.cells (RMV m Am cm) 97)
  have ru := (Row.born W 112 (UEV e A c B d)).alloc (.cells (RMV m Am cm) 97)
  have rr : Row ((W.alloc (.cells (UEV e A c B d) 112)).alloc (.cells (RMV m Am cm) 97)) (W.heap.size + 1) 97 (RMV m Am cm) := Row.bornAt' (w := W.alloc (.cells (UEV e A c B d) 112)) (by simp) 97 _
  go_enter Try.func17, Try.ntmps17
  go_upto_region 1 with (fail)
  change Code.wp _ _ _ _ ((W.alloc (.cells (UEV e A c B d) 112)).alloc (.cells (RMV m Am cm) 97))
  generalize ((W.alloc (.cells (UEV e A c B d) 112)).alloc (.cells (RMV m Am cm) 97)) = w0 at *
  have q3 : w0.cell? ⟨W.heap.size, 3, none⟩ = some (.slice A e.cs.length c) := ru.cell 3
  have q4 : w0.cell? ⟨W.heap.size, 4, none⟩ = some (.slice B e.ss.length d) := ru.cell 4
  have p4 : w0.cell? ⟨W.heap.size + 1, 4, none⟩ = some (.slice Am m.b.length cm) := rr.cell 4
  go_wp2_with (go_at_call 62; refine (awake32 _).mono ?_; rintro en wz ⟨rfl, hbz⟩)
  go_ret
  exact ⟨rfl, hB0.trans (hbz.mono hB0.size)⟩
set_option maxRecDepth 100000 in
set_option maxHeartbeats 8000000 in
theorem urpc_big2 (e : UE) (A : Option Addr) (c : Nat) (B : Option Addr) (d : Nat) (s n k r : Int) (D : Option Addr) (bc : Nat) (b : List UInt8) (M : Option Addr) (mc : Nat) (ms : List UInt8) (m : RM) (Am : Option Addr) (cm : Nat) (W : World) (g1 : e.cs.length ≤ 30) (g2 : 30 < e.ss.length) : Calls Try.prog 17 #[.agg (UEV e A c B d), .int .i64 s, .int .i64 n, .int .i64 k, .int .i64 r, .slice D b.length bc, .slice M ms.length mc, .agg (RMV m Am cm)] W (True1 W) := by
  have dg1 : decide (30 < e.cs.length) = false := df (by omega)
  have dg1i : decide ((30 : Int) < (e.cs.length : Int)) = false := df (by omega)
  have dg : decide (30 < e.ss.length) = true := dt (by omega)
  have dgi : decide ((30 : Int) < (e.ss.length : Int)) = true := dt (by omega)
  have hB0 := ((Below.refl W.heap.size W).alloc (Nat.le_refl _) (.cells (UEV e A c B d) 112)).alloc (by simp) (.cells (RMV m Am cm) 97)
  have ru := (Row.born W 112 (UEV e A c B d)).alloc (.cells (RMV m Am cm) 97)
  have rr : Row ((W.alloc (.cells (UEV e A c B d) 112)).alloc (.cells (RMV m Am cm) 97)) (W.heap.size + 1) 97 (RMV m Am cm) := Row.bornAt' (w := W.alloc (.cells (UEV e A c B d) 112)) (by simp) 97 _
  go_enter Try.func17, Try.ntmps17
  go_upto_region 1 with (fail)
  change Code.wp _ _ _ _ ((W.alloc (.cells (UEV e A c B d) 112)).alloc (.cells (RMV m Am cm) 97))
  generalize ((W.alloc (.cells (UEV e A c B d) 112)).alloc (.cells (RMV m Am cm) 97)) = w0 at *
  have q3 : w0.cell? ⟨W.heap.size, 3, none⟩ = some (.slice A e.cs.length c) := ru.cell 3
  have q4 : w0.cell? ⟨W.heap.size, 4, none⟩ = some (.slice B e.ss.length d) := ru.cell 4
  have p4 : w0.cell? ⟨W.heap.size + 1, 4, none⟩ = some (.slice Am m.b.length cm) := rr.cell 4
  go_wp2_with (go_at_call 62; refine (awake32 _).mono ?_; rintro en wz ⟨rfl, hbz⟩)
  go_ret
  exact ⟨rfl, hB0.trans (hbz.mono hB0.size)⟩
set_option maxRecDepth 100000 in
set_option maxHeartbeats 8000000 in
theorem urpc_big3 (e : UE) (A : Option Addr) (c : Nat) (B : Option Addr) (d : Nat) (s n k r : Int) (D : Option Addr) (bc : Nat) (b : List UInt8) (M : Option Addr) (mc : Nat) (ms : List UInt8) (m : RM) (Am : Option Addr) (cm : Nat) (W : World) (g1 : e.cs.length ≤ 30) (g2 : e.ss.length ≤ 30) (g3 : 1000 < b.length) : Calls Try.prog 17 #[.agg (UEV e A c B d), .int .i64 s, .int .i64 n, .int .i64 k, .int .i64 r, .slice D b.length bc, .slice M ms.length mc, .agg (RMV m Am cm)] W (True1 W) := by
  have dg1 : decide (30 < e.cs.length) = false := df (by omega)
  have dg1i : decide ((30 : Int) < (e.cs.length : Int)) = false := df (by omega)
  have dg2 : decide (30 < e.ss.length) = false := df (by omega)
  have dg2i : decide ((30 : Int) < (e.ss.length : Int)) = false := df (by omega)
  have dg : decide (1000 < b.length) = true := dt (by omega)
  have dgi : decide ((1000 : Int) < (b.length : Int)) = true := dt (by omega)
  have hB0 := ((Below.refl W.heap.size W).alloc (Nat.le_refl _) (.cells (UEV e A c B d) 112)).alloc (by simp) (.cells (RMV m Am cm) 97)
  have ru := (Row.born W 112 (UEV e A c B d)).alloc (.cells (RMV m Am cm) 97)
  have rr : Row ((W.alloc (.cells (UEV e A c B d) 112)).alloc (.cells (RMV m Am cm) 97)) (W.heap.size + 1) 97 (RMV m Am cm) := Row.bornAt' (w := W.alloc (.cells (UEV e A c B d) 112)) (by simp) 97 _
  go_enter Try.func17, Try.ntmps17
  go_upto_region 1 with (fail)
  change Code.wp _ _ _ _ ((W.alloc (.cells (UEV e A c B d) 112)).alloc (.cells (RMV m Am cm) 97))
  generalize ((W.alloc (.cells (UEV e A c B d) 112)).alloc (.cells (RMV m Am cm) 97)) = w0 at *
  have q3 : w0.cell? ⟨W.heap.size, 3, none⟩ = some (.slice A e.cs.length c) := ru.cell 3
  have q4 : w0.cell? ⟨W.heap.size, 4, none⟩ = some (.slice B e.ss.length d) := ru.cell 4
  have p4 : w0.cell? ⟨W.heap.size + 1, 4, none⟩ = some (.slice Am m.b.length cm) := rr.cell 4
  go_wp2_with (go_at_call 62; refine (awake32 _).mono ?_; rintro en wz ⟨rfl, hbz⟩)
  go_ret
  exact ⟨rfl, hB0.trans (hbz.mono hB0.size)⟩
set_option maxRecDepth 100000 in
set_option maxHeartbeats 8000000 in
theorem urpc_big4 (e : UE) (A : Option Addr) (c : Nat) (B : Option Addr) (d : Nat) (s n k r : Int) (D : Option Addr) (bc : Nat) (b : List UInt8) (M : Option Addr) (mc : Nat) (ms : List UInt8) (m : RM) (Am : Option Addr) (cm : Nat) (W : World) (g1 : e.cs.length ≤ 30) (g2 : e.ss.length ≤ 30) (g3 : b.length ≤ 1000) (g4 : 1000 < ms.length) : Calls Try.prog 17 #[.agg (UEV e A c B d), .int .i64 s, .int .i64 n, .int .i64 k, .int .i64 r, .slice D b.length bc, .slice M ms.length mc, .agg (RMV m Am cm)] W (True1 W) := by
  have dg1 : decide (30 < e.cs.length) = false := df (by omega)
  have dg1i : decide ((30 : Int) < (e.cs.length : Int)) = false := df (by omega)
  have dg2 : decide (30 < e.ss.length) = false := df (by omega)
  have dg2i : decide ((30 : Int) < (e.ss.length : Int)) = false := df (by omega)
  have dg3 : decide (1000 < b.length) = false := df (by omega)
  have dg3i : decide ((1000 : Int) < (b.length : Int)) = false := df (by omega)
  have dg : decide (1000 < ms.length) = true := dt (by omega)
  have dgi : decide ((1000 : Int) < (ms.length : Int)) = true := dt (by omega)
  have hB0 := ((Below.refl W.heap.size W).alloc (Nat.le_refl _) (.cells (UEV e A c B d) 112)).alloc (by simp) (.cells (RMV m Am cm) 97)
  have ru := (Row.born W 112 (UEV e A c B d)).alloc (.cells (RMV m Am cm) 97)
  have rr : Row ((W.alloc (.cells (UEV e A c B d) 112)).alloc (.cells (RMV m Am cm) 97)) (W.heap.size + 1) 97 (RMV m Am cm) := Row.bornAt' (w := W.alloc (.cells (UEV e A c B d) 112)) (by simp) 97 _
  go_enter Try.func17, Try.ntmps17
  go_upto_region 1 with (fail)
  change Code.wp _ _ _ _ ((W.alloc (.cells (UEV e A c B d) 112)).alloc (.cells (RMV m Am cm) 97))
  generalize ((W.alloc (.cells (UEV e A c B d) 112)).alloc (.cells (RMV m Am cm) 97)) = w0 at *
  have q3 : w0.cell? ⟨W.heap.size, 3, none⟩ = some (.slice A e.cs.length c) := ru.cell 3
  have q4 : w0.cell? ⟨W.heap.size, 4, none⟩ = some (.slice B e.ss.length d) := ru.cell 4
  have p4 : w0.cell? ⟨W.heap.size + 1, 4, none⟩ = some (.slice Am m.b.length cm) := rr.cell 4
  go_wp2_with (go_at_call 62; refine (awake32 _).mono ?_; rintro en wz ⟨rfl, hbz⟩)
  go_ret
  exact ⟨rfl, hB0.trans (hbz.mono hB0.size)⟩
set_option maxRecDepth 100000 in
set_option maxHeartbeats 8000000 in
theorem urpc_big5 (e : UE) (A : Option Addr) (c : Nat) (B : Option Addr) (d : Nat) (s n k r : Int) (D : Option Addr) (bc : Nat) (b : List UInt8) (M : Option Addr) (mc : Nat) (ms : List UInt8) (m : RM) (Am : Option Addr) (cm : Nat) (W : World) (g1 : e.cs.length ≤ 30) (g2 : e.ss.length ≤ 30) (g3 : b.length ≤ 1000) (g4 : ms.length ≤ 1000) (g5 : 1000 < m.b.length) : Calls Try.prog 17 #[.agg (UEV e A c B d), .int .i64 s, .int .i64 n, .int .i64 k, .int .i64 r, .slice D b.length bc, .slice M ms.length mc, .agg (RMV m Am cm)] W (True1 W) := by
  have dg1 : decide (30 < e.cs.length) = false := df (by omega)
  have dg1i : decide ((30 : Int) < (e.cs.length : Int)) = false := df (by omega)
  have dg2 : decide (30 < e.ss.length) = false := df (by omega)
  have dg2i : decide ((30 : Int) < (e.ss.length : Int)) = false := df (by omega)
  have dg3 : decide (1000 < b.length) = false := df (by omega)
  have dg3i : decide ((1000 : Int) < (b.length : Int)) = false := df (by omega)
  have dg4 : decide (1000 < ms.length) = false := df (by omega)
  have dg4i : decide ((1000 : Int) < (ms.length : Int)) = false := df (by omega)
  have dg : decide (1000 < m.b.length) = true := dt (by omega)
  have dgi : decide ((1000 : Int) < (m.b.length : Int)) = true := dt (by omega)
  have hB0 := ((Below.refl W.heap.size W).alloc (Nat.le_refl _) (.cells (UEV e A c B d) 112)).alloc (by simp) (.cells (RMV m Am cm) 97)
  have ru := (Row.born W 112 (UEV e A c B d)).alloc (.cells (RMV m Am cm) 97)
  have rr : Row ((W.alloc (.cells (UEV e A c B d) 112)).alloc (.cells (RMV m Am cm) 97)) (W.heap.size + 1) 97 (RMV m Am cm) := Row.bornAt' (w := W.alloc (.cells (UEV e A c B d) 112)) (by simp) 97 _
  go_enter Try.func17, Try.ntmps17
  go_upto_region 1 with (fail)
  change Code.wp _ _ _ _ ((W.alloc (.cells (UEV e A c B d) 112)).alloc (.cells (RMV m Am cm) 97))
  generalize ((W.alloc (.cells (UEV e A c B d) 112)).alloc (.cells (RMV m Am cm) 97)) = w0 at *
  have q3 : w0.cell? ⟨W.heap.size, 3, none⟩ = some (.slice A e.cs.length c) := ru.cell 3
  have q4 : w0.cell? ⟨W.heap.size, 4, none⟩ = some (.slice B e.ss.length d) := ru.cell 4
  have p4 : w0.cell? ⟨W.heap.size + 1, 4, none⟩ = some (.slice Am m.b.length cm) := rr.cell 4
  go_wp2_with (go_at_call 62; refine (awake32 _).mono ?_; rintro en wz ⟨rfl, hbz⟩)
  go_ret
  exact ⟨rfl, hB0.trans (hbz.mono hB0.size)⟩
set_option maxRecDepth 100000 in
set_option maxHeartbeats 16000000 in
theorem urpc_main (e : UE) (A : Option Addr) (c : Nat) (B : Option Addr) (d : Nat) (s n k r : Int) (D : Option Addr) (bc : Nat) (b : List UInt8) (M : Option Addr) (mc : Nat) (ms : List UInt8) (m : RM) (Am : Option Addr) (cm : Nat) (W : World) (v1 v4 v5 v6 v7 : UE) (x1 n4 x4 x5 x6 x7 x8 x9 : Int) (t1 : Bool) (b4 b6 b8 : List UInt8) (m5 m9 : RM) (l7 : List Int) (hN1 : NwC 71 k v1 x1) (hN2 : NwC 72 k v1 x1) (h10 : ∀ w, HeldU w v1 none 0 none 0) (hV1 : VdC 74 e t1) (hV2 : VdC 75 e t1)
    (hC1 : ClC e s b v4 n4 b4 x4) (hC2 : ClR e s b v4 n4 b4 x4) (l41 : v4.cs.length ≤ 1000) (l42 : v4.ss.length ≤ 1000)
    (hR1 : RcC e ms v5 m5 x5) (hR2 : RcR e ms v5 m5 x5) (l51 : v5.cs.length ≤ 1000) (l52 : v5.ss.length ≤ 1000)
    (hP1 : RpC e n r b v6 b6 x6) (hP2 : RpR e n r b v6 b6 x6) (l61 : v6.cs.length ≤ 1000) (l62 : v6.ss.length ≤ 1000)
    (hL1 : LsC 82 e v7 l7 x7) (hL2 : LsC 83 e v7 l7 x7) (h70 : ∀ w, HeldU w v7 none 0 none 0) (hln : l7.length ≤ 1000)
    (hE1 : EnC 63 m b8 x8) (hE2 : EnC 84 m b8 x8) (hD1 : DcM 64 ms m9 x9) (hD2 : DcM 85 ms m9 x9)
    (hH : HeldU W e A c B d) (hd : e.ss.length ≤ d) (hb : IsB W D b.length b) (hm : IsB W M ms.length ms) (hmc : ms.length ≤ mc) (hr : IsB W Am m.b.length m.b) (g1 : e.cs.length ≤ 30) (g2 : e.ss.length ≤ 30) (g3 : b.length ≤ 1000) (g4 : ms.length ≤ 1000) (g5 : m.b.length ≤ 1000) : Calls Try.prog 17 #[.agg (UEV e A c B d), .int .i64 s, .int .i64 n, .int .i64 k, .int .i64 r, .slice D b.length bc, .slice M ms.length mc, .agg (RMV m Am cm)] W (True1 W) := by
  have dg1 : decide (30 < e.cs.length) = false := df (by omega)
  have dg1i : decide ((30 : Int) < (e.cs.length : Int)) = false := df (by omega)
  have dg2 : decide (30 < e.ss.length) = false := df (by omega)
  have dg2i : decide ((30 : Int) < (e.ss.length : Int)) = false := df (by omega)
  have dg3 : decide (1000 < b.length) = false := df (by omega)
  have dg3i : decide ((1000 : Int) < (b.length : Int)) = false := df (by omega)
  have dg4 : decide (1000 < ms.length) = false := df (by omega)
  have dg4i : decide ((1000 : Int) < (ms.length : Int)) = false := df (by omega)
  have dg5 : decide (1000 < m.b.length) = false := df (by omega)
  have dg5i : decide ((1000 : Int) < (m.b.length : Int)) = false := df (by omega)
  have hB0 := ((Below.refl W.heap.size W).alloc (Nat.le_refl _) (.cells (UEV e A c B d) 112)).alloc (by simp) (.cells (RMV m Am cm) 97)
  have ru := (Row.born W 112 (UEV e A c B d)).alloc (.cells (RMV m Am cm) 97)
  have rr : Row ((W.alloc (.cells (UEV e A c B d) 112)).alloc (.cells (RMV m Am cm) 97)) (W.heap.size + 1) 97 (RMV m Am cm) := Row.bornAt' (w := W.alloc (.cells (UEV e A c B d) 112)) (by simp) 97 _
  go_enter Try.func17, Try.ntmps17
  go_upto_region 1 with (fail)
  change Code.wp _ _ _ _ ((W.alloc (.cells (UEV e A c B d) 112)).alloc (.cells (RMV m Am cm) 97))
  generalize ((W.alloc (.cells (UEV e A c B d) 112)).alloc (.cells (RMV m Am cm) 97)) = w0 at *
  have q3 : w0.cell? ⟨W.heap.size, 3, none⟩ = some (.slice A e.cs.length c) := ru.cell 3
  have q4 : w0.cell? ⟨W.heap.size, 4, none⟩ = some (.slice B e.ss.length d) := ru.cell 4
  have p4 : w0.cell? ⟨W.heap.size + 1, 4, none⟩ = some (.slice Am m.b.length cm) := rr.cell 4
  go_upto_region 3 with (fail)
  clear q3 q4 p4 dg1 dg1i dg2 dg2i dg3 dg3i dg4 dg4i dg5 dg5i
  have hl1 := ru.lt
  have hl2 := rr.lt
  have hH0 := hH.below hB0
  go_upto_region 4 with (first | ((with_reducible refine wp_load_g ?_ ru.range Try.underlying112 rfl (uev_info _ _ _ _ _) ?_ ?_); rfl; rfl) | (go_at_call 70; (with_reducible refine (copyU e A B c d _ hH0).mono ?_); rintro en w1 ⟨Ax, cx, Bx, dx, rfl, ho, hb1⟩) | ((with_reducible refine wp_row_store (L := UEV e Ax cx Bx dx) (Row.bornAt' (g := w1.heap.size) rfl 112 _) ?_ (uev_info _ _ _ _ _) (uev_one _ _ _ _ _) ?_ ?_ ?_); rfl; rfl; rfl; intro w2 u2 rx))
  have hal := Upd.below ((Below.refl w1.heap.size w1).alloc (Nat.le_refl _) (.cells ZU 112)) u2 (Nat.le_refl _)
  have hbl := hb1.trans (hal.mono hb1.size)
  have ru := ru.below hbl hl1
  have rr := rr.below hbl hl2
  have ox := (ho.below hal).lower hB0.size
  have hB2 := hB0.trans (hbl.mono hB0.size)
  have hgx : W.heap.size + 1 < w1.heap.size := Nat.lt_of_lt_of_le hl2 hb1.size
  clear hal hbl hb1 u2 ho hH0 hB0 hl1 hl2
  generalize w1.heap.size = gx at *
  have hl1 := ru.lt
  have hl2 := rr.lt
  have hlx := rx.lt
  go_upto_region 5 with (first | (go_at_call 71; refine (hN1 _).mono ?_; rintro en w3 ⟨rfl, hb3⟩) | ((with_reducible refine wp_row_store (L := UEV v1 none 0 none 0) (Row.bornAt' (g := w3.heap.size) rfl 112 _) ?_ (uev_info _ _ _ _ _) (uev_one _ _ _ _ _) ?_ ?_ ?_); rfl; rfl; rfl; intro w4 u4 ra))
  have hal := Upd.below ((Below.refl w3.heap.size w3).alloc (Nat.le_refl _) (.cells ZU 112)) u4 (Nat.le_refl _)
  have hbl := hb3.trans (hal.mono hb3.size)
  have ru := ru.below hbl hl1
  have rr := rr.below hbl hl2
  have rx := rx.below hbl hlx
  have ox := ox.below hbl
  have hB4 := hB2.trans (hbl.mono hB2.size)
  have hga : gx < w3.heap.size := Nat.lt_of_lt_of_le hlx hb3.size
  clear hal hbl hb3 u4 hB2 hl1 hl2 hlx
  generalize w3.heap.size = ga at *
  have hl1 := ru.lt
  have hl2 := rr.lt
  have hlx := rx.lt
  have hla := ra.lt
  go_upto_region 6 with (first | (go_at_call 72; refine (hN2 _).mono ?_; rintro en w5 ⟨rfl, hb5⟩) | ((with_reducible refine wp_row_store (L := UEV v1 none 0 none 0) (Row.bornAt' (g := w5.heap.size) rfl 112 _) ?_ (uev_info _ _ _ _ _) (uev_one _ _ _ _ _) ?_ ?_ ?_); rfl; rfl; rfl; intro w6 u6 rb))
  have hal := Upd.below ((Below.refl w5.heap.size w5).alloc (Nat.le_refl _) (.cells ZU 112)) u6 (Nat.le_refl _)
  have hbl := hb5.trans (hal.mono hb5.size)
  have hgb : ga < w5.heap.size := Nat.lt_of_lt_of_le hla hb5.size
  have ra := ra.below hbl hla
  have hL : LX W e A c B d m Am cm gx ga w5.heap.size Ax cx Bx dx w6 := ⟨hB4.trans (hbl.mono hB4.size), ru.below hbl hl1, rr.below hbl hl2, rx.below hbl hlx, ox.below hbl, ⟨_, _, _, _, _, ra⟩, ⟨_, _, _, _, _, rb⟩, hgx, hga, hgb⟩
  clear hal hbl hb5 u6 hB4 hl1 hl2 hlx hla ru rr rx ox hgx hga hgb
  generalize w5.heap.size = gb at *
  refine wp_region_told (n := 289) (fun w' => Below w6.heap.size w6 w') (fun _ _ => True) (by kernel_rfl) (by kernel_rfl) (by rfl) (Below.refl _ _).drew ?_
  refine walk_pure (v := .agg (UEV v1 none 0 none 0)) (fun _ => trivial) (fun _ => rfl) ?_ ?_; (focus (intro us w9 hS9 hF; exact exec_load_g (ra.below hS9 ra.lt).range Try.underlying112 rfl (uev_info _ _ _ _ _) rfl)); simp only [Act.put, List.setIfInBounds_toArray, List.set_cons_zero, List.set_cons_succ, Nat.reduceAdd]
  refine walk_pure (v := .agg (UEV v1 none 0 none 0)) (fun _ => trivial) (fun _ => rfl) ?_ ?_; (focus (intro us w9 hS9 hF; exact exec_load_g (rb.below hS9 rb.lt).range Try.underlying112 rfl (uev_info _ _ _ _ _) rfl)); simp only [Act.put, List.setIfInBounds_toArray, List.set_cons_zero, List.set_cons_succ, Nat.reduceAdd]
  refine walk_fix (v := .bool true) ?_ ?_; (focus (intro us w9 hS9 hF K hK; clear hF; go_simp; refine (same_u rfl (h10 w9) (h10 w9)).mono ?_; rintro en w' ⟨rfl, hbw⟩; exact hK _ (below_on hS9 hbw) trivial)); simp only [Act.put, List.setIfInBounds_toArray, List.set_cons_zero, List.set_cons_succ, Nat.reduceAdd]
  refine walk_pure (v := .bool false) (fun _ => trivial) (fun _ => rfl) ?_ ?_; (focus (intro us w9 hS9 hF; clear hF; go_simp; (try with_reducible rfl); done)); simp only [Act.put, List.setIfInBounds_toArray, List.set_cons_zero, List.set_cons_succ, Nat.reduceAdd]
  refine walk_pure (v := .bool false) (fun _ => trivial) (fun _ => rfl) ?_ ?_; (focus (intro us w9 hS9 hF; clear hF; go_simp; (try with_reducible rfl); done)); simp only [Act.put, List.setIfInBounds_toArray, List.set_cons_zero, List.set_cons_succ, Nat.reduceAdd]
  refine walk_pure (v := .int .i64 x1) (fun _ => trivial) (fun _ => rfl) ?_ ?_; (focus (intro us w9 hS9 hF; clear hF; go_simp; (try with_reducible rfl); done)); simp only [Act.put, List.setIfInBounds_toArray, List.set_cons_zero, List.set_cons_succ, Nat.reduceAdd]
  refine walk_pure (v := .int .i64 x1) (fun _ => trivial) (fun _ => rfl) ?_ ?_; (focus (intro us w9 hS9 hF; clear hF; go_simp; (try with_reducible rfl); done)); simp only [Act.put, List.setIfInBounds_toArray, List.set_cons_zero, List.set_cons_succ, Nat.reduceAdd]
  refine walk_pure (v := .bool false) (fun _ => trivial) (fun _ => rfl) ?_ ?_; (focus (intro us w9 hS9 hF; clear hF; go_simp; (try with_reducible rfl); done)); simp only [Act.put, List.setIfInBounds_toArray, List.set_cons_zero, List.set_cons_succ, Nat.reduceAdd]
  refine walk_pure (v := .bool false) (fun _ => trivial) (fun _ => rfl) ?_ ?_; (focus (intro us w9 hS9 hF; clear hF; go_simp; (try with_reducible rfl); done)); simp only [Act.put, List.setIfInBounds_toArray, List.set_cons_zero, List.set_cons_succ, Nat.reduceAdd]
  refine walk_pure (v := .bool false) (fun _ => trivial) (fun _ => rfl) ?_ ?_; (focus (intro us w9 hS9 hF; clear hF; go_simp; (try with_reducible rfl); done)); simp only [Act.put, List.setIfInBounds_toArray, List.set_cons_zero, List.set_cons_succ, Nat.reduceAdd]
  refine walk_pure (v := .agg (UEV e Ax cx Bx dx)) (fun _ => trivial) (fun _ => rfl) ?_ ?_; (focus (intro us w9 hS9 hF; exact exec_load_g (hL.rx.below hS9 hL.rx.lt).range Try.underlying112 rfl (uev_info _ _ _ _ _) rfl)); simp only [Act.put, List.setIfInBounds_toArray, List.set_cons_zero, List.set_cons_succ, Nat.reduceAdd]
  refine walk_fix (v := .bool t1) ?_ ?_; (focus (intro us w9 hS9 hF K hK; clear hF; go_simp; refine (hV1 _ _ _ _ _ ((hL.below hS9).xh (by omega) (by omega))).mono ?_; rintro en w' ⟨rfl, hbw⟩; exact hK _ (below_on hS9 hbw) trivial)); simp only [Act.put, List.setIfInBounds_toArray, List.set_cons_zero, List.set_cons_succ, Nat.reduceAdd]
  refine walk_pure (v := .agg (UEV e A c B d)) (fun _ => trivial) (fun _ => rfl) ?_ ?_; (focus (intro us w9 hS9 hF; exact exec_load_g (hL.ru.below hS9 hL.ru.lt).range Try.underlying112 rfl (uev_info _ _ _ _ _) rfl)); simp only [Act.put, List.setIfInBounds_toArray, List.set_cons_zero, List.set_cons_succ, Nat.reduceAdd]
  refine walk_fix (v := .bool t1) ?_ ?_; (focus (intro us w9 hS9 hF K hK; clear hF; go_simp; refine (hV2 _ _ _ _ _ (hH.below (hL.below hS9).bl)).mono ?_; rintro en w' ⟨rfl, hbw⟩; exact hK _ (below_on hS9 hbw) trivial)); simp only [Act.put, List.setIfInBounds_toArray, List.set_cons_zero, List.set_cons_succ, Nat.reduceAdd]
  refine walk_pure (v := .bool false) (fun _ => trivial) (fun _ => rfl) ?_ ?_; (focus (intro us w9 hS9 hF; clear hF; go_simp; (try with_reducible rfl); done)); simp only [Act.put, List.setIfInBounds_toArray, List.set_cons_zero, List.set_cons_succ, Nat.reduceAdd]
  refine walk_pure (v := .bool false) (fun _ => trivial) (fun _ => rfl) ?_ ?_; (focus (intro us w9 hS9 hF; clear hF; go_simp; (try with_reducible rfl); done)); simp only [Act.put, List.setIfInBounds_toArray, List.set_cons_zero, List.set_cons_succ, Nat.reduceAdd]
  refine walk_done fun us w7 hS7 hF => ?_
  have hL := hL.below hS7
  clear hF hS7 ra rb
  go_upto_region 8 with (fail)
  refine wp_region_late (n := 289) [10] (fun k9 _ w' => LX W e A c B d m Am cm gx ga gb Ax cx Bx dx w' ∧ (1 ≤ k9 → ∃ A c B d, Row w' ga 112 (UEV v4 A c B d) ∧ OwnU w' W.heap.size v4 A c B d)) G8 (by kernel_rfl) (by kernel_rfl) (by rfl) (fun _ _ _ _ _ h => h) ⟨hL.drew, fun h => by omega⟩ ?_
  refine late_pure (by simp) (fun w => G8.refl _) (v := .agg (UEV e Ax cx Bx dx)) (fun _ => rfl) ?_ ?_; (focus (intro c9 us w9 hm9 hS9 hF; exact exec_load_g hS9.1.rx.range Try.underlying112 rfl (uev_info _ _ _ _ _) rfl)); simp only [Act.put, List.setIfInBounds_toArray, List.set_cons_zero, List.set_cons_succ, Nat.reduceAdd]
  refine late_pure (by simp) (fun w => G8.refl _) (v := ?_) (fun _ => rfl) ?_ ?_; rotate_left; (focus (intro c9 us w9 hm9 hS9 hF; clear hS9; clear hF hm9; go_simp; (try with_reducible rfl); done)); simp only [Act.put, List.setIfInBounds_toArray, List.set_cons_zero, List.set_cons_succ, Nat.reduceAdd]
  refine late_pure (by simp) (fun w => G8.refl _) (v := ?_) (fun _ => rfl) ?_ ?_; rotate_left; (focus (intro c9 us w9 hm9 hS9 hF; clear hS9; clear hF hm9; go_simp; (try with_reducible rfl); done)); simp only [Act.put, List.setIfInBounds_toArray, List.set_cons_zero, List.set_cons_succ, Nat.reduceAdd]
  refine late_free (by simp) (CyV b) (CyV.mono) ?_ ?_; (focus (intro c9 us w9 hm9 hS9 hF K hK; have hc9 : c9 < 1 := (by rcases Nat.lt_or_ge c9 1 with h9 | h9; exact h9; exact absurd hm9 (by rw [mayAt_no (d := 0) (by kernel_rfl) (by omega) (by decide)]; decide)); clear hF; rw [if_pos (by rfl)]; exact step_copy_b (P := Try.prog) (c' := bc) Try.underlying44 info_b (hb.below hS9.1.bl) (by omega) rfl rfl (fun A' c'' w' h1 h2 => hK _ w' ⟨hS9.1.below h2, fun h => by omega⟩ (G8.below h2) ⟨A', c'', rfl, h1.isB, h1.capM⟩))); simp only [Act.put, List.setIfInBounds_toArray, List.set_cons_zero, List.set_cons_succ, Nat.reduceAdd]
  refine late_free (by simp) (D4V W.heap.size v4 n4 b4 x4) (D4V.mono) ?_ ?_; (focus (intro c9 us w9 hm9 hS9 hF K hK; have hc9 : c9 < 1 := (by rcases Nat.lt_or_ge c9 1 with h9 | h9; exact h9; exact absurd hm9 (by rw [mayAt_no (d := 0) (by kernel_rfl) (by omega) (by decide)]; decide)); obtain ⟨D8, dc8, hu, ho8, hc8⟩ := hF (3, CyV b) (by simp) (by kernel_rfl); clear hF; dsimp only at hu; simp only [hu] at hK ⊢; go_simp; refine (hC1 _ _ _ _ _ _ _ (hS9.1.xh (by omega) (by omega)) ho8).mono ?_; rintro en w' ⟨u, rfl, hu, h2⟩; exact hK u w' ⟨hS9.1.below h2, fun h => by omega⟩ (G8.below h2) (hu.lower hS9.1.bl.size))); simp only [Act.put, List.setIfInBounds_toArray, List.set_cons_zero, List.set_cons_succ, Nat.reduceAdd]
  refine late_free (by simp) (D4V W.heap.size v4 n4 b4 x4) (D4V.mono) ?_ ?_; (focus (intro c9 us w9 hm9 hS9 hF K hK; have hv9 := hF (4, D4V W.heap.size v4 n4 b4 x4) (by simp) (by kernel_rfl); clear hF; dsimp only at hv9; go_simp; exact hK _ w9 hS9 (G8.refl _) hv9)); simp only [Act.put, List.setIfInBounds_toArray, List.set_cons_zero, List.set_cons_succ, Nat.reduceAdd]
  refine late_free (by simp) (EuV W.heap.size v4) (EuV.mono) ?_ ?_; (focus (intro c9 us w9 hm9 hS9 hF K hK; obtain ⟨A9, c9, B9, d9, D9, l9, dc9, hu, h1, h2⟩ := hF (5, D4V W.heap.size v4 n4 b4 x4) (by simp) (by kernel_rfl); clear hF; dsimp only at hu; simp only [hu] at hK ⊢; go_simp; exact hK _ w9 hS9 (G8.refl _) (⟨A9, c9, B9, d9, rfl, h1⟩))); simp only [Act.put, List.setIfInBounds_toArray, List.set_cons_zero, List.set_cons_succ, Nat.reduceAdd]
  refine late_pure (by simp) (fun w => G8.refl _) (v := .int .i64 n4) (fun _ => rfl) ?_ ?_; (focus (intro c9 us w9 hm9 hS9 hF; obtain ⟨A9, c9, B9, d9, D9, l9, dc9, hu, h1, h2⟩ := hF (5, D4V W.heap.size v4 n4 b4 x4) (by simp) (by kernel_rfl); clear hF; dsimp only at hu; simp only [hu]; go_simp)); simp only [Act.put, List.setIfInBounds_toArray, List.set_cons_zero, List.set_cons_succ, Nat.reduceAdd]
  refine late_free (by simp) (ByV b4) (ByV.mono) ?_ ?_; (focus (intro c9 us w9 hm9 hS9 hF K hK; obtain ⟨A9, c9, B9, d9, D9, l9, dc9, hu, h1, h2⟩ := hF (5, D4V W.heap.size v4 n4 b4 x4) (by simp) (by kernel_rfl); clear hF; dsimp only at hu; simp only [hu] at hK ⊢; go_simp; exact hK _ w9 hS9 (G8.refl _) (⟨D9, l9, dc9, rfl, h2⟩))); simp only [Act.put, List.setIfInBounds_toArray, List.set_cons_zero, List.set_cons_succ, Nat.reduceAdd]
  refine late_pure (by simp) (fun w => G8.refl _) (v := .int .i64 x4) (fun _ => rfl) ?_ ?_; (focus (intro c9 us w9 hm9 hS9 hF; obtain ⟨A9, c9, B9, d9, D9, l9, dc9, hu, h1, h2⟩ := hF (5, D4V W.heap.size v4 n4 b4 x4) (by simp) (by kernel_rfl); clear hF; dsimp only at hu; simp only [hu]; go_simp)); simp only [Act.put, List.setIfInBounds_toArray, List.set_cons_zero, List.set_cons_succ, Nat.reduceAdd]
  refine late_store rfl ?_ ?_; (focus (intro us w9 hS9 hF K hK; obtain ⟨A9, c9, B9, d9, hu9, h1⟩ := hF (6, EuV W.heap.size v4) (by simp) (by kernel_rfl); dsimp only at hu9; clear hF; simp only [hu9] at hK ⊢; rw [if_pos (by rfl)]; obtain ⟨e3, A3, c3, B3, d3, hr3⟩ := hS9.1.ua; exact step_put (L := UEV v4 A9 c9 B9 d9) hr3 rfl (uev_info _ _ _ _ _) (uev_one _ _ _ _ _) rfl rfl (fun w' u' r' => hK w' ⟨hS9.1.putA u' r', fun _ => ⟨A9, c9, B9, d9, r', h1.keeps (Keeps.upd (ts := [112]) u' hr3 (by simp)) (by decide)⟩⟩ (G8.putU hS9.1.ua u' r')))); (try simp only [Nat.reduceAdd])
  refine late_pure (by simp) (fun w => G8.refl _) (v := ?_) (fun _ => rfl) ?_ ?_; rotate_left; (focus (intro c9 us w9 hm9 hS9 hF; clear hS9; clear hF hm9; go_simp; (try with_reducible rfl); done)); simp only [Act.put, List.setIfInBounds_toArray, List.set_cons_zero, List.set_cons_succ, Nat.reduceAdd]
  refine late_free (by simp) (ByV b4) (ByV.mono) ?_ ?_; (focus (intro c9 us w9 hm9 hS9 hF K hK; have hv9 := hF (8, ByV b4) (by simp) (by kernel_rfl); clear hF; dsimp only at hv9; go_simp; exact hK _ w9 hS9 (G8.refl _) hv9)); simp only [Act.put, List.setIfInBounds_toArray, List.set_cons_zero, List.set_cons_succ, Nat.reduceAdd]
  refine late_pure (by simp) (fun w => G8.refl _) (v := ?_) (fun _ => rfl) ?_ ?_; rotate_left; (focus (intro c9 us w9 hm9 hS9 hF; clear hS9; clear hF hm9; go_simp; (try with_reducible rfl); done)); simp only [Act.put, List.setIfInBounds_toArray, List.set_cons_zero, List.set_cons_succ, Nat.reduceAdd]
  refine late_done fun us w8 hS8 hF => ?_
  obtain ⟨D8, l8, dc8, hu12, hI8⟩ := hF (12, ByV b4) (by simp)
  obtain ⟨hL, ha8⟩ := hS8
  obtain ⟨A8, c8, B8, d8, ra, ho⟩ := ha8 (by omega)
  clear hF ha8
  dsimp only at hu12
  simp only [hu12]
  clear hu12
  obtain ⟨ez, Az, cz, Bz, dz, rb⟩ := hL.ub
  have hH8 := hH.below hL.bl
  have hb8 := hb.below hL.bl
  have hm8 := hm.below hL.bl
  have hlb := hL.lb
  have hlt := rb.lt
  go_upto_region 10 with (first | ((with_reducible refine wp_load_g ?_ hL.ru.range Try.underlying112 rfl (uev_info _ _ _ _ _) ?_ ?_); rfl; rfl) | (go_at_call 77; refine (hC2 _ _ _ _ _ _ _ hH8 hb8).mono ?_; rintro en w9 ⟨A9, c9, B9, d9, D9, l9, dc9, rfl, hh9, hI9, hb9⟩; have rb := rb.below hb9 rb.lt) | ((with_reducible refine wp_row_store (L := UEV v4 A9 c9 B9 d9) rb rfl (uev_info _ _ _ _ _) (uev_one _ _ _ _ _) ?_ ?_ ?_); rfl; rfl; intro wa ua rba))
  have hG := G8.putU ⟨_, _, _, _, _, rb⟩ ua rba
  have ra := (ra.below hb9 ra.lt).upd ua (by omega)
  have ho := (ho.below hb9).keeps hG.k (by decide)
  have hL := (hL.below hb9).putB ua rba
  have hh9 := hh9.keeps hG.k (by decide)
  have hI8 := (hI8.below hb9).g8 hG
  have hI9 := hI9.g8 hG
  have hHa := ho.held l41 l42
  have hHb := hh9.held
  clear hb9 hG ua rb hH8 hb8 hm8 ho hh9 hlb hlt
  go_upto_region 12 with (first | ((with_reducible refine wp_load_g ?_ ra.range Try.underlying112 rfl (uev_info _ _ _ _ _) ?_ ?_); rfl; rfl) | ((with_reducible refine wp_load_g ?_ rba.range Try.underlying112 rfl (uev_info _ _ _ _ _) ?_ ?_); rfl; rfl) | (go_at_call 73; (with_reducible refine (same_u rfl hHa hHb).mono ?_); rintro en wc ⟨rfl, hbq⟩; have s1 := run_str (P := Try.prog) (w := wc) (dst := 9) Try.underlying44 Try.underlying5 Try.underlying9 dc8 (hI8.below hbq); have s2 := run_str (P := Try.prog) (w := wc) (dst := 9) Try.underlying44 Try.underlying5 Try.underlying9 dc9 (hI9.below hbq)))
  have hL := hL.below hbq
  clear hbq s1 s2 hHa hHb hI8 hI9 ra rba
  refine wp_region_late (n := 289) [9, 10] (RvS (LX W e A c B d m Am cm gx ga gb Ax cx Bx dx) W.heap.size (gb + 1) ga 8 v5 m5) G8 (by kernel_rfl) (by kernel_rfl) (by rfl) (RvS.loc (by kernel_rfl)) ⟨hL.drew, fun h => by omega, fun h => by omega⟩ ?_
  refine late_pure (by simp) (fun w => G8.refl _) (v := .agg (UEV e Ax cx Bx dx)) (fun _ => rfl) ?_ ?_; (focus (intro c9 us w9 hm9 hS9 hF; exact exec_load_g hS9.1.rx.range Try.underlying112 rfl (uev_info _ _ _ _ _) rfl)); simp only [Act.put, List.setIfInBounds_toArray, List.set_cons_zero, List.set_cons_succ, Nat.reduceAdd]
  refine late_pure (by simp) (fun w => G8.refl _) (v := ?_) (fun _ => rfl) ?_ ?_; rotate_left; (focus (intro c9 us w9 hm9 hS9 hF; clear hS9; clear hF hm9; go_simp; (try with_reducible rfl); done)); simp only [Act.put, List.setIfInBounds_toArray, List.set_cons_zero, List.set_cons_succ, Nat.reduceAdd]
  refine late_free (by simp) (CyV ms) (CyV.mono) ?_ ?_; (focus (intro c9 us w9 hm9 hS9 hF K hK; have hc9 : c9 < 1 := (by rcases Nat.lt_or_ge c9 1 with h9 | h9; exact h9; exact absurd hm9 (by rw [mayAt_no (d := 0) (by kernel_rfl) (by omega) (by decide)]; decide)); clear hF; rw [if_pos (by rfl)]; exact step_copy_b (P := Try.prog) (c' := mc) Try.underlying44 info_b (hm.below hS9.1.bl) (by omega) rfl rfl (fun A' c'' w' h1 h2 => hK _ w' ⟨hS9.1.below h2, fun h => by omega, fun h => by omega⟩ (G8.below h2) ⟨A', c'', rfl, h1.isB, h1.capM⟩))); simp only [Act.put, List.setIfInBounds_toArray, List.set_cons_zero, List.set_cons_succ, Nat.reduceAdd]
  refine late_free (by simp) (DRV W.heap.size v5 m5 x5) (DRV.mono) ?_ ?_; (focus (intro c9 us w9 hm9 hS9 hF K hK; have hc9 : c9 < 1 := (by rcases Nat.lt_or_ge c9 1 with h9 | h9; exact h9; exact absurd hm9 (by rw [mayAt_no (d := 0) (by kernel_rfl) (by omega) (by decide)]; decide)); obtain ⟨D8, dc8, hu, ho8, hc8⟩ := hF (2, CyV ms) (by simp) (by kernel_rfl); clear hF; dsimp only at hu; simp only [hu] at hK ⊢; go_simp; refine (hR1 _ _ _ _ _ _ _ (hS9.1.xh (by omega) (by omega)) ho8 hc8).mono ?_; rintro en w' ⟨u, rfl, hu, h2⟩; exact hK u w' ⟨hS9.1.below h2, fun h => by omega, fun h => by omega⟩ (G8.below h2) (hu.lower hS9.1.bl.size))); simp only [Act.put, List.setIfInBounds_toArray, List.set_cons_zero, List.set_cons_succ, Nat.reduceAdd]
  refine late_free (by simp) (DRV W.heap.size v5 m5 x5) (DRV.mono) ?_ ?_; (focus (intro c9 us w9 hm9 hS9 hF K hK; have hv9 := hF (3, DRV W.heap.size v5 m5 x5) (by simp) (by kernel_rfl); clear hF; dsimp only at hv9; go_simp; exact hK _ w9 hS9 (G8.refl _) hv9)); simp only [Act.put, List.setIfInBounds_toArray, List.set_cons_zero, List.set_cons_succ, Nat.reduceAdd]
  refine late_free (by simp) (EuV W.heap.size v5) (EuV.mono) ?_ ?_; (focus (intro c9 us w9 hm9 hS9 hF K hK; obtain ⟨A9, c9, B9, d9, D9, dc9, hu, h1, h2⟩ := hF (4, DRV W.heap.size v5 m5 x5) (by simp) (by kernel_rfl); clear hF; dsimp only at hu; simp only [hu] at hK ⊢; go_simp; exact hK _ w9 hS9 (G8.refl _) (⟨A9, c9, B9, d9, rfl, h1⟩))); simp only [Act.put, List.setIfInBounds_toArray, List.set_cons_zero, List.set_cons_succ, Nat.reduceAdd]
  refine late_free (by simp) (RmV m5) (RmV.mono) ?_ ?_; (focus (intro c9 us w9 hm9 hS9 hF K hK; obtain ⟨A9, c9, B9, d9, D9, dc9, hu, h1, h2⟩ := hF (4, DRV W.heap.size v5 m5 x5) (by simp) (by kernel_rfl); clear hF; dsimp only at hu; simp only [hu] at hK ⊢; go_simp; exact hK _ w9 hS9 (G8.refl _) (⟨D9, dc9, rfl, h2⟩))); simp only [Act.put, List.setIfInBounds_toArray, List.set_cons_zero, List.set_cons_succ, Nat.reduceAdd]
  refine late_pure (by simp) (fun w => G8.refl _) (v := .int .i64 x5) (fun _ => rfl) ?_ ?_; (focus (intro c9 us w9 hm9 hS9 hF; obtain ⟨A9, c9, B9, d9, D9, dc9, hu, h1, h2⟩ := hF (4, DRV W.heap.size v5 m5 x5) (by simp) (by kernel_rfl); clear hF; dsimp only at hu; simp only [hu]; go_simp)); simp only [Act.put, List.setIfInBounds_toArray, List.set_cons_zero, List.set_cons_succ, Nat.reduceAdd]
  refine late_free (by simp) (PtR (gb + 1)) (PtR.mono) ?_ ?_; (focus (intro c9 us w9 hm9 hS9 hF K hK; have hc9 : c9 < 1 := (by rcases Nat.lt_or_ge c9 1 with h9 | h9; exact h9; exact absurd hm9 (by rw [mayAt_no (d := 0) (by kernel_rfl) (by omega) (by decide)]; decide)); clear hF; go_simp; exact hK _ _ ⟨hS9.1.below ((Below.refl _ _).alloc (Nat.le_refl _) (.cells ZRm 97)), fun h => by omega, fun h => by omega⟩ (G8.below ((Below.refl _ _).alloc (Nat.le_refl _) _)) ⟨w9.heap.size, rfl, hS9.1.ub.lt, rm0, none, 0, Row.born w9 97 ZRm⟩)); simp only [Act.put, List.setIfInBounds_toArray, List.set_cons_zero, List.set_cons_succ, Nat.reduceAdd]
  refine late_store rfl ?_ ?_; (focus (intro us w9 hS9 hF K hK; obtain ⟨A9, c9, B9, d9, hu9, h1⟩ := hF (5, EuV W.heap.size v5) (by simp) (by kernel_rfl); dsimp only at hu9; clear hF; simp only [hu9] at hK ⊢; rw [if_pos (by rfl)]; obtain ⟨e3, A3, c3, B3, d3, hr3⟩ := hS9.1.ua; exact step_put (L := UEV v5 A9 c9 B9 d9) hr3 rfl (uev_info _ _ _ _ _) (uev_one _ _ _ _ _) rfl rfl (fun w' u' r' => hK w' ⟨hS9.1.putA u' r', fun _ => ⟨A9, c9, B9, d9, r', h1.keeps (Keeps.upd (ts := [112]) u' hr3 (by simp)) (by decide)⟩, fun h => by omega⟩ (G8.putU hS9.1.ua u' r')))); (try simp only [Nat.reduceAdd])
  refine late_store rfl ?_ ?_; (focus (intro us w9 hS9 hF K hK; obtain ⟨D9, dc9, hu9, h1⟩ := hF (6, RmV m5) (by simp) (by kernel_rfl); obtain ⟨g9, hu, hg9, hrr⟩ := hF (8, PtR (gb + 1)) (by simp) (by kernel_rfl); dsimp only at hu9 hu; clear hF; simp only [hu9, hu] at hK ⊢; rw [if_pos (by rfl)]; have hrq := hrr; obtain ⟨m3, A3, c3, hr3⟩ := hrr; obtain ⟨s1, s2, -⟩ := hS9; obtain ⟨A4, c4, B4, d4, rA, oA⟩ := s2 (by omega); exact step_put (L := RMV m5 D9 dc9) hr3 rfl (rmv_info _ _ _) (rmv_one _ _ _) rfl rfl (fun w' u' r' => hK w' ⟨s1.putR (by omega) u' hrq, fun _ => ⟨A4, c4, B4, d4, rA.upd u' (by have := s1.lb; omega), oA.keeps (Keeps.upd (ts := [97]) u' hr3 (by simp)) (by decide)⟩, fun _ => ⟨g9, D9, dc9, hu, hg9, r', h1.g8 (G8.putR hrq u' r')⟩⟩ (G8.putR hrq u' r')))); (try simp only [Nat.reduceAdd])
  refine late_pure (by simp) (fun w => G8.refl _) (v := ?_) (fun _ => rfl) ?_ ?_; rotate_left; (focus (intro c9 us w9 hm9 hS9 hF; clear hS9; clear hF hm9; go_simp; (try with_reducible rfl); done)); simp only [Act.put, List.setIfInBounds_toArray, List.set_cons_zero, List.set_cons_succ, Nat.reduceAdd]
  refine late_done fun us w8 hS8 hF => ?_
  obtain ⟨hL, ha8, hp8⟩ := hS8
  obtain ⟨A8, c8, B8, d8, ra, ho⟩ := ha8 (by omega)
  obtain ⟨gp, D8, dc8, hu8, hgp, rp, hI8⟩ := hp8 (by omega)
  clear hF ha8 hp8
  simp only [hu8]
  clear hu8
  obtain ⟨ez, Az, cz, Bz, dz, rb⟩ := hL.ub
  have hH8 := hH.below hL.bl
  have hm8 := hm.below hL.bl
  have hlb := hL.lb
  have hlt := rb.lt
  go_upto_region 14 with (first | ((with_reducible refine wp_load_g ?_ hL.ru.range Try.underlying112 rfl (uev_info _ _ _ _ _) ?_ ?_); rfl; rfl) | (go_at_call 79; refine (hR2 _ _ _ _ _ _ _ hH8 hm8 hmc).mono ?_; rintro en w9 ⟨A9, c9, B9, d9, D9, dc9, rfl, hh9, hI9, hb9⟩; have rb := rb.below hb9 rb.lt; have hlt := rb.lt) | ((with_reducible refine wp_row_store (L := UEV v5 A9 c9 B9 d9) (rb.alloc _) rfl (uev_info _ _ _ _ _) (uev_one _ _ _ _ _) ?_ ?_ ?_); rfl; rfl; intro wa ua rba) | ((with_reducible refine wp_row_store (L := RMV m5 D9 dc9) ((Row.bornAt' (w := w9) rfl 97 _).upd ua (by omega)) rfl (rmv_info _ _ _) (rmv_one _ _ _) ?_ ?_ ?_); rfl; rfl; intro wb uq rq))
  have hbA := hb9.trans (((Below.refl w9.heap.size w9).alloc (Nat.le_refl _) (.cells ZRm 97)).mono hb9.size)
  have hbB : Below w9.heap.size w9 (w9.alloc (.cells ZRm 97)) := (Below.refl w9.heap.size w9).alloc (Nat.le_refl _) (.cells ZRm 97)
  have hG1 := G8.putU ⟨_, _, _, _, _, rb.alloc _⟩ ua rba
  have rq0 : RR wa w9.heap.size := ⟨rm0, none, 0, (Row.bornAt' (w := w9) rfl 97 ZRm).upd ua (by omega)⟩
  have hG2 := G8.putR rq0 uq rq
  have hl9 : gb < w9.heap.size := hlt
  have hl8 := ra.lt
  have hlp := rp.lt
  have h89 := hb9.size
  have ra := ((ra.below hbA hl8).upd ua (by omega)).upd uq (by omega)
  have rp := ((rp.below hbA hlp).upd ua (by omega)).upd uq (by omega)
  have ho := ((ho.below hbA).keeps hG1.k (by decide)).keeps hG2.k (by decide)
  have hI8 := ((hI8.below hbA).g8 hG1).g8 hG2
  have hL := ((hL.below hbA).putB ua rba).putR hl9 uq rq0
  have hh9 := ((hh9.below hbB).keeps hG1.k (by decide)).keeps hG2.k (by decide)
  have hI9 := ((hI9.below hbB).g8 hG1).g8 hG2
  have rb := rba.upd uq (by omega)
  have hHa := ho.held l51 l52
  have hHb := hh9.held
  clear hbA hbB hb9 hG1 hG2 rq0 ua uq rba hH8 hm8 ho hh9 hlb hlt hl9 hl8 hlp h89 hgp
  generalize w9.heap.size = gq at *
  go_upto_region 16 with (first | ((with_reducible refine wp_load_g ?_ ra.range Try.underlying112 rfl (uev_info _ _ _ _ _) ?_ ?_); rfl; rfl) | ((with_reducible refine wp_load_g ?_ rb.range Try.underlying112 rfl (uev_info _ _ _ _ _) ?_ ?_); rfl; rfl) | ((with_reducible refine wp_load_g ?_ rp.range Try.underlying97 rfl (rmv_info _ _ _) ?_ ?_); rfl; rfl) | ((with_reducible refine wp_load_g ?_ rq.range Try.underlying97 rfl (rmv_info _ _ _) ?_ ?_); rfl; rfl) | (go_at_call 73; (with_reducible refine (same_u rfl hHa hHb).mono ?_); rintro en wc ⟨rfl, hbq⟩; have rp := rp.below hbq rp.lt; have rq := rq.below hbq rq.lt; have hI8 := hI8.below hbq; have hI9 := hI9.below hbq; have hL := hL.below hbq) | (go_at_call 65; (with_reducible refine (sameR rfl hI8 hI9).mono ?_); rintro en wd ⟨rfl, hbr⟩; have hL := hL.below hbr))
  clear hbq hbr hHa hHb hI8 hI9 ra rb rp rq
  refine wp_region_late (n := 289) [10] (fun k9 _ w' => LX W e A c B d m Am cm gx ga gb Ax cx Bx dx w' ∧ (1 ≤ k9 → ∃ A c B d, Row w' ga 112 (UEV v6 A c B d) ∧ OwnU w' W.heap.size v6 A c B d)) G8 (by kernel_rfl) (by kernel_rfl) (by rfl) (fun _ _ _ _ _ h => h) ⟨hL.drew, fun h => by omega⟩ ?_
  refine late_pure (by simp) (fun w => G8.refl _) (v := .agg (UEV e Ax cx Bx dx)) (fun _ => rfl) ?_ ?_; (focus (intro c9 us w9 hm9 hS9 hF; exact exec_load_g hS9.1.rx.range Try.underlying112 rfl (uev_info _ _ _ _ _) rfl)); simp only [Act.put, List.setIfInBounds_toArray, List.set_cons_zero, List.set_cons_succ, Nat.reduceAdd]
  refine late_pure (by simp) (fun w => G8.refl _) (v := ?_) (fun _ => rfl) ?_ ?_; rotate_left; (focus (intro c9 us w9 hm9 hS9 hF; clear hS9; clear hF hm9; go_simp; (try with_reducible rfl); done)); simp only [Act.put, List.setIfInBounds_toArray, List.set_cons_zero, List.set_cons_succ, Nat.reduceAdd]
  refine late_pure (by simp) (fun w => G8.refl _) (v := ?_) (fun _ => rfl) ?_ ?_; rotate_left; (focus (intro c9 us w9 hm9 hS9 hF; clear hS9; clear hF hm9; go_simp; (try with_reducible rfl); done)); simp only [Act.put, List.setIfInBounds_toArray, List.set_cons_zero, List.set_cons_succ, Nat.reduceAdd]
  refine late_pure (by simp) (fun w => G8.refl _) (v := ?_) (fun _ => rfl) ?_ ?_; rotate_left; (focus (intro c9 us w9 hm9 hS9 hF; clear hS9; clear hF hm9; go_simp; (try with_reducible rfl); done)); simp only [Act.put, List.setIfInBounds_toArray, List.set_cons_zero, List.set_cons_succ, Nat.reduceAdd]
  refine late_free (by simp) (CyV b) (CyV.mono) ?_ ?_; (focus (intro c9 us w9 hm9 hS9 hF K hK; have hc9 : c9 < 1 := (by rcases Nat.lt_or_ge c9 1 with h9 | h9; exact h9; exact absurd hm9 (by rw [mayAt_no (d := 0) (by kernel_rfl) (by omega) (by decide)]; decide)); clear hF; rw [if_pos (by rfl)]; exact step_copy_b (P := Try.prog) (c' := bc) Try.underlying44 info_b (hb.below hS9.1.bl) (by omega) rfl rfl (fun A' c'' w' h1 h2 => hK _ w' ⟨hS9.1.below h2, fun h => by omega⟩ (G8.below h2) ⟨A', c'', rfl, h1.isB, h1.capM⟩))); simp only [Act.put, List.setIfInBounds_toArray, List.set_cons_zero, List.set_cons_succ, Nat.reduceAdd]
  refine late_free (by simp) (D3V W.heap.size v6 b6 x6) (D3V.mono) ?_ ?_; (focus (intro c9 us w9 hm9 hS9 hF K hK; have hc9 : c9 < 1 := (by rcases Nat.lt_or_ge c9 1 with h9 | h9; exact h9; exact absurd hm9 (by rw [mayAt_no (d := 0) (by kernel_rfl) (by omega) (by decide)]; decide)); obtain ⟨D8, dc8, hu, ho8, hc8⟩ := hF (4, CyV b) (by simp) (by kernel_rfl); clear hF; dsimp only at hu; simp only [hu] at hK ⊢; go_simp; refine (hP1 _ _ _ _ _ _ _ (hS9.1.xh (by omega) (by omega)) ho8).mono ?_; rintro en w' ⟨u, rfl, hu, h2⟩; exact hK u w' ⟨hS9.1.below h2, fun h => by omega⟩ (G8.below h2) (hu.lower hS9.1.bl.size))); simp only [Act.put, List.setIfInBounds_toArray, List.set_cons_zero, List.set_cons_succ, Nat.reduceAdd]
  refine late_free (by simp) (D3V W.heap.size v6 b6 x6) (D3V.mono) ?_ ?_; (focus (intro c9 us w9 hm9 hS9 hF K hK; have hv9 := hF (5, D3V W.heap.size v6 b6 x6) (by simp) (by kernel_rfl); clear hF; dsimp only at hv9; go_simp; exact hK _ w9 hS9 (G8.refl _) hv9)); simp only [Act.put, List.setIfInBounds_toArray, List.set_cons_zero, List.set_cons_succ, Nat.reduceAdd]
  refine late_free (by simp) (EuV W.heap.size v6) (EuV.mono) ?_ ?_; (focus (intro c9 us w9 hm9 hS9 hF K hK; obtain ⟨A9, c9, B9, d9, D9, l9, dc9, hu, h1, h2⟩ := hF (6, D3V W.heap.size v6 b6 x6) (by simp) (by kernel_rfl); clear hF; dsimp only at hu; simp only [hu] at hK ⊢; go_simp; exact hK _ w9 hS9 (G8.refl _) (⟨A9, c9, B9, d9, rfl, h1⟩))); simp only [Act.put, List.setIfInBounds_toArray, List.set_cons_zero, List.set_cons_succ, Nat.reduceAdd]
  refine late_free (by simp) (ByV b6) (ByV.mono) ?_ ?_; (focus (intro c9 us w9 hm9 hS9 hF K hK; obtain ⟨A9, c9, B9, d9, D9, l9, dc9, hu, h1, h2⟩ := hF (6, D3V W.heap.size v6 b6 x6) (by simp) (by kernel_rfl); clear hF; dsimp only at hu; simp only [hu] at hK ⊢; go_simp; exact hK _ w9 hS9 (G8.refl _) (⟨D9, l9, dc9, rfl, h2⟩))); simp only [Act.put, List.setIfInBounds_toArray, List.set_cons_zero, List.set_cons_succ, Nat.reduceAdd]
  refine late_pure (by simp) (fun w => G8.refl _) (v := .int .i64 x6) (fun _ => rfl) ?_ ?_; (focus (intro c9 us w9 hm9 hS9 hF; obtain ⟨A9, c9, B9, d9, D9, l9, dc9, hu, h1, h2⟩ := hF (6, D3V W.heap.size v6 b6 x6) (by simp) (by kernel_rfl); clear hF; dsimp only at hu; simp only [hu]; go_simp)); simp only [Act.put, List.setIfInBounds_toArray, List.set_cons_zero, List.set_cons_succ, Nat.reduceAdd]
  refine late_store rfl ?_ ?_; (focus (intro us w9 hS9 hF K hK; obtain ⟨A9, c9, B9, d9, hu9, h1⟩ := hF (7, EuV W.heap.size v6) (by simp) (by kernel_rfl); dsimp only at hu9; clear hF; simp only [hu9] at hK ⊢; rw [if_pos (by rfl)]; obtain ⟨e3, A3, c3, B3, d3, hr3⟩ := hS9.1.ua; exact step_put (L := UEV v6 A9 c9 B9 d9) hr3 rfl (uev_info _ _ _ _ _) (uev_one _ _ _ _ _) rfl rfl (fun w' u' r' => hK w' ⟨hS9.1.putA u' r', fun _ => ⟨A9, c9, B9, d9, r', h1.keeps (Keeps.upd (ts := [112]) u' hr3 (by simp)) (by decide)⟩⟩ (G8.putU hS9.1.ua u' r')))); (try simp only [Nat.reduceAdd])
  refine late_free (by simp) (ByV b6) (ByV.mono) ?_ ?_; (focus (intro c9 us w9 hm9 hS9 hF K hK; have hv9 := hF (8, ByV b6) (by simp) (by kernel_rfl); clear hF; dsimp only at hv9; go_simp; exact hK _ w9 hS9 (G8.refl _) hv9)); simp only [Act.put, List.setIfInBounds_toArray, List.set_cons_zero, List.set_cons_succ, Nat.reduceAdd]
  refine late_pure (by simp) (fun w => G8.refl _) (v := ?_) (fun _ => rfl) ?_ ?_; rotate_left; (focus (intro c9 us w9 hm9 hS9 hF; clear hS9; clear hF hm9; go_simp; (try with_reducible rfl); done)); simp only [Act.put, List.setIfInBounds_toArray, List.set_cons_zero, List.set_cons_succ, Nat.reduceAdd]
  refine late_done fun us w8 hS8 hF => ?_
  obtain ⟨D8, l8, dc8, hu12, hI8⟩ := hF (11, ByV b6) (by simp)
  obtain ⟨hL, ha8⟩ := hS8
  obtain ⟨A8, c8, B8, d8, ra, ho⟩ := ha8 (by omega)
  clear hF ha8
  dsimp only at hu12
  simp only [hu12]
  clear hu12
  obtain ⟨ez, Az, cz, Bz, dz, rb⟩ := hL.ub
  have hH8 := hH.below hL.bl
  have hb8 := hb.below hL.bl
  have hm8 := hm.below hL.bl
  have hlb := hL.lb
  have hlt := rb.lt
  go_upto_region 18 with (first | ((with_reducible refine wp_load_g ?_ hL.ru.range Try.underlying112 rfl (uev_info _ _ _ _ _) ?_ ?_); rfl; rfl) | (go_at_call 81; refine (hP2 _ _ _ _ _ _ _ hH8 hd hb8).mono ?_; rintro en w9 ⟨A9, c9, B9, d9, D9, l9, dc9, rfl, hh9, hI9, hb9⟩; have rb := rb.below hb9 rb.lt) | ((with_reducible refine wp_row_store (L := UEV v6 A9 c9 B9 d9) rb rfl (uev_info _ _ _ _ _) (uev_one _ _ _ _ _) ?_ ?_ ?_); rfl; rfl; intro wa ua rba))
  have hG := G8.putU ⟨_, _, _, _, _, rb⟩ ua rba
  have ra := (ra.below hb9 ra.lt).upd ua (by omega)
  have ho := (ho.below hb9).keeps hG.k (by decide)
  have hL := (hL.below hb9).putB ua rba
  have hh9 := hh9.keeps hG.k (by decide)
  have hI8 := (hI8.below hb9).g8 hG
  have hI9 := hI9.g8 hG
  have hHa := ho.held l61 l62
  have hHb := hh9.held
  clear hb9 hG ua rb hH8 hb8 hm8 ho hh9 hlb hlt
  go_upto_region 20 with (first | ((with_reducible refine wp_load_g ?_ ra.range Try.underlying112 rfl (uev_info _ _ _ _ _) ?_ ?_); rfl; rfl) | ((with_reducible refine wp_load_g ?_ rba.range Try.underlying112 rfl (uev_info _ _ _ _ _) ?_ ?_); rfl; rfl) | (go_at_call 73; (with_reducible refine (same_u rfl hHa hHb).mono ?_); rintro en wc ⟨rfl, hbq⟩; have s1 := run_str (P := Try.prog) (w := wc) (dst := 9) Try.underlying44 Try.underlying5 Try.underlying9 dc8 (hI8.below hbq); have s2 := run_str (P := Try.prog) (w := wc) (dst := 9) Try.underlying44 Try.underlying5 Try.underlying9 dc9 (hI9.below hbq)))
  have hL := hL.below hbq
  clear hbq s1 s2 hHa hHb hI8 hI9 ra rba
  obtain ⟨ez, Az, cz, Bz, dz, ra⟩ := hL.ua
  have hx8 := hL.xh (by omega) (by omega)
  have hlb := hL.lb
  go_upto_region 21 with (first | ((with_reducible refine wp_load_g ?_ hL.rx.range Try.underlying112 rfl (uev_info _ _ _ _ _) ?_ ?_); rfl; rfl) | (go_at_call 82; refine (hL1 _ _ _ _ _ hx8).mono ?_; rintro en w8 ⟨Ds, sc, rfl, hs, hb8⟩; have ra := ra.below hb8 ra.lt) | ((with_reducible refine wp_row_store (L := UEV v7 none 0 none 0) ra rfl (uev_info _ _ _ _ _) (uev_one _ _ _ _ _) ?_ ?_ ?_); rfl; rfl; intro w9 u9 raa))
  have hG := G8.putU ⟨_, _, _, _, _, ra⟩ u9 raa
  have hs := hs.keeps hG.k (by decide)
  have hL := (hL.below hb8).putA u9 raa
  clear hx8 hG u9 ra hb8
  obtain ⟨ey, Ay, cy, By, dy, rb⟩ := hL.ub
  have hH8 := hH.below hL.bl
  have hlt := rb.lt
  go_upto_region 22 with (first | ((with_reducible refine wp_load_g ?_ hL.ru.range Try.underlying112 rfl (uev_info _ _ _ _ _) ?_ ?_); rfl; rfl) | (go_at_call 83; refine (hL2 _ _ _ _ _ hH8).mono ?_; rintro en wa ⟨Dt, tc, rfl, ht, hba⟩; have rb := rb.below hba rb.lt) | ((with_reducible refine wp_row_store (L := UEV v7 none 0 none 0) rb rfl (uev_info _ _ _ _ _) (uev_one _ _ _ _ _) ?_ ?_ ?_); rfl; rfl; intro wb ub rba))
  have hG := G8.putU ⟨_, _, _, _, _, rb⟩ ub rba
  have ht := ht.keeps hG.k (by decide)
  have hs := (hs.below hba).keeps hG.k (by decide)
  have ra := (raa.below hba raa.lt).upd ub (by omega)
  have hL := (hL.below hba).putB ub rba
  clear hH8 hG ub rb hba raa hlt hlb
  go_upto_region 24 with (first | ((with_reducible refine wp_load_g ?_ ra.range Try.underlying112 rfl (uev_info _ _ _ _ _) ?_ ?_); rfl; rfl) | ((with_reducible refine wp_load_g ?_ rba.range Try.underlying112 rfl (uev_info _ _ _ _ _) ?_ ?_); rfl; rfl) | (go_at_call 73; (with_reducible refine (same_u rfl (h70 _) (h70 _)).mono ?_); rintro en wc ⟨rfl, hbq⟩))
  have hL := hL.below hbq
  have HS := Lib.hid (hs.isB.below hbq)
  have HT := Lib.hid (ht.isB.below hbq)
  clear hbq ra rba hs ht
  go_upto_region 25 with (fail)
  go_loopw [30] (fun i wr => ∃ j : Nat, j ≤ l7.length ∧ i = .int .i64 j ∧ Below wc.heap.size wc wr) (fun i _ => l7.length - (intOf i).toNat)
  case atStart => exact ⟨0, by omega, rfl, Below.refl _ _⟩
  case round =>
    obtain ⟨j, hj, rfl, hBl⟩ := hrel
    rcases Nat.lt_or_ge j l7.length with hjn | hjn
    · have dj : decide (j < l7.length) = true := decide_eq_true hjn
      have dji : decide ((j : Int) < (l7.length : Int)) = true := decide_eq_true (by omega)
      have hji : (j : Int) < l7.length := by omega
      have hj0 : (0 : Int) ≤ (j : Int) := by omega
      have HA2 := Lib.hid (HS.out.below hBl)
      have HB2 := Lib.hid (HT.out.below hBl)
      obtain ⟨bs, os, rfl⟩ := HS.out.form (by omega)
      obtain ⟨bt, ot, rfl⟩ := HT.out.form (by omega)
      obtain ⟨x, hx, hcx⟩ := HA2.out.idx hjn
      obtain ⟨y, hy, hcy⟩ := HB2.out.idx hjn
      obtain rfl : y = x := by rw [hx] at hy; injection hy with hy; exact hy.symm
      clear hx hy
      go_upto_region 27 with (fail)
      have hcx : wr.drew.cell? ⟨bs, os + j, none⟩ = some (.int .i64 y) := hcx
      have hcy : wr.drew.cell? ⟨bt, ot + j, none⟩ = some (.int .i64 y) := hcy
      refine wp_region_told (n := 289) (fun w' => w' = wr.drew) (fun _ _ => True) (by kernel_rfl) (by kernel_rfl) (by rfl) rfl ?_
      repeat (first | (refine walk_pure (v := ?_) (fun _ => trivial) (fun _ => rfl) ?_ ?_; rotate_left; (focus (intro us w9 hS9 hF; subst hS9; clear hF; go_simp; (try with_reducible rfl); done)); simp only [Act.put, List.setIfInBounds_toArray, List.set_cons_zero, List.set_cons_succ, Nat.reduceAdd]) | (refine walk_skip (fun _ => trivial) (fun _ => rfl) ?_; simp only [Act.put, List.setIfInBounds_toArray, List.set_cons_zero, List.set_cons_succ, Nat.reduceAdd]))
      refine walk_done fun us w9 hS9 hF => ?_
      subst hS9
      clear hF
      go_wp2
      exact ⟨⟨j + 1, by omega, by go_num, hBl.drew⟩, by simp [intOf]; omega⟩
    · have dj : decide (j < l7.length) = false := decide_eq_false (by omega)
      have dji : decide ((j : Int) < (l7.length : Int)) = false := decide_eq_false (by omega)
      have hL := hL.below hBl
      clear hjn HS HT hBl
      have hr8 := hr.below hL.bl
      go_upto_region 30 with (first | ((with_reducible refine wp_load_g ?_ hL.rr.range Try.underlying97 rfl (rmv_info _ _ _) ?_ ?_); rfl; rfl) | (go_at_call 63; refine (hE1 _ _ _ hr8).mono ?_; rintro en wd ⟨D3, i3, k3, rfl, hI3, hbd⟩))
      have hL := hL.below hbd
      have hr9 := hr.below hL.bl
      clear hbd hr8
      go_upto_region 31 with (first | ((with_reducible refine wp_load_g ?_ hL.rr.range Try.underlying97 rfl (rmv_info _ _ _) ?_ ?_); rfl; rfl) | (go_at_call 84; refine (hE2 _ _ _ hr9).mono ?_; rintro en we ⟨D4, i4, k4, rfl, hI4, hbe⟩))
      have hL := hL.below hbe
      have hI3 := hI3.below hbe
      clear hbe hr9
      have hm9 := hm.below hL.bl
      go_upto_region 32 with (first | (at_builtin; (refine wp_append_b (P := Try.prog) rfl _ _ 44 rfl Try.underlying44 info_b (OwnB.nil we we.heap.size 5) hm9 (by omega) (Nat.le_refl _) rfl rfl ?_); intro A1 n1 c1 wf hn1 ho1 hbf hg1 hat1; have hq1 := hn1.out; rw [Nat.zero_add] at hq1; subst hq1; simp only [List.nil_append] at ho1) | (go_at_call 64; refine (hD1 _ _ _ ho1.isB ho1.capM).mono ?_; rintro en wg ⟨Aq, cq, rfl, hIq, hbg⟩) | ((with_reducible refine wp_row_store (L := RMV m9 Aq cq) (Row.bornAt' (g := wg.heap.size) rfl 97 _) ?_ (rmv_info _ _ _) (rmv_one _ _ _) ?_ ?_ ?_); rfl; rfl; rfl; intro wh uh rq))
      have hal := Upd.below ((Below.refl wg.heap.size wg).alloc (Nat.le_refl _) (.cells ZRm 97)) uh (Nat.le_refl _)
      have hx := hbf.trans ((hbg.trans (hal.mono hbg.size)).mono hbf.size)
      have hIq := hIq.below hal
      have hL := hL.below hx
      have hI3 := hI3.below hx
      have hI4 := hI4.below hx
      have hm9 := hm.below hL.bl
      clear hal hx hbf hbg uh ho1 hn1 hg1 hat1
      generalize wg.heap.size = gq at *
      go_upto_region 33 with (first | (go_at_call 85; refine (hD2 _ _ _ hm9 hmc).mono ?_; rintro en wk ⟨Ap, cp, rfl, hIp, hbk⟩) | ((with_reducible refine wp_row_store (L := RMV m9 Ap cp) (Row.bornAt' (g := wk.heap.size) rfl 97 _) ?_ (rmv_info _ _ _) (rmv_one _ _ _) ?_ ?_ ?_); rfl; rfl; rfl; intro wl ul rp))
      have hal := Upd.below ((Below.refl wk.heap.size wk).alloc (Nat.le_refl _) (.cells ZRm 97)) ul (Nat.le_refl _)
      have hx := hbk.trans (hal.mono hbk.size)
      have hIp := hIp.below hal
      have rq := rq.below hx rq.lt
      have hIq := hIq.below hx
      have hL := hL.below hx
      have hI3 := hI3.below hx
      have hI4 := hI4.below hx
      clear hal hx hbk ul hm9
      generalize wk.heap.size = gp at *
      have s1 := run_str (P := Try.prog) (w := wl) (dst := 9) Try.underlying44 Try.underlying5 Try.underlying9 k3 (hI3)
      have s2 := run_str (P := Try.prog) (w := wl) (dst := 9) Try.underlying44 Try.underlying5 Try.underlying9 k4 (hI4)
      clear hI3 hI4
      go_wp2_with (first | ((with_reducible refine wp_load_g ?_ rq.range Try.underlying97 rfl (rmv_info _ _ _) ?_ ?_); rfl; rfl) | ((with_reducible refine wp_load_g ?_ rp.range Try.underlying97 rfl (rmv_info _ _ _) ?_ ?_); rfl; rfl) | (go_at_call 65; (with_reducible refine (sameR rfl hIq hIp).mono ?_); rintro en wm ⟨rfl, hbm⟩; have hL := hL.below hbm; have hx1 := hL.xh (by omega) (by omega); have hx2 := hH.below hL.bl) | ((with_reducible refine wp_load_g ?_ hL.rx.range Try.underlying112 rfl (uev_info _ _ _ _ _) ?_ ?_); rfl; rfl) | ((with_reducible refine wp_load_g ?_ hL.ru.range Try.underlying112 rfl (uev_info _ _ _ _ _) ?_ ?_); rfl; rfl) | (go_at_call 73; (with_reducible refine (same_u rfl hx1 hx2).mono ?_); rintro en wn ⟨rfl, hbn⟩; have hL := hL.below hbn) | (go_at_call 62; refine (awake32 _).mono ?_; rintro en wz ⟨rfl, hbz⟩))
      go_ret
      exact ⟨rfl, hL.bl.trans (hbz.mono hL.bl.size)⟩
theorem cs_len {e : UE} {s n r : Int} {b ms : List UInt8} (h1 : e.cs.length ≤ 30) (h2 : e.ss.length ≤ 30) : ((clE9 e s b).cs.length ≤ 1000 ∧ (clE9 e s b).ss.length ≤ 1000) ∧ ((rcV e ms).cs.length ≤ 1000 ∧ (rcV e ms).ss.length ≤ 1000) ∧ ((rpV e n r b).cs.length ≤ 1000 ∧ (rpV e n r b).ss.length ≤ 1000) := by
  refine ⟨?_, ?_, ?_⟩
  · unfold clE9
    split
    · simp [calU]; omega
    · simp [ue0]
  · unfold rcV
    split
    · unfold rcvU
      split
      · simp; omega
      · have := List.length_eraseIdx_le e.cs (e.cs.idxOf (dM ms).n)
        exact ⟨by show (e.cs.eraseIdx _).length ≤ 1000; omega, by show e.ss.length ≤ 1000; omega⟩
    · simp [ue0]
  · unfold rpV
    split
    · have := List.length_eraseIdx_le e.ss (e.ss.idxOf n)
      exact ⟨by show e.cs.length ≤ 1000; omega, by show (e.ss.eraseIdx _).length ≤ 1000; omega⟩
    · simp [ue0]
theorem nw_held (n : Int) (w : World) : HeldU w (nwV n) none 0 none 0 := by
  unfold nwV
  split
  · exact ⟨IsN.nil _ _, IsN.nil _ _, Nat.zero_le _, Nat.zero_le _⟩
  · exact heldU_0 _
theorem ls_held (e : UE) (w : World) : HeldU w (lsV e) none 0 none 0 := by
  unfold lsV
  split
  · exact ⟨IsN.nil _ _, IsN.nil _ _, Nat.zero_le _, Nat.zero_le _⟩
  · exact heldU_0 _
theorem walk_uexact (W : World) (e : UE) (A : Option Addr) (c : Nat) (B : Option Addr) (d : Nat) (s n k r : Int) (D : Option Addr) (nb bc : Nat) (zb : List Int) (M : Option Addr) (nm mc : Nat) (zm : List Int) (m : RM) (Am : Option Addr) (cm : Nat)
    (hu : IsN W A e.cs.length e.cs ∧ IsN W B e.ss.length e.ss ∧ e.ss.length ≤ d) (hws : (Lit.int .i64 s).wf = true) (hwn : (Lit.int .i64 n).wf = true) (hwk : (Lit.int .i64 k).wf = true) (hwr : (Lit.int .i64 r).wf = true) (hbr : IsRow .u8 W D nb bc zb) (hmr : IsRow .u8 W M nm mc zm) (hr : IsB W Am m.b.length m.b ∧ m.b.length ≤ cm) : Calls Try.prog 17 #[.agg (UEV e A c B d), .int .i64 s, .int .i64 n, .int .i64 k, .int .i64 r, .slice D nb bc, .slice M nm mc, .agg (RMV m Am cm)] W (True1 W) := by
  have hmc := hmr.cap
  obtain ⟨b, hb, -⟩ := hbr.isB
  obtain rfl := hb.1
  obtain ⟨ms, hm, -⟩ := hmr.isB
  obtain rfl := hm.1
  rcases Nat.lt_or_ge 30 e.cs.length with g1 | g1
  · exact urpc_big1 e A c B d s n k r D bc b M mc ms m Am cm W g1
  rcases Nat.lt_or_ge 30 e.ss.length with g2 | g2
  · exact urpc_big2 e A c B d s n k r D bc b M mc ms m Am cm W g1 g2
  rcases Nat.lt_or_ge 1000 b.length with g3 | g3
  · exact urpc_big3 e A c B d s n k r D bc b M mc ms m Am cm W g1 g2 g3
  rcases Nat.lt_or_ge 1000 ms.length with g4 | g4
  · exact urpc_big4 e A c B d s n k r D bc b M mc ms m Am cm W g1 g2 g3 g4
  rcases Nat.lt_or_ge 1000 m.b.length with g5 | g5
  · exact urpc_big5 e A c B d s n k r D bc b M mc ms m Am cm W g1 g2 g3 g4 g5
  have hl := cs_len (s := s) (n := n) (r := r) (b := b) (ms := ms) g1 g2
  have hll : (lsL e).length ≤ 1000 := by
    unfold lsL
    split
    · omega
    · simp
  exact urpc_main e A c B d s n k r D bc b M mc ms m Am cm W _ _ _ _ _ _ _ _ _ _ _ _ _ _ _ _ _ _ _ _
    (nwC (newU k)) (nwC (newRef k)) (nw_held k) (fun W A c B d hH => valid_is32 rfl hH) (fun W A c B d hH => valid_ref_is rfl hH) (clC e s b) (clR e s b) hl.1.1 hl.1.2 (rcC e ms (by omega)) (rcR e ms (by omega)) hl.2.1.1 hl.2.1.2
    (rpC e n r b) (rpR e n r b) hl.2.2.1 hl.2.2.2 (lsC e) (lsR e) (ls_held e) hll (enC m) (enR m) (deC (fun W D dc hD hc => decode D _ dc ms W hD (by omega) hc)) (deC (fun W D dc hD hc => decodeR ms D _ dc W hD (by omega) hc))
    ⟨hu.1, hu.2.1, by omega, by omega⟩ hu.2.2 hb hm hmc hr.1 g1 g2 g3 g4 g5
end Go.Proofs.Ythjkhambmgepdaa

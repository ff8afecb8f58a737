/- Texts Sum Mem Row Bits Wsum Make Fix Uvd Var Uv Uve App Cpy Afix Wuv Aby Byt, without what this claim does not use. -/
import Derived.WalkKit
import Derived.Deep.Draws
import Derived.Laws.OwnMore
import Derived.Deep.MidRow
import Derived.Laws.CopyOwn
import Derived.Test.YthjkhambmgepdaaRows
import Derived.WalkSpells
import Derived.WalkLawsBesides
import Derived.Lib.Hide
import Derived.Deep.OwnRows
import Derived.Laws.BytesArg
import Derived.IntWalk
import Derived.Deep.DeepCutAuto
import Derived.WalkMore
import Derived.Laws.AppendOwn
import Derived.Maps.AppendAt
import Derived.OwnWalk
namespace Go.Proofs.Ythjkhambmgepdaa
theorem zA {α : Type _} {a : α} {i : Nat} {l : List α} : l.toArray.setIfInBounds i a = (l.set i a).toArray := List.setIfInBounds_toArray ..
theorem zB {α : Type _} {a b : α} {l : List α} : (a :: l).set 0 b = b :: l := rfl
theorem zC {α : Type _} {a b : α} {l : List α} {n : Nat} : (a :: l).set (n + 1) b = a :: l.set n b := rfl
section
set_option linter.unusedVariables false
def normS (T : Nat) : Nat := if T = 0 then 0 else (T - 1) % 65535 + 1
def addS (s w : Nat) : Nat := if s + w > 65535 then s + w - 65535 else s + w
theorem normS_le (T : Nat) : normS T ≤ 65535 := by unfold normS; split <;> omega
theorem addS_norm (T w : Nat) (h : w ≤ 65535) : addS (normS T) w = normS (T + w) := by
  unfold addS normS
  by_cases h0 : T = 0
  · subst h0
    by_cases hw : w = 0
    · subst hw; rfl
    · rw [if_pos rfl, if_neg (by omega), if_neg (by omega)]; omega
  · rw [if_neg h0, if_neg (show T + w ≠ 0 by omega)]
    split <;> omega
def WS : List UInt8 → Nat
  | [] => 0
  | [a] => a.toNat * 256
  | a :: b :: r => a.toNat * 256 + b.toNat + WS r
theorem WS_append : ∀ (a9 bs : List UInt8), a9.length % 2 = 0 → WS (a9 ++ bs) = WS a9 + WS bs
  | [], bs, _ => by simp [WS]
  | [a], bs, h => by simp at h
  | a :: b :: r, bs, h => by
    have ih := WS_append r bs (by simp at h; omega)
    simp only [List.cons_append, WS, ih]
    omega
def sum16 (bs : List UInt8) : Nat := 65535 - normS (WS bs)
theorem sum16_le (bs : List UInt8) : sum16 bs ≤ 65535 := by unfold sum16; omega
end
section
set_option linter.unusedVariables false
open Go.RowKit
def Row (w : World) (g : Nat) (t : TypeId) (cs : Array Value) : Prop := w.heap[g]? = some (.cells cs t (0, 0))
section
variable {w w' : World} {g : Nat} {t : TypeId} {cs : Array Value}
theorem Row.lt (h : Row w g t cs) : g < w.heap.size := (Array.getElem?_eq_some_iff.1 h).1
theorem Row.cell (h : Row w g t cs) (i : Nat) : w.cell? ⟨g, i, none⟩ = cs[i]? := cell_of_row w g i cs t (0, 0) h
theorem Row.frozen (h : Row w g t cs) (i : Nat) : w.frozen? ⟨g, i, none⟩ = false := by
  unfold Row at h
  simp [World.frozen?, h]
theorem Row.born (w : World) (t : TypeId) (cs : Array Value) : Row (w.alloc (.cells cs t)) w.heap.size t cs := heap_alloc_new w _
theorem Row.alloc (h : Row w g t cs) (o : Obj) : Row (w.alloc o) g t cs := (Below.heap_alloc w o g h.lt).trans h
theorem Row.set (h : Row w g t cs) (i : Nat) (u : Value) : Row (w.setCell ⟨g, i, none⟩ u) g t (cs.setIfInBounds i u) := by
  unfold Row at h ⊢
  simp [World.setCell, Array.getElem?_modify, h]
theorem Row.other (h : Row w g t cs) {p : Addr} (hp : g ≠ p.block) (u : Value) : Row (w.setCell p u) g t cs := (Below.heap_setCell w p u g hp).trans h
theorem Row.below {B : Nat} (h : Row w g t cs) (hb : Below B w w') (hg : g < B) : Row w' g t cs := (hb.block g hg).trans h
theorem Row.drewN (h : Row w g t cs) (n : Nat) : Row (w.drewN n) g t cs := h
theorem Row.drew (h : Row w g t cs) : Row w.drew g t cs := h
end
theorem below_drewN {B : Nat} {a w : World} (h : Below B a w) (n : Nat) : Below B a (w.drewN n) := ⟨h.os, h.tape, h.output, h.size, h.block⟩
theorem two_new {W w1 : World} {cs ds : Array Value} {T U : TypeId} (hb : Below ((W.alloc (.cells cs T)).alloc (.cells ds U)).heap.size ((W.alloc (.cells cs T)).alloc (.cells ds U)) w1) :
    Row w1 W.heap.size T cs ∧ Row w1 (W.heap.size + 1) U ds ∧ W.heap.size + 1 < w1.heap.size ∧ Below W.heap.size W w1 := by
  have e : (W.alloc (.cells cs T)).heap.size = W.heap.size + 1 := by simp
  have hs := hb.size
  have h1 : Row (W.alloc (.cells cs T)) W.heap.size T cs := Row.born W T cs
  have h2 : Row ((W.alloc (.cells cs T)).alloc (.cells ds U)) (W.heap.size + 1) U ds := by
    have := Row.born (W.alloc (.cells cs T)) U ds
    rwa [e] at this
  refine ⟨(h1.alloc _).below hb (by simp; omega), h2.below hb (by simp), by simp at hs; omega, ?_⟩
  exact (((Below.refl _ _).alloc (Nat.le_refl _) _).alloc (by simp) _).trans (hb.mono (by simp; omega))
theorem one_new {W w1 : World} {cs : Array Value} {T : TypeId} (hb : Below (W.alloc (.cells cs T)).heap.size (W.alloc (.cells cs T)) w1) :
    Row w1 W.heap.size T cs ∧ W.heap.size < w1.heap.size ∧ Below W.heap.size W w1 := by
  have hs := hb.size
  have h1 : Row (W.alloc (.cells cs T)) W.heap.size T cs := Row.born W T cs
  exact ⟨h1.below hb (by simp), by simp at hs; omega, ((Below.refl _ _).alloc (Nat.le_refl _) _).trans (hb.mono (by simp))⟩
end
section
set_option linter.unusedVariables false
open Go.RowKit
structure Upd (w w' : World) (g : Nat) : Prop where
  os : w'.os = w.os
  tape : w'.tape = w.tape
  output : w'.output = w.output
  size : w'.heap.size = w.heap.size
  block : ∀ k, k ≠ g → w'.heap[k]? = w.heap[k]?
theorem Upd.refl (w : World) (g : Nat) : Upd w w g := ⟨rfl, rfl, rfl, rfl, fun _ _ => rfl⟩
theorem Upd.trans {a b c : World} {g : Nat} (h : Upd a b g) (k : Upd b c g) : Upd a c g :=
  ⟨k.os.trans h.os, k.tape.trans h.tape, k.output.trans h.output, k.size.trans h.size, fun j hj => (k.block j hj).trans (h.block j hj)⟩
theorem Upd.setCell (w : World) (g i : Nat) (u : Value) : Upd w (w.setCell ⟨g, i, none⟩ u) g :=
  ⟨rfl, rfl, rfl, by simp [World.setCell], fun k hk => Below.heap_setCell _ _ _ _ hk⟩
theorem Upd.setCells (g : Nat) : ∀ (l : List Value) (w : World) (o : Nat), Upd w (w.setCells g o l) g
  | [], w, o => Upd.refl w g
  | v :: r, w, o => (Upd.setCell w g o v).trans (Upd.setCells g r _ _)
theorem Upd.below {B : Nat} {a w w' : World} {g : Nat} (hb : Below B a w) (h : Upd w w' g) (hg : B ≤ g) : Below B a w' :=
  hb.trans ⟨h.os, h.tape, h.output, Nat.le_of_eq h.size.symm, fun k hk => h.block k (by omega)⟩
theorem Row.upd {w w' : World} {g k : Nat} {t : TypeId} {cs : Array Value} (h : Row w k t cs) (u : Upd w w' g) (hne : k ≠ g) : Row w' k t cs := (u.block k hne).trans h
theorem Row.range {w : World} {g : Nat} {t : TypeId} {cs : Array Value} (h : Row w g t cs) : w.rangeAt g 0 cs.toList := by
  intro j v hv
  rw [Nat.zero_add, h.cell j]
  simpa using hv
theorem Row.there {w : World} {g : Nat} {t : TypeId} {cs : Array Value} (h : Row w g t cs) (n : Nat) (hn : n ≤ cs.size) : w.there g 0 n := by
  intro j hj
  rw [Nat.zero_add]
  refine ⟨?_, h.frozen j⟩
  rw [h.cell j]
  simp; omega
theorem Row.setCells {g : Nat} {t : TypeId} : ∀ (l : List Value) (w : World) (pre post cs : List Value), Row w g t (pre ++ cs ++ post).toArray → cs.length = l.length →
    Row (w.setCells g pre.length l) g t (pre ++ l ++ post).toArray
  | [], w, pre, post, cs, h, hl => by
    obtain rfl : cs = [] := List.eq_nil_of_length_eq_zero (by simpa using hl)
    exact h
  | v :: r, w, pre, post, c :: cs, h, hl => by
    have h1 := h.set pre.length v
    have e : ((pre ++ c :: cs ++ post).toArray.setIfInBounds pre.length v) = ((pre ++ [v]) ++ cs ++ post).toArray := by
      simp [List.setIfInBounds_toArray]
    rw [e] at h1
    have h2 := Row.setCells (g := g) (t := t) r _ (pre ++ [v]) post cs h1 (by simpa using hl)
    simp only [List.length_append, List.length_cons, List.length_nil, List.append_assoc, List.cons_append, List.nil_append] at h2 ⊢
    exact h2
def CopyOk (w : World) (dp : Option Addr) (g off : Nat) (sp : Option Addr) (cs : List Value) : Prop :=
  0 < cs.length → dp = some ⟨g, off, none⟩ ∧ ∃ ad, sp = some ad ∧ ∀ j v, cs[j]? = some v → w.cell? (ad.add j) = some v
section
variable {P : Program} {ops : Array Oper} {rest : List Oper} {Q : Exit → Act → World → Prop} {a : Act} {w : World} {dst : Option Tmp} {typ : TypeId} {pos : String} {after : Array Edge}
theorem wp_row_store {ty : TypeId} {x y : Operand} {g : Nat} {t : TypeId} {cs L : Array Value} (hrow : Row w g t cs) (hs : cs.size = L.size)
    (hi : (P.info? ty).map (·.size) = some L.size) (h1 : L.all (·.oneCell') = true) (hx : a.eval x = .pointer (some ⟨g, 0, none⟩)) (hy : a.eval y = .agg L)
    (h : ∀ w', Upd w w' g → Row w' g t L → wpList P ops Q rest (a.put none undef) w') :
    wpList P ops Q ({ dst := none, op := .store ty x y, type := typ, pos := pos, after := after, guard := none } :: rest) a w := by
  refine wpList_store_mid (op := { dst := none, op := .store ty x y, type := typ, pos := pos, after := after, guard := none }) rfl ty x y rfl g 0 L hx hy (hrow.there _ (by omega)) hi h1 ?_
  have hr : Row w g t ([] ++ cs.toList ++ []).toArray := by simpa using hrow
  have h2 := Row.setCells (g := g) (t := t) L.toList w [] [] cs.toList hr (by simpa using hs)
  exact h _ (Upd.setCells g _ w 0) (by simpa using h2)
theorem wp_row_copy {d s : Operand} {dT sT elem : TypeId} {dp sp : Option Addr} {dLen dCap sLen sCap g off : Nat} {t : TypeId} {cur cs : List Value} (hrow : Row w g t cur.toArray)
    (hu : P.underlying dT = some (.slice elem)) (hsz : (P.info? elem).map (·.size) = some 1) (hn : cs.length = Nat.min sLen dLen)
    (hpos : CopyOk w dp g off sp cs) (hfit : off + cs.length ≤ cur.length) (h1 : ∀ v ∈ cs, v.oneCell' = true) (hd : a.eval d = .slice dp dLen dCap) (hs : a.eval s = .slice sp sLen sCap)
    (h : ∀ w', Upd w w' g → Row w' g t (cur.take off ++ (cs ++ cur.drop (off + cs.length))).toArray → wpList P ops Q rest (a.put dst (goInt cs.length)) w') :
    wpList P ops Q ({ dst := dst, op := .call { callee := .builtin .copy, args := #[d, s], argTypes := #[dT, sT] }, type := typ, pos := pos, after := after, guard := none } :: rest) a w := by
  by_cases h0 : cs.length = 0
  · obtain rfl : cs = [] := List.eq_nil_of_length_eq_zero h0
    refine wpList_copy_nothing (o := { dst := dst, op := .call { callee := .builtin .copy, args := #[d, s], argTypes := #[dT, sT] }, type := typ, pos := pos, after := after, guard := none }) rfl d s dT sT rfl elem hu hsz dp sp dLen dCap sLen sCap hd hs (by simpa using hn.symm) ?_
    exact h w (Upd.refl w g) (by simpa using hrow)
  · obtain ⟨rfl, ad, rfl, hsrc⟩ := hpos (by omega)
    refine wpList_copy_own (o := { dst := dst, op := .call { callee := .builtin .copy, args := #[d, s], argTypes := #[dT, sT] }, type := typ, pos := pos, after := after, guard := none }) rfl d s dT sT rfl elem hu hsz g off dLen dCap ad sLen sCap hd hs cur.toArray t hrow cs hn hsrc (by simpa using hfit) h1 ?_
    refine h _ ⟨rfl, rfl, rfl, by simp [World.setRow], fun k hk => setRow_other w g k _ hk⟩ ?_
    exact setRow_heap w g _ _ t _ hrow
end
def IsB (w : World) (A : Option Addr) (n : Nat) (bs : List UInt8) : Prop :=
  n = bs.length ∧ (0 < n → ∃ b o, A = some ⟨b, o, none⟩ ∧ ∀ i (h : i < bs.length), w.cell? ⟨b, o + i, none⟩ = some (.int .u8 (bs[i].toNat : Int)))
theorem IsB.nil (w : World) (A : Option Addr) : IsB w A 0 [] := ⟨rfl, fun h => absurd h (by omega)⟩
theorem IsB.below {w w' : World} {A : Option Addr} {n : Nat} {bs : List UInt8} (h : IsB w A n bs) (hb : Below w.heap.size w w') : IsB w' A n bs := by
  refine ⟨h.1, fun hn => ?_⟩
  obtain ⟨b, o, e, hc⟩ := h.2 hn
  exact ⟨b, o, e, fun i hi => (hb.cell (p := ⟨b, o + i, none⟩) (block_lt_of_cell (hc i hi))).trans (hc i hi)⟩
theorem IsB.at_ {w : World} {A : Option Addr} {n : Nat} {bs : List UInt8} (h : IsB w A n bs) (hn : 0 < n) :
    ∃ b o, A = some ⟨b, o, none⟩ ∧ b < w.heap.size ∧ ∀ i (h : i < bs.length), w.cell? ⟨b, o + i, none⟩ = some (.int .u8 (bs[i].toNat : Int)) := by
  obtain ⟨b, o, e, hc⟩ := h.2 hn
  exact ⟨b, o, e, block_lt_of_cell (hc 0 (by have := h.1; omega)), hc⟩
def bv (x : UInt8) : Value := .int .u8 (x.toNat : Int)
theorem IsB.src {w : World} {A : Option Addr} {n : Nat} {bs : List UInt8} (h : IsB w A n bs) (hn : 0 < n) : ∃ ad, A = some ad ∧ ∀ j v, (bs.map bv)[j]? = some v → w.cell? (ad.add j) = some v := by
  obtain ⟨b, o, e, hc⟩ := h.2 hn
  refine ⟨⟨b, o, none⟩, e, fun j v hv => ?_⟩
  obtain ⟨hj, hv'⟩ := List.getElem?_eq_some_iff.1 hv
  simp only [List.length_map] at hj
  rw [Addr.add_mid, hc j hj, ← hv']
  simp [bv]
theorem bv_one (l : List UInt8) : ∀ v ∈ l.map bv, v.oneCell' = true := by
  intro v hv
  obtain ⟨x, _, rfl⟩ := List.mem_map.1 hv
  rfl
theorem IsB.of_row {w : World} {g : Nat} {t : TypeId} {bs : List UInt8} (h : Row w g t (bs.map bv).toArray) : IsB w (some ⟨g, 0, none⟩) bs.length bs := by
  refine ⟨rfl, fun _ => ⟨g, 0, rfl, fun i hi => ?_⟩⟩
  rw [Nat.zero_add, h.cell i]
  simp [hi, bv]
end
section
set_option linter.unusedVariables false
open Go.RowKit
theorem ofInt_i64 (a : Nat) (ha : a < 9223372036854775808) : (BitVec.ofInt 64 (a : Int)).toNat = a := by
  rw [BitVec.ofInt_natCast, BitVec.toNat_ofNat]; exact Nat.mod_eq_of_lt (by omega)
theorem i64_and_nat (a b : Nat) (ha : a < 9223372036854775808) (hb : b < 9223372036854775808) : bits .and .i64 (a : Int) (b : Int) = ((a &&& b : Nat) : Int) := by
  have hx : a &&& b < 2 ^ 63 := Nat.and_lt_two_pow _ (by omega)
  show IntKind.i64.wrap ((BitVec.ofInt 64 (a : Int) &&& BitVec.ofInt 64 (b : Int)).toNat : Int) = _
  rw [BitVec.toNat_and, ofInt_i64 a ha, ofInt_i64 b hb, IntKind.wrap_i64]
  omega
end
section
open Go.RowKit
set_option linter.unusedVariables false
theorem ret_s {k : IntKind} {a b : Int} (h : a = b) : Ending.returned (.int k a) = .returned (.int k b) := by rw [h]
theorem compl16 {x : Nat} (h : x ≤ 65535) : 65535 ^^^ x = 65535 - x := by
  have e : (65535 : Nat) = 2 ^ 16 - 1 := by decide
  rw [e]
  apply Nat.eq_of_testBit_eq
  intro i
  rw [show 2 ^ 16 - 1 - x = 2 ^ 16 - (x + 1) by omega, Nat.testBit_two_pow_sub_succ (by omega), Nat.testBit_xor, Nat.testBit_two_pow_sub_one]
  by_cases hi : i < 16
  · simp [hi]
  · have : x.testBit i = false := Nat.testBit_lt_two_pow (Nat.lt_of_lt_of_le (show x < 2 ^ 16 by omega) (Nat.pow_le_pow_right (by omega) (by omega)))
    simp [hi, this]
theorem or_word {x y : Nat} (hx : x < 256) (hy : y < 256) : bits .or .u32 ((x : Int) * 256) (y : Int) = ((x * 256 + y : Nat) : Int) := by
  have h := u32_or_nat (x * 256) y (by omega) (by omega)
  have e := Nat.two_pow_add_eq_or_of_lt (i := 8) hy x
  rw [show x * 256 = 2 ^ 8 * x by omega, ← e] at h
  have e2 : ((2 ^ 8 * x : Nat) : Int) = (x : Int) * 256 := by omega
  rw [e2] at h
  rw [h]; omega
theorem WS_two {bs : List UInt8} {k : Nat} (h : k + 1 < bs.length) (hk : k % 2 = 0) : WS (bs.take (k + 2)) = WS (bs.take k) + (bs[k].toNat * 256 + bs[k + 1].toNat) := by
  rw [List.take_succ_eq_append_getElem h, List.take_succ_eq_append_getElem (by omega), List.append_assoc, WS_append _ _ (by simp; omega)]
  simp [WS]
theorem WS_one {bs : List UInt8} {k : Nat} (h : k + 1 = bs.length) (hk : k % 2 = 0) : WS (bs.take (k + 2)) = WS (bs.take k) + bs[k].toNat * 256 := by
  have e0 : bs.take k ++ [bs[k]] = bs := by rw [← List.take_succ_eq_append_getElem (by omega)]; exact List.take_of_length_le (by omega)
  rw [List.take_of_length_le (by omega)]
  have := WS_append (bs.take k) [bs[k]] (by simp; omega)
  rw [e0] at this
  simpa [WS] using this
theorem int_val {k : IntKind} {a b : Int} (h : a = b) : Value.int k a = Value.int k b := by rw [h]
theorem addS_gt {s w : Nat} (h : 65535 < s + w) : addS s w = s + w - 65535 := by simp [addS, h]
theorem addS_le {s w : Nat} (h : s + w ≤ 65535) : addS s w = s + w := by simp [addS]; omega
theorem and_ffff {T : Int} (h0 : 0 ≤ T) (h1 : T < 4294967296) : bits .and .u32 T 65535 = T % 65536 := by
  obtain ⟨n, rfl⟩ := Int.eq_ofNat_of_zero_le h0
  have := u32_and_nat n 65535 (by omega) (by omega)
  rw [show n &&& 65535 = n % 65536 from Nat.and_two_pow_sub_one_eq_mod n 16] at this
  exact this
def SumPost (bs : List UInt8) (w : World) (e : Ending) (w' : World) : Prop := e = .returned (.int .u16 (sum16 bs)) ∧ w = w'
set_option maxHeartbeats 1000000 in
theorem sum16_any (A : Option Addr) (n c : Nat) (bs : List UInt8) (w : World) (hA : IsB w A n bs) (hn : n ≤ 1000000000) :
    Calls Try.prog 97 #[.slice A n c] w (SumPost bs w) := by
  have hl := Lib.hid hA.1
  go_enter Try.func97, Try.ntmps97
  go_wp2
  go_loop [3, 4] (fun s i => ∃ k : Nat, k ≤ n + 1 ∧ k % 2 = 0 ∧ i = .int .i64 k ∧ s = .int .u32 (normS (WS (bs.take k)) : Nat)) (fun _ i => n + 2 - (intOf i).toNat)
  case atStart => exact ⟨0, by omega, rfl, rfl, rfl⟩
  case round =>
    obtain ⟨k, hk, he, rfl, rfl⟩ := hrel
    have hE := Lib.hid he
    clear he
    have hs := normS_le (WS (bs.take k))
    by_cases hlt : k < n
    · obtain ⟨b, o, rfl, _, hc⟩ := hA.at_ (by omega)
      have hkl : k < bs.length := by have := hl.out; omega
      have hck := hc k hkl
      have hx : bs[k].toNat < 256 := bs[k].toNat_lt
      by_cases h2 : k + 1 < n
      · have hkl2 : k + 1 < bs.length := by have := hl.out; omega
        have hck2 := hc (k + 1) hkl2
        have ea : o + (k + 1) = o + k + 1 := by omega
        have hx2 : bs[k + 1].toNat < 256 := bs[k + 1].toNat_lt
        have HS : Hid (normS (WS (bs.take (k + 2))) = addS (normS (WS (bs.take k))) (bs[k].toNat * 256 + bs[k + 1].toNat)) := Lib.hid (by rw [addS_norm _ _ (by omega), WS_two hkl2 hE.out])
        generalize normS (WS (bs.take k)) = s at *
        generalize bs[k].toNat = x at *
        generalize bs[k + 1].toNat = y at *
        have e1 := or_word hx hx2
        clear hc ea
        rcases (by omega : 65535 < s + (x * 256 + y) ∨ s + (x * 256 + y) ≤ 65535) with hg | hg
        · have HL := Lib.hid (addS_gt hg)
          have eM := and_ffff (T := (s : Int) + ((x : Int) * 256 + (y : Int))) (by omega) (by omega)
          go_wp2
          exact ⟨⟨k + 2, by omega, by have := hE.out; omega, by go_num, by rw [HS.out, HL.out]; exact int_val (by omega)⟩, by simp [intOf]; omega⟩
        · have HL := Lib.hid (addS_le hg)
          go_wp2
          exact ⟨⟨k + 2, by omega, by have := hE.out; omega, by go_num, by rw [HS.out, HL.out]; go_num⟩, by simp [intOf]; omega⟩
      · have HS : Hid (normS (WS (bs.take (k + 2))) = addS (normS (WS (bs.take k))) (bs[k].toNat * 256)) := Lib.hid (by rw [addS_norm _ _ (by omega), WS_one (by have := hl.out; omega) hE.out])
        generalize normS (WS (bs.take k)) = s at *
        generalize bs[k].toNat = x at *
        clear hc
        rcases (by omega : 65535 < s + x * 256 ∨ s + x * 256 ≤ 65535) with hg | hg
        · have HL := Lib.hid (addS_gt hg)
          have eM := and_ffff (T := (s : Int) + (x : Int) * 256) (by omega) (by omega)
          go_wp2
          exact ⟨⟨k + 2, by omega, by have := hE.out; omega, by go_num, by rw [HS.out, HL.out]; exact int_val (by omega)⟩, by simp [intOf]; omega⟩
        · have HL := Lib.hid (addS_le hg)
          go_wp2
          exact ⟨⟨k + 2, by omega, by have := hE.out; omega, by go_num, by rw [HS.out, HL.out]; go_num⟩, by simp [intOf]; omega⟩
    · have ht : bs.take k = bs := List.take_of_length_le (by have := hl.out; omega)
      rw [ht] at hs ⊢
      clear ht
      have e1 := u16_xor_nat 65535 _ (by omega) (show normS (WS bs) < 65536 by omega)
      go_wp2
      go_ret
      exact ⟨ret_s (by unfold sum16; rw [← compl16 hs, ← e1]; rfl), rfl⟩
end
section
set_option linter.unusedVariables false
open Go.RowKit
section
variable {P : Program} {ops : Array Oper} {rest : List Oper} {Q : Exit → Act → World → Prop} {a : Act} {w : World} {dst : Option Tmp} {typ : TypeId} {pos : String} {after : Array Edge}
theorem wp_make {t e : TypeId} {z : Value} {bytes : Nat} {l c : Operand} {kl kc : IntKind} {L C : Int} (n : Nat) (ht : P.underlying t = some (.slice e))
    (hinfo : (P.info? e).map (fun i => (i.zero, i.size, i.bytes)) = some (some z, 1, bytes)) (hz1 : z.cells = #[z]) (hb : bytes * n ≤ 281474976710656) (h63 : n ≤ 9223372036854775807)
    (hl : a.eval l = .int kl L) (hc : a.eval c = .int kc C) (hL : L = (n : Int)) (hC : C = (n : Int))
    (h : ∀ w', Row w' w.heap.size e (List.replicate n z).toArray → Below w.heap.size w w' → wpList P ops Q rest (a.put dst (.slice (some ⟨w.heap.size, 0, none⟩) n n)) w') :
    wpList P ops Q ({ dst := dst, op := .makeSlice t l c, type := typ, pos := pos, after := after, guard := none } :: rest) a w := by
  subst hL
  subst hC
  refine wpList_plain rfl fun K hK => ?_
  have hrun := run_make_row' (P := P) t e z bytes ht hinfo hz1 kl kc n hb h63 w
  have e1 : madeCells #[z] n = (List.replicate n z).toArray := by rw [← toList_madeCells_one]
  rw [e1] at hrun
  unfold Oper.wp
  simp [execOp, hl, hc, hrun, Result.andThen]
  rw [show Array.replicate n z = (List.replicate n z).toArray by simp]
  exact hK _ _ (h _ (Row.born _ _ _) ((Below.refl _ _).alloc (Nat.le_refl _) _))
end
theorem bv_set (pre rest : List UInt8) (y x : UInt8) : ((pre ++ y :: rest).map bv).toArray.setIfInBounds pre.length (bv x) = ((pre ++ x :: rest).map bv).toArray := by
  simp [List.setIfInBounds_toArray]
theorem bv_nat (n : Nat) (h : n < 256) : Value.int .u8 (n : Int) = bv (UInt8.ofNat n) := by
  unfold bv
  rw [UInt8.toNat_ofNat', Nat.mod_eq_of_lt (by omega)]
def NewB (W : World) (T : TypeId) (bs : List UInt8) (e : Ending) (w' : World) : Prop :=
  ∃ g m, W.heap.size ≤ g ∧ Hid (m = bs.length) ∧ e = .returned (.slice (some ⟨g, 0, none⟩) m m) ∧ Row w' g T (bs.map bv).toArray ∧ Below W.heap.size W w'
theorem run_str {P : Program} {w : World} {src dst e : TypeId} (hs : P.underlying src = some (.slice e)) (he : P.underlying e = some (.int .u8)) (hd : P.underlying dst = some .string)
    {A : Option Addr} {n : Nat} {bs : List UInt8} (c : Nat) (hA : IsB w A n bs) : (convert src dst (.slice A n c)).run P w = .ok (.string ⟨bs.toArray⟩) w := by
  obtain ⟨hn, hc⟩ := hA
  rw [run_convert_bytes_string (P := P) w src dst e A n c hs he hd]
  have hb : ∀ l : List UInt8, (l.map (fun x : UInt8 => (x.toNat : Int))).foldl (fun (r : ByteArray) (n : Int) => r.push (UInt8.ofNat n.toNat)) ByteArray.empty = ⟨l.toArray⟩ := by
    intro l
    have := foldl_push_bytes (l.map (fun x : UInt8 => (x.toNat : Int))) ByteArray.empty
    rw [this]
    simp [ByteArray.empty, ByteArray.emptyWithCapacity, Function.comp_def]
    rfl
  rcases Nat.eq_zero_or_pos n with h0 | h0
  · subst h0
    obtain rfl : bs = [] := List.eq_nil_of_length_eq_zero hn.symm
    cases A with
    | none => rfl
    | some a =>
      have hl : (loadCells a 0).run P w = .ok (([] : List Int).map (Value.int .u8)).toArray w := by rfl
      rw [run_bytesToString w a 0 c [] hl]
      rfl
  · obtain ⟨ad, rfl, hsrc⟩ := IsB.src (A := A) ⟨hn, hc⟩ h0
    have hl := run_loadCells_list (P := P) (w := w) ad (bs.map bv) hsrc
    have e1 : bs.map bv = (bs.map (fun x : UInt8 => (x.toNat : Int))).map (Value.int .u8) := by simp [bv, Function.comp_def]
    rw [List.length_map, ← hn, e1] at hl
    rw [run_bytesToString w _ n c _ hl, hb]
end
section
open Go.RowKit
set_option linter.unusedVariables false
def leN : List UInt8 → Nat
  | [] => 0
  | x :: r => x.toNat + 256 * leN r
theorem leN_lt : ∀ l : List UInt8, leN l < 256 ^ l.length
  | [] => by simp [leN]
  | x :: r => by
    have h := leN_lt r
    have h1 := x.toNat_lt
    simp only [leN, List.length_cons, Nat.pow_succ]
    omega
theorem leN_snoc : ∀ (l : List UInt8) (x : UInt8), leN (l ++ [x]) = leN l + x.toNat * 256 ^ l.length
  | [], x => by simp [leN]
  | y :: l, x => by
    simp only [List.cons_append, leN, leN_snoc l x, List.length_cons, Nat.pow_succ]
    rw [Nat.mul_add, Nat.mul_comm (256 ^ l.length) 256, ← Nat.mul_assoc x.toNat, Nat.mul_comm x.toNat 256, Nat.mul_assoc 256]
    omega
def seg (bs : List UInt8) (o s : Nat) : List UInt8 := (bs.drop o).take s
theorem seg_len {bs : List UInt8} {o s : Nat} (h : o + s ≤ bs.length) : (seg bs o s).length = s := by simp [seg]; omega
theorem seg_get {bs : List UInt8} {o s k : Nat} (h : o + s ≤ bs.length) (hk : k < s) : (seg bs o s)[k]'(by rw [seg_len h]; exact hk) = bs[o + k] := by simp [seg]
theorem pow_256r (k : Nat) : 256 ^ k = 2 ^ (8 * k) := by rw [Nat.pow_mul]
theorem pow_le8 {k : Nat} (h : k ≤ 8) : 256 ^ k ≤ 18446744073709551616 := Nat.le_trans (Nat.pow_le_pow_right (by omega) h) (by decide)
theorem wrapU64 {x : Nat} (h : x < 18446744073709551616) : IntKind.u64.wrap (x : Int) = (x : Int) := by rw [IntKind.wrap_u64]; omega
theorem or_shl {L x k : Nat} (hx : x < 256) (hk : k < 8) (hL : L < 256 ^ k) : bits .or .u64 (L : Int) (IntKind.u64.wrap (IntKind.u64.wrap (x : Int) * 2 ^ (8 * k))) = ((L + x * 256 ^ k : Nat) : Int) := by
  have hp := Nat.pow_pos (n := k) (show 0 < 256 by omega)
  have h1 : x * 256 ^ k < 256 * 256 ^ k := Nat.mul_lt_mul_of_pos_right hx hp
  have h2 : 256 * 256 ^ k ≤ 18446744073709551616 := by rw [Nat.mul_comm, ← Nat.pow_succ]; exact pow_le8 (by omega)
  have h3 : (2 : Int) ^ (8 * k) = ((256 ^ k : Nat) : Int) := by rw [pow_256r]; simp
  have h4 : 256 ^ k ≤ 256 * 256 ^ k := by omega
  rw [h3, wrapU64 (by omega), ← Int.natCast_mul, wrapU64 (by omega), u64_or_nat _ _ (by omega) (by omega)]
  congr 1
  rw [pow_256r] at *
  have := Nat.two_pow_add_eq_or_of_lt (i := 8 * k) hL x
  rw [Nat.or_comm, Nat.mul_comm, ← this]
  omega
def fixR (bs : List UInt8) (off : Int) (s : Nat) : Nat × Nat :=
  if off < 0 ∨ (bs.length : Int) < off then (0, 6) else if bs.length - off.toNat < s then (0, 52) else (leN (seg bs off.toNat s), 0)
theorem fixR_lt (bs : List UInt8) (off : Int) (s : Nat) : (fixR bs off s).1 < 256 ^ s := by
  unfold fixR
  have := Nat.pow_pos (n := s) (show 0 < 256 by omega)
  split
  · exact this
  · split
    · exact this
    · rename_i h1 h2
      have h := leN_lt (seg bs off.toNat s)
      rwa [seg_len (by omega)] at h
def FixPost (bs : List UInt8) (off : Int) (s : Nat) (k : IntKind) (w : World) (e : Ending) (w' : World) : Prop := e = .returned (.tuple #[.int k ((fixR bs off s).1 : Nat), .int .i64 ((fixR bs off s).2 : Nat)]) ∧ w' = w
theorem fixed01 (A : Option Addr) (n c : Nat) (bs : List UInt8) (off : Int) (s : Nat) (w : World) (hA : IsB w A n bs) (hn : n ≤ 1000000000) (s0 : 0 < s) (s8 : s ≤ 8) (b0 : -9223372036854775808 ≤ off) (b1 : off < 9223372036854775808) :
    Calls Try.prog 135 #[.slice A n c, .int .i64 off, .int .i64 s] w (FixPost bs off s .u64 w) := by
  have hl := hA.1
  rcases (by omega : off < 0 ∨ (0 ≤ off ∧ (n : Int) < off) ∨ (0 ≤ off ∧ off ≤ n)) with h1 | ⟨h0, h1⟩ | ⟨h0, h1⟩
  · go_enter Try.func135, Try.ntmps135
    go_wp2
    refine bodyPost_ret (v := .tuple #[.int .u64 0, .int .i64 6]) (by simp [results, Try.results135, go_sem]) rfl ⟨by rw [fixR, if_pos (.inl h1)]; rfl, rfl⟩
  · have h2 : ¬ off < 0 := by omega
    go_enter Try.func135, Try.ntmps135
    go_wp2
    refine bodyPost_ret (v := .tuple #[.int .u64 0, .int .i64 6]) (by simp [results, Try.results135, go_sem]) rfl ⟨by rw [fixR, if_pos (.inr (by omega))]; rfl, rfl⟩
  · obtain ⟨o, rfl⟩ := Int.eq_ofNat_of_zero_le h0
    have h4 : o ≤ n := by omega
    have h5 : (o : Int) ≤ n := by omega
    clear b0 b1 h0 h1
    have hR : fixR bs o s = if n - o < s then (0, 52) else (leN (seg bs o s), 0) := by
      rw [fixR, if_neg (by omega), ← hl]
      rfl
    by_cases h2 : n - o < s
    · rw [if_pos h2] at hR
      have HR := Lib.hid hR
      have h3 : (n : Int) - o < s := by omega
      clear hR h2
      go_enter Try.func135, Try.ntmps135
      go_wp2
      refine bodyPost_ret (v := .tuple #[.int .u64 0, .int .i64 52]) (by simp [results, Try.results135, go_sem]) rfl ⟨by rw [HR.out]; rfl, rfl⟩
    · rw [if_neg h2] at hR
      have HR := Lib.hid hR
      clear hR
      have hos : o + s ≤ bs.length := by omega
      have h3 : ¬ (n : Int) - o < s := by omega
      clear h2
      have HL := Lib.hid (seg_len hos)
      have HG := Lib.hid (fun k (hk : k < s) => seg_get hos hk)
      obtain ⟨b1, o1, e1, f1⟩ := hA.2 (by omega)
      subst e1
      have HC : Hid (∀ k, (hk : k < s) → w.cell? ⟨b1, o1 + (o + k), none⟩ = some (.int .u8 (((seg bs o s)[k]'(by rw [HL.out]; exact hk)).toNat : Int))) := Lib.hid (fun k hk => by rw [HG.out k hk]; exact f1 (o + k) (by omega))
      clear f1 hA HG
      generalize seg bs o s = sg at *
      clear hl
      go_enter Try.func135, Try.ntmps135
      go_wp2
      go_loop [8, 9] (fun x i => ∃ k : Nat, k ≤ s ∧ i = .int .i64 k ∧ x = .int .u64 (leN (sg.take k) : Nat)) (fun _ i => s - (intOf i).toNat)
      case atStart => exact ⟨0, by omega, rfl, rfl⟩
      case round =>
        obtain ⟨k, hk, rfl, rfl⟩ := hrel
        by_cases hks : k < s
        · have hc := HC.out k hks
          have hlen := HL.out
          obtain ⟨x, hx⟩ : ∃ x, x = sg[k]'(by omega) := ⟨_, rfl⟩
          rw [← hx] at hc
          have HX := Lib.hid hx
          have hlt : leN (sg.take k) < 256 ^ k := by have := leN_lt (sg.take k); rwa [List.length_take, Nat.min_eq_left (by omega)] at this
          have HS : Hid (leN (sg.take (k + 1)) = leN (sg.take k) + x.toNat * 256 ^ k) := Lib.hid (by
            rw [List.take_succ_eq_append_getElem (by omega), leN_snoc, ← HX.out, List.length_take, Nat.min_eq_left (by omega)])
          clear hx
          have E := or_shl (L := leN (sg.take k)) x.toNat_lt (show k < 8 by omega) hlt
          rw [← HS.out] at E
          have HE := Lib.hid E
          clear E hlt
          go_upto_region 8 with (fail)
          rw [HE.out]
          go_wp2
          exact ⟨⟨k + 1, by omega, by go_num, rfl⟩, by simp [intOf]; omega⟩
        · obtain rfl : k = s := by omega
          have e : sg.take k = sg := List.take_of_length_le (by have := HL.out; omega)
          rw [e]
          clear e
          go_wp2
          refine bodyPost_ret (v := .tuple #[.int .u64 (leN sg : Nat), .int .i64 0]) (by simp [results, Try.results135, go_sem]) rfl ⟨by rw [HR.out]; rfl, rfl⟩
end
section
open Go.RowKit
set_option linter.unusedVariables false
def uvGo : List UInt8 → Nat → Nat → Nat → Nat × Nat × Nat
  | [], _, _, _ => (0, 0, 52)
  | x :: r, n, v, o =>
    if n = 9 ∧ 1 < x.toNat then (0, 0, 6)
    else if 0 < n ∧ x.toNat = 0 then (0, 0, 54)
    else if x.toNat < 128 then (v + x.toNat * 128 ^ n, o + 1, 0)
    else uvGo r (n + 1) (v + x.toNat % 128 * 128 ^ n) (o + 1)
def uvR (bs : List UInt8) (off : Int) : Nat × Nat × Nat := if off < 0 ∨ (bs.length : Int) < off then (0, 0, 6) else uvGo (bs.drop off.toNat) 0 0 off.toNat
def UvPost (bs : List UInt8) (off : Int) (w : World) (e : Ending) (w' : World) : Prop := e = .returned (.tuple #[.int .u64 ((uvR bs off).1 : Nat), .int .i64 ((uvR bs off).2.1 : Nat), .int .i64 ((uvR bs off).2.2 : Nat)]) ∧ w' = w
theorem pow_128 (k : Nat) : 128 ^ k = 2 ^ (7 * k) := by rw [Nat.pow_mul]
theorem pow9 {k : Nat} (h : k ≤ 9) : 128 ^ k ≤ 9223372036854775808 := Nat.le_trans (Nat.pow_le_pow_right (by omega) h) (by decide)
theorem fits64 {x k : Nat} (hx : x < 128) (hk : k ≤ 9) (h9 : k = 9 → x ≤ 1) : x * 128 ^ k < 18446744073709551616 := by
  rcases Nat.lt_or_ge k 9 with h | h
  · have h1 : 128 ^ k ≤ 128 ^ 8 := Nat.pow_le_pow_right (by omega) (by omega)
    have h2 : x * 128 ^ k ≤ 127 * 128 ^ 8 := Nat.mul_le_mul (by omega) h1
    have h3 : (127 : Nat) * 128 ^ 8 < 18446744073709551616 := by decide +kernel
    exact Nat.lt_of_le_of_lt h2 h3
  · obtain rfl : k = 9 := by omega
    have h1 := h9 rfl
    have h2 : x * 128 ^ 9 ≤ 1 * 128 ^ 9 := Nat.mul_le_mul_right _ h1
    have h3 : (1 : Nat) * 128 ^ 9 < 18446744073709551616 := by decide +kernel
    exact Nat.lt_of_le_of_lt h2 h3
theorem or_shl7 {L x k : Nat} (hx : x < 128) (hk : k ≤ 9) (h9 : k = 9 → x ≤ 1) (hL : L < 128 ^ k) : bits .or .u64 (L : Int) (IntKind.u64.wrap (IntKind.u64.wrap (x : Int) * 2 ^ (7 * k))) = ((L + x * 128 ^ k : Nat) : Int) := by
  have h1 := fits64 hx hk h9
  have h2 := pow9 hk
  have h3 : (2 : Int) ^ (7 * k) = ((128 ^ k : Nat) : Int) := by rw [pow_128]; simp
  rw [h3, wrapU64 (by omega), ← Int.natCast_mul, wrapU64 (by omega), u64_or_nat _ _ (by omega) (by omega)]
  congr 1
  rw [pow_128] at *
  have := Nat.two_pow_add_eq_or_of_lt (i := 7 * k) hL x
  rw [Nat.or_comm, Nat.mul_comm, ← this]
  omega
theorem acc_lt {L x k : Nat} (hL : L < 128 ^ k) (hx : x < 128) : L + x * 128 ^ k < 128 ^ (k + 1) := by
  have : x * 128 ^ k ≤ 127 * 128 ^ k := Nat.mul_le_mul_right _ (by omega)
  rw [Nat.pow_succ]
  omega
theorem and127u8 {x : Nat} (h : x < 256) : bits .and .u8 (x : Int) 127 = ((x % 128 : Nat) : Int) := by
  have := u8_and_nat x 127 h (by omega)
  rw [show x &&& 127 = x % 128 from Nat.and_two_pow_sub_one_eq_mod x 7] at this
  exact this
theorem step7 {v X k : Nat} (hX : X < 256) (hk : k ≤ 9) (h9 : k = 9 → X ≤ 1) (hv : v < 128 ^ k) :
    bits .or .u64 (v : Int) (IntKind.u64.wrap (IntKind.u64.wrap (bits .and .u8 (X : Int) 127) * 2 ^ (7 * k))) = ((v + X % 128 * 128 ^ k : Nat) : Int) := by
  rw [and127u8 hX]
  exact or_shl7 (Nat.mod_lt _ (by omega)) hk (fun h => by have := h9 h; omega) hv
theorem uv_done {bs r : List UInt8} {x : UInt8} {X o k v : Nat} {off : Int} (hx : X = x.toNat) (hR : uvR bs off = uvGo (x :: r) k v (o + k)) (h9 : k = 9 → X ≤ 1) (h0 : 0 < k → X ≠ 0) (hX : X < 128) :
    uvR bs off = (v + X % 128 * 128 ^ k, o + k + 1, 0) := by
  subst hx
  rw [hR, uvGo, if_neg (fun h => by have := h9 h.1; omega), if_neg (fun h => h0 h.1 h.2), if_pos hX, Nat.mod_eq_of_lt hX]
theorem uv_next {bs r : List UInt8} {x : UInt8} {X o k v : Nat} {off : Int} (hx : X = x.toNat) (hR : uvR bs off = uvGo (x :: r) k v (o + k)) (h9 : k ≠ 9) (hX : 128 ≤ X) :
    uvR bs off = uvGo r (k + 1) (v + X % 128 * 128 ^ k) (o + (k + 1)) := by
  subst hx
  rw [hR, uvGo, if_neg (fun h => h9 h.1), if_neg (fun h => by omega), if_neg (by omega)]
  rfl
theorem uv_big {bs r : List UInt8} {x : UInt8} {X o v : Nat} {off : Int} (hx : X = x.toNat) (hR : uvR bs off = uvGo (x :: r) 9 v (o + 9)) (hX : 1 < X) : uvR bs off = (0, 0, 6) := by
  subst hx
  rw [hR, uvGo, if_pos ⟨rfl, hX⟩]
theorem uv_zero {bs r : List UInt8} {x : UInt8} {X o k v : Nat} {off : Int} (hx : X = x.toNat) (hR : uvR bs off = uvGo (x :: r) k v (o + k)) (hk : 0 < k) (hX : X = 0) : uvR bs off = (0, 0, 54) := by
  subst hx
  rw [hR, uvGo, if_neg (fun h => by omega), if_pos ⟨hk, hX⟩]
set_option maxRecDepth 20000 in
set_option maxHeartbeats 4000000 in
theorem uvarint01 (A : Option Addr) (n c : Nat) (bs : List UInt8) (off : Int) (w : World) (hA : IsB w A n bs) (hn : n ≤ 1000000000) (b0 : -9223372036854775808 ≤ off) (b1 : off < 9223372036854775808) :
    Calls Try.prog 115 #[.slice A n c, .int .i64 off] w (UvPost bs off w) := by
  have hl := hA.1
  rcases (by omega : off < 0 ∨ (0 ≤ off ∧ (n : Int) < off) ∨ (0 ≤ off ∧ off ≤ n)) with h1 | ⟨h0, h1⟩ | ⟨h0, h1⟩
  · go_enter Try.func115, Try.ntmps115
    go_wp2
    go_step3
    go_wp2
    rw [Exit.noGoto_ret]
    refine bodyPost_ret (v := .tuple #[.int .u64 0, .int .i64 0, .int .i64 6]) (by simp [results, Try.results115, go_sem]) rfl ⟨by rw [uvR, if_pos (.inl h1)]; rfl, rfl⟩
  · have h2 : ¬ off < 0 := by omega
    go_enter Try.func115, Try.ntmps115
    go_wp2
    go_step3
    go_wp2
    rw [Exit.noGoto_ret]
    refine bodyPost_ret (v := .tuple #[.int .u64 0, .int .i64 0, .int .i64 6]) (by simp [results, Try.results115, go_sem]) rfl ⟨by rw [uvR, if_pos (.inr (by omega))]; rfl, rfl⟩
  · obtain ⟨o, rfl⟩ := Int.eq_ofNat_of_zero_le h0
    have h4 : o ≤ n := by omega
    have h5 : (o : Int) ≤ n := by omega
    clear b0 b1 h0 h1
    have HR : Hid (uvR bs o = uvGo (bs.drop (o + 0)) 0 0 (o + 0)) := Lib.hid (by
      rw [uvR, if_neg (by omega)]
      rfl)
    have HL := Lib.hid hl
    clear hl
    go_enter Try.func115, Try.ntmps115
    go_wp2
    go_step3
    go_wp2
    go_step3
    go_wp2
    go_loop [4, 7] (fun x i => ∃ k v : Nat, i = .int .i64 k ∧ x = .int .u64 v ∧ k ≤ 9 ∧ v < 128 ^ k ∧ o + k ≤ n ∧ Hid (uvR bs o = uvGo (bs.drop (o + k)) k v (o + k))) (fun _ i => 10 - (intOf i).toNat)
    case atStart => exact ⟨0, 0, rfl, rfl, by omega, by omega, by omega, HR⟩
    case round =>
      clear HR
      obtain ⟨k, v, rfl, rfl, hk, hv, hok, HR⟩ := hrel
      by_cases hend : o + k = n
      · have e1 : (o : Int) + k = n := by omega
        go_wp2
        refine bodyPost_ret (v := .tuple #[.int .u64 0, .int .i64 0, .int .i64 52]) (by simp [results, Try.results115, go_sem]) rfl ⟨by rw [HR.out, List.drop_eq_nil_of_le (by have := HL.out; omega)]; rfl, rfl⟩
      · have hlt : o + k < bs.length := by have := HL.out; omega
        have hi : o + k < n := by omega
        obtain ⟨b1, o1, e1, f1⟩ := hA.2 (by omega)
        subst e1
        obtain ⟨x, hx⟩ : ∃ x, x = bs[o + k] := ⟨_, rfl⟩
        have hc : w.cell? ⟨b1, o1 + (o + k), none⟩ = some (.int .u8 (x.toNat : Int)) := by rw [hx]; exact f1 (o + k) hlt
        have HG : Hid (uvR bs o = uvGo (x :: bs.drop (o + k + 1)) k v (o + k)) := Lib.hid (by rw [HR.out, List.drop_eq_getElem_cons hlt, ← hx])
        have hne : ¬ (o : Int) + k = n := by omega
        have hx256 : x.toNat < 256 := x.toNat_lt
        have HV := Lib.hid hv
        obtain ⟨X, hXe⟩ : ∃ X, X = x.toNat := ⟨_, rfl⟩
        rw [← hXe] at hc hx256
        have HX := Lib.hid hXe
        clear f1 hx HR hlt hend hv hXe
        by_cases h9 : k = 9
        · subst h9
          by_cases hX1 : 1 < X
          · have hXi : (1 : Int) < X := by omega
            go_wp2
            (try rw [Exit.noGoto_ret])
            refine bodyPost_ret (v := .tuple #[.int .u64 0, .int .i64 0, .int .i64 6]) (by simp [results, Try.results115, go_sem]) rfl ⟨by rw [uv_big HX.out HG.out hX1]; rfl, rfl⟩
          · have hXi : ¬ (1 : Int) < X := by omega
            by_cases hX0 : X = 0
            · have hXb : ((X : Int) == 0) = true := beq_iff_eq.2 (by omega)
              go_wp2
              (try rw [Exit.noGoto_ret])
              refine bodyPost_ret (v := .tuple #[.int .u64 0, .int .i64 0, .int .i64 54]) (by simp [results, Try.results115, go_sem]) rfl ⟨by rw [uv_zero HX.out HG.out (by omega) hX0]; rfl, rfl⟩
            · have hXb : ((X : Int) == 0) = false := beq_eq_false_iff_ne.2 (by omega)
              have hX128 : X < 128 := by omega
              obtain ⟨V, hV⟩ : ∃ V, V = v + X % 128 * 128 ^ 9 := ⟨_, rfl⟩
              have HE := Lib.hid (step7 hx256 hk (fun _ => by omega) HV.out)
              have HU := Lib.hid (uv_done HX.out HG.out (fun _ => by omega) (fun _ => hX0) (by omega))
              rw [← hV] at HE HU
              clear hV
              have HE9 : Hid (bits .or .u64 (v : Int) (IntKind.u64.wrap (IntKind.u64.wrap (bits .and .u8 (X : Int) 127) * 9223372036854775808)) = (V : Int)) := Lib.hid (by
                rw [← HE.out]
                rfl)
              have hXd : decide ((X : Int) < 128) = true := decide_eq_true (by omega)
              clear hX128 hx256
              go_upto_region 12 with (fail)
              rw [HE9.out]
              go_wp2
              (try rw [Exit.noGoto_ret])
              refine bodyPost_ret (v := .tuple #[.int .u64 (V : Int), .int .i64 ((o : Int) + 10), .int .i64 0]) (by simp [results, Try.results115, go_sem]) rfl ⟨by rw [HU.out]; simp; omega, rfl⟩
        · have h9b : ((k : Int) == 9) = false := beq_eq_false_iff_ne.2 (by omega)
          rcases Nat.eq_zero_or_pos k with hk0 | hk0
          · have hkp : ¬ 0 < k := by omega
            clear hk0
            by_cases hX : X < 128
            · skip
              obtain ⟨V, hV⟩ : ∃ V, V = v + X % 128 * 128 ^ k := ⟨_, rfl⟩
              have HE := Lib.hid (step7 hx256 hk (fun h => absurd h h9) HV.out)
              have HU := Lib.hid (uv_done HX.out HG.out (fun h => absurd h h9) (fun h => absurd h hkp) (hX))
              rw [← hV] at HE HU
              clear hV
              have hXd : decide ((X : Int) < 128) = true := decide_eq_true (by omega)
              clear hX hx256
              go_upto_region 12 with (fail)
              rw [HE.out]
              go_wp2
              (try rw [Exit.noGoto_ret])
              refine bodyPost_ret (v := .tuple #[.int .u64 (V : Int), .int .i64 ((o : Int) + ((k : Int) + 1)), .int .i64 0]) (by simp [results, Try.results115, go_sem]) rfl ⟨by rw [HU.out]; simp; omega, rfl⟩
            · have hX2 : 128 ≤ X := by omega
              obtain ⟨V, hV⟩ : ∃ V, V = v + X % 128 * 128 ^ k := ⟨_, rfl⟩
              have HE := Lib.hid (step7 hx256 hk (fun h => absurd h h9) HV.out)
              have HU := Lib.hid (uv_next HX.out HG.out h9 (by omega))
              have HW := Lib.hid (acc_lt (x := X % 128) HV.out (Nat.mod_lt _ (by omega)))
              rw [← hV] at HE HU HW
              clear hV
              have hXd : decide ((X : Int) < 128) = false := decide_eq_false (by omega)
              clear hX hX2 hx256
              go_upto_region 12 with (fail)
              rw [HE.out]
              go_wp2
              exact ⟨⟨k + 1, _, by go_num, rfl, by omega, HW.out, by omega, HU⟩, by simp [intOf]; omega⟩
          · skip
            by_cases hX0 : X = 0
            · have hXb : ((X : Int) == 0) = true := beq_iff_eq.2 (by omega)
              go_wp2
              (try rw [Exit.noGoto_ret])
              refine bodyPost_ret (v := .tuple #[.int .u64 0, .int .i64 0, .int .i64 54]) (by simp [results, Try.results115, go_sem]) rfl ⟨by rw [uv_zero HX.out HG.out hk0 hX0]; rfl, rfl⟩
            · have hXb : ((X : Int) == 0) = false := beq_eq_false_iff_ne.2 (by omega)
              by_cases hX : X < 128
              · skip
                obtain ⟨V, hV⟩ : ∃ V, V = v + X % 128 * 128 ^ k := ⟨_, rfl⟩
                have HE := Lib.hid (step7 hx256 hk (fun h => absurd h h9) HV.out)
                have HU := Lib.hid (uv_done HX.out HG.out (fun h => absurd h h9) (fun h => hX0) (hX))
                rw [← hV] at HE HU
                clear hV
                have hXd : decide ((X : Int) < 128) = true := decide_eq_true (by omega)
                clear hX hx256
                go_upto_region 12 with (fail)
                rw [HE.out]
                go_wp2
                (try rw [Exit.noGoto_ret])
                refine bodyPost_ret (v := .tuple #[.int .u64 (V : Int), .int .i64 ((o : Int) + ((k : Int) + 1)), .int .i64 0]) (by simp [results, Try.results115, go_sem]) rfl ⟨by rw [HU.out]; simp; omega, rfl⟩
              · have hX2 : 128 ≤ X := by omega
                obtain ⟨V, hV⟩ : ∃ V, V = v + X % 128 * 128 ^ k := ⟨_, rfl⟩
                have HE := Lib.hid (step7 hx256 hk (fun h => absurd h h9) HV.out)
                have HU := Lib.hid (uv_next HX.out HG.out h9 (by omega))
                have HW := Lib.hid (acc_lt (x := X % 128) HV.out (Nat.mod_lt _ (by omega)))
                rw [← hV] at HE HU HW
                clear hV
                have hXd : decide ((X : Int) < 128) = false := decide_eq_false (by omega)
                clear hX hX2 hx256
                go_upto_region 12 with (fail)
                rw [HE.out]
                go_wp2
                exact ⟨⟨k + 1, _, by go_num, rfl, by omega, HW.out, by omega, HU⟩, by simp [intOf]; omega⟩
end
section
open Go.RowKit
set_option linter.unusedVariables false
theorem uvGo_lt : ∀ (l : List UInt8) (n v o : Nat), n ≤ 9 → v < 128 ^ n → (uvGo l n v o).1 < 18446744073709551616
  | [], _, _, _, _, _ => by simp [uvGo]
  | x :: r, n, v, o, hn, hv => by
    unfold uvGo
    split
    · simp
    · rename_i h1
      split
      · simp
      · split
        · rename_i h2 h3
          simp only
          rcases Nat.lt_or_ge n 9 with h | h
          · have h4 := acc_lt hv h3
            have h5 := pow9 (k := n + 1) (by omega)
            omega
          · obtain rfl : n = 9 := by omega
            have h4 : x.toNat ≤ 1 := by omega
            have h5 : x.toNat * 128 ^ 9 ≤ 1 * 128 ^ 9 := Nat.mul_le_mul_right _ h4
            have h6 : (128 : Nat) ^ 9 = 9223372036854775808 := by decide +kernel
            rw [h6] at h5 hv ⊢
            omega
        · rename_i h2 h3
          exact uvGo_lt r (n + 1) _ _ (by omega) (acc_lt hv (Nat.mod_lt _ (by omega)))
theorem uvR_lt (bs : List UInt8) (off : Int) : (uvR bs off).1 < 18446744073709551616 := by
  unfold uvR
  split
  · simp
  · exact uvGo_lt _ _ _ _ (by omega) (by omega)
theorem uvGo_next : ∀ (l : List UInt8) (n v o : Nat), (uvGo l n v o).2.2 = 0 → o < (uvGo l n v o).2.1 ∧ (uvGo l n v o).2.1 ≤ o + l.length
  | [], _, _, _, h => by simp [uvGo] at h
  | x :: r, n, v, o, h => by
    unfold uvGo at h ⊢
    split
    · rename_i h1; simp [h1] at h
    · rename_i h1
      rw [if_neg h1] at h
      split
      · rename_i h2; simp [h2] at h
      · rename_i h2
        rw [if_neg h2] at h
        split
        · simp only [List.length_cons]; omega
        · rename_i h3
          rw [if_neg h3] at h
          have := uvGo_next r (n + 1) _ _ h
          simp only [List.length_cons]
          omega
theorem uvR_next {bs : List UInt8} {off : Int} (h : (uvR bs off).2.2 = 0) : 0 ≤ off ∧ off < (uvR bs off).2.1 ∧ (uvR bs off).2.1 ≤ bs.length := by
  unfold uvR at h ⊢
  split
  · rename_i h1; simp [h1] at h
  · rename_i h1
    rw [if_neg h1] at h
    have := uvGo_next _ _ _ _ h
    rw [List.length_drop] at this
    omega
end
section
set_option linter.unusedVariables false
def uvByte (v s i : Nat) : UInt8 := UInt8.ofNat (v / 128 ^ i % 128 + if i + 1 < s then 128 else 0)
def uvB (v s : Nat) : List UInt8 := (List.range s).map (uvByte v s)
def Grp (v s : Nat) : Prop := 1 ≤ s ∧ v < 128 ^ s ∧ (s = 1 ∨ 128 ^ (s - 1) ≤ v)
theorem Grp.le {v s : Nat} (h : Grp v s) (hv : v < 18446744073709551616) : s ≤ 10 := by
  rcases h.2.2 with h1 | h1
  · omega
  · rcases Nat.lt_or_ge 10 s with h2 | h2
    · have : 128 ^ 10 ≤ 128 ^ (s - 1) := Nat.pow_le_pow_right (by omega) (by omega)
      have e : (128 : Nat) ^ 10 = 1180591620717411303424 := by decide
      omega
    · exact h2
theorem Grp.uniq {v s t : Nat} (h : Grp v s) (k : Grp v t) : s = t := by
  rcases Nat.lt_trichotomy s t with hl | hl | hl
  · rcases k.2.2 with h1 | h1
    · have := h.1; omega
    · have : 128 ^ s ≤ 128 ^ (t - 1) := Nat.pow_le_pow_right (by omega) (by omega)
      have := h.2.1; omega
  · exact hl
  · rcases h.2.2 with h1 | h1
    · have := k.1; omega
    · have : 128 ^ t ≤ 128 ^ (s - 1) := Nat.pow_le_pow_right (by omega) (by omega)
      have := k.2.1; omega
theorem uvB_len (v s : Nat) : (uvB v s).length = s := by simp [uvB]
theorem uvB_take (v s i : Nat) (h : i < s) : (uvB v s).take (i + 1) = (uvB v s).take i ++ [uvByte v s i] := by
  rw [List.take_succ_eq_append_getElem (by rw [uvB_len]; exact h)]
  simp [uvB]
end
section
set_option linter.unusedVariables false
theorem uvByte_nat (v s i : Nat) : (uvByte v s i).toNat = v / 128 ^ i % 128 + if i + 1 < s then 128 else 0 := by
  unfold uvByte
  rw [UInt8.toNat_ofNat']
  have : v / 128 ^ i % 128 < 128 := Nat.mod_lt _ (by omega)
  split <;> omega
theorem uvB_drop (v s i : Nat) (h : i < s) : (uvB v s).drop i = uvByte v s i :: (uvB v s).drop (i + 1) := by
  rw [List.drop_eq_getElem_cons (by rw [uvB_len]; exact h)]
  simp [uvB]
theorem uvGo_enc {v s : Nat} (hg : Grp v s) (hv : v < 18446744073709551616) (r : List UInt8) (o : Nat) : ∀ j i, i + j = s → 0 < j → uvGo ((uvB v s).drop i ++ r) i (v % 128 ^ i) (o + i) = (v, o + s, 0)
  | 0, _, _, h => by omega
  | j + 1, i, hij, _ => by
    have hs10 := hg.le hv
    have hb := uvByte_nat v s i
    have hm : v / 128 ^ i % 128 < 128 := Nat.mod_lt _ (by omega)
    rw [uvB_drop v s i (by omega), List.cons_append, uvGo]
    by_cases hl : i + 1 < s
    · rw [if_pos hl] at hb
      rw [if_neg (by omega), if_neg (by omega), if_neg (by omega)]
      have e : v % 128 ^ i + (uvByte v s i).toNat % 128 * 128 ^ i = v % 128 ^ (i + 1) := by
        rw [hb, Nat.add_mod_right, Nat.mod_mod, Nat.mod_pow_succ, Nat.mul_comm]
      rw [e]
      exact uvGo_enc hg hv r o j (i + 1) (by omega) (by omega)
    · obtain rfl : s = i + 1 := by omega
      rw [if_neg hl] at hb
      have hd : v / 128 ^ i < 128 := (Nat.div_lt_iff_lt_mul (Nat.pow_pos (by omega))).2 (by have := hg.2.1; rw [Nat.pow_succ, Nat.mul_comm] at this; exact this)
      rw [Nat.mod_eq_of_lt hd] at hb
      have h9 : ¬ (i = 9 ∧ 1 < (uvByte v (i + 1) i).toNat) := by
        rintro ⟨rfl, h2⟩
        have h6 : (128 : Nat) ^ 9 = 9223372036854775808 := by decide +kernel
        rw [h6] at hb
        omega
      have h0 : ¬ (0 < i ∧ (uvByte v (i + 1) i).toNat = 0) := by
        rintro ⟨h1, h2⟩
        rcases hg.2.2 with h3 | h3
        · omega
        · rw [Nat.add_sub_cancel] at h3
          have := Nat.div_pos h3 (Nat.pow_pos (by omega))
          omega
      rw [if_neg h9, if_neg h0, if_pos (by omega), hb, Nat.add_zero]
      have e : v % 128 ^ i + v / 128 ^ i * 128 ^ i = v := by rw [Nat.mul_comm]; exact Nat.mod_add_div v (128 ^ i)
      rw [e]
      rfl
theorem uvR_enc {v s : Nat} (hg : Grp v s) (hv : v < 18446744073709551616) (h r : List UInt8) : uvR (h ++ (uvB v s ++ r)) (h.length : Nat) = (v, h.length + s, 0) := by
  unfold uvR
  rw [if_neg (by simp; omega)]
  have e : (h ++ (uvB v s ++ r)).drop ((h.length : Int).toNat) = (uvB v s).drop 0 ++ r := by simp
  rw [e]
  have := uvGo_enc hg hv r h.length s 0 (by omega) hg.1
  simpa [Nat.mod_one] using this
end
section
set_option linter.unusedVariables false
open Go.RowKit
def OwnB (w : World) (base : Nat) (e : TypeId) (A : Option Addr) (n c : Nat) (bs : List UInt8) : Prop := w.ownsRow base e 1 (.slice A n c) n (bs.map bv)
theorem OwnB.nil (w : World) (base : Nat) (e : TypeId) : OwnB w base e none 0 0 [] := World.ownsRow_nil w base e 1
theorem OwnB.len {w : World} {base : Nat} {e : TypeId} {A : Option Addr} {n c : Nat} {bs : List UInt8} (h : OwnB w base e A n c bs) : n = bs.length := by
  have := h.1
  simp at this
  exact this.symm
theorem OwnB.form {w : World} {base : Nat} {e : TypeId} {A : Option Addr} {n c : Nat} {bs : List UInt8} (h : OwnB w base e A n c bs) (hn : 0 < n) :
    ∃ g, A = some ⟨g, 0, none⟩ ∧ base ≤ g ∧ g < w.heap.size ∧ n ≤ c := by
  rcases h.2 with ⟨h', h0⟩ | ⟨g, cap, cur, h', hb, hg, hnc, hcm, hcs, htake⟩
  · omega
  · injection h' with h1 h2 h3
    subst h1
    exact ⟨g, rfl, hb, (Array.getElem?_eq_some_iff.1 hg).1, by omega⟩
theorem OwnB.isB {w : World} {base : Nat} {e : TypeId} {A : Option Addr} {n c : Nat} {bs : List UInt8} (h : OwnB w base e A n c bs) : IsB w A n bs := by
  refine ⟨h.len, fun hn => ?_⟩
  obtain ⟨g, rfl, _, _, hc⟩ := h.form hn
  refine ⟨g, 0, rfl, fun i hi => ?_⟩
  have := World.ownsRow.cellAt (h : w.ownsRow base e 1 (.slice (some ⟨g, 0, none⟩) n c) n (bs.map bv)) i (by have := h.len; omega)
  rw [Nat.zero_add, this]
  simp [hi, bv]
theorem OwnB.ge {w : World} {base : Nat} {e : TypeId} {A : Option Addr} {n c : Nat} {bs : List UInt8} (h : OwnB w base e A n c bs) : ∀ k, (Value.slice A n c).ownBlock = some k → base ≤ k := fun k hk => (World.ownsRow.lt h k hk).1
theorem OwnB.alloc {w : World} {base : Nat} {e : TypeId} {A : Option Addr} {n c : Nat} {bs : List UInt8} (h : OwnB w base e A n c bs) (o : Obj) : OwnB (w.alloc o) base e A n c bs := World.ownsRow.alloc h o
theorem OwnB.below {w w' : World} {base : Nat} {e : TypeId} {A : Option Addr} {n c : Nat} {bs : List UInt8} (h : OwnB w base e A n c bs) (hb : Below w.heap.size w w') : OwnB w' base e A n c bs :=
  World.ownsRow.kept h (row := none) ⟨hb.os, hb.tape, hb.output, hb.size, fun k hk _ => hb.block k hk⟩ (by cases hv : (Value.slice A n c).ownBlock <;> simp)
theorem IsB.pre {w : World} {A : Option Addr} {n : Nat} {bs : List UInt8} (h : IsB w A n bs) (k : Nat) (hk : k ≤ n) : IsB w A k (bs.take k) := by
  refine ⟨by have := h.1; simp; omega, fun h0 => ?_⟩
  obtain ⟨b, o, e, hc⟩ := h.2 (by omega)
  exact ⟨b, o, e, fun i hi => by
    have hi' : i < bs.length := by simp at hi; omega
    rw [hc i hi']; simp⟩
section
variable {P : Program} {ops : Array Oper} {rest : List Oper} {Q : Exit → Act → World → Prop} {a : Act} {w : World} {dst : Option Tmp} {typ : TypeId} {pos : String} {after : Array Edge}
theorem wp_append_b {o : Oper} (hgd : o.guard = none) (s x : Operand) (t : TypeId) (ho : o.op = .call { callee := .builtin .append, args := #[s, x], argTypes := #[t, t] }) {e : TypeId} {base n c m c' : Nat} {A B : Option Addr} {bs cs : List UInt8} (ht : P.underlying t = some (.slice e))
    (hinfo : (P.info? e).map (fun i => (i.zero, i.size, i.bytes)) = some (some (.int .u8 0), 1, 1)) (hown : OwnB w base e A n c bs) (hB : IsB w B m cs) (hlen : n + m ≤ 140737488355328) (hbase : base ≤ w.heap.size)
    (hs : a.eval s = .slice A n c) (hx : a.eval x = .slice B m c')
    (h : ∀ A' n' c'' w', Hid (n' = n + m) → OwnB w' base e A' n' c'' (bs ++ cs) → Below base w w' → w.grownBy w' (Value.slice A n c).ownBlock → ((Value.slice A' n' c'').ownBlock = (Value.slice A n c).ownBlock ∨ (Value.slice A' n' c'').ownBlock = some w.heap.size) → wpList P ops Q rest (a.put o.dst (.slice A' n' c'')) w') :
    wpList P ops Q (o :: rest) a w := by
  obtain ⟨i, hi, hz⟩ := Option.map_eq_some_iff.1 hinfo
  simp only [Prod.mk.injEq] at hz
  obtain ⟨hz0, hz1, hz2⟩ := hz
  have key : ∃ A' c'' w', (Builtin.append_ #[t, t] o.type #[.slice A n c, .slice B m c']).run P w = .ok (.slice A' (n + m) c'') w' ∧ OwnB w' base e A' (n + m) c'' (bs ++ cs) ∧ w.grownBy w' (Value.slice A n c).ownBlock ∧ ((Value.slice A' (n + m) c'').ownBlock = (Value.slice A n c).ownBlock ∨ (Value.slice A' (n + m) c'').ownBlock = some w.heap.size) := by
    rcases Nat.eq_zero_or_pos m with h0 | h0
    · subst h0
      obtain rfl : cs = [] := List.eq_nil_of_length_eq_zero hB.1.symm
      refine ⟨A, c, w, ?_, by simpa using hown, World.grownBy.refl w _, .inl rfl⟩
      rcases hown.2 with ⟨h', hn⟩ | ⟨g, cap, cur, h', _, _, hnc, _⟩
      · injection h' with h1 h2 h3
        subst h1; subst h2; subst h3
        cases B <;> simp [Builtin.append_, run_underlying ht, sizeOf, typeInfo, hi, Builtin.lenOf, Builtin.firstCells, loadCells, loadCellsFrom]
      · injection h' with h1 h2 h3
        subst h1; subst h3
        cases B <;> simp [Builtin.append_, run_underlying ht, sizeOf, typeInfo, hi, Builtin.lenOf, Builtin.firstCells, hnc, storeCells, loadCells, loadCellsFrom]
    · obtain ⟨ad, rfl, hsrc⟩ := hB.src h0
      obtain ⟨v', w', hr, h2, h3, h4, h5⟩ := run_append_own_at (P := P) w base t o.type e i _ 1 1 ht hi hz0 hz1 hz2 rfl (by omega) (.slice A n c) n (bs.map bv) hown ad m c' (cs.map bv)
        (by simp [← hB.1]) hsrc (bv_one cs) (by simp only [maxLen]; omega) (by omega) hbase
      rcases h2.2 with ⟨rfl, hn0⟩ | ⟨g, cap, cur, rfl, rest'⟩
      · omega
      · exact ⟨_, _, _, hr, by unfold OwnB; rw [List.map_append]; exact h2, h3, h5⟩
  obtain ⟨A', c'', w', hr, h2, h3, h5⟩ := key
  refine wpList_plain hgd fun K hK => ?_
  unfold Oper.wp execOp
  simp only [ho, resolve, invoke, builtin, Sem.run_bind, Sem.run_pure, Result.andThen_ok, List.map_toArray, List.map_cons, List.map_nil, hs, hx, hr]
  exact hK _ _ (h _ _ _ _ (Lib.hid rfl) h2 ((Below.refl _ _).grown h3 hbase hown.ge) h3 h5)
end
end
section
open Go.RowKit
set_option linter.unusedVariables false
section
variable {P : Program} {K : Act → World → Prop} {Q : Exit → Act → World → Prop} {a : Act} {w : World} {dst : Option Tmp} {typ : TypeId} {pos : String} {after : Array Edge} {gd : Option (Nat × Bool)}
theorem run_append_b {t e : TypeId} {base n c m c' : Nat} {A B : Option Addr} {bs cs : List UInt8} (ht : P.underlying t = some (.slice e))
    (hinfo : (P.info? e).map (fun i => (i.zero, i.size, i.bytes)) = some (some (.int .u8 0), 1, 1)) (hown : OwnB w base e A n c bs) (hB : IsB w B m cs) (hlen : n + m ≤ 140737488355328) (hbase : base ≤ w.heap.size) :
    ∃ A' c'' w', (Builtin.append_ #[t, t] typ #[.slice A n c, .slice B m c']).run P w = .ok (.slice A' (n + m) c'') w' ∧ OwnB w' base e A' (n + m) c'' (bs ++ cs) ∧ w.grownBy w' (Value.slice A n c).ownBlock ∧ ((Value.slice A' (n + m) c'').ownBlock = (Value.slice A n c).ownBlock ∨ (Value.slice A' (n + m) c'').ownBlock = some w.heap.size) := by
  obtain ⟨i, hi, hz⟩ := Option.map_eq_some_iff.1 hinfo
  simp only [Prod.mk.injEq] at hz
  obtain ⟨hz0, hz1, hz2⟩ := hz
  rcases Nat.eq_zero_or_pos m with h0 | h0
  · subst h0
    obtain rfl : cs = [] := List.eq_nil_of_length_eq_zero hB.1.symm
    refine ⟨A, c, w, ?_, by simpa using hown, World.grownBy.refl w _, .inl rfl⟩
    rcases hown.2 with ⟨h', hn⟩ | ⟨g, cap, cur, h', _, _, hnc, _⟩
    · injection h' with h1 h2 h3
      subst h1; subst h2; subst h3
      cases B <;> simp [Builtin.append_, run_underlying ht, sizeOf, typeInfo, hi, Builtin.lenOf, Builtin.firstCells, loadCells, loadCellsFrom]
    · injection h' with h1 h2 h3
      subst h1; subst h3
      cases B <;> simp [Builtin.append_, run_underlying ht, sizeOf, typeInfo, hi, Builtin.lenOf, Builtin.firstCells, hnc, storeCells, loadCells, loadCellsFrom]
  · obtain ⟨ad, rfl, hsrc⟩ := hB.src h0
    obtain ⟨v', w', hr, h2, h3, h4, h5⟩ := run_append_own_at (P := P) w base t typ e i _ 1 1 ht hi hz0 hz1 hz2 rfl (by omega) (.slice A n c) n (bs.map bv) hown ad m c' (cs.map bv)
      (by simp [← hB.1]) hsrc (bv_one cs) (by simp only [maxLen]; omega) (by omega) hbase
    rcases h2.2 with ⟨rfl, hn0⟩ | ⟨g, cap, cur, rfl, rest'⟩
    · omega
    · exact ⟨_, _, _, hr, by unfold OwnB; rw [List.map_append]; exact h2, h3, h5⟩
theorem step_append_b {s x : Operand} {t e : TypeId} {base n c m c' : Nat} {A B : Option Addr} {bs cs : List UInt8} (ht : P.underlying t = some (.slice e))
    (hinfo : (P.info? e).map (fun i => (i.zero, i.size, i.bytes)) = some (some (.int .u8 0), 1, 1)) (hown : OwnB w base e A n c bs) (hB : IsB w B m cs) (hlen : n + m ≤ 140737488355328) (hbase : base ≤ w.heap.size)
    (hs : a.eval s = .slice A n c) (hx : a.eval x = .slice B m c')
    (h : ∀ A' c'' w', OwnB w' base e A' (n + m) c'' (bs ++ cs) → Below base w w' → w.grownBy w' (Value.slice A n c).ownBlock → ((Value.slice A' (n + m) c'').ownBlock = (Value.slice A n c).ownBlock ∨ (Value.slice A' (n + m) c'').ownBlock = some w.heap.size) → K (a.put dst (.slice A' (n + m) c'')) w') :
    Oper.wp P { dst := dst, op := .call { callee := .builtin .append, args := #[s, x], argTypes := #[t, t] }, type := typ, pos := pos, after := after, guard := gd } a w K Q := by
  obtain ⟨A', c'', w', hr, h2, h3, h5⟩ := run_append_b (P := P) (typ := typ) (c' := c') ht hinfo hown hB hlen hbase
  unfold Oper.wp execOp
  simp only [resolve, invoke, builtin, Sem.run_bind, Sem.run_pure, Result.andThen_ok, List.map_toArray, List.map_cons, List.map_nil, hs, hx, hr]
  exact h _ _ _ h2 ((Below.refl _ _).grown h3 hbase hown.ge) h3 h5
end
end
section
open Go.RowKit
set_option linter.unusedVariables false
theorem info_b : (Try.prog.info? 5).map (fun i => (i.zero, i.size, i.bytes)) = some (some (.int .u8 0), 1, 1) := by kernel_rfl
theorem info_u8 : (Try.prog.info? 5).map (fun i => (i.zero, i.size, i.bytes)) = some (some (.int .u8 0), 1, 1) := by kernel_rfl
theorem info_u8s : (Try.prog.info? 5).map (·.size) = some 1 := by kernel_rfl
def fixB (v s : Nat) : List UInt8 := (List.range s).map (fun i => UInt8.ofNat (v / 256 ^ i % 256))
theorem fixB_len (v s : Nat) : (fixB v s).length = s := by simp [fixB]
theorem fixB_snoc (v s : Nat) : fixB v (s + 1) = fixB v s ++ [UInt8.ofNat (v / 256 ^ s % 256)] := by simp [fixB, List.range_succ]
theorem fixB_take (v s i : Nat) (h : i < s) : (fixB v s).take (i + 1) = (fixB v s).take i ++ [UInt8.ofNat (v / 256 ^ i % 256)] := by
  rw [List.take_succ_eq_append_getElem (by rw [fixB_len]; exact h)]
  simp [fixB]
set_option maxHeartbeats 2000000 in
theorem append_fixed (A : Option Addr) (n c : Nat) (bs : List UInt8) (v s : Nat) (w : World) (hA : IsB w A n bs) (hn : n ≤ 1000000000) (hv : v < 18446744073709551616) (s0 : 0 < s) (s8 : s ≤ 8) :
    Calls Try.prog 142 #[.slice A n c, .int .u64 v, .int .i64 s] w (NewB w 5 (bs ++ fixB v s)) := by
  have hl := Lib.hid hA.1
  go_enter Try.func142, Try.ntmps142
  go_upto_region 2 with ((at_make; refine wp_make (n + s) Try.underlying44 info_u8 rfl (by omega) (by omega) rfl rfl (by omega) (by omega) ?_; intro w1 r1 hB1))
  have hbs := hA.below hB1
  have g1 : (bs.map bv).length = Nat.min n (n + s) := by rw [List.length_map, ← hl.out]; exact (Nat.min_eq_left (by omega)).symm
  have g2 : CopyOk w1 (some ⟨w.heap.size, 0, none⟩) w.heap.size 0 A (bs.map bv) := fun h => ⟨rfl, hbs.src (by have := hl.out; simp at h; omega)⟩
  have g3 : 0 + (bs.map bv).length ≤ (List.replicate (n + s) (Value.int .u8 0)).length := by have := hl.out; simp; omega
  have G1 := Lib.hid g1
  clear g1
  go_upto_region 3 with ((with_reducible refine wp_row_copy (dCap := n + s) (sCap := c) r1 Try.underlying44 info_u8s G1.out g2 g3 (bv_one bs) ?_ ?_ ?_); rfl; rfl; intro w2 u2 r2)
  have hB2 := Upd.below hB1 u2 (Nat.le_refl _)
  have r2 : Row w2 w.heap.size 5 ((bs ++ (fixB v s).take 0 ++ List.replicate (s - 0) 0).map bv).toArray := by
    have e := hl.out
    subst e
    simpa [bv] using r2
  clear g2 g3 G1 u2 r1 hB1
  go_wp2
  go_loopw [8] (fun i wr => ∃ k : Nat, k ≤ s ∧ i = .int .i64 k ∧ Row wr w.heap.size 5 ((bs ++ (fixB v s).take k ++ List.replicate (s - k) 0).map bv).toArray ∧ Below w.heap.size w wr) (fun i _ => s - (intOf i).toNat)
  case atStart => exact ⟨0, by omega, rfl, r2, hB2⟩
  case round =>
    obtain ⟨k, hk, rfl, hr, hB⟩ := hrel
    by_cases hkt : k < s
    · have hc : Hid ((bs ++ (fixB v s).take k).length = n + k) := Lib.hid (by have := hl.out; simp [fixB_len]; omega)
      have hcell : wr.cell? ⟨w.heap.size, n + k, none⟩ = some (.int .u8 0) := by
        rw [hr.cell, ← hc.out, show s - k = (s - (k + 1)) + 1 by omega, List.replicate_succ]
        simp [bv]
      have hfz := hr.frozen (n + k)
      have HN : Hid (Row (wr.setCell ⟨w.heap.size, n + k, none⟩ (bv (UInt8.ofNat (v / 256 ^ k % 256)))) w.heap.size 5 ((bs ++ (fixB v s).take (k + 1) ++ List.replicate (s - (k + 1)) 0).map bv).toArray) := Lib.hid (by
        have h := hr.set (n + k) (bv (UInt8.ofNat (v / 256 ^ k % 256)))
        rw [← hc.out, show s - k = (s - (k + 1)) + 1 by omega, List.replicate_succ, bv_set] at h
        rw [fixB_take v s k hkt, ← hc.out]
        simpa using h)
      have HW : Hid (Value.int .u8 ((v : Int) / 2 ^ (8 * k) % 256) = bv (UInt8.ofNat (v / 256 ^ k % 256))) := Lib.hid (by
        rw [show ((2 : Int) ^ (8 * k)) = ((256 ^ k : Nat) : Int) by rw [pow_256r]; simp, ← bv_nat _ (Nat.mod_lt _ (by omega))]
        simp)
      clear r2 hB2
      go_upto_region 5 with (fail)
      rw [HW.out]
      go_wp2
      exact ⟨⟨k + 1, by omega, by go_num, HN.out, hB.setCell (Nat.le_refl _) _⟩, by simp [intOf]; omega⟩
    · obtain rfl : k = s := by omega
      have hk1 : (fixB v k).take k = fixB v k := List.take_of_length_le (by rw [fixB_len]; omega)
      rw [hk1, Nat.sub_self, List.replicate_zero, List.append_nil] at hr
      have hlen : n + k = (bs ++ fixB v k).length := by have := hl.out; simp [fixB_len]; omega
      have HL := Lib.hid hlen
      clear hk1 hlen
      go_wp2
      go_ret
      exact ⟨w.heap.size, n + k, Nat.le_refl _, HL.out, rfl, hr, hB⟩
theorem app16 (A : Option Addr) (n c : Nat) (bs : List UInt8) (v : Nat) (w : World) (hA : IsB w A n bs) (hn : n ≤ 1000000000) (hv : v < 65536) :
    Calls Try.prog 134 #[.slice A n c, .int .u16 v] w (NewB w 5 (bs ++ fixB v 2)) := by
  have hC := append_fixed A n c bs v 2 w hA hn (by omega) (by omega) (by omega)
  change Calls _ _ #[.slice A n c, .int .u64 v, .int .i64 2] _ _ at hC
  go_enter Try.func134, Try.ntmps134
  go_wp2_with (go_at_call 142; refine hC.mono ?_; rintro e w' ⟨g, m, hge, hm, rfl, hr, hb⟩)
  go_ret
  exact ⟨g, m, hge, hm, rfl, hr, hb⟩
theorem app32 (A : Option Addr) (n c : Nat) (bs : List UInt8) (v : Nat) (w : World) (hA : IsB w A n bs) (hn : n ≤ 1000000000) (hv : v < 4294967296) :
    Calls Try.prog 138 #[.slice A n c, .int .u32 v] w (NewB w 5 (bs ++ fixB v 4)) := by
  have hC := append_fixed A n c bs v 4 w hA hn (by omega) (by omega) (by omega)
  change Calls _ _ #[.slice A n c, .int .u64 v, .int .i64 4] _ _ at hC
  go_enter Try.func138, Try.ntmps138
  go_wp2_with (go_at_call 142; refine hC.mono ?_; rintro e w' ⟨g, m, hge, hm, rfl, hr, hb⟩)
  go_ret
  exact ⟨g, m, hge, hm, rfl, hr, hb⟩
end
section
open Go.RowKit
set_option linter.unusedVariables false
theorem info_w8 : (Try.prog.info? 5).map (fun i => (i.zero, i.size, i.bytes)) = some (some (.int .u8 0), 1, 1) := by kernel_rfl
theorem info_w8s : (Try.prog.info? 5).map (·.size) = some 1 := by kernel_rfl
theorem and127 {V : Nat} (h : V < 18446744073709551616) : bits .and .u64 (V : Int) 127 = ((V % 128 : Nat) : Int) := by
  have := u64_and_nat V 127 h (by omega)
  rw [show V &&& 127 = V % 128 from Nat.and_two_pow_sub_one_eq_mod V 7] at this
  exact this
theorem or128 {x : Nat} (h : x < 128) : bits .or .u8 (x : Int) 128 = ((x + 128 : Nat) : Int) := by
  have := u8_or_nat x 128 (by omega) (by omega)
  have e := Nat.two_pow_add_eq_or_of_lt (i := 7) h 1
  rw [Nat.or_comm, show (128 : Nat) = 2 ^ 7 * 1 from rfl, ← e] at this
  rw [show x + 128 = 2 ^ 7 * 1 + x by omega]
  exact this
theorem div_step (v s : Nat) : v / 128 ^ s / 128 = v / 128 ^ (s + 1) := by rw [Nat.div_div_eq_div_mul, Nat.pow_succ]
set_option maxHeartbeats 2000000 in
theorem append_uvarint (A : Option Addr) (n c : Nat) (bs : List UInt8) (v s : Nat) (w : World) (hA : IsB w A n bs) (hn : n ≤ 1000000000) (hv : v < 18446744073709551616) (hg : Grp v s) :
    Calls Try.prog 113 #[.slice A n c, .int .u64 v] w (NewB w 5 (bs ++ uvB v s)) := by
  have hs10 := hg.le hv
  have hl := Lib.hid hA.1
  have HG := Lib.hid hg
  go_enter Try.func113, Try.ntmps113
  go_wp2
  go_loop [5, 6] (fun z r => ∃ t : Nat, 1 ≤ t ∧ t ≤ s ∧ z = .int .i64 t ∧ r = .int .u64 (v / 128 ^ t : Nat) ∧ (t = 1 ∨ 128 ^ (t - 1) ≤ v)) (fun _ r => (intOf r).toNat)
  case atStart => exact ⟨1, by omega, HG.out.1, rfl, by go_num, .inl rfl⟩
  case round =>
    obtain ⟨t, t1, ts, rfl, rfl, ht⟩ := hrel
    have HT := Lib.hid ht
    clear ht
    have HD := Lib.hid (div_step v t)
    have HR : Hid (0 < v / 128 ^ t → 128 ^ t ≤ v) := Lib.hid (fun h => by
      rcases Nat.lt_or_ge v (128 ^ t) with h1 | h1
      · rw [Nat.div_eq_of_lt h1] at h; omega
      · exact h1)
    have HZ : Hid (v / 128 ^ t = 0 → v < 128 ^ t) := Lib.hid (fun h => by
      rcases Nat.lt_or_ge v (128 ^ t) with h1 | h1
      · exact h1
      · have := Nat.div_pos h1 (Nat.pow_pos (by omega)); omega)
    have hRv : v / 128 ^ t ≤ v := Nat.div_le_self _ _
    generalize hR : v / 128 ^ t = R at *
    have HRe := Lib.hid hR
    clear hR
    by_cases h0 : 0 < R
    · have hts : t < s := by
        rcases Nat.lt_or_ge t s with h1 | h1
        · exact h1
        · have := HG.out.2.1
          have : 128 ^ s ≤ 128 ^ t := Nat.pow_le_pow_right (by omega) h1
          have := HR.out h0
          omega
      go_wp2
      exact ⟨⟨t + 1, by omega, by omega, by go_num, by rw [← HD.out, ← HRe.out]; go_num, .inr (HR.out h0)⟩, by simp [intOf]; omega⟩
    · obtain rfl : R = 0 := by omega
      have hts : t = s := Grp.uniq (v := v) ⟨t1, HZ.out rfl, HT.out⟩ HG.out
      subst hts
      clear HT HD HR HZ HRe hRv
      go_upto_region 7 with ((at_make; refine wp_make (n + t) Try.underlying44 info_w8 rfl (by omega) (by omega) rfl rfl (by omega) (by omega) ?_; intro w1 r1 hB1))
      have hbs := hA.below hB1
      have g1 : (bs.map bv).length = Nat.min n (n + t) := by rw [List.length_map, ← hl.out]; exact (Nat.min_eq_left (by omega)).symm
      have g2 : CopyOk w1 (some ⟨w.heap.size, 0, none⟩) w.heap.size 0 A (bs.map bv) := fun h => ⟨rfl, hbs.src (by have := hl.out; simp at h; omega)⟩
      have g3 : 0 + (bs.map bv).length ≤ (List.replicate (n + t) (Value.int .u8 0)).length := by have := hl.out; simp; omega
      have G1 := Lib.hid g1
      clear g1
      go_upto_region 8 with ((with_reducible refine wp_row_copy (dCap := n + t) (sCap := c) r1 Try.underlying44 info_w8s G1.out g2 g3 (bv_one bs) ?_ ?_ ?_); rfl; rfl; intro w2 u2 r2)
      have hB2 := Upd.below hB1 u2 (Nat.le_refl _)
      have r2 : Row w2 w.heap.size 5 ((bs ++ (uvB v t).take 0 ++ List.replicate (t - 0) 0).map bv).toArray := by
        have e := hl.out
        subst e
        simpa [bv] using r2
      clear g2 g3 G1 u2 r1 hB1
      go_wp2
      go_loopw [1, 8] (fun x i wr => ∃ k : Nat, k ≤ t ∧ i = .int .i64 k ∧ x = .int .u64 (v / 128 ^ k : Nat) ∧ Row wr w.heap.size 5 ((bs ++ (uvB v t).take k ++ List.replicate (t - k) 0).map bv).toArray ∧ Below w.heap.size w wr) (fun _ i _ => t - (intOf i).toNat)
      case atStart => exact ⟨0, by omega, rfl, by go_num, r2, hB2⟩
      case round =>
        obtain ⟨k, hk, rfl, rfl, hr, hB⟩ := hrel
        by_cases hkt : k < t
        · have HD := Lib.hid (div_step v k)
          have hV : v / 128 ^ k < 18446744073709551616 := Nat.lt_of_le_of_lt (Nat.div_le_self _ _) hv
          have hc : Hid ((bs ++ (uvB v t).take k).length = n + k) := Lib.hid (by have := hl.out; simp [uvB_len]; omega)
          have hcell : wr.cell? ⟨w.heap.size, n + k, none⟩ = some (.int .u8 0) := by
            rw [hr.cell, ← hc.out, show t - k = (t - (k + 1)) + 1 by omega, List.replicate_succ]
            simp [bv]
          have hfz := hr.frozen (n + k)
          have HN : Hid (∀ x, x = uvByte v t k → Row (wr.setCell ⟨w.heap.size, n + k, none⟩ (bv x)) w.heap.size 5 ((bs ++ (uvB v t).take (k + 1) ++ List.replicate (t - (k + 1)) 0).map bv).toArray) := Lib.hid (fun x hx => by
            have h := hr.set (n + k) (bv x)
            rw [← hc.out, show t - k = (t - (k + 1)) + 1 by omega, List.replicate_succ, bv_set] at h
            rw [uvB_take v t k hkt, ← hx, ← hc.out]
            simpa using h)
          have hUb : Hid (uvByte v t k = UInt8.ofNat (v / 128 ^ k % 128 + if k + 1 < t then 128 else 0)) := Lib.hid rfl
          generalize v / 128 ^ k = V at *
          have e1 := and127 hV
          have e2 := or128 (x := V % 128) (by omega)
          by_cases hlast : k + 1 < t
          · go_wp2
            have hv1 : Value.int .u8 (bits BinOp.or IntKind.u8 ((V : Int) % 128) 128) = bv (UInt8.ofNat (V % 128 + 128)) := by
              rw [show ((V : Int) % 128) = ((V % 128 : Nat) : Int) by omega, or128 (by omega)]; exact bv_nat _ (by omega)
            rw [hv1]
            exact ⟨⟨k + 1, by omega, by go_num, by rw [← HD.out]; go_num, HN.out _ (by rw [hUb.out, if_pos hlast]), hB.setCell (Nat.le_refl _) _⟩, by simp [intOf]; omega⟩
          · go_wp2
            have hv1 : Value.int .u8 ((V : Int) % 128) = bv (UInt8.ofNat (V % 128 + 0)) := by
              rw [show ((V : Int) % 128) = ((V % 128 : Nat) : Int) by omega]; exact bv_nat _ (by omega)
            rw [hv1]
            exact ⟨⟨k + 1, by omega, by go_num, by rw [← HD.out]; go_num, HN.out _ (by rw [hUb.out, if_neg hlast]), hB.setCell (Nat.le_refl _) _⟩, by simp [intOf]; omega⟩
        · obtain rfl : k = t := by omega
          have hk1 : (uvB v k).take k = uvB v k := List.take_of_length_le (by rw [uvB_len]; omega)
          rw [hk1, Nat.sub_self, List.replicate_zero, List.append_nil] at hr
          have hlen : n + k = (bs ++ uvB v k).length := by have := hl.out; simp [uvB_len]; omega
          have HL := Lib.hid hlen
          clear hk1 hlen
          go_wp2
          go_ret
          exact ⟨w.heap.size, n + k, Nat.le_refl _, HL.out, rfl, hr, hB⟩
end
section
open Go.RowKit
set_option linter.unusedVariables false
theorem below_two {a b c : World} (h : Below a.heap.size a b) (k : Below b.heap.size b c) : Below a.heap.size a c := h.trans (k.mono h.size)
set_option maxRecDepth 20000 in
set_option maxHeartbeats 2000000 in
theorem append_bytes (A : Option Addr) (n c : Nat) (bs : List UInt8) (B : Option Addr) (m d : Nat) (ps : List UInt8) (s : Nat) (w : World) (hA : IsB w A n bs) (hn : n ≤ 1000000) (hB : IsB w B m ps) (hm : m ≤ 1000000) (hg : Grp m s) :
    Calls Try.prog 114 #[.slice A n c, .slice B m d] w (NewB w 5 (bs ++ (uvB m s ++ ps))) := by
  have hl := Lib.hid hA.1
  have hl2 := Lib.hid hB.1
  have hs10 := hg.le (show m < 18446744073709551616 by omega)
  have HC := Lib.hid (append_uvarint A n c bs m s w hA (by omega) (by omega) hg)
  have HB := Lib.hid hB
  clear hA hB hg
  go_enter Try.func114, Try.ntmps114
  go_wp2_with fail
  refine HC.out.mono ?_
  rintro e w1 ⟨g1, h, hge1, hh, rfl, hr1, hb1⟩
  change Hid (h = _) at hh
  have hi1 := IsB.of_row hr1
  rw [← hh.out] at hi1
  have HH : Hid (h = n + s) := Lib.hid (by have := hh.out; have := hl.out; simp [uvB_len] at *; omega)
  have hh2 : h ≤ 2000000 := by have := HH.out; omega
  have HI1 := Lib.hid hi1
  obtain ⟨hd, HD⟩ : ∃ hd, Hid (hd = bs ++ uvB m s) := ⟨_, Lib.hid rfl⟩
  rw [← HD.out] at hh HI1
  clear hr1 hi1 HC
  go_upto_region 3 with ((at_make; refine wp_make (h + m) Try.underlying44 info_w8 rfl (by omega) (by omega) rfl rfl (by omega) (by omega) ?_; intro w2 r2 hb2))
  have hi2 := HI1.out.below hb2
  have hp2 := HB.out.below (below_two hb1 hb2)
  have g1' : (hd.map bv).length = Nat.min h (h + m) := by rw [List.length_map, ← hh.out]; exact (Nat.min_eq_left (by omega)).symm
  have g2 : CopyOk w2 (some ⟨w1.heap.size, 0, none⟩) w1.heap.size 0 (some ⟨g1, 0, none⟩) (hd.map bv) := fun hp => ⟨rfl, hi2.src (by have := hh.out; simp at hp; omega)⟩
  have g3 : 0 + (hd.map bv).length ≤ (List.replicate (h + m) (Value.int .u8 0)).length := by have := hh.out; simp; omega
  have G1 := Lib.hid g1'
  clear g1'
  go_upto_region 4 with ((with_reducible refine wp_row_copy (dCap := h + m) (sCap := h) r2 Try.underlying44 info_w8s G1.out g2 g3 (bv_one hd) ?_ ?_ ?_); rfl; rfl; intro w3 u3 r3)
  have hb3 := Upd.below hb2 u3 (Nat.le_refl _)
  have hp3 := HB.out.below (below_two hb1 hb3)
  have r3 : Row w3 w1.heap.size 5 (hd.map bv ++ List.replicate m (Value.int .u8 0)).toArray := by
    have e := hh.out
    subst e
    simpa using r3
  clear g2 g3 G1 u3 r2 hi2 hp2 hb2
  rcases Nat.eq_zero_or_pos m with h0 | h0
  · subst h0
    have hps : ps = [] := List.eq_nil_of_length_eq_zero hl2.out.symm
    subst hps
    have q1 : (([] : List UInt8).map bv).length = Nat.min 0 0 := rfl
    have q2 : CopyOk w3 (some ⟨w1.heap.size, 0, none⟩) w1.heap.size 0 B (([] : List UInt8).map bv) := fun hp => absurd hp (by simp)
    have q3 : 0 + (([] : List UInt8).map bv).length ≤ (hd.map bv ++ List.replicate 0 (Value.int .u8 0)).length := by simp
    have Q1 := Lib.hid q1
    clear q1
    go_upto_region 5 with ((with_reducible refine wp_row_copy (dCap := 0) (sCap := d) r3 Try.underlying44 info_w8s Q1.out q2 q3 (bv_one []) ?_ ?_ ?_); rfl; rfl; intro w4 u4 r4)
    have hb4 := Upd.below hb3 u4 (Nat.le_refl _)
    have r4 : Row w4 w1.heap.size 5 ((hd ++ []).map bv).toArray := by simpa using r4
    have HL : Hid (h = (hd ++ []).length) := Lib.hid (by have := hh.out; simpa using this)
    clear q2 q3 Q1 u4 r3
    go_wp2
    go_ret
    exact ⟨w1.heap.size, h, hb1.size, by rw [← List.append_assoc, ← HD.out]; exact HL, rfl, by rw [← List.append_assoc, ← HD.out]; exact r4, below_two hb1 hb4⟩
  · have q1 : (ps.map bv).length = Nat.min m m := by rw [List.length_map, ← hl2.out]; simp
    have q2 : CopyOk w3 (some ⟨w1.heap.size, h, none⟩) w1.heap.size h B (ps.map bv) := fun hp => ⟨rfl, hp3.src (by have := hl2.out; simp at hp; omega)⟩
    have q3 : h + (ps.map bv).length ≤ (hd.map bv ++ List.replicate m (Value.int .u8 0)).length := by have := hh.out; have := hl2.out; simp; omega
    have Q1 := Lib.hid q1
    clear q1
    go_upto_region 5 with ((with_reducible refine wp_row_copy (dCap := m) (sCap := d) r3 Try.underlying44 info_w8s Q1.out q2 q3 (bv_one ps) ?_ ?_ ?_); rfl; rfl; intro w4 u4 r4)
    have hb4 := Upd.below hb3 u4 (Nat.le_refl _)
    have r4 : Row w4 w1.heap.size 5 ((hd ++ ps).map bv).toArray := by
      have e := hh.out
      have e2 := hl2.out
      subst e
      have e3 : (hd.map bv ++ List.replicate m (Value.int .u8 0)).take hd.length = hd.map bv := List.take_left' (by simp)
      have e4 : (hd.map bv ++ List.replicate m (Value.int .u8 0)).drop (hd.length + (ps.map bv).length) = [] := List.drop_eq_nil_of_le (by simp; omega)
      rw [e3, e4] at r4
      simpa using r4
    have HL : Hid (h + m = (hd ++ ps).length) := Lib.hid (by have := hh.out; have := hl2.out; simp; omega)
    clear q2 q3 Q1 u4 r3
    go_wp2
    go_ret
    exact ⟨w1.heap.size, h + m, hb1.size, by rw [← List.append_assoc, ← HD.out]; exact HL, rfl, by rw [← List.append_assoc, ← HD.out]; exact r4, below_two hb1 hb4⟩
end
section
open Go.RowKit
set_option linter.unusedVariables false
def bR (bs : List UInt8) (off limit : Int) : List UInt8 × Nat × Nat :=
  if off < 0 ∨ (bs.length : Int) < off ∨ limit < 0 then ([], 0, 6)
  else if (uvR bs off).2.2 ≠ 0 then ([], 0, (uvR bs off).2.2)
  else if limit < (uvR bs off).1 then ([], 0, 15)
  else if bs.length - (uvR bs off).2.1 < (uvR bs off).1 then ([], 0, 52)
  else ((bs.drop (uvR bs off).2.1).take (uvR bs off).1, (uvR bs off).2.1 + (uvR bs off).1, 0)
def BPost (bs : List UInt8) (off limit : Int) (w : World) (e : Ending) (w' : World) : Prop :=
  ∃ A n c, e = .returned (.tuple #[.slice A n c, .int .i64 ((bR bs off limit).2.1 : Nat), .int .i64 ((bR bs off limit).2.2 : Nat)]) ∧ OwnB w' w.heap.size 5 A n c (bR bs off limit).1 ∧ Below w.heap.size w w'
theorem OwnB.of_row {w : World} {base g : Nat} {e : TypeId} {bs : List UInt8} (h : Row w g e (bs.map bv).toArray) (hb : base ≤ g) (hm : bs.length ≤ maxLen) : OwnB w base e (some ⟨g, 0, none⟩) bs.length bs.length bs := ⟨by simp, .inr ⟨g, bs.length, _, rfl, hb, h, Nat.le_refl _, hm, by simp, by simp [List.take_of_length_le]⟩⟩
theorem IsB.suf {w : World} {n : Nat} {b o k v : Nat} {bs : List UInt8} (h : IsB w (some ⟨b, o, none⟩) n bs) (hk : k + v ≤ n) : IsB w (some ⟨b, o + k, none⟩) v ((bs.drop k).take v) := by
  refine ⟨by have := h.1; simp; omega, fun h0 => ⟨b, o + k, rfl, fun i hi => ?_⟩⟩
  obtain ⟨b', o', e, hc⟩ := h.2 (by omega)
  injection e with e
  injection e with e1 e2
  subst e1 e2
  have hl := h.1
  have hi' : k + i < bs.length := by simp at hi; omega
  rw [Nat.add_assoc, hc (k + i) hi']
  simp
set_option maxRecDepth 2000 in
set_option maxHeartbeats 1000000 in
theorem bytes01 (A : Option Addr) (n c : Nat) (bs : List UInt8) (off limit : Int) (w : World) (hA : IsB w A n bs) (hc : n ≤ c) (hn : n ≤ 1000000) (b0 : -9223372036854775808 ≤ off) (b1 : off < 9223372036854775808) (l0 : -9223372036854775808 ≤ limit) (l1 : limit < 9223372036854775808) :
    Calls Try.prog 116 #[.slice A n c, .int .i64 off, .int .i64 limit] w (BPost bs off limit w) := by
  have hl := hA.1
  have bad : ∀ e w', (off < 0 ∨ (n : Int) < off ∨ limit < 0) → w' = w → e = .returned (.tuple #[.slice none 0 0, .int .i64 0, .int .i64 6]) → BPost bs off limit w e w' := by
    intro e w' h hw he
    have hb : bR bs off limit = ([], 0, 6) := by rw [bR, if_pos (by rw [← hl]; exact h)]
    refine ⟨none, 0, 0, ?_, ?_, ?_⟩
    · rw [hb]; exact he
    · rw [hb]; exact OwnB.nil _ _ _
    · rw [hw]; exact Below.refl _ _
  rcases (by omega : off < 0 ∨ (0 ≤ off ∧ (n : Int) < off) ∨ (0 ≤ off ∧ off ≤ n)) with h1 | ⟨h0, h1⟩ | ⟨h0, h1⟩
  · have B := Lib.hid bad
    clear bad
    go_enter Try.func116, Try.ntmps116
    go_wp2
    refine bodyPost_ret (v := .tuple #[.slice none 0 0, .int .i64 0, .int .i64 6]) (by simp [results, Try.results116, go_sem]) rfl (B.out _ _ (.inl h1) rfl rfl)
  · have h2 : ¬ off < 0 := by omega
    have B := Lib.hid bad
    clear bad
    go_enter Try.func116, Try.ntmps116
    go_wp2
    refine bodyPost_ret (v := .tuple #[.slice none 0 0, .int .i64 0, .int .i64 6]) (by simp [results, Try.results116, go_sem]) rfl (B.out _ _ (.inr (.inl h1)) rfl rfl)
  · have h2 : ¬ off < 0 := by omega
    have h3 : ¬ (n : Int) < off := by omega
    have B := Lib.hid bad
    clear bad
    by_cases hlim : limit < 0
    · go_enter Try.func116, Try.ntmps116
      go_wp2
      refine bodyPost_ret (v := .tuple #[.slice none 0 0, .int .i64 0, .int .i64 6]) (by simp [results, Try.results116, go_sem]) rfl (B.out _ _ (.inr (.inr hlim)) rfl rfl)
    · clear B
      obtain ⟨L, rfl⟩ : ∃ L : Nat, limit = (L : Int) := ⟨limit.toNat, by omega⟩
      have hL : L < 9223372036854775808 := by omega
      have hC := uvarint01 A n c bs off w hA (by omega) b0 b1
      have hu := uvR_lt bs off
      have hnx : (uvR bs off).2.2 = 0 → 0 < (uvR bs off).2.1 ∧ (uvR bs off).2.1 ≤ bs.length := fun h => by have := uvR_next h; omega
      have hR : bR bs off L = if (uvR bs off).2.2 ≠ 0 then ([], 0, (uvR bs off).2.2) else if L < (uvR bs off).1 then ([], 0, 15)
          else if bs.length - (uvR bs off).2.1 < (uvR bs off).1 then ([], 0, 52) else ((bs.drop (uvR bs off).2.1).take (uvR bs off).1, (uvR bs off).2.1 + (uvR bs off).1, 0) := by
        rw [bR, if_neg (by rw [← hl]; omega)]
        simp only [Int.ofNat_lt]
      unfold UvPost at hC
      generalize uvR bs off = r at *
      obtain ⟨v, nx, er⟩ := r
      simp only at hC hu hnx hR
      have HC := Lib.hid hC
      have HA := Lib.hid hA
      have hlh := Lib.hid hl
      clear hl
      have hl := hlh
      clear hlh hC hA h0 h1 b0 b1 l0 l1 hlim
      by_cases he : er = 0
      · subst he
        obtain ⟨hx0, hx1⟩ := hnx rfl
        rw [if_neg (by simp)] at hR
        have hxn : nx ≤ n := by have := hl.out; omega
        clear hnx hx1
        by_cases hv : L < v
        · rw [if_pos hv] at hR
          have HR := Lib.hid hR
          clear hR
          go_enter Try.func116, Try.ntmps116
          go_wp2_with (go_at_call 115; refine HC.out.mono ?_; rintro e w' ⟨rfl, rfl⟩)
          refine bodyPost_ret (v := .tuple #[.slice none 0 0, .int .i64 0, .int .i64 15]) (by simp [results, Try.results116, go_sem]) rfl ⟨none, 0, 0, by rw [HR.out]; rfl, by rw [HR.out]; exact OwnB.nil _ _ _, Below.refl _ _⟩
        · rw [if_neg hv] at hR
          by_cases hw : bs.length - nx < v
          · rw [if_pos hw] at hR
            have HR := Lib.hid hR
            have hw2 : (n : Int) - nx < v := by have := hl.out; omega
            clear hR hw
            go_enter Try.func116, Try.ntmps116
            go_wp2_with (go_at_call 115; refine HC.out.mono ?_; rintro e w' ⟨rfl, rfl⟩)
            refine bodyPost_ret (v := .tuple #[.slice none 0 0, .int .i64 0, .int .i64 52]) (by simp [results, Try.results116, go_sem]) rfl ⟨none, 0, 0, by rw [HR.out]; rfl, by rw [HR.out]; exact OwnB.nil _ _ _, Below.refl _ _⟩
          · rw [if_neg hw] at hR
            have HR := Lib.hid hR
            have hw2 : ¬ (n : Int) - nx < v := by have := hl.out; omega
            have hvn : nx + v ≤ n := by have := hl.out; omega
            obtain ⟨b2, o2, e2, _⟩ := HA.out.2 (by omega)
            subst e2
            have hsuf := HA.out.suf hvn
            clear hR hw hu
            generalize (bs.drop nx).take v = sg at *
            rcases (by omega : nx < c ∨ (nx = c ∧ v = 0)) with hcc | ⟨hcc, hv0⟩
            · go_enter Try.func116, Try.ntmps116
              go_upto_region 10 with (go_at_call 115; refine HC.out.mono ?_; rintro e w' ⟨rfl, rfl⟩)
              go_upto_region 11 with ((at_make; refine wp_make v Try.underlying44 info_w8 rfl (by omega) (by omega) rfl rfl rfl rfl ?_; intro w2 r2 hb2))
              have q1 : (sg.map bv).length = Nat.min (n - nx) v := by rw [List.length_map, ← hsuf.1]; exact (Nat.min_eq_right (by omega)).symm
              have q2 : CopyOk w2 (some ⟨w'.heap.size, 0, none⟩) w'.heap.size 0 (some ⟨b2, o2 + nx, none⟩) (sg.map bv) := fun hp => ⟨rfl, (hsuf.below hb2).src (by have := hsuf.1; simp at hp; omega)⟩
              have q3 : 0 + (sg.map bv).length ≤ (List.replicate v (Value.int .u8 0)).length := by have := hsuf.1; simp; omega
              have Q1 := Lib.hid q1
              have HS := Lib.hid hsuf.1
              clear q1 hsuf
              go_upto_region 12 with ((with_reducible refine wp_row_copy (dCap := v) (sCap := c - nx) r2 Try.underlying44 info_w8s Q1.out q2 q3 (bv_one sg) ?_ ?_ ?_); rfl; rfl; intro w3 u3 r3)
              have hb3 := Upd.below hb2 u3 (Nat.le_refl _)
              have r3 : Row w3 w'.heap.size 5 (sg.map bv).toArray := by
                have e := HS.out
                subst e
                simpa using r3
              clear q2 q3 Q1 u3 r2 hb2
              have hv3 : v < 9223372036854775808 := by omega
              go_wp2
              refine bodyPost_ret (v := .tuple #[.slice (some ⟨w'.heap.size, 0, none⟩) v v, .int .i64 ((nx : Int) + v), .int .i64 0]) (by simp [results, Try.results116, go_sem]) rfl ⟨_, v, v, by rw [HR.out]; rfl, by rw [HR.out]; have hi := OwnB.of_row r3 (Nat.le_refl _) (by rw [← HS.out]; simp only [maxLen]; omega); rw [← HS.out] at hi; exact hi, hb3⟩
            · obtain rfl : nx = n := by omega
              obtain rfl : nx = c := by omega
              obtain rfl : v = 0 := by omega

              obtain rfl : sg = [] := List.eq_nil_of_length_eq_zero hsuf.1.symm
              go_enter Try.func116, Try.ntmps116
              go_upto_region 10 with (go_at_call 115; refine HC.out.mono ?_; rintro e w' ⟨rfl, rfl⟩)
              go_upto_region 11 with ((at_make; refine wp_make 0 Try.underlying44 info_w8 rfl (by omega) (by omega) rfl rfl rfl rfl ?_; intro w2 r2 hb2))
              have q1 : (([] : List UInt8).map bv).length = Nat.min 0 0 := rfl
              have q2 : CopyOk w2 (some ⟨w'.heap.size, 0, none⟩) w'.heap.size 0 (some ⟨b2, o2, none⟩) (([] : List UInt8).map bv) := fun hp => absurd hp (by simp)
              have q3 : 0 + (([] : List UInt8).map bv).length ≤ (List.replicate 0 (Value.int .u8 0)).length := by simp
              have Q1 := Lib.hid q1
              clear q1 hsuf
              go_upto_region 12 with ((with_reducible refine wp_row_copy (dCap := 0) (sCap := 0) r2 Try.underlying44 info_w8s Q1.out q2 q3 (bv_one []) ?_ ?_ ?_); rfl; rfl; intro w3 u3 r3)
              have hb3 := Upd.below hb2 u3 (Nat.le_refl _)
              clear q2 q3 Q1 u3 r2 hb2
              go_wp2
              refine bodyPost_ret (v := .tuple #[.slice (some ⟨w'.heap.size, 0, none⟩) 0 0, .int .i64 (nx : Int), .int .i64 0]) (by simp [results, Try.results116, go_sem]) rfl ⟨some ⟨w'.heap.size, 0, none⟩, 0, 0, by rw [HR.out]; rfl, by rw [HR.out]; exact OwnB.of_row (bs := []) (by simpa using r3) (Nat.le_refl _) (by simp), hb3⟩
      · rw [if_pos he] at hR
        have HR := Lib.hid hR
        have heb : ((er : Int) != 0) = true := by simpa using he
        clear hR hnx
        go_enter Try.func116, Try.ntmps116
        go_wp2_with (go_at_call 115; refine HC.out.mono ?_; rintro e w' ⟨rfl, rfl⟩)
        refine bodyPost_ret (v := .tuple #[.slice none 0 0, .int .i64 0, .int .i64 (er : Nat)]) (by simp [results, Try.results116, go_sem]) rfl ⟨none, 0, 0, by rw [HR.out]; rfl, by rw [HR.out]; exact OwnB.nil _ _ _, Below.refl _ _⟩
end
end Go.Proofs.Ythjkhambmgepdaa

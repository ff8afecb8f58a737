/- The law RingExact, for every argument. -/
import Derived.Test.YthjkhambmgepdaaRx
import Derived.Test.YthjkhambmgepdaaRf2
namespace Go.Proofs.Ythjkhambmgepdaa
open Go.RowKit
set_option linter.unusedVariables false
theorem sd_letters {n s a k : Int} {m : Nat} {f : Bool} {bs : List UInt8} (hb : m = bs.length) : ∃ (x1 x2 x3 K J a' : Int) (e f' : Bool) (p : List UInt8), p.length = 56 ∧ sdS n s a m = #[.int .i64 x1, .int .u64 x2, .int .u64 x3] ∧ sdL n s a m f k bs = LV K e f' J a' p := by
  unfold sdS sdL
  by_cases h : sdE n s a m = 0
  · rw [if_pos h, if_pos h]
    have hm : m ≤ 56 := by
      unfold sdE at h
      split at h
      · split at h
        · omega
        · omega
      · omega
    exact ⟨_, _, _, _, _, _, _, _, _, by simp [z56]; omega, rfl, rfl⟩
  · rw [if_neg h, if_neg h]
    exact ⟨_, _, _, _, _, _, _, _, _, z56_len, rfl, rfl⟩
theorem getD_ok {ls : List Ln} (h : ∀ l ∈ ls, l.ok) (i : Nat) : (ls.getD i default).p.length = 56 := by
  rw [List.getD_eq_getElem?_getD]
  cases hi : ls[i]? with
  | none => rfl
  | some l => exact (h l (List.mem_of_getElem? hi)).1
theorem pl_letters {n x : Int} {m : Nat} {ls : List Ln} (h : ∀ l ∈ ls, l.ok) : ∃ (y1 y2 K J a' : Int) (e f' : Bool) (p : List UInt8), p.length = 56 ∧ plR n x m ls = #[.int .i64 y1, .int .u64 y2] ∧ plL n x m ls = LV K e f' J a' p := by
  unfold plR plL
  by_cases h0 : plE n x m ls = 0
  · rw [if_pos h0, if_pos h0]
    exact ⟨_, _, _, _, _, _, _, _, getD_ok h _, rfl, rfl⟩
  · rw [if_neg h0, if_neg h0]
    exact ⟨_, _, _, _, _, _, _, _, z56_len, rfl, rfl⟩
theorem dc_letters (bs : List UInt8) : ∃ (K J a' : Int) (e f' : Bool) (p : List UInt8), p.length = 56 ∧ dcL bs = LV K e f' J a' p := by
  unfold dcL
  by_cases h : dcE bs = 0
  · rw [if_pos h]
    have hl : bs.length = 64 := by
      unfold dcE at h
      split at h
      · omega
      · split at h
        · omega
        · omega
    exact ⟨_, _, _, _, _, _, by simp [gP, hl], rfl⟩
  · rw [if_neg h]
    exact ⟨_, _, _, _, _, _, z56_len, rfl⟩
theorem law_exact (n s1 s2 s3 rn rc k : Int) (f : Bool) (mp cp q cq r cb : Nat) (Ap Am Ab : Option Addr) (bs bb : List UInt8) (ls : List Ln) (W : World)
    (hs0 : 0 ≤ s2) (hs1 : s2 < 18446744073709551616) (ha0 : 0 ≤ s3) (hr0 : 0 ≤ rc) (k0 : 0 ≤ k) (k1 : k < 65536) (hrc : r ≤ cb) (hip : IsB W Ap mp bs) (him : IsLs W Am q ls) (hib : IsB W Ab r bb) :
    Calls Try.prog 7 #[.int .i64 n, .agg #[.int .i64 s1, .int .u64 s2, .int .u64 s3], .agg #[.int .i64 rn, .int .u64 rc], .slice Ap mp cp, .bool f, .int .u16 k, .slice Am q cq, .slice Ab r cb] W (True1 W) := by
  by_cases h0 : 100 < mp
  · exact exact_a n s1 s2 s3 rn rc k f mp cp q cq r cb Ap Am Ab bs bb ls W h0
  by_cases h1 : 70 < q
  · exact exact_b n s1 s2 s3 rn rc k f mp cp q cq r cb Ap Am Ab bs bb ls W (by omega) h1
  by_cases h2 : 100 < r
  · exact exact_c n s1 s2 s3 rn rc k f mp cp q cq r cb Ap Am Ab bs bb ls W (by omega) (by omega) h2
  obtain ⟨x1, x2, x3, kk1, j1, a1, e1, f1, p1, hp1, hS, hL⟩ := sd_letters (n := s1) (s := s2) (a := s3) (k := k) (f := f) hip.1
  obtain ⟨y1, y2, kk2, j2, a2, e2, f2, p2, hp2, hR, hP⟩ := pl_letters (n := rn) (x := rc) (m := q) him.2.1
  obtain ⟨kk3, j3, a3, e3, f3, p3, hp3, hD⟩ := dc_letters bb
  refine exact_main n s1 s2 s3 rn rc k f mp cp q cq r cb Ap Am Ab bs bb ls W x1 x2 x3 (sdI s1 s2 s3 mp) (sdE s1 s2 s3 mp) (akN s1 s2 s3 k) (akS s1 s2 s3 k) (akA s1 s2 s3 k) (akE s1 s2 s3 k) y1 y2 (plE rn rc q ls) (dcE bb)
    kk1 j1 a1 kk2 j2 a2 kk3 j3 a3 e1 f1 e2 f2 e3 f3 p1 p2 p3 hp1 hp2 hp3 ?_ ?_ ?_ ?_ ?_ ?_ ?_ ?_ (by omega) (by omega) (by omega) hs0 hs1 ha0 hrc hip him hib
  · intro W A c h
    have := send_any s1 s2 s3 k A mp c f bs hs0 hs1 ha0 W h
    unfold SdPost at this
    rw [hS, hL] at this
    exact this
  · intro W A c h
    have := rsend_any s1 s2 s3 k A mp c f bs hs0 hs1 ha0 W h
    unfold SdPost at this
    rw [hS, hL] at this
    exact this
  · intro W
    exact acknowledge s1 s2 s3 k hs0 hs1 ha0 k0 k1 W
  · intro W
    exact ack_ref_any s1 s2 s3 k hs0 hs1 ha0 k0 k1 W
  · intro W A c h
    have := poll_any rn rc A q c ls W hr0 h
    unfold PlPost at this
    rw [hR, hP] at this
    exact this
  · intro W A c h
    have := poll_ref rn rc A q c ls W hr0 h
    unfold PlPost at this
    rw [hR, hP] at this
    exact this
  · intro W A c h hc
    have := decode_line A r c bb W h hc
    unfold DcPost at this
    rw [hD] at this
    exact this
  · intro W A c h hc
    have := decode_ref A r c bb W h hc
    unfold DcPost at this
    rw [hD] at this
    exact this
theorem walk_exact (W : World) (n s1 s2 s3 rn rc : Int) (Ap : Option Addr) (mp cp : Nat) (zp : List Int) (f : Bool) (k : Int) (Am : Option Addr) (q cq : Nat) (ls : List Ln) (Ab : Option Addr) (r cb : Nat) (zb : List Int)
    (_ : (Lit.int .i64 n).wf = true) (_ : (Lit.int .i64 s1).wf = true) (h2 : (Lit.int .u64 s2).wf = true) (h3 : (Lit.int .u64 s3).wf = true) (_ : (Lit.int .i64 rn).wf = true) (h5 : (Lit.int .u64 rc).wf = true) (hp : IsRow .u8 W Ap mp cp zp) (hk : (Lit.int .u16 k).wf = true) (hm : IsLs W Am q ls) (hb : IsRow .u8 W Ab r cb zb) :
    Calls Try.prog 7 #[.int .i64 n, .agg #[.int .i64 s1, .int .u64 s2, .int .u64 s3], .agg #[.int .i64 rn, .int .u64 rc], .slice Ap mp cp, .bool f, .int .u16 k, .slice Am q cq, .slice Ab r cb] W (True1 W) := by
  obtain ⟨bs, hbs, _⟩ := hp.isB
  obtain ⟨bb, hbb, _⟩ := hb.isB
  have b2 := bounds_u64 h2
  have b3 := bounds_u64 h3
  have b5 := bounds_u64 h5
  have bk := bounds_u16 hk
  exact law_exact n s1 s2 s3 rn rc k f mp cp q cq r cb Ap Am Ab bs bb ls W b2.1 (by omega) b3.1 b5.1 bk.1 (by omega) hb.cap hbs hm hbb
end Go.Proofs.Ythjkhambmgepdaa

/- Image: Build. -/
import Derived.Test.YtigbmlgllgcbhaaDoorId
import Derived.Test.YtigbmlgllgcbhaaDoorIe
import Derived.Lib.SlBytesConst
namespace Go.Proofs.YtigbmlgllgcbhaaDoor
open Go.RowKit
set_option linter.unusedVariables false
set_option linter.unusedSimpArgs false
/-- The first error of the modules r, those of pre being ahead of them. -/
def fstG : List Md → List Md → Int
  | _, [] => 0
  | pre, m :: r => if chkE m pre = 0 then fstG (pre ++ [m]) r else chkE m pre
def fstE (ms : List Md) : Int := fstG [] ms
theorem fstG_at : ∀ (r pre : List Md) (j : Nat) (h : j < r.length), (∀ i (h : i < r.length), i < j → chkE r[i] (pre ++ r.take i) = 0) → chkE r[j] (pre ++ r.take j) ≠ 0 → fstG pre r = chkE r[j] (pre ++ r.take j)
  | m :: r, pre, 0, _, _, h2 => by
    simp only [List.getElem_cons_zero, List.take_zero, List.append_nil] at h2 ⊢
    show (if _ then _ else _) = _
    rw [if_neg h2]
  | m :: r, pre, j + 1, h, h1, h2 => by
    have h3 := h1 0 (by simp) (by omega)
    simp only [List.getElem_cons_zero, List.take_zero, List.append_nil] at h3
    show (if _ then _ else _) = _
    rw [if_pos h3]
    have e : ∀ i, pre ++ (m :: r).take (i + 1) = (pre ++ [m]) ++ r.take i := fun i => by simp
    simp only [List.getElem_cons_succ, e] at h2 ⊢
    exact fstG_at r (pre ++ [m]) j (by simpa using h) (fun i hi hj => by have := h1 (i + 1) (by simpa using hi) (by omega); simpa [e] using this) h2
theorem fstG_no : ∀ (r pre : List Md), (∀ i (h : i < r.length), chkE r[i] (pre ++ r.take i) = 0) → fstG pre r = 0
  | [], _, _ => rfl
  | m :: r, pre, h1 => by
    have h3 := h1 0 (by simp)
    simp only [List.getElem_cons_zero, List.take_zero, List.append_nil] at h3
    show (if _ then _ else _) = _
    rw [if_pos h3]
    have e : ∀ i, pre ++ (m :: r).take (i + 1) = (pre ++ [m]) ++ r.take i := fun i => by simp
    exact fstG_no r (pre ++ [m]) (fun i hi => by have := h1 (i + 1) (by simpa using hi); simpa [e] using this)
def bldE (ms : List Md) : Int := if 64 < ms.length then 15 else if fstE ms ≠ 0 then fstE ms else if 16777216 < imSize ms then 15 else 0
def BldP (ms : List Md) (W : World) (en : Ending) (W' : World) : Prop :=
  (bldE ms ≠ 0 ∧ en = .returned (.tuple #[.slice none 0 0, .int .i64 (bldE ms)]) ∧ Below W.heap.size W W') ∨
  (bldE ms = 0 ∧ ∃ g, en = .returned (.tuple #[.slice (some ⟨g, 0, none⟩) (imImg ms).length (imImg ms).length, .int .i64 0]) ∧ W.heap.size ≤ g ∧ Row W' g 5 ((imImg ms).map bv).toArray ∧ Below W.heap.size W W')
theorem bld_no {ms : List Md} {E : Int} (h : bldE ms = E) (hE : E ≠ 0) {W W' : World} (hb : Below W.heap.size W W') : BldP ms W (.returned (.tuple #[.slice none 0 0, .int .i64 E])) W' := .inl ⟨by rw [h]; exact hE, by rw [h], hb⟩
theorem offs_get : ∀ (ms : List Md) (e j : Nat) (h : j < ms.length), (imOffs e ms)[j]? = some (up64 (imFin e (ms.take j)))
  | m :: r, e, 0, _ => rfl
  | m :: r, e, j + 1, h => by
    show (imOffs (up64 e + m.data.length) r)[j]? = some (up64 (imFin (up64 e + m.data.length) (r.take j)))
    exact offs_get r _ j (by simpa using h)
def NumV (lo : Nat) (a b c d : Int) (u : Value) (w : World) : Prop := ∃ g, u = .slice (some ⟨g, 0, none⟩) 4 4 ∧ lo ≤ g ∧ Row w g 37 #[.int .u32 a, .int .u32 b, .int .u32 c, .int .u32 d]
theorem NumV.mono {lo : Nat} {a b c d : Int} (u : Value) (w w' : World) (hg : Below w.heap.size w w') (h : NumV lo a b c d u w) : NumV lo a b c d u w' := by
  obtain ⟨g, h1, h2, h3⟩ := h
  exact ⟨g, h1, h2, h3.below hg h3.lt⟩
theorem crc_lt (bs : List UInt8) : crc bs < 4294967296 := by unfold crc; omega
/-- Only block go has changed. -/
def SB (go : Nat) (w w' : World) : Prop := ∀ g, g ≠ go → g < w.heap.size → w'.heap[g]? = w.heap[g]?
theorem SB.refl (go : Nat) (w : World) : SB go w w := fun _ _ _ => rfl
theorem SB.below {go : Nat} {w w' : World} (h : Below w.heap.size w w') : SB go w w' := fun g _ hg => h.block g hg
theorem SB.upd {go : Nat} {w w' : World} (u : Upd w w' go) : SB go w w' := fun g hg _ => u.block g hg
def ByG (go : Nat) (bs : List UInt8) (u : Value) (w : World) : Prop := ∃ g, u = .slice (some ⟨g, 0, none⟩) bs.length bs.length ∧ g ≠ go ∧ Row w g 5 (bs.map bv).toArray
theorem ByG.mono {go : Nat} {bs : List UInt8} (u : Value) (w w' : World) (hg : SB go w w') (h : ByG go bs u w) : ByG go bs u w' := by
  obtain ⟨g, h1, h2, h3⟩ := h
  exact ⟨g, h1, h2, (hg g h2 h3.lt).trans h3⟩
theorem byG_of {go : Nat} {bs : List UInt8} {w w' : World} {en : Ending} (h : NewB w 5 bs en w') (hgo : go < w.heap.size) : ∃ u, en = .returned u ∧ ByG go bs u w' ∧ Below w.heap.size w w' := by
  obtain ⟨g, m, hge, hm, rfl, hr, hb⟩ := h
  have hm' := hm.out
  subst hm'
  exact ⟨_, rfl, ⟨g, rfl, by omega, hr⟩, hb⟩
/-- A drawn region whose one link calls the closure. -/
def PuS (gp : Nat) (w0 : World) (L1 : World → Prop) (c : Nat) (us : Nat → Value) (w : World) : Prop := Row w gp 58 #[.int .i64 28, .int .i64 32, .int .i64 36, .int .i64 40] ∧ (c = 0 → Below w0.heap.size w0 w) ∧ (1 ≤ c → L1 w)
def imNum (en off len cr : Nat) : List (Nat × Nat) := [(28, en), (32, off), (36, len), (40, cr)]
def imOQ (O : List UInt8) (a : Nat) (l : List (Nat × Nat)) (q : Nat) : List UInt8 := (l.take q).foldl (fun o x => ovr o (a + x.1) (fixB x.2 4)) O
theorem imOQ_succ {O : List UInt8} {a : Nat} {l : List (Nat × Nat)} {q p v : Nat} (h : l[q]? = some (p, v)) : imOQ O a l (q + 1) = ovr (imOQ O a l q) (a + p) (fixB v 4) := by
  obtain ⟨hq, hx⟩ := List.getElem?_eq_some_iff.1 h
  unfold imOQ
  rw [List.take_succ_eq_append_getElem hq, hx, List.foldl_append]
  rfl
theorem imNum_at (en off len cr q : Nat) (h : q < 4) : ∃ p v, (imNum en off len cr)[q]? = some (p, v) ∧ 28 ≤ p ∧ p ≤ 40 ∧ (#[.int .i64 28, .int .i64 32, .int .i64 36, .int .i64 40] : Array Value)[q]? = some (.int .i64 (p : Nat)) ∧ (#[.int .u32 (en : Nat), .int .u32 (off : Nat), .int .u32 (len : Nat), .int .u32 (cr : Nat)] : Array Value)[q]? = some (.int .u32 (v : Nat)) ∧ (v = en ∨ v = off ∨ v = len ∨ v = cr) := by
  match q, h with
  | 0, _ => exact ⟨28, en, rfl, by omega, by omega, rfl, rfl, .inl rfl⟩
  | 1, _ => exact ⟨32, off, rfl, by omega, by omega, rfl, rfl, .inr (.inl rfl)⟩
  | 2, _ => exact ⟨36, len, rfl, by omega, by omega, rfl, rfl, .inr (.inr (.inl rfl))⟩
  | 3, _ => exact ⟨40, cr, rfl, by omega, by omega, rfl, rfl, .inr (.inr (.inr rfl))⟩
/-- What stays while Build writes: out are the bytes so far. -/
structure BL (W : World) (n sz go gv gp : Nat) (Ao : Option Addr) (co base : Nat) (os : List Int) (out : List UInt8) (w : World) : Prop where
  bl : Below W.heap.size W w
  rv : Row w gv 23 #[.slice (some ⟨go, 0, none⟩) sz sz]
  rp : Row w gp 58 #[.int .i64 28, .int .i64 32, .int .i64 36, .int .i64 40]
  of : OwnN w base 3 Ao n co os
  ro : Row w go 5 (out.map bv).toArray
  ln : out.length = sz
  l0 : W.heap.size ≤ go
  l1 : go < gv
  l2 : gv < gp
theorem BL.below {W w w' : World} {n sz go gv gp : Nat} {Ao : Option Addr} {co base : Nat} {os : List Int} {out : List UInt8} (h : BL W n sz go gv gp Ao co base os out w) (hb : Below w.heap.size w w') : BL W n sz go gv gp Ao co base os out w' :=
  ⟨h.bl.trans (hb.mono h.bl.size), h.rv.below hb h.rv.lt, h.rp.below hb h.rp.lt, h.of.below hb, h.ro.below hb h.ro.lt, h.ln, h.l0, h.l1, h.l2⟩
theorem BL.put {W w w' : World} {n sz go gv gp : Nat} {Ao : Option Addr} {co base : Nat} {os : List Int} {out out' : List UInt8} (h : BL W n sz go gv gp Ao co base os out w) (u : Upd w w' go) (r : Row w' go 5 (out'.map bv).toArray) (hl : out'.length = out.length) : BL W n sz go gv gp Ao co base os out' w' := by
  have h1 := h.l1
  have h2 := h.l2
  have k := Keeps.upd (ts := [5]) u h.ro (by simp)
  exact ⟨Upd.below h.bl u h.l0, h.rv.upd u (by omega), h.rp.upd u (by omega), OwnV.keeps (size := 1) h.of k (by decide), r, hl.trans h.ln, h.l0, h1, h2⟩
theorem BL.byte {W w : World} {n sz go gv gp : Nat} {Ao : Option Addr} {co base : Nat} {os : List Int} {out : List UInt8} (h : BL W n sz go gv gp Ao co base os out w) (i : Nat) (hi : i < sz) : ∃ y : Int, w.cell? ⟨go, i, none⟩ = some (.int .u8 y) := by
  have hl : i < out.length := by rw [h.ln]; exact hi
  refine ⟨out[i].toNat, ?_⟩
  rw [h.ro.cell i]
  simp [hl, bv]
theorem BL.setb {W w : World} {n sz go gv gp : Nat} {Ao : Option Addr} {co base : Nat} {os : List Int} {out : List UInt8} (h : BL W n sz go gv gp Ao co base os out w) (i : Nat) (x : UInt8) : BL W n sz go gv gp Ao co base os (out.set i x) (w.setCell ⟨go, i, none⟩ (bv x)) := by
  have r := h.ro.set i (bv x)
  refine h.put (Upd.setCell w go i (bv x)) ?_ (by simp)
  have e : ((out.set i x).map bv).toArray = (out.map bv).toArray.setIfInBounds i (bv x) := by simp [List.map_set]
  rw [e]
  exact r
theorem bv_of {z : Int} (h0 : 0 ≤ z) (h1 : z < 256) : Value.int .u8 z = bv (UInt8.ofNat z.toNat) := by
  unfold bv
  rw [UInt8.toNat_ofNat', Nat.mod_eq_of_lt (by omega)]
  congr 1
  omega
theorem chk_ok {m : Md} {b : List Md} (h : chkE m b = 0) (hd : m.data.length ≤ 1000000000) : m.name.length ≤ 24 ∧ (1 ≤ m.kind ∧ m.kind ≤ 3) ∧ (0 ≤ m.width ∧ m.width ≤ 39) ∧ (0 ≤ m.entry ∧ m.entry ≤ 125000000) := by
  unfold chkE at h
  split at h
  · next hn =>
    split at h
    · omega
    · next hr =>
      split at h
      · omega
      · split at h
        · omega
        · next he =>
          have h24 : m.name.length ≤ 24 := by unfold nameB at hn; simp at hn; omega
          refine ⟨h24, by omega, ?_, ?_⟩
          · have hb : badW m = false := by cases h9 : badW m; rfl; exact absurd (.inr (.inr h9)) hr
            unfold badW at hb
            split at hb <;> simp at hb <;> omega
          · unfold entN at he
            split at he <;> omega
  · omega
theorem IsB.from {w : World} {g : Nat} {t : TypeId} {bs : List UInt8} (h : Row w g t (bs.map bv).toArray) (k n : Nat) (hn : n = bs.length - k) : IsB w (some ⟨g, k, none⟩) n (bs.drop k) := by
  subst hn
  refine ⟨by simp, fun _ => ⟨g, k, rfl, fun i hi => ?_⟩⟩
  have hi2 : k + i < bs.length := by simp at hi; omega
  rw [h.cell (k + i)]
  simp [hi2, bv]
theorem imPart_all (ms : List Md) : imPart ms.length ms (imSize ms) = zer 16 ++ imBody ms := by
  simp [imPart, imBody, zer]
theorem fix2 (v : Nat) : ∃ a b, fixB v 2 = [a, b] := ⟨_, _, rfl⟩
theorem fix4 (v : Nat) : ∃ a b c d, fixB v 4 = [a, b, c, d] := ⟨_, _, _, _, rfl⟩
def mk1 (o : List UInt8) (n sz : Nat) : List UInt8 := ovr (ovr (ovr (ovr o 0 [77, 75, 66, 73]) 4 (fixB 1 2)) 6 (fixB n 2)) 8 (fixB sz 4)
theorem mk1_eq (B : List UInt8) (n sz : Nat) : mk1 (zer 16 ++ B) n sz = [77, 75, 66, 73] ++ fixB 1 2 ++ fixB n 2 ++ fixB sz 4 ++ zer 4 ++ B := by
  obtain ⟨a1, a2, h1⟩ := fix2 1
  obtain ⟨b1, b2, h2⟩ := fix2 n
  obtain ⟨c1, c2, c3, c4, h3⟩ := fix4 sz
  unfold mk1
  rw [h1, h2, h3]
  rfl
theorem mk1_drop (B : List UInt8) (n sz : Nat) : (mk1 (zer 16 ++ B) n sz).drop 16 = B := by
  rw [mk1_eq]
  obtain ⟨a1, a2, h1⟩ := fix2 1
  obtain ⟨b1, b2, h2⟩ := fix2 n
  obtain ⟨c1, c2, c3, c4, h3⟩ := fix4 sz
  rw [h1, h2, h3]
  rfl
theorem mk2_eq (B : List UInt8) (n sz x : Nat) : ovr (mk1 (zer 16 ++ B) n sz) 12 (fixB x 4) = [77, 75, 66, 73] ++ fixB 1 2 ++ fixB n 2 ++ fixB sz 4 ++ fixB x 4 ++ B := by
  rw [mk1_eq]
  obtain ⟨a1, a2, h1⟩ := fix2 1
  obtain ⟨b1, b2, h2⟩ := fix2 n
  obtain ⟨c1, c2, c3, c4, h3⟩ := fix4 sz
  obtain ⟨d1, d2, d3, d4, h4⟩ := fix4 x
  rw [h1, h2, h3, h4]
  rfl
set_option maxRecDepth 100000 in
set_option maxHeartbeats 8000000 in
theorem build_many (ms : List Md) (A : Option Addr) (c : Nat) (W : World) (hM : IsMs W A ms.length ms) (hc : ms.length ≤ c) (hnl : ∀ m ∈ ms, m.name.length ≤ 1000000000) (hdl : ∀ m ∈ ms, m.data.length ≤ 1000000000) (h64 : 64 < ms.length) : Calls Tryd.prog 12 #[.slice A ms.length c] W (BldP ms W) := by
  have HE := Lib.hid (show bldE ms = 15 by unfold bldE; rw [if_pos h64])
  have d0 : decide (64 < ms.length) = true := decide_eq_true h64
  have d0i : decide ((64 : Int) < (ms.length : Int)) = true := decide_eq_true (by omega)
  clear h64
  go_enter Tryd.func12, Tryd.ntmps12
  go_wp2
  go_ret2
  exact bld_no HE.out (by decide) (Below.refl _ _)
set_option maxRecDepth 100000 in
set_option maxHeartbeats 8000000 in
theorem build_main (ms : List Md) (A : Option Addr) (c : Nat) (W : World) (hM : IsMs W A ms.length ms) (hc : ms.length ≤ c) (hnl : ∀ m ∈ ms, m.name.length ≤ 1000000000) (hdl : ∀ m ∈ ms, m.data.length ≤ 1000000000) (h64 : ms.length ≤ 64) : Calls Tryd.prog 12 #[.slice A ms.length c] W (BldP ms W) := by
  have H64 := Lib.hid (show ¬ 64 < ms.length by omega)
  have d0 : decide (64 < ms.length) = false := decide_eq_false (by omega)
  have d0i : decide ((64 : Int) < (ms.length : Int)) = false := decide_eq_false (by omega)
  go_enter Tryd.func12, Tryd.ntmps12
  go_upto_region 4 with (fail)
  clear d0 d0i
  go_loopw [22] (fun i wr => ∃ j : Nat, j ≤ ms.length ∧ i = .int .i64 j ∧ Below W.heap.size W wr ∧ ∀ k (h : k < ms.length), k < j → chkE ms[k] (ms.take k) = 0) (fun i _ => ms.length - (intOf i).toNat)
  case atStart => exact ⟨0, by omega, rfl, Below.refl _ _, fun k h h2 => by omega⟩
  case round =>
    obtain ⟨j, hj, rfl, hB, hall⟩ := hrel
    have HA := Lib.hid hall
    clear hall
    rcases Nat.lt_or_ge j ms.length with hjl | hjl
    · have d1 : decide (j < ms.length) = true := decide_eq_true hjl
      have hji : (j : Int) < ms.length := by omega
      have hck := check25 ms A c j wr (hM.below hB) hc (by omega) hjl hnl hdl
      unfold ChkP at hck
      obtain ⟨E, hE⟩ : ∃ E, chkE ms[j] (ms.take j) = E := ⟨_, rfl⟩
      rw [hE] at hck
      have HCK := Lib.hid hck
      clear hck
      by_cases h0 : E = 0
      · have e0 : (E != 0) = false := by rw [bne_eq_false_iff_eq]; exact h0
        have HX := Lib.hid (hE.trans h0)
        clear h0 hE
        go_wp2_with (go_at_call 25; refine HCK.out.mono ?_; rintro en w2 ⟨rfl, hb2⟩; have hB := hB.trans (hb2.mono hB.size))
        exact ⟨⟨j + 1, by omega, by go_num, hB, fun k h hk => by rcases Nat.lt_or_ge k j with h5 | h5; exact HA.out k h h5; obtain rfl : k = j := (by omega); exact HX.out⟩, by simp [intOf]; omega⟩
      · have e0 : (E != 0) = true := by rw [bne_iff_ne]; exact h0
        have hf : fstE ms = E := by
          have := fstG_at ms [] j hjl (by simpa using HA.out) (by simpa [hE] using h0)
          show fstG [] ms = E
          simpa [hE] using this
        have HE := Lib.hid (show bldE ms = E by unfold bldE; rw [if_neg H64.out, if_pos (by rw [hf]; exact h0), hf])
        have H0 := Lib.hid h0
        clear h0 hE hf
        go_wp2_with (go_at_call 25; refine HCK.out.mono ?_; rintro en w2 ⟨rfl, hb2⟩; have hB := hB.trans (hb2.mono hB.size))
        go_ret2
        exact bld_no HE.out H0.out hB
    · obtain rfl : j = ms.length := by omega
      have d1 : decide (ms.length < ms.length) = false := by simp
      have hf : fstE ms = 0 := fstG_no ms [] (by simpa using fun i h => HA.out i h h)
      have HF := Lib.hid hf
      clear hf
      have hlay := layout26 ms A c wr (hM.below hB) (by omega) hdl
      have HLY := Lib.hid hlay
      obtain ⟨sz, hsz⟩ : ∃ sz, imSize ms = sz := ⟨_, rfl⟩
      have HSZ := Lib.hid hsz
      clear hlay hsz
      by_cases hbig : 16777216 < sz
      · have HE := Lib.hid (show bldE ms = 15 by unfold bldE; rw [if_neg H64.out, if_neg (by rw [HF.out]; exact fun h => h rfl), if_pos (by rw [HSZ.out]; exact hbig)])
        have d2 : decide (16777216 < sz) = true := decide_eq_true hbig
        have d2i : decide ((16777216 : Int) < (sz : Int)) = true := decide_eq_true (by omega)
        clear hbig
        go_wp2_with (go_at_call 26; refine HLY.out.mono ?_; rintro en w2 ⟨Ao, co, rfl, hof, hb2⟩; rw [HSZ.out]; have hB := hB.trans (hb2.mono hB.size))
        go_ret2
        exact bld_no HE.out (by decide) hB
      have d2 : decide (16777216 < sz) = false := decide_eq_false hbig
      have d2i : decide ((16777216 : Int) < (sz : Int)) = false := decide_eq_false (by omega)
      have HE := Lib.hid (show bldE ms = 0 by unfold bldE; rw [if_neg H64.out, if_neg (by rw [HF.out]; exact fun h => h rfl), if_neg (by rw [HSZ.out]; exact hbig)])
      go_upto_region 13 with (go_at_call 26; refine HLY.out.mono ?_; rintro en w2 ⟨Ao, co, rfl, hof, hb2⟩; rw [HSZ.out]; have hB := hB.trans (hb2.mono hB.size))
      clear d2 d2i
      go_upto_region 14 with ((at_make; refine wp_make sz Tryd.underlying23 info_u8 rfl (by omega) (by omega) rfl rfl (by omega) (by omega) ?_; intro w3 ro hb3))
      have hg2 := hB.size
      have hgo := ro.lt
      have hB := hB.trans (hb3.mono hg2)
      have hof := (hof.below hb3).alloc (.cells #[.slice (some ⟨w2.heap.size, 0, none⟩) sz sz] 23)
      have rv := Row.born w3 23 #[.slice (some ⟨w2.heap.size, 0, none⟩) sz sz]
      have ro := ro.alloc (.cells #[.slice (some ⟨w2.heap.size, 0, none⟩) sz sz] 23)
      have hB := hB.alloc hB.size (.cells #[.slice (some ⟨w2.heap.size, 0, none⟩) sz sz] 23)
      have hWr := HLY
      clear hb3 HLY hWr
      generalize w3.alloc (.cells #[.slice (some ⟨w2.heap.size, 0, none⟩) sz sz] 23) = w4 at *
      generalize w2.heap.size = go at *
      generalize w3.heap.size = gv at *
      go_upto_region 16 with (fail)
      have hgp : gv < w4.heap.size := rv.lt
      have rp := Row.born w4 58 #[.int .i64 28, .int .i64 32, .int .i64 36, .int .i64 40]
      have hal := (Below.refl w4.heap.size w4).alloc (Nat.le_refl _) (.cells #[.int .i64 28, .int .i64 32, .int .i64 36, .int .i64 40] 58)
      have hbs : 16 + 48 * ms.length ≤ sz := by rw [← HSZ.out]; unfold imSize; have := imFin_ge ms (16 + 48 * ms.length); have := up64_ge (imFin (16 + 48 * ms.length) ms); omega
      have hL : BL W ms.length sz go gv w4.heap.size Ao co wr.heap.size ((imOffs (16 + 48 * ms.length) ms).map (fun (x : Nat) => (x : Int))) (imPart ms.length [] sz) (w4.alloc (.cells #[.int .i64 28, .int .i64 32, .int .i64 36, .int .i64 40] 58)) := by
        refine ⟨hB.trans (hal.mono hB.size), rv.below hal rv.lt, rp, hof.below hal, ?_, ?_, hg2, hgo, hgp⟩
        · rw [imPart_nil _ _ hbs]
          have e : (zer sz).map bv = List.replicate sz (Value.int .u8 0) := by simp [zer, bv]
          rw [e]
          exact ro.below hal ro.lt
        · rw [imPart_nil _ _ hbs, zer_len]
      have HSZ2 := Lib.hid hbs
      have HBG := Lib.hid hbig
      have hszi : sz ≤ 16777216 := by omega
      clear rp hal hgp rv ro hof hB hg2 hgo hbs hbig d1
      generalize w4.alloc (.cells #[.int .i64 28, .int .i64 32, .int .i64 36, .int .i64 40] 58) = w5 at *
      generalize w4.heap.size = gp at *
      generalize wr.heap.size = base at *
      go_upto_region 17 with (fail)
      go_loopw [45] (fun i wr => ∃ j : Nat, j ≤ ms.length ∧ i = .int .i64 j ∧ BL W ms.length sz go gv gp Ao co base ((imOffs (16 + 48 * ms.length) ms).map (fun (x : Nat) => (x : Int))) (imPart ms.length (ms.take j) sz) wr) (fun i _ => ms.length - (intOf i).toNat)
      case atStart => exact ⟨0, by omega, rfl, hL⟩
      case round =>
        clear hL
        obtain ⟨j, hj, rfl, hL⟩ := hrel
        rcases Nat.lt_or_ge j ms.length with hjl | hjl
        · have d1 : decide (j < ms.length) = true := decide_eq_true hjl
          have hji : (j : Int) < ms.length := by omega
          have hj0 : (0 : Int) ≤ (j : Int) := by omega
          obtain ⟨b, o, hA, hcc⟩ := hM.2 (by omega)
          subst hA
          obtain ⟨D, dc, hrg, hdc, hID0⟩ := hcc j hjl
          have hdl1 := hdl _ (List.getElem_mem hjl)
          have hok := chk_ok (HA.out j hjl hjl) (hdl _ (List.getElem_mem hjl))
          have hst := imPart_step ms.length sz (ms.take j)
          obtain ⟨m, hm⟩ : ∃ m, ms[j] = m := ⟨_, rfl⟩
          rw [hm] at hrg hdc hID0 hok hdl1
          have HM := Lib.hid hm
          have hrg2 : wr.rangeAt b (o + j * 5) (mdV m D dc).toArray.toList := by simpa using rangeAt_below hrg hL.bl
          have hmul : IntKind.i64.wrap (48 * (j : Int)) = 48 * (j : Int) := by rw [IntKind.wrap_i64]; omega
          have hadd : IntKind.i64.wrap (16 + 48 * (j : Int)) = 16 + 48 * (j : Int) := by rw [IntKind.wrap_i64]; omega
          clear hcc hrg hm hst
          go_upto_region 20 with (first | ((with_reducible refine wp_load_g ?_ hrg2 Tryd.underlying35 rfl (info35 _ _ _) ?_ ?_); rfl; rfl) | ((with_reducible refine wp_row_store (L := (mdV m D dc).toArray) (Row.bornAt (g := wr.heap.size) rfl 35 _) ?_ (info35 _ _ _) (mdV_one _ _ _) ?_ ?_ ?_); rfl; rfl; rfl; intro w6 u6 r6))
          have hgm := hL.rp.lt
          have hal := Upd.below ((Below.refl wr.heap.size wr).alloc (Nat.le_refl _) (.cells ZM 35)) u6 (Nat.le_refl _)
          have hL := hL.below hal
          obtain ⟨c0, c1, c2, c3, c4⟩ := md_cells r6
          clear hal u6 hrg2 hmul hadd
          generalize wr.heap.size = gm at *
          have hsz2 := HSZ2.out
          have hfit : 16 + 48 * j + 48 ≤ sz := by omega
          obtain ⟨cw, w7, hcv, hI7, hb7⟩ := conv_bytes w6 m.name
          have hL7 := hL.below hb7
          have r7 := r6.below hb7 r6.lt
          have hok1 := hok.1
          have hp1 := put_at (x := 16 + 48 * (j : Int)) (k := 16 + 48 * j) (by omega) (some ⟨w6.heap.size, 0, none⟩) m.name.length cw m.name _ gv go sz w7 hL7.ln hL7.rv hL7.ro hI7 (by omega) (by omega)
          have HP1 := Lib.hid hp1
          clear hp1 hsz2 hL
          go_upto_region 21 with (go_at_call 27; refine HP1.out.mono ?_; rintro en w8 ⟨rfl, r8, u8, hl8⟩)
          clear hcv hI7 hb7 c0 c1 c2 c3 c4 r6 HP1
          have hgm2 : gm ≠ go := by have := hL7.l1; have := hL7.l2; omega
          have hL := hL7.put u8 r8 hl8
          have r7 := r7.upd u8 hgm2
          obtain ⟨O1, hO1⟩ : ∃ O1, ovr (imPart ms.length (ms.take j) sz) (16 + 48 * j) m.name = O1 := ⟨_, rfl⟩
          rw [hO1] at hL
          have HO1 := Lib.hid hO1
          clear r8 u8 hl8 hL7 hO1
          obtain ⟨c0, c1, c2, c3, c4⟩ := md_cells r7
          have p0 : w8.cell? ⟨gv, 0, none⟩ = some (.slice (some ⟨go, 0, none⟩) sz sz) := hL.rv.cell 0
          have hkd := hok.2.1
          have hw1 : IntKind.i64.wrap (16 + 48 * (j : Int) + 24) = 16 + 48 * (j : Int) + 24 := by rw [IntKind.wrap_i64]; omega
          have hw2 : IntKind.u8.wrap m.kind = m.kind := by rw [IntKind.wrap_u8]; omega
          have hb0 : (0 : Int) ≤ 16 + 48 * (j : Int) + 24 := by omega
          have hb1 : 16 + 48 * (j : Int) + 24 < (sz : Int) := by omega
          obtain ⟨y1, k5⟩ := hL.byte (16 + 48 * j + 24) (by omega)
          have f5 := hL.ro.frozen (16 + 48 * j + 24)
          go_upto_region 22 with (fail)
          have hL := hL.setb (16 + 48 * j + 24) (UInt8.ofNat m.kind.toNat)
          rw [← bv_of (by omega) (by omega)] at hL
          have r7 := r7.upd (Upd.setCell w8 go (16 + 48 * j + 24) (.int .u8 m.kind)) hgm2
          clear c0 c1 c2 c3 c4 p0 hw1 hw2 hb0 hb1 k5 f5
          generalize w8.setCell ⟨go, 16 + 48 * j + 24, none⟩ (.int .u8 m.kind) = w9 at *
          obtain ⟨c0, c1, c2, c3, c4⟩ := md_cells r7
          have p0 : w9.cell? ⟨gv, 0, none⟩ = some (.slice (some ⟨go, 0, none⟩) sz sz) := hL.rv.cell 0
          have hwd := hok.2.2.1
          have hw1 : IntKind.i64.wrap (16 + 48 * (j : Int) + 25) = 16 + 48 * (j : Int) + 25 := by rw [IntKind.wrap_i64]; omega
          have hw2 : IntKind.u8.wrap m.width = m.width := by rw [IntKind.wrap_u8]; omega
          have hb0 : (0 : Int) ≤ 16 + 48 * (j : Int) + 25 := by omega
          have hb1 : 16 + 48 * (j : Int) + 25 < (sz : Int) := by omega
          obtain ⟨y2, k5⟩ := hL.byte (16 + 48 * j + 25) (by omega)
          have f5 := hL.ro.frozen (16 + 48 * j + 25)
          go_upto_region 23 with (fail)
          have hL := hL.setb (16 + 48 * j + 25) (UInt8.ofNat m.width.toNat)
          rw [← bv_of (by omega) (by omega)] at hL
          have r7 := r7.upd (Upd.setCell w9 go (16 + 48 * j + 25) (.int .u8 m.width)) hgm2
          clear c0 c1 c2 c3 c4 p0 hw1 hw2 hb0 hb1 k5 f5
          generalize w9.setCell ⟨go, 16 + 48 * j + 25, none⟩ (.int .u8 m.width) = wa at *
          have HW1 := Lib.hid (show w1 (imPart ms.length (ms.take j) sz) (16 + 48 * j) m = (O1.set (16 + 48 * j + 24) (UInt8.ofNat m.kind.toNat)).set (16 + 48 * j + 25) (UInt8.ofNat m.width.toNat) by unfold w1; rw [HO1.out])
          rw [← HW1.out] at hL
          obtain ⟨en, hen⟩ : ∃ en : Nat, m.entry = en := ⟨m.entry.toNat, by omega⟩
          have hen2 : en ≤ 125000000 := by omega
          have HEN := Lib.hid hen
          have hwe : IntKind.u32.wrap m.entry = (en : Int) := by rw [IntKind.wrap_u32]; omega
          obtain ⟨off, hoff⟩ : ∃ off, up64 (imFin (16 + 48 * ms.length) (ms.take j)) = off := ⟨_, rfl⟩
          have hog := offs_get ms (16 + 48 * ms.length) j hjl
          rw [hoff] at hog
          have HOFF := Lib.hid hoff
          have hol : off + m.data.length ≤ sz := by
            have h9 := (offs_take ms (16 + 48 * ms.length) j hjl).2
            rw [hoff, HM.out] at h9
            have h8 := imFin_ge (ms.drop (j + 1)) (imFin (16 + 48 * ms.length) (ms.take (j + 1)))
            have h7 := imFin_app (ms.take (j + 1)) (ms.drop (j + 1)) (16 + 48 * ms.length)
            rw [List.take_append_drop] at h7
            have h6 := up64_ge (imFin (16 + 48 * ms.length) ms)
            have h5 := HSZ.out
            unfold imSize at h5
            omega
          have hwo : IntKind.u32.wrap (off : Int) = (off : Int) := by rw [IntKind.wrap_u32]; omega
          have hwl : IntKind.u32.wrap (m.data.length : Int) = (m.data.length : Int) := by rw [IntKind.wrap_u32]; omega
          obtain ⟨bo, oo, hAo, hlb, hco⟩ := hL.of.isB.at_ (by omega)
          subst hAo
          have k6 : wa.cell? ⟨bo, oo + j, none⟩ = some (.int .i64 (off : Int)) := by
            have hjo : j < ((imOffs (16 + 48 * ms.length) ms).map (fun (x : Nat) => (x : Int))).length := by rw [List.length_map, imOffs_len]; exact hjl
            rw [hco j hjo]
            have h9 : ((imOffs (16 + 48 * ms.length) ms).map (fun (x : Nat) => (x : Int)))[j]? = some (off : Int) := by rw [List.getElem?_map, hog]; rfl
            rw [List.getElem?_eq_getElem hjo] at h9
            exact congrArg (fun z => some (Value.int .i64 z)) (Option.some.inj h9)
          have hlo := block_lt_of_cell k6
          clear hen hoff hog hco
          refine wp_region_told (n := 140) (fun w' => Below wa.heap.size wa w') (fun x y => Below x.heap.size x y) (by kernel_rfl) (by kernel_rfl) (by rfl) (Below.refl _ _).drew ?_
          refine walk_pure (v := ?_) (fun _ => Below.refl _ _) (fun _ => rfl) ?_ ?_; rotate_left; (focus (intro us w9 hS9 hF; clear hF; have r9 := r7.below hS9 r7.lt; obtain ⟨y0, y1, y2, y3, y4⟩ := md_cells r9; have y6 := (hS9.cell (p := ⟨bo, oo + j, none⟩) hlo).trans k6; go_simp; (try with_reducible rfl); done)); simp only [Act.put, List.setIfInBounds_toArray, List.set_cons_zero, List.set_cons_succ, Nat.reduceAdd]
          refine walk_pure (v := ?_) (fun _ => Below.refl _ _) (fun _ => rfl) ?_ ?_; rotate_left; (focus (intro us w9 hS9 hF; clear hF; have r9 := r7.below hS9 r7.lt; obtain ⟨y0, y1, y2, y3, y4⟩ := md_cells r9; have y6 := (hS9.cell (p := ⟨bo, oo + j, none⟩) hlo).trans k6; go_simp; (try with_reducible rfl); done)); simp only [Act.put, List.setIfInBounds_toArray, List.set_cons_zero, List.set_cons_succ, Nat.reduceAdd]
          refine walk_pure (v := .int .u32 (en : Nat)) (fun _ => Below.refl _ _) (fun _ => rfl) ?_ ?_; (focus (intro us w9 hS9 hF; clear hF; have r9 := r7.below hS9 r7.lt; obtain ⟨y0, y1, y2, y3, y4⟩ := md_cells r9; have y6 := (hS9.cell (p := ⟨bo, oo + j, none⟩) hlo).trans k6; go_simp; (try with_reducible rfl); done)); simp only [Act.put, List.setIfInBounds_toArray, List.set_cons_zero, List.set_cons_succ, Nat.reduceAdd]
          refine walk_pure (v := ?_) (fun _ => Below.refl _ _) (fun _ => rfl) ?_ ?_; rotate_left; (focus (intro us w9 hS9 hF; clear hF; go_simp; (try with_reducible rfl); done)); simp only [Act.put, List.setIfInBounds_toArray, List.set_cons_zero, List.set_cons_succ, Nat.reduceAdd]
          refine walk_pure (v := ?_) (fun _ => Below.refl _ _) (fun _ => rfl) ?_ ?_; rotate_left; (focus (intro us w9 hS9 hF; clear hF; go_simp; (try with_reducible rfl); done)); simp only [Act.put, List.setIfInBounds_toArray, List.set_cons_zero, List.set_cons_succ, Nat.reduceAdd]
          refine walk_pure (v := ?_) (fun _ => Below.refl _ _) (fun _ => rfl) ?_ ?_; rotate_left; (focus (intro us w9 hS9 hF; clear hF; go_simp; (try with_reducible rfl); done)); simp only [Act.put, List.setIfInBounds_toArray, List.set_cons_zero, List.set_cons_succ, Nat.reduceAdd]
          refine walk_pure (v := .int .i64 (off : Nat)) (fun _ => Below.refl _ _) (fun _ => rfl) ?_ ?_; (focus (intro us w9 hS9 hF; clear hF; have r9 := r7.below hS9 r7.lt; obtain ⟨y0, y1, y2, y3, y4⟩ := md_cells r9; have y6 := (hS9.cell (p := ⟨bo, oo + j, none⟩) hlo).trans k6; go_simp; (try with_reducible rfl); done)); simp only [Act.put, List.setIfInBounds_toArray, List.set_cons_zero, List.set_cons_succ, Nat.reduceAdd]
          refine walk_pure (v := .int .u32 (off : Nat)) (fun _ => Below.refl _ _) (fun _ => rfl) ?_ ?_; (focus (intro us w9 hS9 hF; clear hF; have r9 := r7.below hS9 r7.lt; obtain ⟨y0, y1, y2, y3, y4⟩ := md_cells r9; have y6 := (hS9.cell (p := ⟨bo, oo + j, none⟩) hlo).trans k6; go_simp; (try with_reducible rfl); done)); simp only [Act.put, List.setIfInBounds_toArray, List.set_cons_zero, List.set_cons_succ, Nat.reduceAdd]
          refine walk_pure (v := ?_) (fun _ => Below.refl _ _) (fun _ => rfl) ?_ ?_; rotate_left; (focus (intro us w9 hS9 hF; clear hF; go_simp; (try with_reducible rfl); done)); simp only [Act.put, List.setIfInBounds_toArray, List.set_cons_zero, List.set_cons_succ, Nat.reduceAdd]
          refine walk_pure (v := ?_) (fun _ => Below.refl _ _) (fun _ => rfl) ?_ ?_; rotate_left; (focus (intro us w9 hS9 hF; clear hF; have r9 := r7.below hS9 r7.lt; obtain ⟨y0, y1, y2, y3, y4⟩ := md_cells r9; have y6 := (hS9.cell (p := ⟨bo, oo + j, none⟩) hlo).trans k6; go_simp; (try with_reducible rfl); done)); simp only [Act.put, List.setIfInBounds_toArray, List.set_cons_zero, List.set_cons_succ, Nat.reduceAdd]
          refine walk_pure (v := ?_) (fun _ => Below.refl _ _) (fun _ => rfl) ?_ ?_; rotate_left; (focus (intro us w9 hS9 hF; clear hF; have r9 := r7.below hS9 r7.lt; obtain ⟨y0, y1, y2, y3, y4⟩ := md_cells r9; have y6 := (hS9.cell (p := ⟨bo, oo + j, none⟩) hlo).trans k6; go_simp; (try with_reducible rfl); done)); simp only [Act.put, List.setIfInBounds_toArray, List.set_cons_zero, List.set_cons_succ, Nat.reduceAdd]
          refine walk_pure (v := .int .u32 (m.data.length : Nat)) (fun _ => Below.refl _ _) (fun _ => rfl) ?_ ?_; (focus (intro us w9 hS9 hF; clear hF; have r9 := r7.below hS9 r7.lt; obtain ⟨y0, y1, y2, y3, y4⟩ := md_cells r9; have y6 := (hS9.cell (p := ⟨bo, oo + j, none⟩) hlo).trans k6; go_simp; (try with_reducible rfl); done)); simp only [Act.put, List.setIfInBounds_toArray, List.set_cons_zero, List.set_cons_succ, Nat.reduceAdd]
          refine walk_pure (v := ?_) (fun _ => Below.refl _ _) (fun _ => rfl) ?_ ?_; rotate_left; (focus (intro us w9 hS9 hF; clear hF; go_simp; (try with_reducible rfl); done)); simp only [Act.put, List.setIfInBounds_toArray, List.set_cons_zero, List.set_cons_succ, Nat.reduceAdd]
          refine walk_pure (v := ?_) (fun _ => Below.refl _ _) (fun _ => rfl) ?_ ?_; rotate_left; (focus (intro us w9 hS9 hF; clear hF; have r9 := r7.below hS9 r7.lt; obtain ⟨y0, y1, y2, y3, y4⟩ := md_cells r9; have y6 := (hS9.cell (p := ⟨bo, oo + j, none⟩) hlo).trans k6; go_simp; (try with_reducible rfl); done)); simp only [Act.put, List.setIfInBounds_toArray, List.set_cons_zero, List.set_cons_succ, Nat.reduceAdd]
          refine walk_fix (v := .int .u32 (crc m.data : Nat)) ?_ ?_; (focus (intro us w9 hS9 hF K hK; clear hF; go_simp; refine (crc32 D m.data.length dc m.data w9 ((hID0.below hL.bl).below hS9) hdl1).mono ?_; rintro en w' ⟨rfl, hbw⟩; exact hK _ (below_on hS9 hbw) hbw)); simp only [Act.put, List.setIfInBounds_toArray, List.set_cons_zero, List.set_cons_succ, Nat.reduceAdd]
          refine walk_free (NumV wa.heap.size en off m.data.length (crc m.data)) (NumV.mono) ?_ ?_; (focus (intro us w9 hS9 hF K hK; clear hF; go_simp; exact hK _ _ (below_on hS9 ((Below.refl w9.heap.size w9).alloc (Nat.le_refl _) _)) ((Below.refl w9.heap.size w9).alloc (Nat.le_refl _) _) ⟨w9.heap.size, rfl, hS9.size, Row.born w9 37 _⟩)); simp only [Act.put, List.setIfInBounds_toArray, List.set_cons_zero, List.set_cons_succ, Nat.reduceAdd]
          refine walk_free (NumV wa.heap.size en off m.data.length (crc m.data)) (NumV.mono) ?_ ?_; (focus (intro us w9 hS9 hF K hK; have hv9 := hF (15, NumV wa.heap.size en off m.data.length (crc m.data)) (by simp) (by kernel_rfl); clear hF; dsimp only at hv9; go_simp; exact hK _ w9 hS9 (Below.refl _ _) hv9)); simp only [Act.put, List.setIfInBounds_toArray, List.set_cons_zero, List.set_cons_succ, Nat.reduceAdd]
          refine walk_done fun us wb hSb hF => ?_
          obtain ⟨g4, hu4, hg4, r4⟩ := hF (16, NumV wa.heap.size en off m.data.length (crc m.data)) (by simp)
          clear hF
          simp only [hu4]
          have hL7go := Lib.hid hL.ro.lt
          have hL := hL.below hSb
          have r7 := r7.below hSb r7.lt
          have k6 := (hSb.cell (p := ⟨bo, oo + j, none⟩) hlo).trans k6
          have hga : go < wa.heap.size := Nat.lt_of_lt_of_le hL7go.out (Nat.le_refl _)
          have hg4n : g4 ≠ go := by omega
          clear hSb hu4 hwe hwo hwl hlo hlb
          obtain ⟨O4, hO4⟩ : ∃ O4, w1 (imPart ms.length (ms.take j) sz) (16 + 48 * j) m = O4 := ⟨_, rfl⟩
          rw [hO4] at hL
          have HO4 := Lib.hid hO4
          obtain ⟨NL, hNL⟩ : ∃ NL, imNum en off m.data.length (crc m.data) = NL := ⟨_, rfl⟩
          have HNL := Lib.hid hNL
          clear hO4 hNL
          go_upto_region 25 with (fail)
          go_loopw [91] (fun i wr => ∃ q : Nat, q ≤ 4 ∧ i = .int .i64 q ∧ BL W ms.length sz go gv gp (some ⟨bo, oo, none⟩) co base ((imOffs (16 + 48 * ms.length) ms).map (fun (x : Nat) => (x : Int))) (imOQ O4 (16 + 48 * j) NL q) wr ∧ Row wr g4 37 #[.int .u32 (en : Nat), .int .u32 (off : Nat), .int .u32 (m.data.length : Nat), .int .u32 (crc m.data : Nat)] ∧ Row wr gm 35 (mdV m D dc).toArray) (fun i _ => 4 - (intOf i).toNat)
          case atStart => exact ⟨0, by omega, rfl, hL, r4, r7⟩
          case round =>
            clear hL r4 r7 k6
            obtain ⟨q, hq4, rfl, hL, r4, r7⟩ := hrel
            rcases Nat.lt_or_ge q 4 with hql | hql
            · have d2 : decide (q < 4) = true := decide_eq_true hql
              have d2i : decide ((q : Int) < 4) = true := decide_eq_true (by omega)
              have hqi : (q : Int) < 4 := by omega
              have hq0 : (0 : Int) ≤ (q : Int) := by omega
              obtain ⟨pp, vv, hnq, hpp1, hpp2, hpp, hvq, hvw⟩ := imNum_at en off m.data.length (crc m.data) q hql
              rw [HNL.out] at hnq
              have HNQ := Lib.hid hnq
              have hcr := crc_lt m.data
              have hvv : vv < 4294967296 := by rcases hvw with h | h | h | h <;> omega
              have k8 : wr.cell? ⟨g4, q, none⟩ = some (.int .u32 (vv : Nat)) := (r4.cell q).trans hvq
              have hwa : IntKind.i64.wrap (16 + 48 * (j : Int) + (pp : Int)) = 16 + 48 * (j : Int) + (pp : Int) := by rw [IntKind.wrap_i64]; omega
              clear hnq hvw hvq hcr
              go_upto_region 27 with (fail)
              clear k8
              have hL : BL W ms.length sz go gv gp (some ⟨bo, oo, none⟩) co base ((imOffs (16 + 48 * ms.length) ms).map (fun (x : Nat) => (x : Int))) (imOQ O4 (16 + 48 * j) NL q) wr.drew := hL.below (Below.refl _ _).drew
              have r4 := r4.below (Below.refl _ _).drew r4.lt
              have r7 := r7.below (Below.refl _ _).drew r7.lt
              have hgs : go < wr.drew.heap.size := hL.ro.lt
              refine wp_region_late (n := 140) [8] (PuS gp wr.drew (fun w => BL W ms.length sz go gv gp (some ⟨bo, oo, none⟩) co base ((imOffs (16 + 48 * ms.length) ms).map (fun (x : Nat) => (x : Int))) (imOQ O4 (16 + 48 * j) NL (q + 1)) w ∧ Row w g4 37 #[.int .u32 (en : Nat), .int .u32 (off : Nat), .int .u32 (m.data.length : Nat), .int .u32 (crc m.data : Nat)] ∧ Row w gm 35 (mdV m D dc).toArray)) (SB go) (by kernel_rfl) (by kernel_rfl) (by rfl) (fun _ _ _ _ _ h => h) ⟨hL.rp, fun _ => Below.refl _ _, fun h => by omega⟩ ?_
              generalize wr.drew = w0 at *
              refine late_pure (by simp) (fun w => SB.refl go w) (v := ?_) (fun _ => rfl) ?_ ?_; rotate_left; (focus (intro c9 us w9 hm9 hS9 hF; clear hF hm9; go_simp; (try with_reducible rfl); done)); simp only [Act.put, List.setIfInBounds_toArray, List.set_cons_zero, List.set_cons_succ, Nat.reduceAdd]
              refine late_pure (by simp) (fun w => SB.refl go w) (v := ?_) (fun _ => rfl) ?_ ?_; rotate_left; (focus (intro c9 us w9 hm9 hS9 hF; clear hF hm9; go_simp; (try with_reducible rfl); done)); simp only [Act.put, List.setIfInBounds_toArray, List.set_cons_zero, List.set_cons_succ, Nat.reduceAdd]
              refine late_pure (by simp) (fun w => SB.refl go w) (v := ?_) (fun _ => rfl) ?_ ?_; rotate_left; (focus (intro c9 us w9 hm9 hS9 hF; clear hF hm9; go_simp; (try with_reducible rfl); done)); simp only [Act.put, List.setIfInBounds_toArray, List.set_cons_zero, List.set_cons_succ, Nat.reduceAdd]
              refine late_pure (by simp) (fun w => SB.refl go w) (v := ?_) (fun _ => rfl) ?_ ?_; rotate_left; (focus (intro c9 us w9 hm9 hS9 hF; clear hF hm9; go_simp; (try with_reducible rfl); done)); simp only [Act.put, List.setIfInBounds_toArray, List.set_cons_zero, List.set_cons_succ, Nat.reduceAdd]
              refine late_pure (by simp) (fun w => SB.refl go w) (v := .int .i64 (pp : Nat)) (fun _ => rfl) ?_ ?_; (focus (intro c9 us w9 hm9 hS9 hF; have y9 : w9.cell? ⟨gp, q, none⟩ = some (.int .i64 (pp : Nat)) := (hS9.1.cell q).trans hpp; clear hF hm9; go_simp; (try with_reducible rfl); done)); simp only [Act.put, List.setIfInBounds_toArray, List.set_cons_zero, List.set_cons_succ, Nat.reduceAdd]
              refine late_pure (by simp) (fun w => SB.refl go w) (v := .int .i64 (16 + 48 * (j : Int) + (pp : Nat))) (fun _ => rfl) ?_ ?_; (focus (intro c9 us w9 hm9 hS9 hF; clear hF hm9; go_simp; (try with_reducible rfl); done)); simp only [Act.put, List.setIfInBounds_toArray, List.set_cons_zero, List.set_cons_succ, Nat.reduceAdd]
              refine late_pure (by simp) (fun w => SB.refl go w) (v := ?_) (fun _ => rfl) ?_ ?_; rotate_left; (focus (intro c9 us w9 hm9 hS9 hF; clear hF hm9; go_simp; (try with_reducible rfl); done)); simp only [Act.put, List.setIfInBounds_toArray, List.set_cons_zero, List.set_cons_succ, Nat.reduceAdd]
              refine late_free (by simp) (ByG go (fixB vv 4)) (ByG.mono) ?_ ?_; (focus (intro c9 us w9 hm9 hS9 hF K hK; have hc9 : c9 < 1 := (by rcases Nat.lt_or_ge c9 1 with h9 | h9; exact h9; exact absurd hm9 (by rw [mayAt_no (d := 0) (by kernel_rfl) (by omega) (by decide)]; decide)); have h0 := hS9.2.1 (by omega); clear hF; go_simp; refine (app32 none 0 0 [] vv w9 (IsB.nil _ _) (by omega) hvv).mono ?_; rintro en9 w' hN; rw [List.nil_append] at hN; obtain ⟨u, rfl, hu, hbw⟩ := byG_of hN (Nat.lt_of_lt_of_le hgs h0.size); exact hK u w' ⟨hS9.1.below hbw hS9.1.lt, fun _ => h0.trans (hbw.mono h0.size), fun h => by omega⟩ (SB.below hbw) hu)); simp only [Act.put, List.setIfInBounds_toArray, List.set_cons_zero, List.set_cons_succ, Nat.reduceAdd]
              refine late_chain (by simp) ?_ ?_; (focus (intro us w9 hS9 hF K hK; have h0 := hS9.2.1 rfl; obtain ⟨gb, hu, hgb, hrb⟩ := hF (7, ByG go (fixB vv 4)) (by simp) (by kernel_rfl); dsimp only at hu; clear hF; simp only [hu] at hK ⊢; go_simp; have hL9 := hL.below h0; refine (put_at (x := 16 + 48 * (j : Int) + (pp : Nat)) (k := 16 + 48 * j + pp) (by omega) (some ⟨gb, 0, none⟩) (fixB vv 4).length (fixB vv 4).length (fixB vv 4) _ gv go sz w9 hL9.ln hL9.rv hL9.ro (IsB.of_row hrb) (by rw [fixB_len]; omega) (by omega)).mono ?_; rintro en9 w' ⟨rfl, r8, u8, hl8⟩; have hLn := hL9.put u8 r8 hl8; rw [← imOQ_succ HNQ.out] at hLn; exact hK _ w' ⟨hLn.rp, fun h => by omega, fun _ => ⟨hLn, (r4.below h0 r4.lt).upd u8 hg4n, (r7.below h0 r7.lt).upd u8 hgm2⟩⟩ (SB.upd u8))); simp only [Act.put, List.setIfInBounds_toArray, List.set_cons_zero, List.set_cons_succ, Nat.reduceAdd]
              refine late_done fun us wd hSd hF => ?_
              obtain ⟨hL, r4, r7⟩ := hSd.2.2 (by omega)
              clear hF hSd
              go_wp2
              exact ⟨⟨q + 1, by omega, by go_num, hL, r4, r7⟩, by simp [intOf]; omega⟩
            · obtain rfl : q = 4 := by omega
              have k6 : wr.cell? ⟨bo, oo + j, none⟩ = some (.int .i64 (off : Int)) := by
                obtain ⟨b1, o1, e1, hlb, hco⟩ := hL.of.isB.at_ (by omega)
                cases e1
                have hog := offs_get ms (16 + 48 * ms.length) j hjl
                rw [HOFF.out] at hog
                have hjo : j < ((imOffs (16 + 48 * ms.length) ms).map (fun (x : Nat) => (x : Int))).length := by rw [List.length_map, imOffs_len]; exact hjl
                rw [hco j hjo]
                have h9 : ((imOffs (16 + 48 * ms.length) ms).map (fun (x : Nat) => (x : Int)))[j]? = some (off : Int) := by rw [List.getElem?_map, hog]; rfl
                rw [List.getElem?_eq_getElem hjo] at h9
                exact congrArg (fun z => some (Value.int .i64 z)) (Option.some.inj h9)
              have hlo := block_lt_of_cell k6
              go_upto_region 29 with (fail)
              have hL : BL W ms.length sz go gv gp (some ⟨bo, oo, none⟩) co base ((imOffs (16 + 48 * ms.length) ms).map (fun (x : Nat) => (x : Int))) (imOQ O4 (16 + 48 * j) NL 4) wr.drew := hL.below (Below.refl _ _).drew
              have r7 := r7.below (Below.refl _ _).drew r7.lt
              have k6 : wr.drew.cell? ⟨bo, oo + j, none⟩ = some (.int .i64 (off : Int)) := k6
              have hlo : bo < wr.drew.heap.size := hlo
              clear r4
              refine wp_region_late (n := 140) [7] (PuS gp wr.drew (fun w => BL W ms.length sz go gv gp (some ⟨bo, oo, none⟩) co base ((imOffs (16 + 48 * ms.length) ms).map (fun (x : Nat) => (x : Int))) (ovr (imOQ O4 (16 + 48 * j) NL 4) off m.data) w)) (SB go) (by kernel_rfl) (by kernel_rfl) (by rfl) (fun _ _ _ _ _ h => h) ⟨hL.rp, fun _ => Below.refl _ _, fun h => by omega⟩ ?_
              generalize wr.drew = w0 at *
              refine late_pure (by simp) (fun w => SB.refl go w) (v := ?_) (fun _ => rfl) ?_ ?_; rotate_left; (focus (intro c9 us w9 hm9 hS9 hF; clear hF hm9; go_simp; (try with_reducible rfl); done)); simp only [Act.put, List.setIfInBounds_toArray, List.set_cons_zero, List.set_cons_succ, Nat.reduceAdd]
              refine late_pure (by simp) (fun w => SB.refl go w) (v := ?_) (fun _ => rfl) ?_ ?_; rotate_left; (focus (intro c9 us w9 hm9 hS9 hF; clear hF hm9; go_simp; (try with_reducible rfl); done)); simp only [Act.put, List.setIfInBounds_toArray, List.set_cons_zero, List.set_cons_succ, Nat.reduceAdd]
              refine late_pure (by simp) (fun w => SB.refl go w) (v := ?_) (fun _ => rfl) ?_ ?_; rotate_left; (focus (intro c9 us w9 hm9 hS9 hF; clear hF hm9; go_simp; (try with_reducible rfl); done)); simp only [Act.put, List.setIfInBounds_toArray, List.set_cons_zero, List.set_cons_succ, Nat.reduceAdd]
              refine late_pure (by simp) (fun w => SB.refl go w) (v := ?_) (fun _ => rfl) ?_ ?_; rotate_left; (focus (intro c9 us w9 hm9 hS9 hF; clear hF hm9; go_simp; (try with_reducible rfl); done)); simp only [Act.put, List.setIfInBounds_toArray, List.set_cons_zero, List.set_cons_succ, Nat.reduceAdd]
              refine late_pure (by simp) (fun w => SB.refl go w) (v := .int .i64 (off : Nat)) (fun _ => rfl) ?_ ?_; (focus (intro c9 us w9 hm9 hS9 hF; have hc9 : c9 < 1 := (by rcases Nat.lt_or_ge c9 1 with h9 | h9; exact h9; exact absurd hm9 (by rw [mayAt_no (d := 0) (by kernel_rfl) (by omega) (by decide)]; decide)); have h0 := hS9.2.1 (by omega); have y6 := (h0.cell (p := ⟨bo, oo + j, none⟩) hlo).trans k6; clear hF hm9; go_simp; (try with_reducible rfl); done)); simp only [Act.put, List.setIfInBounds_toArray, List.set_cons_zero, List.set_cons_succ, Nat.reduceAdd]
              refine late_pure (by simp) (fun w => SB.refl go w) (v := ?_) (fun _ => rfl) ?_ ?_; rotate_left; (focus (intro c9 us w9 hm9 hS9 hF; clear hF hm9; go_simp; (try with_reducible rfl); done)); simp only [Act.put, List.setIfInBounds_toArray, List.set_cons_zero, List.set_cons_succ, Nat.reduceAdd]
              refine late_pure (by simp) (fun w => SB.refl go w) (v := .slice D m.data.length dc) (fun _ => rfl) ?_ ?_; (focus (intro c9 us w9 hm9 hS9 hF; have hc9 : c9 < 1 := (by rcases Nat.lt_or_ge c9 1 with h9 | h9; exact h9; exact absurd hm9 (by rw [mayAt_no (d := 0) (by kernel_rfl) (by omega) (by decide)]; decide)); have h0 := hS9.2.1 (by omega); have r9 := r7.below h0 r7.lt; obtain ⟨y0, y1, y2, y3, y4⟩ := md_cells r9; clear hF hm9; go_simp; (try with_reducible rfl); done)); simp only [Act.put, List.setIfInBounds_toArray, List.set_cons_zero, List.set_cons_succ, Nat.reduceAdd]
              refine late_chain (by simp) ?_ ?_; (focus (intro us w9 hS9 hF K hK; have h0 := hS9.2.1 rfl; clear hF; go_simp; have hL9 := hL.below h0; refine (put_at (x := (off : Int)) (k := off) rfl D m.data.length dc m.data _ gv go sz w9 hL9.ln hL9.rv hL9.ro (hID0.below hL9.bl) hol (by omega)).mono ?_; rintro en9 w' ⟨rfl, r8, u8, hl8⟩; have hLn := hL9.put u8 r8 hl8; exact hK _ w' ⟨hLn.rp, fun h => by omega, fun _ => hLn⟩ (SB.upd u8))); simp only [Act.put, List.setIfInBounds_toArray, List.set_cons_zero, List.set_cons_succ, Nat.reduceAdd]
              refine late_done fun us wd hSd hF => ?_
              have hL := hSd.2.2 (by omega)
              clear hF hSd
              have hst : ovr (imOQ O4 (16 + 48 * j) NL 4) off m.data = imPart ms.length (ms.take (j + 1)) sz := by
                have h1 := imPart_step ms.length sz (ms.take j) m (by rw [List.length_take]; omega) (fun x hx => ?_) hok.1 (by rw [HOFF.out]; exact hol)
                · rw [show (ms.take j).length = j by rw [List.length_take]; omega, HOFF.out, HO4.out] at h1
                  rw [List.take_succ_eq_append_getElem hjl, HM.out, ← h1, ← HNL.out]
                  unfold Go.Proofs.YtigbmlgllgcbhaaDoor.w2 imOQ imNum
                  rw [HEN.out]
                  rfl
                · obtain ⟨i, hi, rfl⟩ := List.getElem_of_mem hx
                  rw [List.length_take] at hi
                  rw [List.getElem_take]
                  exact (chk_ok (HA.out i (by omega) (by omega)) (hdl _ (List.getElem_mem _))).1
              rw [hst] at hL
              go_wp2
              exact ⟨⟨j + 1, by omega, by go_num, hL⟩, by simp [intOf]; omega⟩
        · obtain rfl : j = ms.length := by omega
          have hs16 := HSZ2.out
          have hsz64 : 16 ≤ sz := by omega
          have hbi := (Below.refl wr.heap.size wr).alloc (Nat.le_refl _) (.cells #[.int .u8 77, .int .u8 75, .int .u8 66, .int .u8 73] 5 (4, 5))
          have hI := IsB.lit wr 5 (4, 5) [77, 75, 66, 73]
          have hL := hL.below hbi
          rw [List.take_length] at hL
          have kc := fun (w : World) (C : Array Value) (n c : Nat) => Lib.run_convert_bytes_const (P := Tryd.prog) w 23 5 C n c Tryd.underlying23 Tryd.underlying5
          clear hbi hs16
          go_upto_region 32 with (go_at_call 27; refine (put_at (x := 0) (k := 0) rfl (some ⟨wr.heap.size, 0, none⟩) 4 4 [77, 75, 66, 73] _ gv go sz _ hL.ln hL.rv hL.ro hI (by simp; omega) (by omega)).mono ?_; rintro en wB ⟨rfl, r8, u8, hl8⟩; have hL := hL.put u8 r8 hl8; clear r8 u8 hl8)
          clear hI kc
          go_upto_region 33 with (first | (go_at_call 30; refine (app16 none 0 0 [] 1 _ (IsB.nil _ _) (by omega) (by omega)).mono ?_; rintro en wA hN; rw [List.nil_append] at hN; obtain ⟨u, rfl, ⟨gb, rfl, hgb, hrb⟩, hbA⟩ := byG_of hN hL.ro.lt; have hL := hL.below hbA; clear hN hbA) | (go_at_call 27; refine (put_at (x := 4) (k := 4) rfl (some ⟨gb, 0, none⟩) (fixB 1 2).length (fixB 1 2).length (fixB 1 2) _ gv go sz _ hL.ln hL.rv hL.ro (IsB.of_row hrb) (by first | (rw [fixB_len]; omega) | (simp; omega)) (by omega)).mono ?_; rintro en wB ⟨rfl, r8, u8, hl8⟩; have hL := hL.put u8 r8 hl8; clear r8 u8 hl8))
          clear hrb hgb
          have hwn : IntKind.u16.wrap (ms.length : Int) = (ms.length : Int) := by rw [IntKind.wrap_u16]; omega
          go_upto_region 34 with (first | (go_at_call 30; refine (app16 none 0 0 [] ms.length _ (IsB.nil _ _) (by omega) (by omega)).mono ?_; rintro en wA hN; rw [List.nil_append] at hN; obtain ⟨u, rfl, ⟨gb, rfl, hgb, hrb⟩, hbA⟩ := byG_of hN hL.ro.lt; have hL := hL.below hbA; clear hN hbA) | (go_at_call 27; refine (put_at (x := 6) (k := 6) rfl (some ⟨gb, 0, none⟩) (fixB ms.length 2).length (fixB ms.length 2).length (fixB ms.length 2) _ gv go sz _ hL.ln hL.rv hL.ro (IsB.of_row hrb) (by first | (rw [fixB_len]; omega) | (simp; omega)) (by omega)).mono ?_; rintro en wB ⟨rfl, r8, u8, hl8⟩; have hL := hL.put u8 r8 hl8; clear r8 u8 hl8))
          clear hrb hgb hwn
          have hwn : IntKind.u32.wrap (sz : Int) = (sz : Int) := by rw [IntKind.wrap_u32]; omega
          go_upto_region 35 with (first | (go_at_call 29; refine (app32 none 0 0 [] sz _ (IsB.nil _ _) (by omega) (by omega)).mono ?_; rintro en wA hN; rw [List.nil_append] at hN; obtain ⟨u, rfl, ⟨gb, rfl, hgb, hrb⟩, hbA⟩ := byG_of hN hL.ro.lt; have hL := hL.below hbA; clear hN hbA) | (go_at_call 27; refine (put_at (x := 8) (k := 8) rfl (some ⟨gb, 0, none⟩) (fixB sz 4).length (fixB sz 4).length (fixB sz 4) _ gv go sz _ hL.ln hL.rv hL.ro (IsB.of_row hrb) (by first | (rw [fixB_len]; omega) | (simp; omega)) (by omega)).mono ?_; rintro en wB ⟨rfl, r8, u8, hl8⟩; have hL := hL.put u8 r8 hl8; clear r8 u8 hl8))
          clear hrb hgb hwn
          obtain ⟨o1, ho1⟩ : ∃ o1, mk1 (imPart ms.length ms sz) ms.length sz = o1 := ⟨_, rfl⟩
          have hL : BL W ms.length sz go gv gp Ao co base ((imOffs (16 + 48 * ms.length) ms).map (fun (x : Nat) => (x : Int))) (mk1 (imPart ms.length ms sz) ms.length sz) _ := hL
          rw [ho1] at hL
          have hS := HSZ.out
          have hdr : o1.drop 16 = imBody ms := by rw [← ho1, ← hS, imPart_all, mk1_drop]
          have hfin : ovr o1 12 (fixB (crc (imBody ms)) 4) = imImg ms := by rw [← ho1, ← hS, imPart_all, mk2_eq]; simp [imImg, imHead]
          have hI := IsB.from hL.ro 16 (sz - 16) (by rw [hL.ln])
          rw [hdr] at hI
          have HFI := Lib.hid hfin
          have HI := Lib.hid hI
          have hcr := crc_lt (imBody ms)
          have p0 := (hL.rv.cell 0 : _ = some (Value.slice (some ⟨go, 0, none⟩) sz sz))
          have hi0 : (16 : Int) ≤ (sz : Int) := by omega
          have hne : (sz = 16) = False := by
            have h1 := up64_ge (imFin (16 + 48 * ms.length) ms)
            have h2 := up64_mod (imFin (16 + 48 * ms.length) ms)
            have h3 : up64 (imFin (16 + 48 * ms.length) ms) = sz := hS
            have h4 := imFin_ge ms (16 + 48 * ms.length)
            simp; omega
          clear hS hdr hfin hI ho1
          go_upto_region 36 with (first | (go_at_call 28; refine (crc32 (some ⟨go, 16, none⟩) (sz - 16) (sz - 16) (imBody ms) _ HI.out (by omega)).mono ?_; rintro en wC ⟨rfl, hbC⟩; have hL := hL.below hbC; clear hbC) | (go_at_call 29; refine (app32 none 0 0 [] (crc (imBody ms)) _ (IsB.nil _ _) (by omega) (by omega)).mono ?_; rintro en wA hN; rw [List.nil_append] at hN; obtain ⟨u, rfl, ⟨gb, rfl, hgb, hrb⟩, hbA⟩ := byG_of hN hL.ro.lt; have hL := hL.below hbA; clear hN hbA) | (go_at_call 27; refine (put_at (x := 12) (k := 12) rfl (some ⟨gb, 0, none⟩) (fixB (crc (imBody ms)) 4).length (fixB (crc (imBody ms)) 4).length (fixB (crc (imBody ms)) 4) _ gv go sz _ hL.ln hL.rv hL.ro (IsB.of_row hrb) (by first | (rw [fixB_len]; omega) | (simp; omega)) (by omega)).mono ?_; rintro en wB ⟨rfl, r8, u8, hl8⟩; have hL := hL.put u8 r8 hl8; clear r8 u8 hl8))
          clear hrb hgb p0 hi0 hne
          rw [HFI.out] at hL
          have p0 := hL.rv.cell 0
          go_wp2
          go_ret2
          have hln := hL.ln
          have hl0 := hL.l0
          have hro := hL.ro
          have hbl := hL.bl
          exact .inr ⟨HE.out, go, by (rw [hln]; rfl), hl0, hro, hbl⟩
theorem build (ms : List Md) (A : Option Addr) (c : Nat) (W : World) (hM : IsMs W A ms.length ms) (hc : ms.length ≤ c) (hnl : ∀ m ∈ ms, m.name.length ≤ 1000000000) (hdl : ∀ m ∈ ms, m.data.length ≤ 1000000000) : Calls Tryd.prog 12 #[.slice A ms.length c] W (BldP ms W) := by
  rcases Nat.lt_or_ge 64 ms.length with h | h
  · exact build_many ms A c W hM hc hnl hdl h
  · exact build_main ms A c W hM hc hnl hdl h
end Go.Proofs.YtigbmlgllgcbhaaDoor

/- Image, in plain words: modules, where their data stand, an image's bytes, and what Build has written when some modules are done. -/
import Derived.Test.YtigbmlgllgcbhaaDoorAfix
namespace Go.Proofs.YtigbmlgllgcbhaaDoor
open Go.RowKit
set_option linter.unusedVariables false
set_option linter.unusedSimpArgs false
/-- A module. -/
structure Md where
  (name : List UInt8) (kind width entry : Int) (data : List UInt8)
def zer (n : Nat) : List UInt8 := List.replicate n 0
theorem zer_len (n : Nat) : (zer n).length = n := by simp [zer]
theorem zer_add (a b : Nat) : zer (a + b) = zer a ++ zer b := by simp [zer]
def up64 (n : Nat) : Nat := (n + 63) / 64 * 64
theorem up64_ge (n : Nat) : n ≤ up64 n := by unfold up64; omega
theorem up64_lt (n : Nat) : up64 n < n + 64 := by unfold up64; omega
theorem up64_mod (n : Nat) : up64 n % 64 = 0 := by unfold up64; omega
theorem up64_up (n : Nat) : up64 (up64 n) = up64 n := by unfold up64; omega
theorem up64_mono {a b : Nat} (h : a ≤ b) : up64 a ≤ up64 b := by unfold up64; omega
/-- Bytes written over others. -/
def ovr (o : List UInt8) (a : Nat) (b : List UInt8) : List UInt8 := o.take a ++ b ++ o.drop (a + b.length)
theorem ovr_len {o b : List UInt8} {a : Nat} (h : a + b.length ≤ o.length) : (ovr o a b).length = o.length := by
  simp [ovr]; omega
theorem ovr_at (A B b : List UInt8) (d m : Nat) (h : d + b.length ≤ m) : ovr (A ++ zer m ++ B) (A.length + d) b = A ++ zer d ++ b ++ zer (m - d - b.length) ++ B := by
  obtain ⟨r, rfl⟩ : ∃ r, m = d + (b.length + r) := ⟨m - d - b.length, by omega⟩
  have h1 : d + (b.length + r) - d - b.length = r := by omega
  rw [h1, zer_add, zer_add]
  have h2 : A ++ (zer d ++ (zer b.length ++ zer r)) ++ B = (A ++ zer d) ++ (zer b.length ++ (zer r ++ B)) := by simp
  have h3 : (A ++ zer d).length = A.length + d := by simp [zer_len]
  have h5 : List.drop ((A ++ zer d).length + b.length) ((A ++ zer d) ++ (zer b.length ++ (zer r ++ B))) = zer r ++ B := by
    rw [← List.append_assoc (A ++ zer d)]
    exact List.drop_left' (by simp only [List.length_append, zer_len])
  unfold ovr
  rw [h2, ← h3, List.take_left, h5]
  simp
/-- Where the modules' data stand, the end so far being e; where the last one ends. -/
def imOffs : Nat → List Md → List Nat
  | _, [] => []
  | e, m :: r => up64 e :: imOffs (up64 e + m.data.length) r
def imFin : Nat → List Md → Nat
  | e, [] => e
  | e, m :: r => imFin (up64 e + m.data.length) r
def imSize (ms : List Md) : Nat := up64 (imFin (16 + 48 * ms.length) ms)
/-- A module's entry. -/
def imEnt (m : Md) (off : Nat) : List UInt8 := m.name ++ zer (24 - m.name.length) ++ [UInt8.ofNat m.kind.toNat, UInt8.ofNat m.width.toNat, 0, 0] ++ fixB m.entry.toNat 4 ++ fixB off 4 ++ fixB m.data.length 4 ++ fixB (crc m.data) 4 ++ zer 4
theorem imEnt_len (m : Md) (off : Nat) (h : m.name.length ≤ 24) : (imEnt m off).length = 48 := by simp [imEnt, zer_len, fixB_len]; omega
def imTab : Nat → List Md → List UInt8
  | _, [] => []
  | e, m :: r => imEnt m (up64 e) ++ imTab (up64 e + m.data.length) r
/-- The data, each behind zeros, up64 to the last one's end. -/
def imDat : Nat → List Md → List UInt8
  | _, [] => []
  | e, m :: r => zer (up64 e - e) ++ m.data ++ imDat (up64 e + m.data.length) r
theorem imTab_len : ∀ (ms : List Md) (e : Nat), (∀ m ∈ ms, m.name.length ≤ 24) → (imTab e ms).length = 48 * ms.length
  | [], _, _ => rfl
  | m :: r, e, h => by
    simp only [imTab, List.length_append, List.length_cons]
    rw [imEnt_len m _ (h m (by simp)), imTab_len r _ (fun x hx => h x (by simp [hx]))]
    omega
theorem imFin_ge : ∀ (ms : List Md) (e : Nat), e ≤ imFin e ms
  | [], _ => Nat.le_refl _
  | m :: r, e => by
    have h1 := imFin_ge r (up64 e + m.data.length)
    have h2 := up64_ge e
    show e ≤ imFin (up64 e + m.data.length) r
    omega
theorem imDat_len : ∀ (ms : List Md) (e : Nat), (imDat e ms).length = imFin e ms - e
  | [], _ => by simp [imDat, imFin]
  | m :: r, e => by
    simp only [imDat, imFin, List.length_append, zer_len]
    rw [imDat_len r]
    have h1 := imFin_ge r (up64 e + m.data.length)
    have h2 := up64_ge e
    omega
theorem imFin_snoc : ∀ (ms : List Md) (e : Nat) (m : Md), imFin e (ms ++ [m]) = up64 (imFin e ms) + m.data.length
  | [], _, _ => rfl
  | x :: r, e, m => imFin_snoc r _ m
theorem imTab_snoc : ∀ (ms : List Md) (e : Nat) (m : Md), imTab e (ms ++ [m]) = imTab e ms ++ imEnt m (up64 (imFin e ms))
  | [], e, m => by simp [imTab, imFin]
  | x :: r, e, m => by
    show imEnt x _ ++ imTab _ (r ++ [m]) = imEnt x _ ++ imTab _ r ++ imEnt m (up64 (imFin _ r))
    rw [imTab_snoc r, List.append_assoc]
theorem imDat_snoc : ∀ (ms : List Md) (e : Nat) (m : Md), imDat e (ms ++ [m]) = imDat e ms ++ zer (up64 (imFin e ms) - imFin e ms) ++ m.data
  | [], e, m => by simp [imDat, imFin]
  | x :: r, e, m => by
    show zer _ ++ x.data ++ imDat _ (r ++ [m]) = zer _ ++ x.data ++ imDat _ r ++ zer (up64 (imFin _ r) - imFin _ r) ++ m.data
    rw [imDat_snoc r]
    simp
theorem imOffs_len : ∀ (ms : List Md) (e : Nat), (imOffs e ms).length = ms.length
  | [], _ => rfl
  | m :: r, e => by simp [imOffs, imOffs_len r]
theorem imOffs_snoc : ∀ (ms : List Md) (e : Nat) (m : Md), imOffs e (ms ++ [m]) = imOffs e ms ++ [up64 (imFin e ms)]
  | [], e, m => rfl
  | x :: r, e, m => by
    show up64 e :: imOffs _ (r ++ [m]) = _
    rw [imOffs_snoc r]
    rfl
/-- The image behind its header, and the image. -/
def imBody (ms : List Md) : List UInt8 := imTab (16 + 48 * ms.length) ms ++ imDat (16 + 48 * ms.length) ms ++ zer (imSize ms - imFin (16 + 48 * ms.length) ms)
def imHead (ms : List Md) : List UInt8 := [77, 75, 66, 73] ++ fixB 1 2 ++ fixB ms.length 2 ++ fixB (imSize ms) 4 ++ fixB (crc (imBody ms)) 4
def imImg (ms : List Md) : List UInt8 := imHead ms ++ imBody ms
theorem imHead_len (ms : List Md) : (imHead ms).length = 16 := by simp [imHead, fixB_len]
theorem imBody_len (ms : List Md) (h : ∀ m ∈ ms, m.name.length ≤ 24) : (imBody ms).length = imSize ms - 16 := by
  have h1 := imFin_ge ms (16 + 48 * ms.length)
  have h2 := up64_ge (imFin (16 + 48 * ms.length) ms)
  simp only [imBody, List.length_append, zer_len, imTab_len ms _ h, imDat_len]
  unfold imSize
  omega
/-- What Build has written when k modules are done: ks are they, n is how many there are. -/
def imPart (n : Nat) (ks : List Md) (sz : Nat) : List UInt8 := zer 16 ++ imTab (16 + 48 * n) ks ++ zer (48 * (n - ks.length)) ++ imDat (16 + 48 * n) ks ++ zer (sz - imFin (16 + 48 * n) ks)
theorem imPart_nil (n sz : Nat) (h : 16 + 48 * n ≤ sz) : imPart n [] sz = zer sz := by
  simp only [imPart, imTab, imDat, imFin, List.append_nil, List.length_nil, Nat.sub_zero]
  rw [← zer_add, ← zer_add]
  congr 1
  omega
/-- One module's writes. -/
def w1 (o : List UInt8) (at_ : Nat) (m : Md) : List UInt8 := ((ovr o at_ m.name).set (at_ + 24) (UInt8.ofNat m.kind.toNat)).set (at_ + 25) (UInt8.ofNat m.width.toNat)
def w2 (o : List UInt8) (at_ : Nat) (m : Md) (off : Nat) : List UInt8 := ovr (ovr (ovr (ovr o (at_ + 28) (fixB m.entry.toNat 4)) (at_ + 32) (fixB off 4)) (at_ + 36) (fixB m.data.length 4)) (at_ + 40) (fixB (crc m.data) 4)
theorem set_appI (A B : List UInt8) (i : Nat) (x y : UInt8) (h : i = A.length) : (A ++ x :: B).set i y = A ++ y :: B := by
  subst h
  simp
theorem w1_eq (A B : List UInt8) (m : Md) (h : m.name.length ≤ 24) : w1 (A ++ zer 48 ++ B) A.length m = A ++ (m.name ++ zer (24 - m.name.length) ++ [UInt8.ofNat m.kind.toNat, UInt8.ofNat m.width.toNat]) ++ zer 22 ++ B := by
  unfold w1
  have h1 := ovr_at A B m.name 0 48 (by omega)
  rw [Nat.add_zero] at h1
  rw [h1]
  obtain ⟨r, hr⟩ : ∃ r, 24 - m.name.length = r := ⟨_, rfl⟩
  have h2 : 48 - 0 - m.name.length = r + 24 := by omega
  rw [h2, hr, zer_add]
  have h3 : zer 24 = 0 :: 0 :: zer 22 := rfl
  have h4 : A ++ zer 0 ++ m.name ++ (zer r ++ zer 24) ++ B = (A ++ m.name ++ zer r) ++ 0 :: (0 :: (zer 22 ++ B)) := by rw [h3]; simp [zer]
  rw [h4, set_appI _ _ _ _ _ (by simp [zer_len]; omega)]
  have h5 : (A ++ m.name ++ zer r) ++ UInt8.ofNat m.kind.toNat :: (0 :: (zer 22 ++ B)) = (A ++ m.name ++ zer r ++ [UInt8.ofNat m.kind.toNat]) ++ 0 :: (zer 22 ++ B) := by simp
  rw [h5, set_appI _ _ _ _ _ (by simp [zer_len]; omega)]
  simp
theorem w2_eq (A B : List UInt8) (m : Md) (off : Nat) : w2 (A ++ zer 22 ++ B) (A.length - 26) m off = A ++ [0, 0] ++ fixB m.entry.toNat 4 ++ fixB off 4 ++ fixB m.data.length 4 ++ fixB (crc m.data) 4 ++ zer 4 ++ B ∨ A.length < 26 := by
  rcases Nat.lt_or_ge A.length 26 with h | h
  · exact .inr h
  left
  unfold w2
  have h0 : A.length - 26 + 28 = A.length + 2 := by omega
  rw [h0, ovr_at A B _ 2 22 (by simp [fixB_len])]
  simp only [fixB_len]
  have e1 : A.length - 26 + 32 = (A ++ zer 2 ++ fixB m.entry.toNat 4).length + 0 := by simp [zer_len, fixB_len]; omega
  rw [e1, ovr_at _ B _ 0 _ (by simp [fixB_len])]
  simp only [fixB_len]
  have e2 : A.length - 26 + 36 = (A ++ zer 2 ++ fixB m.entry.toNat 4 ++ zer 0 ++ fixB off 4).length + 0 := by simp [zer_len, fixB_len]; omega
  rw [e2, ovr_at _ B _ 0 _ (by simp [fixB_len])]
  simp only [fixB_len]
  have e3 : A.length - 26 + 40 = (A ++ zer 2 ++ fixB m.entry.toNat 4 ++ zer 0 ++ fixB off 4 ++ zer 0 ++ fixB m.data.length 4).length + 0 := by simp [zer_len, fixB_len]; omega
  rw [e3, ovr_at _ B _ 0 _ (by simp [fixB_len])]
  simp only [fixB_len]
  simp [zer]
/-- One module more. -/
theorem imPart_step (n sz : Nat) (ks : List Md) (m : Md) (hk : ks.length < n) (hn : ∀ x ∈ ks, x.name.length ≤ 24) (hm : m.name.length ≤ 24) (hs : up64 (imFin (16 + 48 * n) ks) + m.data.length ≤ sz) :
    ovr (w2 (w1 (imPart n ks sz) (16 + 48 * ks.length) m) (16 + 48 * ks.length) m (up64 (imFin (16 + 48 * n) ks))) (up64 (imFin (16 + 48 * n) ks)) m.data = imPart n (ks ++ [m]) sz := by
  obtain ⟨T, hT⟩ : ∃ T, zer 16 ++ imTab (16 + 48 * n) ks = T := ⟨_, rfl⟩
  have hTl : T.length = 16 + 48 * ks.length := by rw [← hT, List.length_append, zer_len, imTab_len ks _ hn]
  obtain ⟨r, hr⟩ : ∃ r, n = ks.length + 1 + r := ⟨n - ks.length - 1, by omega⟩
  obtain ⟨F, hF⟩ : ∃ F, imFin (16 + 48 * n) ks = F := ⟨_, rfl⟩
  obtain ⟨Q, hQ⟩ : ∃ Q, imDat (16 + 48 * n) ks = Q := ⟨_, rfl⟩
  have hQl : Q.length = F - (16 + 48 * n) := by rw [← hQ, imDat_len, hF]
  have hF0 : 16 + 48 * n ≤ F := by rw [← hF]; exact imFin_ge _ _
  have hu := up64_ge F
  rw [hF] at hs
  have hp : imPart n ks sz = T ++ zer 48 ++ (zer (48 * r) ++ Q ++ zer (sz - F)) := by
    unfold imPart
    rw [hT, hF, hQ, show 48 * (n - ks.length) = 48 + 48 * r by omega, zer_add]
    simp
  rw [hp, hF, ← hTl, w1_eq T _ m hm]
  have h2 := w2_eq (T ++ (m.name ++ zer (24 - m.name.length) ++ [UInt8.ofNat m.kind.toNat, UInt8.ofNat m.width.toNat])) (zer (48 * r) ++ Q ++ zer (sz - F)) m (up64 F)
  have hl : (T ++ (m.name ++ zer (24 - m.name.length) ++ [UInt8.ofNat m.kind.toNat, UInt8.ofNat m.width.toNat])).length = T.length + 26 := by simp [zer_len]; omega
  rw [hl, Nat.add_sub_cancel] at h2
  rcases h2 with h2 | h2
  · rw [h2]
    have h3 : T ++ (m.name ++ zer (24 - m.name.length) ++ [UInt8.ofNat m.kind.toNat, UInt8.ofNat m.width.toNat]) ++ [0, 0] ++ fixB m.entry.toNat 4 ++ fixB (up64 F) 4 ++ fixB m.data.length 4 ++ fixB (crc m.data) 4 ++ zer 4 ++ (zer (48 * r) ++ Q ++ zer (sz - F)) = (T ++ imEnt m (up64 F) ++ zer (48 * r) ++ Q) ++ zer (sz - F) ++ [] := by
      simp [imEnt]
    rw [h3]
    have h4 : up64 F = (T ++ imEnt m (up64 F) ++ zer (48 * r) ++ Q).length + (up64 F - F) := by
      simp only [List.length_append, zer_len, imEnt_len m _ hm, hTl, hQl]
      omega
    have h5 := ovr_at (T ++ imEnt m (up64 F) ++ zer (48 * r) ++ Q) [] m.data (up64 F - F) (sz - F) (by omega)
    rw [← h4] at h5
    rw [h5]
    unfold imPart
    rw [imTab_snoc, imDat_snoc, imFin_snoc, hF, hQ, List.length_append, List.length_singleton, show n - (ks.length + 1) = r by omega, show sz - F - (up64 F - F) - m.data.length = sz - (up64 F + m.data.length) by omega, ← hT]
    simp
  · omega
end Go.Proofs.YtigbmlgllgcbhaaDoor

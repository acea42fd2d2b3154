/- What a sector tells of itself, in plain Lean. -/
import Derived.Test.YtbjaphldncagjaaSectorPlain
namespace Go.Proofs.Ytbjaphldncagjaa

def fld (b : List UInt8) (p size : Nat) : Nat := val ((b.drop p).take size)
def lenP (b : List UInt8) : Nat := fld b 14 2
def dataP (b : List UInt8) : List UInt8 := (b.drop 16).take (lenP b)
def hdrP (b : List UInt8) : List Int := [(fld b 0 1 : Int), (fld b 1 4 : Int), (fld b 5 7 : Int), (fld b 12 1 : Int), (fld b 13 1 : Int)]
def partsP (b : List UInt8) : Prop := fld b 0 1 ≠ 0 ∧ fld b 13 1 ≠ 0 ∧ fld b 12 1 < fld b 13 1
def tailP (b : List UInt8) : Prop := ∀ i, 16 + lenP b ≤ i → i < 512 → b[i]? = some 0
instance (b : List UInt8) : Decidable (partsP b) := by unfold partsP; infer_instance
open Classical in
noncomputable def openP (b : List UInt8) : List Int × List UInt8 × Int :=
  if b.length = 512 then (if lenP b ≤ 496 ∧ partsP b ∧ tailP b then (hdrP b, dataP b, 0) else ([0, 0, 0, 0, 0], [], 14)) else ([0, 0, 0, 0, 0], [], 3)

theorem openP_short {b : List UInt8} (h : b.length ≠ 512) : openP b = ([0, 0, 0, 0, 0], [], 3) := by unfold openP; rw [if_neg h]
theorem openP_bad {b : List UInt8} (h : b.length = 512) (h2 : ¬ (lenP b ≤ 496 ∧ partsP b ∧ tailP b)) : openP b = ([0, 0, 0, 0, 0], [], 14) := by unfold openP; rw [if_pos h, if_neg h2]
theorem openP_ok {b : List UInt8} (h : b.length = 512) (h2 : lenP b ≤ 496 ∧ partsP b ∧ tailP b) : openP b = (hdrP b, dataP b, 0) := by unfold openP; rw [if_pos h, if_pos h2]

theorem fld_len {b : List UInt8} {p size : Nat} (h : p + size ≤ b.length) : ((b.drop p).take size).length = size := by rw [List.length_take, List.length_drop]; omega
theorem fld_lt {b : List UInt8} {p size : Nat} : fld b p size < 256 ^ size := val_lt_of (by rw [List.length_take]; omega)
theorem get_fld {b : List UInt8} (p size : Nat) (h : p + size ≤ b.length) (h1 : 1 ≤ size) (h7 : size ≤ 7) : getN b (p : Int) (size : Int) = ((fld b p size : Int), 0) := by
  unfold getN
  rw [if_neg (by omega), if_neg (by omega)]
  simp [fld]
theorem be_fld {b : List UInt8} {p size : Nat} (h : p + size ≤ b.length) : be (fld b p size) size = (b.drop p).take size := by
  have := be_val ((b.drop p).take size)
  rw [fld_len h] at this
  exact this
theorem fits_fld {b : List UInt8} {p size : Nat} (h1 : 1 ≤ size) (h7 : size ≤ 7) : fitsB (fld b p size : Int) (size : Int) = true := by
  unfold fitsB
  have := fld_lt (b := b) (p := p) (size := size)
  have e : (256 : Int) ^ (size : Int).toNat = ((256 ^ size : Nat) : Int) := by simp
  rw [decide_eq_true_iff, e]
  omega
theorem put_fld {b : List UInt8} {p size : Nat} (bs : List UInt8) (h : p + size ≤ b.length) (h1 : 1 ≤ size) (h7 : size ≤ 7) : putB bs (fld b p size : Int) (size : Int) = bs ++ (b.drop p).take size := by
  unfold putB
  rw [if_pos (fits_fld h1 h7)]
  simp only [Int.toNat_natCast]
  rw [be_fld h]
theorem take_more (b : List UInt8) (p size : Nat) : b.take p ++ (b.drop p).take size = b.take (p + size) := by
  rw [List.take_add]

theorem dataP_len {b : List UInt8} (h : b.length = 512) (hn : lenP b ≤ 496) : (dataP b).length = lenP b := by
  unfold dataP; rw [List.length_take, List.length_drop]; omega
theorem hd_fld {b : List UInt8} (h : b.length = 512) : hdTo [(fld b 0 1 : Int), (fld b 1 4 : Int), (fld b 5 7 : Int), (fld b 12 1 : Int), (fld b 13 1 : Int), (lenP b : Int)] 6 = b.take 16 := by
  simp only [hdTo, sizesL, List.getD_cons_zero, List.getD_cons_succ]
  rw [show (putB [] (fld b 0 1 : Int) 1) = b.take 1 from (put_fld (p := 0) (size := 1) [] (by omega) (by omega) (by omega)).trans (by simp)]
  rw [show (putB (b.take 1) (fld b 1 4 : Int) 4) = b.take 5 from (put_fld (p := 1) (size := 4) _ (by omega) (by omega) (by omega)).trans (take_more b 1 4)]
  rw [show (putB (b.take 5) (fld b 5 7 : Int) 7) = b.take 12 from (put_fld (p := 5) (size := 7) _ (by omega) (by omega) (by omega)).trans (take_more b 5 7)]
  rw [show (putB (b.take 12) (fld b 12 1 : Int) 1) = b.take 13 from (put_fld (p := 12) (size := 1) _ (by omega) (by omega) (by omega)).trans (take_more b 12 1)]
  rw [show (putB (b.take 13) (fld b 13 1 : Int) 1) = b.take 14 from (put_fld (p := 13) (size := 1) _ (by omega) (by omega) (by omega)).trans (take_more b 13 1)]
  exact (put_fld (p := 14) (size := 2) _ (by omega) (by omega) (by omega)).trans (take_more b 14 2)
theorem fit_fld (b : List UInt8) (n : Int) : fitTo [(fld b 0 1 : Int), (fld b 1 4 : Int), (fld b 5 7 : Int), (fld b 12 1 : Int), (fld b 13 1 : Int), n] 5 = true := by
  simp only [fitTo, sizesL, List.getD_cons_zero, List.getD_cons_succ, Bool.true_and, Bool.and_eq_true]
  exact ⟨⟨⟨⟨fits_fld (size := 1) (by omega) (by omega), fits_fld (size := 4) (by omega) (by omega)⟩, fits_fld (size := 7) (by omega) (by omega)⟩, fits_fld (size := 1) (by omega) (by omega)⟩, fits_fld (size := 1) (by omega) (by omega)⟩

/-- Sealed anew, what was read. -/
theorem seal_bad {b : List UInt8} (h : ¬ partsP b) : sealP (fld b 0 1) (fld b 1 4) (fld b 5 7) (fld b 12 1) (fld b 13 1) (dataP b) = ([], 15) :=
  sealP_range fun ⟨_, h1, h2, h3⟩ => h ⟨by omega, by omega, by omega⟩
theorem seal_good {b : List UInt8} (h : b.length = 512) (hn : lenP b ≤ 496) (hp : partsP b) : sealP (fld b 0 1) (fld b 1 4) (fld b 5 7) (fld b 12 1) (fld b 13 1) (dataP b) = (b.take (16 + lenP b) ++ List.replicate (496 - lenP b) 0, 0) := by
  rw [sealP_ok ⟨fit_fld b _, by have := hp.1; omega, by have := hp.2.1; omega, by have := hp.2.2; omega⟩ (by rw [dataP_len h hn]; omega), dataP_len h hn, hd_fld h]
  unfold dataP
  rw [take_more]
theorem tail_iff {b : List UInt8} (h : b.length = 512) (hn : lenP b ≤ 496) : b.take (16 + lenP b) ++ List.replicate (496 - lenP b) 0 = b ↔ tailP b := by
  unfold tailP
  constructor
  · intro e i h1 h2
    rw [← e, List.getElem?_append_right (by rw [List.length_take]; omega), List.length_take, List.getElem?_replicate, if_pos (by omega)]
  · intro ht
    apply List.ext_getElem?
    intro i
    by_cases h1 : i < 16 + lenP b
    · rw [List.getElem?_append_left (by rw [List.length_take]; omega), List.getElem?_take, if_pos h1]
    · rw [List.getElem?_append_right (by rw [List.length_take]; omega), List.length_take, List.getElem?_replicate]
      by_cases h2 : i < 512
      · rw [if_pos (by omega), ht i (by omega) h2]
      · rw [if_neg (by omega)]; symm; rw [List.getElem?_eq_none_iff]; omega

/-- What is sealed is told. -/
theorem fld_mid (a x c : List UInt8) : fld (a ++ x ++ c) a.length x.length = val x := by
  unfold fld
  rw [List.append_assoc, List.drop_left, List.take_left]
theorem open_seal {k e s p q : Int} {data : List UInt8} (h : (sealP k e s p q data).2 = 0) : openP (sealP k e s p q data).1 = ([k, e, s, p, q], data, 0) := by
  have hr : fitTo [k, e, s, p, q, data.length] 5 = true ∧ k ≠ 0 ∧ q ≠ 0 ∧ p < q := by
    by_cases h1 : fitTo [k, e, s, p, q, data.length] 5 = true ∧ k ≠ 0 ∧ q ≠ 0 ∧ p < q
    · exact h1
    · rw [sealP_range h1] at h; cases h
  have hl : ¬ 496 < data.length := fun hl => by rw [sealP_large hr hl] at h; cases h
  rw [sealP_ok hr hl]
  obtain ⟨hf, hk, hq, hpq⟩ := hr
  have h16 := hdTo_16 k e s p q data.length hf (by omega) (by omega)
  simp only [fitTo, sizesL, List.getD_cons_zero, List.getD_cons_succ, Bool.true_and, Bool.and_eq_true] at hf
  obtain ⟨⟨⟨⟨f1, f2⟩, f3⟩, f4⟩, f5⟩ := hf
  have f6 : fitsB data.length 2 = true := decide_eq_true ⟨by omega, by omega, by omega, by
    have : (256 : Int) ^ (2 : Int).toNat = 65536 := by decide
    omega⟩
  have hv : ∀ {n : Int} (z : Nat), fitsB n z = true → val (be n.toNat z) = n.toNat ∧ (n.toNat : Int) = n := fun {n} z h => by
    have h' := fitsB_true h
    simp only [Int.toNat_natCast] at h'
    have e : (256 : Int) ^ z = ((256 ^ z : Nat) : Int) := by simp
    rw [e] at h'
    exact ⟨val_be _ _ (by omega), by omega⟩
  obtain ⟨v1, t1⟩ := hv 1 f1
  obtain ⟨v2, t2⟩ := hv 4 f2
  obtain ⟨v3, t3⟩ := hv 7 f3
  obtain ⟨v4, t4⟩ := hv 1 f4
  obtain ⟨v5, t5⟩ := hv 1 f5
  obtain ⟨v6, t6⟩ := hv 2 f6
  have hpb : ∀ (bs : List UInt8) (n z : Int), fitsB n z = true → putB bs n z = bs ++ be n.toNat z.toNat := fun bs n z h => by unfold putB; rw [if_pos h]
  have hh : hdTo [k, e, s, p, q, data.length] 6 = be k.toNat 1 ++ be e.toNat 4 ++ be s.toNat 7 ++ be p.toNat 1 ++ be q.toNat 1 ++ be data.length 2 := by
    simp only [hdTo, sizesL, List.getD_cons_zero, List.getD_cons_succ]
    rw [hpb _ _ _ f1, hpb _ _ _ f2, hpb _ _ _ f3, hpb _ _ _ f4, hpb _ _ _ f5, hpb _ _ _ f6]
    rfl
  obtain ⟨x, hx⟩ : ∃ x, x = hdTo [k, e, s, p, q, data.length] 6 ++ data ++ List.replicate (496 - data.length) 0 := ⟨_, rfl⟩
  have hxl : x.length = 512 := by rw [hx]; simp only [List.length_append, List.length_replicate, h16]; omega
  have hfl : ∀ (a y c : List UInt8) (m z : Nat), x = a ++ y ++ c → a.length = m → y.length = z → fld x m z = val y := fun a y c m z h1 h2 h3 => by rw [h1, ← h2, ← h3]; exact fld_mid a y c
  have g1 : fld x 0 1 = k.toNat := (hfl [] (be k.toNat 1) (be e.toNat 4 ++ be s.toNat 7 ++ be p.toNat 1 ++ be q.toNat 1 ++ be data.length 2 ++ data ++ List.replicate (496 - data.length) 0) 0 1 (by rw [hx, hh]; simp only [List.append_assoc, List.nil_append]) rfl (length_be _ _)).trans v1
  have g2 : fld x 1 4 = e.toNat := (hfl (be k.toNat 1) (be e.toNat 4) (be s.toNat 7 ++ be p.toNat 1 ++ be q.toNat 1 ++ be data.length 2 ++ data ++ List.replicate (496 - data.length) 0) 1 4 (by rw [hx, hh]; simp only [List.append_assoc]) (length_be _ _) (length_be _ _)).trans v2
  have g3 : fld x 5 7 = s.toNat := (hfl (be k.toNat 1 ++ be e.toNat 4) (be s.toNat 7) (be p.toNat 1 ++ be q.toNat 1 ++ be data.length 2 ++ data ++ List.replicate (496 - data.length) 0) 5 7 (by rw [hx, hh]; simp only [List.append_assoc]) (by simp only [List.length_append, length_be]) (length_be _ _)).trans v3
  have g4 : fld x 12 1 = p.toNat := (hfl (be k.toNat 1 ++ be e.toNat 4 ++ be s.toNat 7) (be p.toNat 1) (be q.toNat 1 ++ be data.length 2 ++ data ++ List.replicate (496 - data.length) 0) 12 1 (by rw [hx, hh]; simp only [List.append_assoc]) (by simp only [List.length_append, length_be]) (length_be _ _)).trans v4
  have g5 : fld x 13 1 = q.toNat := (hfl (be k.toNat 1 ++ be e.toNat 4 ++ be s.toNat 7 ++ be p.toNat 1) (be q.toNat 1) (be data.length 2 ++ data ++ List.replicate (496 - data.length) 0) 13 1 (by rw [hx, hh]; simp only [List.append_assoc]) (by simp only [List.length_append, length_be]) (length_be _ _)).trans v5
  have g6 : lenP x = data.length := (hfl (be k.toNat 1 ++ be e.toNat 4 ++ be s.toNat 7 ++ be p.toNat 1 ++ be q.toNat 1) (be data.length 2) (data ++ List.replicate (496 - data.length) 0) 14 2 (by rw [hx, hh]; simp only [List.append_assoc]) (by simp only [List.length_append, length_be]) (length_be _ _)).trans (by have := v6; rwa [Int.toNat_natCast] at this)
  rw [← hx]
  rw [openP_ok hxl ⟨by omega, ⟨by omega, by omega, by omega⟩, fun i h1 h2 => by
    rw [hx, List.getElem?_append_right (by rw [List.length_append, h16]; omega), List.getElem?_replicate, if_pos (by rw [List.length_append, h16]; omega)]⟩]
  have hd : dataP x = data := by
    unfold dataP
    rw [g6, hx, List.append_assoc, ← h16, List.drop_left, List.take_left]
  rw [hd]
  unfold hdrP
  rw [g1, g2, g3, g4, g5, t1, t2, t3, t4, t5]
end Go.Proofs.Ytbjaphldncagjaa

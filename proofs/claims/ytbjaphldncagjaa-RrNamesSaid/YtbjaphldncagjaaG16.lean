/- Parts of a proof, joined: OpenRR, PutAt, RrPutP, RrSnd, Steps, Wtr5, RrPut, RRrPlain, RRrPut, OwnRR. -/
import Derived.Deep.RegionHeld3
import Derived.Test.YtbjaphldncagjaaG01
import Derived.Test.YtbjaphldncagjaaG05
import Derived.Test.YtbjaphldncagjaaG02
import Derived.Test.YtbjaphldncagjaaG12
import Derived.Test.YtbjaphldncagjaaG04
import Derived.Test.YtbjaphldncagjaaG08
import Derived.Test.YtbjaphldncagjaaG11
import Derived.Test.YtbjaphldncagjaaG10
import Derived.Test.YtbjaphldncagjaaG13
import Derived.Test.YtbjaphldncagjaaG14
/- Data and records that came in, as elements of a list. -/
namespace Go.Proofs.Ytbjaphldncagjaa
open Go.ChangeShapes Go.WideShapes Go.ChangeAt Go.RowKit
set_option maxRecDepth 100000

theorem opens_Da : Opens 46 encDa any one := by
  intro H enc W base sp hd fuel cs x h
  obtain ⟨xs, n, hx, hc, hl, hfd, hw⟩ := trod_fields Try.underlying46 h
  rw [show Try.prog.cellsOf 46 = 5 by kernel_rfl] at hc
  obtain ⟨c0, c1, c2, c3, c4, rfl⟩ := len5 hc
  obtain ⟨z0, z1, z2, z3, z4, rfl⟩ := len5 (l := xs) (by rw [hl]; rfl)
  obtain ⟨y0, e0, h0⟩ := hfd 0 _ rfl
  obtain ⟨y1, e1, h1⟩ := hfd 1 _ rfl
  obtain ⟨y2, e2, h2⟩ := hfd 2 _ rfl
  obtain ⟨y3, e3, h3⟩ := hfd 3 _ rfl
  obtain ⟨y4, e4, h4⟩ := hfd 4 _ rfl
  have g0 : DataW.trod enc Try.prog W base sp hd n 35 (([c0, c1, c2, c3, c4].drop 0).take (Try.prog.cellsOf 35)) = some y0 := h0
  have g1 : DataW.trod enc Try.prog W base sp hd n 40 (([c0, c1, c2, c3, c4].drop 1).take (Try.prog.cellsOf 40)) = some y1 := h1
  have g2 : DataW.trod enc Try.prog W base sp hd n 40 (([c0, c1, c2, c3, c4].drop 2).take (Try.prog.cellsOf 40)) = some y2 := h2
  have g3 : DataW.trod enc Try.prog W base sp hd n 44 (([c0, c1, c2, c3, c4].drop 3).take (Try.prog.cellsOf 44)) = some y3 := h3
  have g4 : DataW.trod enc Try.prog W base sp hd n 40 (([c0, c1, c2, c3, c4].drop 4).take (Try.prog.cellsOf 40)) = some y4 := h4
  rw [show Try.prog.cellsOf 35 = 1 by kernel_rfl] at g0
  rw [show Try.prog.cellsOf 40 = 1 by kernel_rfl] at g1 g2 g4
  rw [show Try.prog.cellsOf 44 = 1 by kernel_rfl] at g3
  obtain ⟨a0, ⟨A0, n0, k0, r0, q0, l0, m0⟩, _, _⟩ := opens_sl (t := 35) Try.underlying35 (by kernel_rfl) (opens_u8 Try.underlying5) H enc W base sp hd n _ _ g0
  obtain ⟨a1, ⟨A1, n1, k1, r1, q1, l1, m1⟩, _, _⟩ := opens_sl (t := 40) Try.underlying40 (by kernel_rfl) (opens_str Try.underlying9) H enc W base sp hd n _ _ g1
  obtain ⟨a2, ⟨A2, n2, k2, r2, q2, l2, m2⟩, _, _⟩ := opens_sl (t := 40) Try.underlying40 (by kernel_rfl) (opens_str Try.underlying9) H enc W base sp hd n _ _ g2
  obtain ⟨a3, ⟨A3, n3, k3, r3, q3, l3, m3⟩, _, _⟩ := opens_sl (t := 44) Try.underlying44 (by kernel_rfl) (opens_int Try.underlying3) H enc W base sp hd n _ _ g3
  obtain ⟨a4, ⟨A4, n4, k4, r4, q4, l4, m4⟩, _, _⟩ := opens_sl (t := 40) Try.underlying40 (by kernel_rfl) (opens_str Try.underlying9) H enc W base sp hd n _ _ g4
  simp at r0 r1 r2 r3 r4
  have e0 := q0.1
  have e1 := q1.1
  have e2 := q2.1
  have e3 := q3.1
  have e4 := q4.1
  subst r0 r1 r2 r3 r4 e0 e1 e2 e3 e4
  exact ⟨⟨a0, a1, a2, a3, a4⟩, ⟨⟨A0, A1, A2, A3, A4, k0, k1, k2, k3, k4⟩, rfl, ⟨q0, q1, q2, q3, q4, ⟨l0, m0⟩, ⟨l1, m1⟩, ⟨l2, m2⟩, ⟨l3, m3⟩, ⟨l4, m4⟩⟩⟩, fun _ => trivial, by rw [hx]; simp [one, Rows.uptoBulk]⟩
theorem opens_RR : Opens 48 encRR any one := by
  intro H enc W base sp hd fuel cs x h
  obtain ⟨xs, n, hx, hc, hl, hfd, hw⟩ := trod_fields Try.underlying48 h
  rw [show Try.prog.cellsOf 48 = 9 by kernel_rfl] at hc
  obtain ⟨c0, c1, c2, c3, c4, c5, c6, c7, c8, rfl⟩ := len9 hc
  obtain ⟨y0, e0, h0⟩ := hfd 0 _ rfl
  obtain ⟨y1, e1, h1⟩ := hfd 1 _ rfl
  obtain ⟨y2, e2, h2⟩ := hfd 2 _ rfl
  obtain ⟨y3, e3, h3⟩ := hfd 3 _ rfl
  obtain ⟨y4, e4, h4⟩ := hfd 4 _ rfl
  have g0 : DataW.trod enc Try.prog W base sp hd n 40 (([c0, c1, c2, c3, c4, c5, c6, c7, c8].drop 0).take (Try.prog.cellsOf 40)) = some y0 := h0
  have g1 : DataW.trod enc Try.prog W base sp hd n 3 (([c0, c1, c2, c3, c4, c5, c6, c7, c8].drop 1).take (Try.prog.cellsOf 3)) = some y1 := h1
  have g2 : DataW.trod enc Try.prog W base sp hd n 3 (([c0, c1, c2, c3, c4, c5, c6, c7, c8].drop 2).take (Try.prog.cellsOf 3)) = some y2 := h2
  have g3 : DataW.trod enc Try.prog W base sp hd n 3 (([c0, c1, c2, c3, c4, c5, c6, c7, c8].drop 3).take (Try.prog.cellsOf 3)) = some y3 := h3
  have g4 : DataW.trod enc Try.prog W base sp hd n 46 (([c0, c1, c2, c3, c4, c5, c6, c7, c8].drop 4).take (Try.prog.cellsOf 46)) = some y4 := h4
  rw [show Try.prog.cellsOf 40 = 1 by kernel_rfl] at g0
  rw [show Try.prog.cellsOf 3 = 1 by kernel_rfl] at g1 g2 g3
  rw [show Try.prog.cellsOf 46 = 5 by kernel_rfl] at g4
  obtain ⟨a0, ⟨A0, n0, k0, r0, q0, l0, m0⟩, _, _⟩ := opens_sl (t := 40) Try.underlying40 (by kernel_rfl) (opens_str Try.underlying9) H enc W base sp hd n _ _ g0
  obtain ⟨a1, ⟨r1, b1⟩, _, _⟩ := opens_int Try.underlying3 H enc W base sp hd n _ _ g1
  obtain ⟨a2, ⟨r2, b2⟩, _, _⟩ := opens_int Try.underlying3 H enc W base sp hd n _ _ g2
  obtain ⟨a3, ⟨r3, b3⟩, _, _⟩ := opens_int Try.underlying3 H enc W base sp hd n _ _ g3
  obtain ⟨a4, ⟨s4, r4, q4⟩, _, _⟩ := opens_Da H enc W base sp hd n _ _ g4
  simp [dCells] at r0 r1 r2 r3 r4
  obtain ⟨r4, r5, r6, r7, r8⟩ := r4
  have e0 := q0.1
  subst r0 r1 r2 r3 r4 r5 r6 r7 r8 e0
  exact ⟨⟨a0, a1, a2, a3, a4⟩, ⟨⟨A0, k0, s4⟩, rfl, ⟨q0, ⟨l0, m0⟩, q4, b1, b2, b3⟩⟩, fun _ => trivial, by rw [hx]; simp [one, Rows.uptoBulk]⟩
end Go.Proofs.Ytbjaphldncagjaa

/- wname: bytes in the place of bytes, in plain Lean. No program in it. -/
namespace Go.Proofs.Ytbjaphldncagjaa

/-- Bytes in the place of bytes. -/
def putAt (bs : List UInt8) (k : Nat) (r : List UInt8) : List UInt8 := bs.take k ++ (r ++ bs.drop (k + r.length))
theorem putAt_length {bs r : List UInt8} {k : Nat} (h : k + r.length ≤ bs.length) : (putAt bs k r).length = bs.length := by simp [putAt]; omega
def Wr.put (x : Wr) (k : Nat) (r : List UInt8) : Wr := { x with b := putAt x.b k r }
end Go.Proofs.Ytbjaphldncagjaa

/- rr: how a record is written, and that it is read as it is, in plain Lean. No program in it. -/
namespace Go.Proofs.Ytbjaphldncagjaa
set_option maxRecDepth 100000

/-- May a record be? -/
def FineR (r : RR) : Prop := SoundN r.name ∧ FineD r.type r.data ∧ fitsB r.cls 2 = true ∧ 0 ≤ r.ttl ∧ r.ttl < 2147483648
noncomputable def fineRB (r : RR) : Bool := @decide (FineR r) (Classical.propDecidable _)
theorem fineRB_true {r : RR} (h : FineR r) : fineRB r = true := by unfold fineRB; simpa using h
theorem fineRB_false {r : RR} (h : ¬ FineR r) : fineRB r = false := by unfold fineRB; simpa using h
theorem fineRB_iff {r : RR} : fineRB r = true ↔ FineR r := by unfold fineRB; simp

/-- What is appended does not hang on what stands there, but on how much. -/
def Op (f : Wr → Wr) : Prop := ∀ x x' : Wr, x.b.length = x'.b.length → x.rests = x'.rests → ∃ z, (f x).b = x.b ++ z ∧ (f x').b = x'.b ++ z ∧ (f x).rests = (f x').rests
theorem Op.id : Op (fun x => x) := fun _ _ _ hr => ⟨[], by simp, by simp, hr⟩
theorem Op.comp {f g : Wr → Wr} (hf : Op f) (hg : Op g) : Op (fun x => g (f x)) := fun x x' hl hr => by
  obtain ⟨z, h1, h2, h3⟩ := hf x x' hl hr
  obtain ⟨z', h4, h5, h6⟩ := hg (f x) (f x') (by rw [h1, h2]; simp [hl]) h3
  exact ⟨z ++ z', by rw [h4, h1, List.append_assoc], by rw [h5, h2, List.append_assoc], h6⟩
theorem Wr.raw_rests (x : Wr) (l : List UInt8) : (x.raw l).rests = x.rests := rfl
theorem Op.raw (l : List UInt8) : Op (fun x => x.raw l) := fun _ _ _ hr => ⟨l, rfl, rfl, hr⟩
theorem Op.note (r : List UInt8) : Op (fun x => x.note r) := fun x x' hl hr => by
  simp only [Wr.note]
  rw [hl]
  split
  · exact ⟨[], by simp, by simp, by simp [hr]⟩
  · exact ⟨[], by simp, by simp, hr⟩
theorem Op.name (n : List (List UInt8)) (sh : Bool) : Op (fun x => x.name n sh) := by
  induction n with
  | nil => exact Op.raw [0]
  | cons l n ih =>
    intro x x' hl hr
    have h1 := (Op.raw (UInt8.ofNat l.length :: l)).comp ih
    have h2 := (Op.note (restB (l :: n))).comp h1
    simp only [Wr.name]
    rw [hr]
    split
    · split
      · exact Op.raw _ x x' hl hr
      · exact h1 x x' hl hr
    · exact h2 x x' hl hr
theorem Op.ite {f g : Wr → Wr} {c : Prop} [Decidable c] (hf : Op f) (hg : Op g) : Op (fun x => if c then f x else g x) := by
  by_cases h : c
  · simpa [h] using hf
  · simpa [h] using hg
theorem Op.texts (ts : List (List UInt8)) : Op (fun x => x.texts ts) := by
  have : (fun x : Wr => x.texts ts) = fun x => x.raw (textsB ts) := funext fun x => Wr.texts_b x ts
  rw [this]; exact Op.raw _
theorem Op.nums (ns : List Int) (z : Int) : Op (fun x => x.nums ns z) := by
  have : (fun x : Wr => x.nums ns z) = fun x => x.raw (numsB ns z) := funext fun x => Wr.nums_b x ns z
  rw [this]; exact Op.raw _
theorem Op.data (s : Shp) (d : Da) : Op (fun x => x.data s d) := by
  have h1 := (Op.raw d.bytes).comp (Op.texts d.texts)
  have h2 := h1.comp (Op.ite (c := s.first = true) (Op.nums d.nums s.size) Op.id)
  have h3 := h2.comp (Op.ite (c := s.host = true) (Op.name d.host s.short) Op.id)
  have h4 := h3.comp (Op.ite (c := s.mail = true) (Op.name d.mail s.short) Op.id)
  exact h4.comp (Op.ite (c := s.first = true) Op.id (Op.nums d.nums s.size))

/-- The head of a record: its name and what stands ahead of the data's length. -/
def Wr.rrHead (x : Wr) (r : RR) : Wr := (((x.name r.name true).raw (putB [] r.type 2)).raw (putB [] r.cls 2)).raw (putB [] r.ttl 4)
/-- How a record is written: the data's length is put in its place behind the data. -/
def Wr.rr (x : Wr) (r : RR) : Wr :=
  let y := ((x.rrHead r).raw (putB [] 0 2)).data (shapeP r.type) r.data
  y.put (x.rrHead r).b.length (putB [] (y.b.length - (x.rrHead r).b.length - 2 : Nat) 2)
/-- The data's length. -/
def Wr.rrLen (x : Wr) (r : RR) : Nat := (((x.rrHead r).raw (putB [] 0 2)).data (shapeP r.type) r.data).b.length - (x.rrHead r).b.length - 2
theorem fits2 {n : Nat} (h : n < 65536) : fitsB (n : Int) 2 = true := by unfold fitsB; simp; omega
theorem put2_len (n : Nat) (h : n < 65536) : (putB [] (n : Int) 2).length = 2 := by rw [putB_len_fit (fits2 h)]; rfl
theorem put02_len : (putB [] (0 : Int) 2).length = 2 := put2_len 0 (by omega)
theorem putAt_mid (a l l' z : List UInt8) (h : l.length = l'.length) : putAt (a ++ l ++ z) a.length l' = a ++ l' ++ z := by
  unfold putAt
  rw [← h, List.append_assoc, List.take_left, ← List.append_assoc, ← List.append_assoc]
  congr 1
  rw [show a.length + l.length = (a ++ l).length by rw [List.length_append], List.drop_left]
/-- As if the length had been there from the first. -/
theorem Wr.rr_eq (x : Wr) (r : RR) (h : x.rrLen r < 65536) : x.rr r = ((x.rrHead r).raw (putB [] (x.rrLen r : Int) 2)).data (shapeP r.type) r.data := by
  have h0 := put02_len
  have hl := put2_len _ h
  obtain ⟨z, h1, h2, h3⟩ := Op.data (shapeP r.type) r.data ((x.rrHead r).raw (putB [] 0 2)) ((x.rrHead r).raw (putB [] (x.rrLen r : Int) 2)) (by rw [raw_len, raw_len, h0, hl]) (by rw [Wr.raw_rests, Wr.raw_rests])
  have hb : (x.rr r).b = (((x.rrHead r).raw (putB [] (x.rrLen r : Int) 2)).data (shapeP r.type) r.data).b := by
    rw [h2]
    show putAt (((x.rrHead r).raw (putB [] 0 2)).data (shapeP r.type) r.data).b (x.rrHead r).b.length (putB [] (x.rrLen r : Int) 2) = _
    rw [h1]
    exact putAt_mid _ _ _ _ (by rw [h0, hl])
  have hr : (x.rr r).rests = (((x.rrHead r).raw (putB [] (x.rrLen r : Int) 2)).data (shapeP r.type) r.data).rests := h3
  cases hx : x.rr r
  cases hy : ((x.rrHead r).raw (putB [] (x.rrLen r : Int) 2)).data (shapeP r.type) r.data
  rw [hx, hy] at hb hr
  simp only at hb hr
  rw [hb, hr]

theorem Wr.rrLen_lt (x : Wr) {r : RR} (h : FineR r) : x.rrLen r < 65536 := by
  have h1 := Wr.data_len ((x.rrHead r).raw (putB [] 0 2)) h.2.1.2
  have h0 := put02_len
  have h2 := raw_len (x.rrHead r) (putB [] 0 2)
  unfold Wr.rrLen
  omega
theorem fits4 {n : Int} (h0 : 0 ≤ n) (h : n < 2147483648) : fitsB n 4 = true := by unfold fitsB; simp; omega
theorem fitsK {k : Int} {d : Da} (h : FineD k d) : fitsB k 2 = true := by unfold fitsB; simp; have := h.1; omega
theorem Wr.rrHead_b (x : Wr) (r : RR) : (x.rrHead r).b = (x.name r.name true).b ++ (putB [] r.type 2 ++ putB [] r.cls 2 ++ putB [] r.ttl 4) := by simp [Wr.rrHead, Wr.raw]
theorem Wr.rrHead_len (x : Wr) {r : RR} (h : FineR r) : (x.rrHead r).b.length = (x.name r.name true).b.length + 8 := by
  rw [Wr.rrHead_b]
  have h1 := putB_len_fit (fitsK h.2.1)
  have h2 := putB_len_fit h.2.2.1
  have h3 := putB_len_fit (fits4 h.2.2.2.1 h.2.2.2.2)
  simp only [List.length_append]
  rw [h1, h2, h3]
  rfl
theorem Wr.True.rr {x : Wr} (hx : x.True) {r : RR} (h : FineR r) : (x.rr r).True := by
  rw [Wr.rr_eq x r (x.rrLen_lt h)]
  exact (((((hx.name h.1.1 true).1.raw _).raw _).raw _).raw _).data h.2.1.2
theorem Wr.rr_len (x : Wr) {r : RR} (h : FineR r) : (x.rr r).b.length = (x.name r.name true).b.length + 10 + x.rrLen r ∧ (x.rr r).rests.length ≤ x.rests.length + 765 := by
  have h1 := Wr.rr_eq x r (x.rrLen_lt h)
  have hl := x.rrLen_lt h
  obtain ⟨z, h2, h3, h4⟩ := Op.data (shapeP r.type) r.data ((x.rrHead r).raw (putB [] 0 2)) ((x.rrHead r).raw (putB [] (x.rrLen r : Int) 2)) (by rw [raw_len, raw_len, put2_len _ hl]; rw [put02_len]) (by rw [Wr.raw_rests, Wr.raw_rests])
  have h0 := put02_len
  have h5 := x.rrHead_len h
  have hz : x.rrLen r = z.length := by
    unfold Wr.rrLen
    rw [h2, List.length_append, raw_len, h0]
    omega
  have h6 := Wr.data_len ((x.rrHead r).raw (putB [] (x.rrLen r : Int) 2)) h.2.1.2
  have h7 := Wr.name_rests (x := x) r.name true
  have h8 := sizeN_length r.name
  have h9 := h.1.2
  have h10 : ((x.rrHead r).raw (putB [] (x.rrLen r : Int) 2)).rests = (x.name r.name true).rests := rfl
  rw [h10] at h6
  rw [h1]
  refine ⟨?_, by omega⟩
  rw [h3, List.length_append, raw_len, put2_len _ hl]
  omega
theorem Wr.rr_ext (x : Wr) {r : RR} (h : FineR r) : ∃ z, (x.rr r).b = x.b ++ z := by
  rw [Wr.rr_eq x r (x.rrLen_lt h)]
  obtain ⟨z, h2, _⟩ := Op.data (shapeP r.type) r.data ((x.rrHead r).raw (putB [] (x.rrLen r : Int) 2)) _ rfl rfl
  obtain ⟨z', h3, _⟩ := Wr.name_b (x := x) r.name true
  exact ⟨z' ++ (putB [] r.type 2 ++ (putB [] r.cls 2 ++ (putB [] r.ttl 4 ++ (putB [] (x.rrLen r : Int) 2 ++ z)))), by rw [show (((x.rrHead r).raw (putB [] (x.rrLen r : Int) 2)).data (shapeP r.type) r.data).b = _ from h2]; simp only [Wr.raw]; rw [Wr.rrHead_b, h3]; simp only [List.append_assoc]⟩

theorem numA_seg {b : List UInt8} {p : Nat} {n z : Int} (hf : fitsB n z = true) (h : Seg b p (putB [] n z)) : (numA b p z.toNat : Int) = n := by
  have h2 := fitsB_true hf
  have hc := h.cut
  rw [putB_len_fit hf] at hc
  unfold numA
  rw [hc]
  unfold putB
  rw [if_pos hf, List.nil_append, val_be _ _ (fits_nat hf)]
  omega
theorem Stands.len_ge {b : List UInt8} {beg p q : Nat} {n : List (List UInt8)} (h : Stands b beg p q n) : p < b.length := h.lt

/-- What was written is read, whatever stands behind it. -/
theorem getRR_back {x : Wr} (hx : x.True) {r : RR} (h : FineR r) (y : List UInt8) : getRR ((x.rr r).b ++ y) (x.b.length : Int) = (r, ((x.rr r).b.length : Int), 0) := by
  have hlen := (x.rr_len h).1
  have hlt := x.rrLen_lt h
  have hfk := fitsK h.2.1
  have hft := fits4 h.2.2.2.1 h.2.2.2.2
  have l1 := putB_len_fit hfk
  have l2 := putB_len_fit h.2.2.1
  have l3 := putB_len_fit hft
  have l4 := put2_len _ hlt
  have hhd := x.rrHead_len h
  have ht := (hx.name h.1.1 true)
  have hth : ((x.rrHead r).raw (putB [] (x.rrLen r : Int) 2)).True := (((ht.1.raw _).raw _).raw _).raw _
  have hrw := Wr.rr_eq x r hlt
  obtain ⟨z, h2, _⟩ := Op.data (shapeP r.type) r.data ((x.rrHead r).raw (putB [] (x.rrLen r : Int) 2)) _ rfl rfl
  have hB : (x.rr r).b ++ y = (x.name r.name true).b ++ (putB [] r.type 2 ++ putB [] r.cls 2 ++ putB [] r.ttl 4 ++ (putB [] (x.rrLen r : Int) 2 ++ z ++ y)) := by
    rw [hrw, h2]
    simp only [Wr.raw]
    rw [Wr.rrHead_b]
    simp only [List.append_assoc]
  obtain ⟨p, hp⟩ : ∃ p, p = (x.name r.name true).b.length := ⟨_, rfl⟩
  have hname : nameA ((x.rr r).b ++ y) (x.b.length : Int) = (r.name, (p : Int), 0) := by
    unfold nameA
    rw [if_neg (by omega), Int.toNat_natCast, hB, (ht.2.ext _).read 0 [] (by simpa using h.1.2), List.nil_append, Nat.zero_max, hp]
  have sg : Seg ((x.rr r).b ++ y) p (putB [] r.type 2 ++ putB [] r.cls 2 ++ putB [] r.ttl 4 ++ putB [] (x.rrLen r : Int) 2) :=
    ⟨(x.name r.name true).b, z ++ y, by rw [hB]; simp only [List.append_assoc], hp.symm⟩
  have s1 := numA_seg hfk sg.left.left.left
  have s2 := numA_seg h.2.2.1 sg.left.left.right
  have s3 := numA_seg hft sg.left.right
  have s4 := numA_seg (fits2 hlt) sg.right
  rw [l1] at s2
  rw [List.length_append, l1, l2] at s3
  rw [List.length_append, List.length_append, l1, l2, l3] at s4
  have s1' : (numA ((x.rr r).b ++ y) p 2 : Int) = r.type := s1
  have s2' : (numA ((x.rr r).b ++ y) (p + 2) 2 : Int) = r.cls := s2
  have s3' : (numA ((x.rr r).b ++ y) (p + 4) 4 : Int) = r.ttl := s3
  have s4' : (numA ((x.rr r).b ++ y) (p + 8) 2 : Int) = (x.rrLen r : Int) := s4
  have hq : ((x.rrHead r).raw (putB [] (x.rrLen r : Int) 2)).b.length = p + 10 := by rw [raw_len, l4, hhd, hp]
  have hg := getD_back hth h.2.1 y (z := x.rrLen r) (by rw [← hrw, hq, hlen, hp])
  rw [← hrw, hq] at hg
  have htt : ttlA ((x.rr r).b ++ y) p = r.ttl := by
    unfold ttlA
    have := h.2.2.2.2
    rw [if_neg (by omega), s3']
  have hk1 := h.2.1.1
  unfold getRR
  rw [hname]
  simp only [ne_eq, not_true_eq_false, if_false, Int.toNat_natCast]
  unfold getRR1
  rw [s4', s1', hg, s2', htt, if_neg (by rw [List.length_append]; omega), if_neg (by omega), if_neg (by simp)]
  have s5 : numA ((x.rr r).b ++ y) (p + 8) 2 = x.rrLen r := by omega
  rw [s5, hlen, hp]
end Go.Proofs.Ytbjaphldncagjaa

/- rr: may a record be? The program's and the reference's. -/
namespace Go.Proofs.Ytbjaphldncagjaa
open Go.RowKit
set_option maxRecDepth 100000

theorem fineR_name {r : RR} (h : soundB r.name = false) : fineRB r = false := fineRB_false fun hf => by rw [soundB_true hf.1] at h; cases h
theorem fineR_data {r : RR} (h : fineB r.type r.data = false) : fineRB r = false := fineRB_false fun hf => by rw [fineB_true hf.2.1] at h; cases h
theorem fineR_cls {r : RR} (h : fitsB r.cls 2 = false) : fineRB r = false := fineRB_false fun hf => by rw [hf.2.2.1] at h; cases h
theorem fineR_neg {r : RR} (h : r.ttl < 0) : fineRB r = false := fineRB_false fun hf => by have := hf.2.2.2.1; omega
theorem fineR_last {r : RR} (h1 : soundB r.name = true) (h2 : fineB r.type r.data = true) (h3 : fitsB r.cls 2 = true) (h4 : 0 ≤ r.ttl) : fineRB r = decide (r.ttl < 2147483648) := by
  by_cases h : r.ttl < 2147483648
  · rw [fineRB_true ⟨soundB_iff.1 h1, fineB_iff.1 h2, h3, h4, h⟩, decide_eq_true h]
  · rw [fineRB_false (fun hf => h hf.2.2.2.2), decide_eq_false h]
theorem RRow.made (w : World) (s : RS) (x : RR) : RRow (w.alloc (.cells (rrCells s x) 48)) w.heap.size s x := heap_alloc_new w _


set_option maxHeartbeats 4000000 in
theorem rrSound_any (s : RS) (r : RR) (w : World) {S : Nat → Prop} (h : RIn S w s r) (hS : ∀ b, S b → b < w.heap.size) (hbn : r.name.length ≤ 1000000000) (hbd : r.data.host.length ≤ 1000000000 ∧ r.data.mail.length ≤ 1000000000 ∧ r.data.nums.length ≤ 1000000000 ∧ r.data.texts.length ≤ 1000000000) :
    Calls Try.prog 64 #[rrV s r] w (RetP (fun v _ => v = .bool (fineRB r)) w) := by
  obtain ⟨w1, hw1⟩ : ∃ w1, w1 = w.alloc (.cells (rrCells s r) 48) := ⟨_, rfl⟩
  have hb1 : Below w.heap.size w w1 := by rw [hw1]; exact bl.alloc (Nat.le_refl _) _
  have HR : Hid (RRow w1 w.heap.size s r) := by show RRow _ _ _ _; rw [hw1]; exact RRow.made w s r
  have HI := Lib.hid (h.below hb1 hS)
  have HS1 : Hid (∀ b, S b → b < w1.heap.size) := fun b hb => Nat.lt_of_lt_of_le (hS b hb) hb1.size
  have HBW1 := Lib.hid hb1
  have HBN := Lib.hid hbn
  have HBD := Lib.hid hbd
  obtain ⟨ic1, ic2⟩ := h.ic
  have HIC := Lib.hid ic2
  obtain ⟨x0, x1, x2, x3, x4, x5, x6, x7, x8⟩ := HR.out.cells
  unfold rrV
  unfold rrCells at hw1 ⊢
  clear h hS hb1 hbn hbd ic1 ic2

  cases hn : soundB r.name with
  | false =>
    have HN := Lib.hid hn
    clear hn
    go_enter Try.func64, Try.ntmps64
    go_upto_region 1 with (fail)
    rw [← hw1]
    clear hw1
    go_wp2_with (first
      | (go_at_call 99; refine (sound_any s.A _ s.c r.name w1 HI.out.n HBN.out).mono ?_; rw [HN.out]; rintro e w2 ⟨rfl, rfl⟩)
      | fail)
    go_ret
    exact ⟨_, rfl, by show Value.bool _ = Value.bool _; rw [fineR_name HN.out], HBW1.out⟩
  | true =>
    have HN := Lib.hid hn
    clear hn
    cases hd : fineB r.type r.data with
    | false =>
      have HD := Lib.hid hd
      clear hd
      go_enter Try.func64, Try.ntmps64
      go_upto_region 1 with (fail)
      rw [← hw1]
      clear hw1
      go_wp2_with (first
        | (go_at_call 56; refine (dsound_any r.type s.d r.data w1 (HI.out.d.rd HS1.out) HBD.out.1 HBD.out.2.1 HBD.out.2.2.1 HBD.out.2.2.2).mono ?_; rw [HD.out]; rintro e w3 ⟨v3, rfl, rfl, hb3⟩; obtain ⟨y0, y1, y2, y3, y4, y5, y6, y7, y8⟩ := (HR.out.below hb3).cells)
        | (go_at_call 99; refine (sound_any s.A _ s.c r.name w1 HI.out.n HBN.out).mono ?_; rw [HN.out]; rintro e w2 ⟨rfl, rfl⟩)
        | fail)
      go_ret
      exact ⟨_, rfl, by show Value.bool _ = Value.bool _; rw [fineR_data HD.out], nx HBW1.out hb3⟩
    | true =>
      have HD := Lib.hid hd
      clear hd
      cases hc : fitsB r.cls 2 with
      | false =>
        have HC := Lib.hid hc
        clear hc
        go_enter Try.func64, Try.ntmps64
        go_upto_region 1 with (fail)
        rw [← hw1]
        clear hw1
        go_wp2_with (first
          | (go_at_call 72; refine (fits_any r.cls 2 w3).mono ?_; rw [HC.out]; rintro e w4 ⟨rfl, rfl⟩)
          | (go_at_call 56; refine (dsound_any r.type s.d r.data w1 (HI.out.d.rd HS1.out) HBD.out.1 HBD.out.2.1 HBD.out.2.2.1 HBD.out.2.2.2).mono ?_; rw [HD.out]; rintro e w3 ⟨v3, rfl, rfl, hb3⟩; obtain ⟨y0, y1, y2, y3, y4, y5, y6, y7, y8⟩ := (HR.out.below hb3).cells)
          | (go_at_call 99; refine (sound_any s.A _ s.c r.name w1 HI.out.n HBN.out).mono ?_; rw [HN.out]; rintro e w2 ⟨rfl, rfl⟩)
          | fail)
        go_ret
        exact ⟨_, rfl, by show Value.bool _ = Value.bool _; rw [fineR_cls HC.out], nx HBW1.out hb3⟩
      | true =>
        have HC := Lib.hid hc
        clear hc
        by_cases h0 : 0 ≤ r.ttl
        · have H0 := Lib.hid h0
          go_enter Try.func64, Try.ntmps64
          go_upto_region 1 with (fail)
          rw [← hw1]
          clear hw1
          go_wp2_with (first
            | (go_at_call 72; refine (fits_any r.cls 2 w3).mono ?_; rw [HC.out]; rintro e w4 ⟨rfl, rfl⟩)
            | (go_at_call 56; refine (dsound_any r.type s.d r.data w1 (HI.out.d.rd HS1.out) HBD.out.1 HBD.out.2.1 HBD.out.2.2.1 HBD.out.2.2.2).mono ?_; rw [HD.out]; rintro e w3 ⟨v3, rfl, rfl, hb3⟩; obtain ⟨y0, y1, y2, y3, y4, y5, y6, y7, y8⟩ := (HR.out.below hb3).cells)
            | (go_at_call 99; refine (sound_any s.A _ s.c r.name w1 HI.out.n HBN.out).mono ?_; rw [HN.out]; rintro e w2 ⟨rfl, rfl⟩)
            | fail)
          go_ret
          exact ⟨_, rfl, by show Value.bool _ = Value.bool _; rw [fineR_last HN.out HD.out HC.out H0.out], nx HBW1.out hb3⟩
        · have H0 : Hid (r.ttl < 0) := by show _ < _; omega
          go_enter Try.func64, Try.ntmps64
          go_upto_region 1 with (fail)
          rw [← hw1]
          clear hw1
          go_wp2_with (first
            | (go_at_call 72; refine (fits_any r.cls 2 w3).mono ?_; rw [HC.out]; rintro e w4 ⟨rfl, rfl⟩)
            | (go_at_call 56; refine (dsound_any r.type s.d r.data w1 (HI.out.d.rd HS1.out) HBD.out.1 HBD.out.2.1 HBD.out.2.2.1 HBD.out.2.2.2).mono ?_; rw [HD.out]; rintro e w3 ⟨v3, rfl, rfl, hb3⟩; obtain ⟨y0, y1, y2, y3, y4, y5, y6, y7, y8⟩ := (HR.out.below hb3).cells)
            | (go_at_call 99; refine (sound_any s.A _ s.c r.name w1 HI.out.n HBN.out).mono ?_; rw [HN.out]; rintro e w2 ⟨rfl, rfl⟩)
            | fail)
          go_ret
          exact ⟨_, rfl, by show Value.bool _ = Value.bool _; rw [fineR_neg H0.out], nx HBW1.out hb3⟩

set_option maxHeartbeats 4000000 in
theorem rSound_any (s : RS) (r : RR) (w : World) {S : Nat → Prop} (h : RIn S w s r) (hS : ∀ b, S b → b < w.heap.size) (hbn : r.name.length ≤ 1000000000) (hbd : r.data.host.length ≤ 1000000000 ∧ r.data.mail.length ≤ 1000000000 ∧ r.data.nums.length ≤ 1000000000 ∧ r.data.texts.length ≤ 1000000000) :
    Calls Try.prog 63 #[rrV s r] w (RetP (fun v _ => v = .bool (fineRB r)) w) := by
  obtain ⟨w1, hw1⟩ : ∃ w1, w1 = w.alloc (.cells (rrCells s r) 48) := ⟨_, rfl⟩
  have hb1 : Below w.heap.size w w1 := by rw [hw1]; exact bl.alloc (Nat.le_refl _) _
  have HR : Hid (RRow w1 w.heap.size s r) := by show RRow _ _ _ _; rw [hw1]; exact RRow.made w s r
  have HI := Lib.hid (h.below hb1 hS)
  have HS1 : Hid (∀ b, S b → b < w1.heap.size) := fun b hb => Nat.lt_of_lt_of_le (hS b hb) hb1.size
  have HBW1 := Lib.hid hb1
  have HBN := Lib.hid hbn
  have HBD := Lib.hid hbd
  obtain ⟨ic1, ic2⟩ := h.ic
  have HIC := Lib.hid ic2
  obtain ⟨x0, x1, x2, x3, x4, x5, x6, x7, x8⟩ := HR.out.cells
  unfold rrV
  unfold rrCells at hw1 ⊢
  clear h hS hb1 hbn hbd ic1 ic2

  cases hn : soundB r.name with
  | false =>
    have HN := Lib.hid hn
    clear hn
    go_enter Try.func63, Try.ntmps63
    go_upto_region 1 with (fail)
    rw [← hw1]
    clear hw1
    go_wp2_with (first
      | (go_at_call 49; refine (rsound_any s.A _ s.c r.name w1 HI.out.n).mono ?_; rw [HN.out]; rintro e w2 ⟨rfl, rfl⟩)
      | fail)
    go_ret
    exact ⟨_, rfl, by show Value.bool _ = Value.bool _; rw [fineR_name HN.out], HBW1.out⟩
  | true =>
    have HN := Lib.hid hn
    clear hn
    cases hd : fineB r.type r.data with
    | false =>
      have HD := Lib.hid hd
      clear hd
      go_enter Try.func63, Try.ntmps63
      go_upto_region 1 with (fail)
      rw [← hw1]
      clear hw1
      go_wp2_with (first
        | (go_at_call 54; refine (rdata_any r.type s.d r.data w1 (HI.out.d.rd HS1.out) HBD.out.2.2.2 HBD.out.2.2.1).mono ?_; rw [HD.out]; rintro e w3 ⟨v3, rfl, rfl, hb3⟩; obtain ⟨y0, y1, y2, y3, y4, y5, y6, y7, y8⟩ := (HR.out.below hb3).cells)
        | (go_at_call 49; refine (rsound_any s.A _ s.c r.name w1 HI.out.n).mono ?_; rw [HN.out]; rintro e w2 ⟨rfl, rfl⟩)
        | fail)
      go_ret
      exact ⟨_, rfl, by show Value.bool _ = Value.bool _; rw [fineR_data HD.out], nx HBW1.out hb3⟩
    | true =>
      have HD := Lib.hid hd
      clear hd
      cases hc : fitsB r.cls 2 with
      | false =>
        have HC := Lib.hid hc
        clear hc
        go_enter Try.func63, Try.ntmps63
        go_upto_region 1 with (fail)
        rw [← hw1]
        clear hw1
        go_wp2_with (first
          | (go_at_call 28; refine (rfits_any r.cls 2 w3 HIC.out).mono ?_; rw [HC.out]; rintro e w4 ⟨rfl, rfl⟩)
          | (go_at_call 54; refine (rdata_any r.type s.d r.data w1 (HI.out.d.rd HS1.out) HBD.out.2.2.2 HBD.out.2.2.1).mono ?_; rw [HD.out]; rintro e w3 ⟨v3, rfl, rfl, hb3⟩; obtain ⟨y0, y1, y2, y3, y4, y5, y6, y7, y8⟩ := (HR.out.below hb3).cells)
          | (go_at_call 49; refine (rsound_any s.A _ s.c r.name w1 HI.out.n).mono ?_; rw [HN.out]; rintro e w2 ⟨rfl, rfl⟩)
          | fail)
        go_ret
        exact ⟨_, rfl, by show Value.bool _ = Value.bool _; rw [fineR_cls HC.out], nx HBW1.out hb3⟩
      | true =>
        have HC := Lib.hid hc
        clear hc
        by_cases h0 : 0 ≤ r.ttl
        · have H0 := Lib.hid h0
          go_enter Try.func63, Try.ntmps63
          go_upto_region 1 with (fail)
          rw [← hw1]
          clear hw1
          go_wp2_with (first
            | (go_at_call 28; refine (rfits_any r.cls 2 w3 HIC.out).mono ?_; rw [HC.out]; rintro e w4 ⟨rfl, rfl⟩)
            | (go_at_call 54; refine (rdata_any r.type s.d r.data w1 (HI.out.d.rd HS1.out) HBD.out.2.2.2 HBD.out.2.2.1).mono ?_; rw [HD.out]; rintro e w3 ⟨v3, rfl, rfl, hb3⟩; obtain ⟨y0, y1, y2, y3, y4, y5, y6, y7, y8⟩ := (HR.out.below hb3).cells)
            | (go_at_call 49; refine (rsound_any s.A _ s.c r.name w1 HI.out.n).mono ?_; rw [HN.out]; rintro e w2 ⟨rfl, rfl⟩)
            | fail)
          go_ret
          exact ⟨_, rfl, by show Value.bool _ = Value.bool _; rw [fineR_last HN.out HD.out HC.out H0.out], nx HBW1.out hb3⟩
        · have H0 : Hid (r.ttl < 0) := by show _ < _; omega
          go_enter Try.func63, Try.ntmps63
          go_upto_region 1 with (fail)
          rw [← hw1]
          clear hw1
          go_wp2_with (first
            | (go_at_call 28; refine (rfits_any r.cls 2 w3 HIC.out).mono ?_; rw [HC.out]; rintro e w4 ⟨rfl, rfl⟩)
            | (go_at_call 54; refine (rdata_any r.type s.d r.data w1 (HI.out.d.rd HS1.out) HBD.out.2.2.2 HBD.out.2.2.1).mono ?_; rw [HD.out]; rintro e w3 ⟨v3, rfl, rfl, hb3⟩; obtain ⟨y0, y1, y2, y3, y4, y5, y6, y7, y8⟩ := (HR.out.below hb3).cells)
            | (go_at_call 49; refine (rsound_any s.A _ s.c r.name w1 HI.out.n).mono ?_; rw [HN.out]; rintro e w2 ⟨rfl, rfl⟩)
            | fail)
          go_ret
          exact ⟨_, rfl, by show Value.bool _ = Value.bool _; rw [fineR_neg H0.out], nx HBW1.out hb3⟩
end Go.Proofs.Ytbjaphldncagjaa

/- Steps of a region that draws; a row of one's own, laid out. No program in it. -/
namespace Go.Proofs.Ytbjaphldncagjaa
open Go.RowKit

theorem step_copy_own {P : Program} {w : World} {ops : Array Oper} {o : Oper} {a : Act} {K : Act → World → Prop} {Q : Exit → Act → World → Prop} {E : Prop} (hgd : Region.wanted o (yielded ops a.tmps) = true) (d s : Operand) (dT sT : TypeId)
    (ho : o.op = .call { callee := .builtin .copy, args := #[d, s], argTypes := #[dT, sT] }) (elem : TypeId) (hu : P.underlying dT = some (.slice elem)) (hsz : (P.info? elem).map (·.size) = some 1)
    (g off dLen dCap : Nat) (ad : Addr) (sLen sCap : Nat) (hd : a.eval d = .slice (some ⟨g, off, none⟩) dLen dCap) (hs : a.eval s = .slice (some ad) sLen sCap)
    (cur : Array Value) (t : TypeId) (hg : w.heap[g]? = some (.cells cur t (0, 0))) (cs : List Value) (hn : cs.length = Nat.min sLen dLen)
    (hsrc : ∀ j v, cs[j]? = some v → w.cell? (ad.add j) = some v) (hfit : off + cs.length ≤ cur.size) (h1 : ∀ v ∈ cs, v.oneCell' = true)
    (h : K (a.put o.dst (goInt cs.length)) (w.setRow g (cur.toList.take off ++ (cs ++ cur.toList.drop (off + cs.length))).toArray)) : if Region.wanted o (yielded ops a.tmps) = true then Oper.wp P o a w K Q else E := by
  rw [if_pos hgd]
  exact wp_copy_own d s dT sT ho elem hu hsz g off dLen dCap ad sLen sCap hd hs cur t hg cs hn hsrc hfit h1 h

theorem OwnE.row {α : Type} {E : Enc α} {e : TypeId} {S : Nat → Prop} {w : World} {base : Nat} {v : Value} {xs : List α} (h : OwnE E e S w base v xs) (hn : 0 < xs.length) : ∃ g c cur, v = .slice (some ⟨g, 0, none⟩) xs.length c ∧ base ≤ g ∧ xs.length ≤ c ∧ w.heap[g]? = some (.cells cur e (0, 0)) ∧ cur.size = c * E.size ∧
    ∀ i x, xs[i]? = some x → E.R S w ((cur.toList.drop (i * E.size)).take E.size) x := by
  obtain ⟨cells, hw, hr, hS⟩ := h
  rcases hw.2 with ⟨rfl, h0⟩ | ⟨g, cap, cur, rfl, h2, h3, h4, h5, h6, h7⟩
  · omega
  · refine ⟨g, cap, cur, rfl, h2, h4, h3, h6, fun i x hx => ?_⟩
    have hi : i < xs.length := (List.getElem?_eq_some_iff.1 hx).1
    have hi1 : (i + 1) * E.size ≤ xs.length * E.size := Nat.mul_le_mul_right _ hi
    have hi3 : (i + 1) * E.size = i * E.size + E.size := by rw [Nat.add_mul, Nat.one_mul]
    have := hr i x hx
    rw [← h7, List.drop_take, List.take_take, Nat.min_eq_left (by omega)] at this
    exact this

end Go.Proofs.Ytbjaphldncagjaa

/- wname: Set; a writer that is none. -/
namespace Go.Proofs.Ytbjaphldncagjaa
open Go.RowKit Go.Maps

/-- What Set answers. -/
noncomputable def setOk (x : Wr) (at' n size : Int) : Prop := fitsB n size = true ∧ 0 ≤ at' ∧ at' ≤ x.b.length ∧ size ≤ x.b.length - at'
theorem putB_fit_length {n size : Int} (h : fitsB n size = true) : ((putB [] n size).length : Int) = size ∧ 1 ≤ size ∧ size ≤ 7 := by
  obtain ⟨h1, h2, _⟩ := fitsB_true h
  unfold putB
  rw [if_pos h]
  simp [length_be]
  omega

theorem OwnB.src {w : World} {B g n c : Nat} {bs : List UInt8} (h : OwnB w B (.slice (some ⟨g, 0, none⟩) n c) bs) : ∀ j v, (bs.map bV)[j]? = some v → w.cell? (Addr.add ⟨g, 0, none⟩ j) = some v := by
  intro j v hv
  have hj : j < bs.length := by have := (List.getElem?_eq_some_iff.1 hv).1; simpa using this
  obtain ⟨g', c', e, _, _, _, _, hc⟩ := h.flat (by omega)
  injection e with e1 _ _
  injection e1 with e1
  injection e1 with e1
  subst e1
  rw [List.getElem?_map] at hv
  obtain ⟨y, hy, rfl⟩ := Option.map_eq_some_iff.1 hv
  rw [add_flat, Nat.zero_add]
  exact hc j y hy

theorem Wtr.put {w w' w2 : World} {B g gb mb cap : Nat} {F : Nat → Prop} {x : Wr} {cur : Array Value} {k : Nat} {r : List UInt8} (hn : x.Near) (hg : w.heap[g]? = some (.cells #[.slice (some ⟨gb, 0, none⟩) x.b.length cap, .map (some mb)] 139 (0, 0))) (hm : MapIs w mb x.rests) (hgF : F g ∧ B ≤ g)
    (hbF : ∀ k, Value.ownBlock (.slice (some ⟨gb, 0, none⟩) x.b.length cap) = some k → F k ∧ k ≠ g ∧ k ≠ mb) (hmF : F mb ∧ mb ≠ g) (hF : ∀ k, F k → B ≤ k ∧ k < w.heap.size) (hbg : B ≤ gb) (hcb : w.heap[gb]? = some (.cells cur 5 (0, 0))) (hnc : x.b.length ≤ cap) (hcm : cap ≤ maxLen) (hcs : cur.size = cap) (htake : cur.toList.take x.b.length = x.b.map bV)
    (hk : k + r.length ≤ x.b.length) (hb2 : Below w.heap.size w w2) (hw' : w' = w2.setRow gb (cur.toList.take k ++ (r.map bV ++ cur.toList.drop (k + (r.map bV).length))).toArray) : Wtr w' B F g (x.put k r) ∧ Chg F w w' := by
  subst hw'
  have hgb := hbF gb rfl
  have hgl := (hF g hgF.1).2
  have hbl := (hF gb hgb.1).2
  have hml := (hF mb hmF.1).2
  have hc1 : Chg F w w2 := Chg.of_below hb2
  have hcb2 : w2.heap[gb]? = some (.cells cur 5 (0, 0)) := (hb2.block gb hbl).trans hcb
  have hsz := hb2.size
  refine ⟨⟨hn, _, mb, ?_, ⟨by simp, .inr ⟨gb, cap, _, rfl, hbg, setRow_heap _ _ _ _ _ _ hcb2, ?_, hcm, ?_, ?_⟩⟩, ?_, hgF, ?_, hmF, fun k hk => ⟨(hF k hk).1, by simp; have := (hF k hk).2; omega⟩⟩, hc1.setRow (Or.inl hgb.1) _⟩
  · rw [setRow_other _ _ _ _ (Ne.symm hgb.2.1), hb2.block g hgl, hg]
    simp only [Wr.put]
    rw [putAt_length hk]
  · simp only [Wr.put]; rw [putAt_length hk]; exact hnc
  · rw [List.size_toArray]
    simp only [List.length_append, List.length_take, List.length_drop, List.length_map, Array.length_toList]
    omega
  · simp only [Wr.put]
    rw [putAt_length hk, Nat.mul_one, List.toList_toArray]
    unfold putAt
    have e1 : cur.toList.take k = (x.b.map bV).take k := by rw [← htake, List.take_take, Nat.min_eq_left (by omega)]
    rw [e1, List.map_append, List.map_append, List.length_map]
    have e2 : (x.b.map bV).take k = (x.b.take k).map bV := List.map_take.symm
    rw [e2, List.take_append, List.take_append]
    have l1 : ((x.b.take k).map bV).length = k := by simp; omega
    rw [l1, List.take_of_length_le (by rw [l1]; omega), List.take_of_length_le (l := r.map bV) (by rw [List.length_map]; omega), List.length_map]
    congr 2
    rw [List.map_drop, ← htake, List.drop_take, Nat.sub_sub]
  · exact hm.keep (by rw [setRow_other _ _ _ _ (Ne.symm hgb.2.2)]; exact hb2.block mb hml)
  · simp only [Wr.put]
    rw [putAt_length hk]
    exact hbF

set_option maxRecDepth 100000 in
set_option maxHeartbeats 2000000 in
theorem wset_bad (w : World) (B g : Nat) (F : Nat → Prop) (x : Wr) (at' n size : Int) (h : Wtr w B F g x) (_ : x.b.length ≤ 1000000000) (hs : ¬ setOk x at' n size) (hr1 : -9223372036854775808 ≤ size) (hr2 : size ≤ 9223372036854775807) :
    Calls Try.prog 116 #[.pointer (some ⟨g, 0, none⟩), .int .i64 at', .int .i64 n, .int .i64 size] w (Ret (.int .i64 1) w) := by
  obtain ⟨hn, bv, mb, hg, hbv, _⟩ := h
  obtain ⟨A, c, rfl, _⟩ := hbv.form
  have c0 : w.cell? ⟨g, 0, none⟩ = some (.slice A x.b.length c) := (cell_of_row _ _ _ _ _ _ hg).trans rfl
  clear hg hbv
  unfold setOk at hs
  by_cases h1 : fitsB n size = true
  · have H1 := Lib.hid h1
    by_cases h2 : 0 ≤ at'
    · by_cases h3 : at' ≤ x.b.length
      · have h4 : (x.b.length : Int) - at' < size := by
          apply Int.not_le.1
          intro h5
          exact hs ⟨h1, h2, h3, h5⟩
        clear hs h1
        go_enter Try.func116, Try.ntmps116
        go_wp2_with (go_at_call 72; refine (fits_any _ _ _).mono ?_; rw [H1.out]; rintro e w1 ⟨rfl, rfl⟩)
        go_ret
        exact ⟨rfl, rfl⟩
      · clear hs h1
        go_enter Try.func116, Try.ntmps116
        go_wp2_with (go_at_call 72; refine (fits_any _ _ _).mono ?_; rw [H1.out]; rintro e w1 ⟨rfl, rfl⟩)
        go_ret
        exact ⟨rfl, rfl⟩
    · clear hs h1
      go_enter Try.func116, Try.ntmps116
      go_wp2_with (go_at_call 72; refine (fits_any _ _ _).mono ?_; rw [H1.out]; rintro e w1 ⟨rfl, rfl⟩)
      go_ret
      exact ⟨rfl, rfl⟩
  · have H1 := Lib.hid (show fitsB n size = false by simpa using h1)
    clear hs h1
    go_enter Try.func116, Try.ntmps116
    go_wp2_with (go_at_call 72; refine (fits_any _ _ _).mono ?_; rw [H1.out]; rintro e w1 ⟨rfl, rfl⟩)
    go_ret
    exact ⟨rfl, rfl⟩

set_option maxRecDepth 100000 in
set_option maxHeartbeats 2000000 in
theorem wset_any (w : World) (B g : Nat) (F : Nat → Prop) (x : Wr) (k : Nat) (n size : Int) (h : Wtr w B F g x) (hx : x.b.length ≤ 1000000000) (hs : setOk x k n size) :
    Calls Try.prog 116 #[.pointer (some ⟨g, 0, none⟩), .int .i64 (k : Int), .int .i64 n, .int .i64 size] w (RetX w B F g (x.put k (putB [] n size)) (.int .i64 0)) := by
  obtain ⟨h1, h2, h3, h4⟩ := hs
  obtain ⟨hpl, hp1, hp7⟩ := putB_fit_length h1
  have H1 := Lib.hid h1
  clear h1
  obtain ⟨hn, bv, mb, hg, hbv, hm, hgF, hbF, hmF, hF⟩ := h
  have hbv' := hbv
  obtain ⟨_, hb2⟩ := hbv'
  rcases hb2 with ⟨_, h0⟩ | ⟨gb, cap, cur, rfl, hbg, hcb, hnc, hcm, hcs, htake⟩
  · exfalso; omega
  have c0 : w.cell? ⟨g, 0, none⟩ = some (.slice (some ⟨gb, 0, none⟩) x.b.length cap) := (cell_of_row _ _ _ _ _ _ hg).trans rfl
  have HG := Lib.hid hg
  have HC := Lib.hid hcb
  have HT := Lib.hid htake
  have HS := Lib.hid hcs
  have hgb := hbF gb rfl
  have hgl := (hF g hgF.1).2
  have hbl := (hF gb hgb.1).2
  rw [Nat.mul_one] at htake
  have hk1 : (k : Int) ≤ x.b.length := h3
  have hk0 : (0 : Int) ≤ k := Int.natCast_nonneg k
  clear hg hcb hcs
  have htk := Lib.hid htake
  clear htake HT
  go_enter Try.func116, Try.ntmps116
  go_wp2_with (go_at_call 72; refine (fits_any _ _ _).mono ?_; rw [H1.out]; rintro e w1 ⟨rfl, rfl⟩)
  have hlen : (putB [] n size).length ≤ x.b.length - k := by omega
  have hpl7 : (putB [] n size).length ≤ 7 := by omega
  have hp0 : 0 < (putB [] n size).length := by omega
  generalize hr : putB [] n size = r at hlen hpl7 hp0
  have HR := Lib.hid hr
  clear hr hpl
  go_region_held3 (fun w' => w'.cell? ⟨g, 0, none⟩ = some (.slice (some ⟨gb, 0, none⟩) x.b.length cap))
    (first
      | with_reducible exact c0
      | with_reducible exact below_cell bl.drew c0
      | with_reducible exact below_cell hbD c0
      | with_reducible exact (cell_setRow_other _ _ _ ⟨g, 0, none⟩ (Ne.symm hgb.2.1)).trans (below_cell hbD c0))
    (first
      | (go_at_call 73; refine (put_any none 0 0 [] n size w.drew (Rd.nil _ _ _) (by omega)).mono ?_; rintro e w2 ⟨v2, rfl, hown2, hb2⟩; rw [HR.out] at hown2; have hbD : Below w.heap.size w w2 := nx bl.drew hb2; obtain ⟨g2, cc2, rfl, hg2, hgl2, hl2, hc2, hcell2⟩ := hown2.flat hp0; have HC2 := Lib.hid ((hbD.block gb hbl).trans HC.out); have HSRC := Lib.hid hown2.src; clear hown2 hcell2)
      | (refine step_copy_own (by rfl) (.tmp 46) (.tmp 49) _ _ (by rfl) 5 Try.underlying35 sizeB gb k (x.b.length - k) (cap - k) ⟨g2, 0, none⟩ r.length cc2 (by rfl) (by rfl) _ _ HC2.out (r.map bV) (by rw [List.length_map]; exact (Nat.min_eq_left hlen).symm) HSRC.out (by rw [List.length_map, HS.out]; omega) (bV_one r) ?_))
  go_wp2
  go_ret
  have hp := Wtr.put hn HG.out hm hgF hbF hmF hF hbg HC.out hnc hcm (HS.out.trans (Nat.mul_one _)) htk.out (k := k) (r := r) (by omega) hbD rfl
  exact ⟨rfl, F, HR.out.symm ▸ hp.1, hp.2, fun z hz => .inl hz⟩

set_option maxHeartbeats 400000 in
theorem wnil_raw (w : World) (A : Option Addr) (n c : Nat) : Calls Try.prog 58 #[.pointer none, .slice A n c] w (Ret (.tuple #[]) w) := by
  go_enter Try.func58, Try.ntmps58
  go_wp2
  go_end0
  exact ⟨rfl, rfl⟩
set_option maxHeartbeats 400000 in
theorem wnil_set (w : World) (a n s : Int) : Calls Try.prog 116 #[.pointer none, .int .i64 a, .int .i64 n, .int .i64 s] w (Ret (.int .i64 1) w) := by
  go_enter Try.func116, Try.ntmps116
  go_wp2
  go_ret
  exact ⟨rfl, rfl⟩
set_option maxHeartbeats 400000 in
theorem wnil_name (w : World) (A : Option Addr) (n c : Nat) (b : Bool) : Calls Try.prog 50 #[.pointer none, .slice A n c, .bool b] w (Ret (.int .i64 1) w) := by
  go_enter Try.func50, Try.ntmps50
  go_wp2
  go_ret
  exact ⟨rfl, rfl⟩
set_option maxHeartbeats 400000 in
theorem wnil_bytes (w : World) : Calls Try.prog 57 #[.pointer none] w (Ret (.slice none 0 0) w) := by
  go_enter Try.func57, Try.ntmps57
  go_wp2
  go_ret
  exact ⟨rfl, rfl⟩
set_option maxHeartbeats 400000 in
theorem wnil_len (w : World) : Calls Try.prog 59 #[.pointer none] w (Ret (.int .i64 0) w) := by
  go_enter Try.func59, Try.ntmps59
  go_wp2
  go_ret
  exact ⟨rfl, rfl⟩
end Go.Proofs.Ytbjaphldncagjaa

/- rr.Put in general. -/
namespace Go.Proofs.Ytbjaphldncagjaa
open Go.RowKit
set_option maxRecDepth 100000

structure RrSt (w wr : World) (B g : Nat) (F Fr : Nat → Prop) (y : Wr) (q : Nat) (S : Nat → Prop) (s : RS) (r : RR) : Prop where
  W : Wtr wr B Fr g y
  C : Chg F w wr
  N : ∀ z, Fr z → F z ∨ w.heap.size ≤ z
  Q : RRow wr q s r
  D : RIn S wr s r
  qF : ¬ Fr q
  SF : ∀ b, S b → b < wr.heap.size ∧ ¬ Fr b
section
variable {w wr w' : World} {B g q : Nat} {F Fr F' S : Nat → Prop} {y y' : Wr} {s : RS} {r : RR}
theorem RrSt.step (h : RrSt w wr B g F Fr y q S s r) (hw : Wtr w' B F' g y') (hc : Chg Fr wr w') (hF : ∀ z, F' z → Fr z ∨ wr.heap.size ≤ z) : RrSt w w' B g F F' y' q S s r where
  W := hw
  C := h.C.trans hc h.N
  N := new_trans h.C h.N hF
  Q := hc.heap h.Q h.qF
  D := h.D.chg hc h.SF
  qF := fun hq => (hF q hq).elim h.qF (fun hl => by have := (Array.getElem?_eq_some_iff.1 h.Q).1; omega)
  SF := fun b hb => ⟨Nat.lt_of_lt_of_le (h.SF b hb).1 hc.size, fun hq => (hF b hq).elim (h.SF b hb).2 (fun hl => by have := (h.SF b hb).1; omega)⟩
theorem RrSt.below (h : RrSt w wr B g F Fr y q S s r) (hb : Below wr.heap.size wr w') : RrSt w w' B g F Fr y q S s r := h.step (h.W.below hb) (Chg.of_below hb) (fun _ hz => .inl hz)
theorem RrSt.done (h : RrSt w wr B g F Fr y q S s r) {v : Value} {u : Wr} (hz : y = u) : RetX w B F g u v (.returned v) wr := by subst hz; exact ⟨rfl, Fr, h.W, h.C, h.N⟩
theorem RrSt.start {x : Wr} (h : Wtr w B F g x) (hd : RIn S w s r) (hS : ∀ b, S b → b < w.heap.size ∧ ¬ F b) : RrSt w (w.alloc (.cells (rrCells s r) 48)) B g F F x w.heap.size S s r := by
  have hb : Below w.heap.size w (w.alloc (.cells (rrCells s r) 48)) := bl.alloc (Nat.le_refl _) _
  exact ⟨h.below hb, Chg.of_below hb, fun _ hz => .inl hz, RRow.made w s r, hd.below hb (fun b hb' => (hS b hb').1), fun hq => by have := (h.F_lt _ hq).2; omega, fun b hb' => ⟨Nat.lt_of_lt_of_le (hS b hb').1 hb.size, (hS b hb').2⟩⟩
end

set_option maxHeartbeats 8000000 in
theorem rrPut_any (w : World) (B g : Nat) (F : Nat → Prop) (x : Wr) (s : RS) (r : RR) (S : Nat → Prop) (hf : FineR r) (h : Wtr w B F g x) (hd : RIn S w s r) (hS : ∀ b, S b → b < w.heap.size ∧ ¬ F b) (hx : x.b.length ≤ 8990000) (hxr : x.rests.length ≤ 8990000) :
    Calls Try.prog 61 #[.pointer (some ⟨g, 0, none⟩), rrV s r] w (RetX w B F g (x.rr r) (.int .i64 0)) := by
  have hst := RrSt.start h hd hS
  obtain ⟨w1, hw1⟩ : ∃ w1, w1 = w.alloc (.cells (rrCells s r) 48) := ⟨_, rfl⟩
  rw [← hw1] at hst
  have ST1 := Lib.hid hst
  obtain ⟨x0, x1, x2, x3, x4, x5, x6, x7, x8⟩ := hst.Q.cells
  have HF := Lib.hid hf
  have HFB := Lib.hid (fineRB_true hf)
  have hln : r.name.length ≤ 255 := by have := sizeN_length r.name; have := hf.1.2; omega
  have HLN := Lib.hid hln
  have HRN : Hid (r.data.host.length ≤ 1000000000 ∧ r.data.mail.length ≤ 1000000000 ∧ r.data.nums.length ≤ 1000000000 ∧ r.data.texts.length ≤ 1000000000) := by
    have hh := hf.2.1.2
    have h1 := hh.2.2.1
    have h4 : r.data.host.length ≤ 255 := by
      have := hh.2.2.2.1; unfold hostP at this
      split at this
      · have h5 := sizeN_length r.data.host; have := this.2; omega
      · rw [this]; simp
    have h5 : r.data.mail.length ≤ 255 := by
      have := hh.2.2.2.2.1; unfold hostP at this
      split at this
      · have h5 := sizeN_length r.data.mail; have := this.2; omega
      · rw [this]; simp
    have h6 : r.data.texts.length ≤ 64 := by
      have := hh.2.2.2.2.2.2; unfold textsP at this
      split at this
      · exact this.2.1
      · rw [this]; simp
    have h7 : (shapeP r.type).nums ≤ 5 := by rcases shape_cases r.type with e | e | e | e | e | e | e | e <;> rw [e] <;> decide
    exact ⟨by omega, by omega, by omega, by omega⟩
  obtain ⟨y1, hy1⟩ : ∃ y1, y1 = x.name r.name true := ⟨_, rfl⟩
  obtain ⟨y2, hy2⟩ : ∃ y2, y2 = y1.raw (putB [] r.type 2) := ⟨_, rfl⟩
  obtain ⟨y3, hy3⟩ : ∃ y3, y3 = y2.raw (putB [] r.cls 2) := ⟨_, rfl⟩
  obtain ⟨y4, hy4⟩ : ∃ y4, y4 = y3.raw (putB [] r.ttl 4) := ⟨_, rfl⟩
  obtain ⟨y5, hy5⟩ : ∃ y5, y5 = y4.raw (putB [] 0 2) := ⟨_, rfl⟩
  obtain ⟨y6, hy6⟩ : ∃ y6, y6 = y5.data (shapeP r.type) r.data := ⟨_, rfl⟩
  have hhead : y4 = x.rrHead r := by rw [hy4, hy3, hy2, hy1]; rfl
  have hl1 := Wr.name_le (x := x) r.name true
  have hr1 := Wr.name_rests (x := x) r.name true
  rw [← hy1] at hl1 hr1
  have hl2 : y2.b.length ≤ y1.b.length + 7 := by rw [hy2, raw_len]; have := putB_len r.type 2; omega
  have hl3 : y3.b.length ≤ y2.b.length + 7 := by rw [hy3, raw_len]; have := putB_len r.cls 2; omega
  have hl4 : y4.b.length ≤ y3.b.length + 7 := by rw [hy4, raw_len]; have := putB_len r.ttl 4; omega
  have hl5 : y5.b.length = y4.b.length + 2 := by rw [hy5, raw_len, put02_len]
  have hr5 : y5.rests = y1.rests := by rw [hy5, hy4, hy3, hy2]; rfl
  have hl6 := Wr.data_len y5 hf.2.1.2
  rw [← hy6] at hl6
  have hsz := hf.1.2
  obtain ⟨n, hn⟩ : ∃ n, n = x.rrLen r := ⟨_, rfl⟩
  have hn2 : y6.b.length = y4.b.length + (2 + n) := by
    have : n = y6.b.length - y4.b.length - 2 := by rw [hn, hy6, hy5, hhead]; rfl
    omega
  have hnl : n < 65536 := by rw [hn]; exact x.rrLen_lt hf
  have HY1 := Lib.hid hy1
  have HY2 := Lib.hid hy2
  have HY3 := Lib.hid hy3
  have HY4 := Lib.hid hy4
  have HY5 := Lib.hid hy5
  have HY6 := Lib.hid hy6
  have HX : Hid (x.b.length ≤ 8990000 ∧ x.rests.length ≤ 8990000 ∧ y1.b.length ≤ 8990300 ∧ y2.b.length ≤ 8990310 ∧ y3.b.length ≤ 8990320 ∧ y4.b.length ≤ 8990330 ∧ y5.b.length ≤ 8990340 ∧ y5.rests.length ≤ 8990300 ∧ y6.b.length ≤ 9100000) := by
    rw [hr5]
    exact ⟨by omega, by omega, by omega, by omega, by omega, by omega, by omega, by omega, by omega⟩
  have HN2 := Lib.hid hn2
  have HNL := Lib.hid hnl
  have HEND : Hid (y6.put y4.b.length (putB [] (n : Int) 2) = x.rr r) := by
    show _ = _
    rw [hn, hy6, hy5, hhead]; rfl
  unfold rrV
  unfold rrCells at hw1 ⊢
  clear h hd hS hf hst hln hx hxr hy1 hy2 hy3 hy4 hy5 hy6 hhead hl1 hr1 hl2 hl3 hl4 hl5 hr5 hl6 hsz hn hn2 hnl
  go_enter Try.func61, Try.ntmps61
  go_upto_region 1 with (fail)
  rw [← hw1]
  clear hw1
  go_upto_region 3 with (first
    | (go_at_call 64; refine (rrSound_any s r w1 ST1.out.D (fun b hb => (ST1.out.SF b hb).1) (by have := HLN.out; omega) HRN.out).mono ?_; rw [HFB.out]; rintro e w2 ⟨v2, rfl, rfl, hb2⟩; have ST2 := Lib.hid (ST1.out.below hb2); clear hb2)
    | fail)
  clear x0 x1 x2 x3 x4 x5 x6 x7 x8
  obtain ⟨x0, x1, x2, x3, x4, x5, x6, x7, x8⟩ := ST2.out.Q.cells
  go_upto_region 4 with (first
    | (go_at_call 50; refine (name_any w2 B g F x s.A _ s.c r.name true ST2.out.W ST2.out.D.n ST2.out.SF (by have := HLN.out; omega) ST2.out.D.cn.1 ST2.out.D.cn.2 (by have := HX.out; omega) (by have := HX.out; omega)).mono ?_; rw [nameS_sound HF.out.1, ← HY1.out]; rintro e w3 ⟨rfl, F3, h3, hc3, hF3⟩; have ST3 := Lib.hid (ST2.out.step h3 hc3 hF3); clear h3 hc3 hF3)
    | fail)
  clear x0 x1 x2 x3 x4 x5 x6 x7 x8
  obtain ⟨x0, x1, x2, x3, x4, x5, x6, x7, x8⟩ := ST3.out.Q.cells
  go_upto_region 5 with (first
    | (go_at_call 101; refine (wnum_any w3 B g F3 y1 r.type 2 ST3.out.W (by have := HX.out; omega)).mono ?_; rw [← HY2.out]; rintro e w4 ⟨rfl, F4, h4, hc4, hF4⟩; have ST4 := Lib.hid (ST3.out.step h4 hc4 hF4); clear h4 hc4 hF4)
    | fail)
  clear x0 x1 x2 x3 x4 x5 x6 x7 x8
  obtain ⟨x0, x1, x2, x3, x4, x5, x6, x7, x8⟩ := ST4.out.Q.cells
  go_upto_region 6 with (first
    | (go_at_call 101; refine (wnum_any w4 B g F4 y2 r.cls 2 ST4.out.W (by have := HX.out; omega)).mono ?_; rw [← HY3.out]; rintro e w5 ⟨rfl, F5, h5, hc5, hF5⟩; have ST5 := Lib.hid (ST4.out.step h5 hc5 hF5); clear h5 hc5 hF5)
    | fail)
  clear x0 x1 x2 x3 x4 x5 x6 x7 x8
  obtain ⟨x0, x1, x2, x3, x4, x5, x6, x7, x8⟩ := ST5.out.Q.cells
  go_upto_region 7 with (first
    | (go_at_call 101; refine (wnum_any w5 B g F5 y3 r.ttl 4 ST5.out.W (by have := HX.out; omega)).mono ?_; rw [← HY4.out]; rintro e w6 ⟨rfl, F6, h6, hc6, hF6⟩; have ST6 := Lib.hid (ST5.out.step h6 hc6 hF6); clear h6 hc6 hF6)
    | fail)
  clear x0 x1 x2 x3 x4 x5 x6 x7 x8
  go_upto_region 9 with (first
    | (go_at_call 59; refine (wlen_any w6 B g F6 y4 ST6.out.W).mono ?_; rintro e w7 ⟨rfl, rfl⟩)
    | (go_at_call 101; refine (wnum_any w6 B g F6 y4 0 2 ST6.out.W (by have := HX.out; omega)).mono ?_; rw [← HY5.out]; rintro e w8 ⟨rfl, F8, h8, hc8, hF8⟩; have ST8 := Lib.hid (ST6.out.step h8 hc8 hF8); clear h8 hc8 hF8)
    | fail)
  obtain ⟨x0, x1, x2, x3, x4, x5, x6, x7, x8⟩ := ST8.out.Q.cells
  go_upto_region 10 with (first
    | (go_at_call 52; refine (dput_any r.type w8 B g F8 y5 s.d r.data S HF.out.2.1 ST8.out.W ST8.out.D.d ST8.out.SF (by have := HX.out; omega) (by have := HX.out; omega)).mono ?_; rw [← HY6.out]; rintro e w9 ⟨rfl, F9, h9, hc9, hF9⟩; have ST9 := Lib.hid (ST8.out.step h9 hc9 hF9); clear h9 hc9 hF9)
    | fail)
  clear x0 x1 x2 x3 x4 x5 x6 x7 x8
  have h4l : y4.b.length ≤ 8990330 := HX.out.2.2.2.2.2.1
  have hn65 := HNL.out
  go_wp2_with (first
    | (go_at_call 116; rw [show ((y4.b.length : Int) + (2 + (n : Int)) - (y4.b.length : Int) - 2) = (n : Int) by omega]; refine (wset_any w9 B g F9 y6 y4.b.length (n : Int) 2 ST9.out.W (by have := HX.out; omega) ⟨fits2 hn65, by omega, by have := HN2.out; omega, by have := HN2.out; omega⟩).mono ?_; rw [HEND.out]; rintro e w11 ⟨rfl, F11, h11, hc11, hF11⟩; have ST11 := Lib.hid (ST9.out.step h11 hc11 hF11); clear h11 hc11 hF11)
    | (go_at_call 59; refine (wlen_any w9 B g F9 y6 ST9.out.W).mono ?_; rw [HN2.out]; rintro e w10 ⟨rfl, rfl⟩)
    | fail)
  go_ret
  exact ST11.out.done rfl

/-- What may not be is not written. -/
theorem rrPut_bad (w : World) (s : RS) (r : RR) {S : Nat → Prop} (g : Nat) (hf : ¬ FineR r) (h : RIn S w s r) (hS : ∀ b, S b → b < w.heap.size) (hbn : r.name.length ≤ 1000000000) (hbd : r.data.host.length ≤ 1000000000 ∧ r.data.mail.length ≤ 1000000000 ∧ r.data.nums.length ≤ 1000000000 ∧ r.data.texts.length ≤ 1000000000) :
    Calls Try.prog 61 #[.pointer (some ⟨g, 0, none⟩), rrV s r] w (RetP (fun v _ => v = .int .i64 2) w) := by
  obtain ⟨w1, hw1⟩ : ∃ w1, w1 = w.alloc (.cells (rrCells s r) 48) := ⟨_, rfl⟩
  have hb1 : Below w.heap.size w w1 := by rw [hw1]; exact bl.alloc (Nat.le_refl _) _
  have HR : Hid (RRow w1 w.heap.size s r) := by show RRow _ _ _ _; rw [hw1]; exact RRow.made w s r
  have HI := Lib.hid (h.below hb1 hS)
  have HS1 : Hid (∀ b, S b → b < w1.heap.size) := fun b hb => Nat.lt_of_lt_of_le (hS b hb) hb1.size
  have HBW1 := Lib.hid hb1
  have HBN := Lib.hid hbn
  have HBD := Lib.hid hbd
  have HFB := Lib.hid (fineRB_false hf)
  obtain ⟨x0, x1, x2, x3, x4, x5, x6, x7, x8⟩ := HR.out.cells
  unfold rrV
  unfold rrCells at hw1 ⊢
  clear h hS hb1 hbn hbd hf
  go_enter Try.func61, Try.ntmps61
  go_upto_region 1 with (fail)
  rw [← hw1]
  clear hw1
  go_wp2_with (first
    | (go_at_call 64; refine (rrSound_any s r w1 HI.out HS1.out HBN.out HBD.out).mono ?_; rw [HFB.out]; rintro e w2 ⟨v2, rfl, rfl, hb2⟩)
    | fail)
  go_ret
  exact ⟨_, rfl, rfl, nx HBW1.out hb2⟩
theorem rrPut_nil (w : World) (s : RS) (r : RR) :
    Calls Try.prog 61 #[.pointer none, rrV s r] w (RetP (fun v _ => v = .int .i64 2) w) := by
  unfold rrV rrCells
  go_enter Try.func61, Try.ntmps61
  go_wp2
  go_ret
  exact ⟨_, rfl, rfl, bl.alloc (Nat.le_refl _) _⟩
end Go.Proofs.Ytbjaphldncagjaa

/- The reference's PutRR, in plain Lean; that both writers write the same. No program in it. -/
namespace Go.Proofs.Ytbjaphldncagjaa
set_option maxRecDepth 100000

def RW.rrHead (y : RW) (r : RR) : RW := (((y.name r.name true).raw (putB [] r.type 2)).raw (putB [] r.cls 2)).raw (putB [] r.ttl 4)
/-- How the reference writes a record. -/
def RW.rr (y : RW) (r : RR) : RW :=
  let z := ((y.rrHead r).raw (putB [] 0 2)).data (shapeP r.type) r.data
  { z with b := putAt z.b (y.rrHead r).b.length (putB [] (z.b.length - (y.rrHead r).b.length - 2 : Nat) 2) }
theorem Alike.rrHead {x : Wr} {y : RW} (h : Alike x y) {r : RR} (hf : FineR r) : Alike (x.rrHead r) (y.rrHead r) :=
  (((Alike.name (small_of_sound hf.1) true h).raw _).raw _).raw _
theorem Alike.rr {x : Wr} {y : RW} (h : Alike x y) {r : RR} (hf : FineR r) : Alike (x.rr r) (y.rr r) := by
  have h1 := h.rrHead hf
  have h2 := (h1.raw (putB [] 0 2)).data hf.2.1.2
  refine ⟨?_, h2.2.1, h2.2.2⟩
  show putAt _ _ _ = putAt _ _ _
  rw [h2.1, h1.1]
theorem RW.Fine.textsP {y : RW} (h : y.Fine) (ts : List (List UInt8)) : (y.texts ts).Fine := by
  refine snoc_ind (P := fun ts => (y.texts ts).Fine) h (fun ts t ih => ?_) ts
  rw [RW.texts_snoc]
  exact (ih.raw _).raw _
theorem RW.Fine.numsP {y : RW} (h : y.Fine) (ns : List Int) (z : Int) : (y.nums ns z).Fine := by
  refine snoc_ind (P := fun ns => (y.nums ns z).Fine) h (fun ns n ih => ?_) ns
  rw [RW.nums_snoc]
  exact ih.raw _
theorem RW.Fine.data {y : RW} (h : y.Fine) {k : Int} {d : Da} (hf : FineS (shapeP k) d) : (y.data (shapeP k) d).Fine := by
  obtain ⟨_, _, _, hh, hm, _, _⟩ := hf
  have h1 := (h.raw d.bytes).textsP d.texts
  unfold RW.data
  simp only
  have h2 : (if (shapeP k).first = true then ((y.raw d.bytes).texts d.texts).nums d.nums (shapeP k).size else (y.raw d.bytes).texts d.texts).Fine := by
    split
    · exact h1.numsP _ _
    · exact h1
  generalize (if (shapeP k).first = true then ((y.raw d.bytes).texts d.texts).nums d.nums (shapeP k).size else (y.raw d.bytes).texts d.texts) = y2 at h2 ⊢
  have h3 : (if (shapeP k).host = true then y2.name d.host (shapeP k).short else y2).Fine := by
    unfold hostP at hh
    split
    · rename_i e
      rw [if_pos e] at hh
      exact RW.Fine.name hh _ h2
    · exact h2
  generalize (if (shapeP k).host = true then y2.name d.host (shapeP k).short else y2) = y3 at h3 ⊢
  have h4 : (if (shapeP k).mail = true then y3.name d.mail (shapeP k).short else y3).Fine := by
    unfold hostP at hm
    split
    · rename_i e
      rw [if_pos e] at hm
      exact RW.Fine.name hm _ h3
    · exact h3
  split
  · exact h4
  · exact h4.numsP _ _
theorem RW.Fine.rr {y : RW} (h : y.Fine) {r : RR} (hf : FineR r) : (y.rr r).Fine := by
  have h1 : (y.rrHead r).Fine := (((RW.Fine.name hf.1 true h).raw _).raw _).raw _
  exact (h1.raw (putB [] 0 2)).data hf.2.1.2
theorem put2_bytes {n : Nat} (h : n < 65536) : putB [] (n : Int) 2 = [UInt8.ofNat (n / 256), UInt8.ofNat n] := by
  unfold putB
  rw [if_pos (fits2 h)]
  rfl
theorem set_two (b : List UInt8) (k : Nat) (x y : UInt8) (h : k + 2 ≤ b.length) : (b.set k x).set (k + 1) y = putAt b k [x, y] := by
  apply List.ext_getElem?
  intro i
  unfold putAt
  simp only [List.length_cons, List.length_nil, Nat.zero_add]
  rw [List.getElem?_set, List.getElem?_set, List.getElem?_append]
  simp only [List.length_set, List.length_take]
  rw [Nat.min_eq_left (by omega)]
  by_cases h1 : i < k
  · rw [if_neg (by omega), if_neg (by omega), if_pos h1, List.getElem?_take, if_pos h1]
  · rw [if_neg h1]
    by_cases h2 : i = k
    · subst h2
      rw [if_neg (by omega), if_pos rfl, if_pos (by omega), Nat.sub_self]
      rfl
    · by_cases h3 : i = k + 1
      · subst h3
        rw [if_pos rfl, if_pos (by omega), show k + 1 - k = 1 by omega]
        rfl
      · rw [if_neg (by omega), if_neg (by omega)]
        obtain ⟨j, rfl⟩ : ∃ j, i = k + 2 + j := ⟨i - (k + 2), by omega⟩
        rw [show k + 2 + j - k = j + 2 by omega]
        simp only [List.cons_append, List.nil_append, List.getElem?_cons_succ, List.getElem?_drop]
end Go.Proofs.Ytbjaphldncagjaa

/- The reference's PutRR in general. -/
namespace Go.Proofs.Ytbjaphldncagjaa
open Go.RowKit
set_option maxRecDepth 100000

structure RRrSt (w wr : World) (B g : Nat) (F Fr : Nat → Prop) (y : RW) (q : Nat) (S : Nat → Prop) (s : RS) (r : RR) : Prop where
  W : RWtr wr B Fr g y
  fine : y.Fine
  C : Chg F w wr
  N : ∀ z, Fr z → F z ∨ w.heap.size ≤ z
  Q : RRow wr q s r
  D : RIn S wr s r
  qF : ¬ Fr q
  SF : ∀ b, S b → b < wr.heap.size ∧ ¬ Fr b
section
variable {w wr w' : World} {B g q : Nat} {F Fr F' S : Nat → Prop} {y y' : RW} {s : RS} {r : RR}
theorem RRrSt.step (h : RRrSt w wr B g F Fr y q S s r) (hw : RWtr w' B F' g y') (hf : y'.Fine) (hc : Chg Fr wr w') (hF : ∀ z, F' z → Fr z ∨ wr.heap.size ≤ z) : RRrSt w w' B g F F' y' q S s r where
  W := hw
  fine := hf
  C := h.C.trans hc h.N
  N := fun k hk => (hF k hk).elim (h.N k) (fun hl => .inr (Nat.le_trans h.C.size hl))
  Q := hc.heap h.Q h.qF
  D := h.D.chg hc h.SF
  qF := fun hq => (hF q hq).elim h.qF (fun hl => by have := (Array.getElem?_eq_some_iff.1 h.Q).1; omega)
  SF := fun b hb => ⟨Nat.lt_of_lt_of_le (h.SF b hb).1 hc.size, fun hq => (hF b hq).elim (h.SF b hb).2 (fun hl => by have := (h.SF b hb).1; omega)⟩
theorem RRrSt.done (h : RRrSt w wr B g F Fr y q S s r) {v : Value} {u : RW} (hz : y = u) : RetR w B F g u v (.returned v) wr := by subst hz; exact ⟨rfl, Fr, h.W, h.C, h.N⟩
theorem RRrSt.start {x : RW} (h : RWtr w B F g x) (hf : x.Fine) (hd : RIn S w s r) (hS : ∀ b, S b → b < w.heap.size ∧ ¬ F b) : RRrSt w (w.alloc (.cells (rrCells s r) 48)) B g F F x w.heap.size S s r := by
  have hb : Below w.heap.size w (w.alloc (.cells (rrCells s r) 48)) := bl.alloc (Nat.le_refl _) _
  exact ⟨h.below hb, hf, Chg.of_below hb, fun _ hz => .inl hz, RRow.made w s r, hd.below hb (fun b hb' => (hS b hb').1), fun hq => by have := (h.F_lt _ hq).2; omega, fun b hb' => ⟨Nat.lt_of_lt_of_le (hS b hb').1 hb.size, (hS b hb').2⟩⟩
theorem RWtr.bytes_len (h : RWtr w B F g y) : ∃ A c, w.cell? ⟨g, 0, none⟩ = some (.slice A y.b.length c) := by
  obtain ⟨bv, rv, S, hg, hb, _⟩ := h
  obtain ⟨A, c, rfl, _⟩ := hb.form
  exact ⟨A, c, (cell_of_row _ _ _ _ _ _ hg).trans rfl⟩
/-- Its bytes, where they lie; what a store there does. -/
theorem RWtr.bytes_at (h : RWtr w B F g y) (h0 : 0 < y.b.length) : ∃ gb cap, w.cell? ⟨g, 0, none⟩ = some (.slice (some ⟨gb, 0, none⟩) y.b.length cap) ∧ y.b.length ≤ cap ∧ cap ≤ maxLen ∧
    (∀ k, k < y.b.length → ∃ c : UInt8, w.cell? ⟨gb, k, none⟩ = some (.int .u8 (c.toNat : Int))) ∧ (∀ k, w.frozen? ⟨gb, k, none⟩ = false) ∧ gb ≠ g ∧
    ∀ (k k2 : Nat) (c c2 : UInt8), RWtr ((w.setCell ⟨gb, k, none⟩ (.int .u8 (c.toNat : Int))).setCell ⟨gb, k2, none⟩ (.int .u8 (c2.toNat : Int))) B F g { y with b := (y.b.set k c).set k2 c2 } ∧ Chg F w ((w.setCell ⟨gb, k, none⟩ (.int .u8 (c.toNat : Int))).setCell ⟨gb, k2, none⟩ (.int .u8 (c2.toNat : Int))) := by
  obtain ⟨bv, rv, S, hg, hb, hr, hgF, hbF, hrF, hSF, hF⟩ := h
  obtain ⟨gb, cap, rfl, hBg, hgs, hl, hm, hc⟩ := hb.flat h0
  have hbg := hbF gb rfl
  refine ⟨gb, cap, (cell_of_row _ _ _ _ _ _ hg).trans rfl, hl, hm, fun k hk => ⟨y.b[k], hc k _ (List.getElem?_eq_getElem hk)⟩, fun k => hb.free k, hbg.2, fun k k2 c c2 => ?_⟩
  have hcg : Chg (fun z => z = gb) w ((w.setCell ⟨gb, k, none⟩ (.int .u8 (c.toNat : Int))).setCell ⟨gb, k2, none⟩ (.int .u8 (c2.toNat : Int))) := ((Chg.refl (fun z => z = gb) w).setCell (p := ⟨gb, k, none⟩) (Or.inl rfl) _).setCell (p := ⟨gb, k2, none⟩) (Or.inl rfl) _
  refine ⟨⟨.slice (some ⟨gb, 0, none⟩) y.b.length cap, rv, S, hcg.heap hg (fun e => hbg.2 e.symm), (hb.set k c).set k2 c2, hr.chg hcg (fun z hz e => (hrF z hz).2.2 (by subst e; rfl)) (fun z hz e => (hSF z hz).2.2 (by subst e; rfl)), hgF, hbF, hrF, hSF, fun z hz => ⟨(hF z hz).1, by simpa using (hF z hz).2⟩⟩, ((Chg.refl F w).setCell (p := ⟨gb, k, none⟩) (Or.inl hbg.1) _).setCell (p := ⟨gb, k2, none⟩) (Or.inl hbg.1) _⟩
end

set_option maxHeartbeats 8000000 in
theorem rputRR_any (w : World) (B g : Nat) (F : Nat → Prop) (xp : Wr) (x : RW) (s : RS) (r : RR) (S : Nat → Prop) (hal : Alike xp x) (hf : FineR r) (h : RWtr w B F g x) (hfx : x.Fine) (hd : RIn S w s r) (hS : ∀ b, S b → b < w.heap.size ∧ ¬ F b) (hx : x.b.length ≤ 8990000) (hxr : x.rests.length ≤ 8990000) :
    Calls Try.prog 65 #[.pointer (some ⟨g, 0, none⟩), rrV s r] w (RetR w B F g (x.rr r) (.bool true)) := by
  have hst := RRrSt.start h hfx hd hS
  obtain ⟨w1, hw1⟩ : ∃ w1, w1 = w.alloc (.cells (rrCells s r) 48) := ⟨_, rfl⟩
  rw [← hw1] at hst
  have ST1 := Lib.hid hst
  obtain ⟨x0, x1, x2, x3, x4, x5, x6, x7, x8⟩ := hst.Q.cells
  have HF := Lib.hid hf
  obtain ⟨y1, hy1⟩ : ∃ y1, y1 = x.name r.name true := ⟨_, rfl⟩
  obtain ⟨y2, hy2⟩ : ∃ y2, y2 = y1.raw (putB [] r.type 2) := ⟨_, rfl⟩
  obtain ⟨y3, hy3⟩ : ∃ y3, y3 = y2.raw (putB [] r.cls 2) := ⟨_, rfl⟩
  obtain ⟨y4, hy4⟩ : ∃ y4, y4 = y3.raw (putB [] r.ttl 4) := ⟨_, rfl⟩
  obtain ⟨y5, hy5⟩ : ∃ y5, y5 = y4.raw (putB [] 0 2) := ⟨_, rfl⟩
  obtain ⟨y6, hy6⟩ : ∃ y6, y6 = y5.data (shapeP r.type) r.data := ⟨_, rfl⟩
  have hhead : y4 = x.rrHead r := by rw [hy4, hy3, hy2, hy1]; rfl
  have rawl : ∀ (y : RW) (l : List UInt8), (y.raw l).b.length = y.b.length + l.length := fun y l => by simp [RW.raw]
  have hl1 := RW.name_le (y := x) r.name true
  have hr1 := RW.name_rests (x := x) r.name true
  have hr0 := sizeN_length r.name
  rw [← hy1] at hl1 hr1
  have hl2 : y2.b.length ≤ y1.b.length + 7 := by rw [hy2, rawl]; have := putB_len r.type 2; omega
  have hl3 : y3.b.length ≤ y2.b.length + 7 := by rw [hy3, rawl]; have := putB_len r.cls 2; omega
  have hl4 : y4.b.length ≤ y3.b.length + 7 := by rw [hy4, rawl]; have := putB_len r.ttl 4; omega
  have hl5 : y5.b.length = y4.b.length + 2 := by rw [hy5, rawl, put02_len]
  have hr5 : y5.rests = y1.rests := by rw [hy5, hy4, hy3, hy2]; rfl
  have hal4 : Alike (xp.rrHead r) y4 := by rw [hhead]; exact hal.rrHead hf
  have hal5 : Alike ((xp.rrHead r).raw (putB [] 0 2)) y5 := by rw [hy5]; exact hal4.raw _
  have hal6 : Alike (((xp.rrHead r).raw (putB [] 0 2)).data (shapeP r.type) r.data) y6 := by rw [hy6]; exact hal5.data hf.2.1.2
  have hl6 := Wr.data_len ((xp.rrHead r).raw (putB [] 0 2)) hf.2.1.2
  rw [hal6.1, hal5.1] at hl6
  have hsz := hf.1.2
  obtain ⟨n, hn⟩ : ∃ n, n = xp.rrLen r := ⟨_, rfl⟩
  have hnl : n < 65536 := by rw [hn]; exact xp.rrLen_lt hf
  have hn2 : y6.b.length = y4.b.length + (2 + n) := by
    have : n = y6.b.length - y4.b.length - 2 := by rw [hn]; unfold Wr.rrLen; rw [hal6.1, hal4.1]
    omega
  have hfn1 : y1.Fine := by rw [hy1]; exact RW.Fine.name hf.1 true hfx
  have hfn6 : y6.Fine := by rw [hy6, hy5, hy4, hy3, hy2]; exact RW.Fine.data ((((hfn1.raw _).raw _).raw _).raw _) hf.2.1.2
  have hbx : y6.rests.length ≤ y6.rests.length := Nat.le_refl _
  have hend : { y6 with b := (y6.b.set y4.b.length (UInt8.ofNat (n / 256))).set (y4.b.length + 1) (UInt8.ofNat n) } = x.rr r := by
    rw [set_two _ _ _ _ (by omega), ← put2_bytes hnl]
    have e : n = y6.b.length - y4.b.length - 2 := by omega
    rw [e, hy6, hy5, hhead]
    rfl
  have HY1 := Lib.hid hy1
  have HY2 := Lib.hid hy2
  have HY3 := Lib.hid hy3
  have HY4 := Lib.hid hy4
  have HY5 := Lib.hid hy5
  have HY6 := Lib.hid hy6
  have HFX : Hid (x.Fine ∧ y1.Fine ∧ y2.Fine ∧ y3.Fine ∧ y4.Fine ∧ y5.Fine ∧ y6.Fine) := by
    refine ⟨hfx, hfn1, ?_, ?_, ?_, ?_, hfn6⟩
    · rw [hy2]; exact hfn1.raw _
    · rw [hy3, hy2]; exact (hfn1.raw _).raw _
    · rw [hy4, hy3, hy2]; exact ((hfn1.raw _).raw _).raw _
    · rw [hy5, hy4, hy3, hy2]; exact (((hfn1.raw _).raw _).raw _).raw _
  have HX : Hid (x.b.length ≤ 8990000 ∧ x.rests.length ≤ 8990000 ∧ y1.b.length ≤ 8990300 ∧ y2.b.length ≤ 8990310 ∧ y3.b.length ≤ 8990320 ∧ y4.b.length ≤ 8990330 ∧ y5.b.length ≤ 8990340 ∧ y5.rests.length ≤ 8990300 ∧ y6.b.length ≤ 9100000) := by
    rw [hr5]
    exact ⟨by omega, by omega, by omega, by omega, by omega, by omega, by omega, by omega, by omega⟩
  have HN2 := Lib.hid hn2
  have HNL := Lib.hid hnl
  have HEND := Lib.hid hend
  unfold rrV
  unfold rrCells at hw1 ⊢
  clear h hd hS hf hst hx hxr hy1 hy2 hy3 hy4 hy5 hy6 hhead hl1 hr1 hl2 hl3 hl4 hl5 hr5 hl6 hsz hn hn2 hnl hal hal4 hal5 hal6 hfn1 hfn6 hbx hend hfx rawl
  go_enter Try.func65, Try.ntmps65
  go_upto_region 1 with (fail)
  rw [← hw1]
  clear hw1
  go_upto_region 2 with (first
    | (go_at_call 51; refine (rwname_any w1 B g F x s.A _ s.c r.name true ST1.out.W ST1.out.D.n ST1.out.SF HF.out.1 ST1.out.fine ST1.out.D.cn.1 ST1.out.D.cn.2 (by have := HX.out; omega) (by have := HX.out; omega)).mono ?_; rw [← HY1.out]; rintro e w3 ⟨rfl, F3, h3, hc3, hF3⟩; have ST3 := Lib.hid (ST1.out.step h3 HFX.out.2.1 hc3 hF3); clear h3 hc3 hF3)
    | fail)
  clear x0 x1 x2 x3 x4 x5 x6 x7 x8
  obtain ⟨x0, x1, x2, x3, x4, x5, x6, x7, x8⟩ := ST3.out.Q.cells
  go_upto_region 3 with (first
    | (go_at_call 103; refine (rwnum_any w3 B g F3 y1 r.type 2 ST3.out.W (by have := HX.out; omega) ST3.out.D.it.2).mono ?_; rw [← HY2.out]; rintro e w4 ⟨rfl, F4, h4, hc4, hF4⟩; have ST4 := Lib.hid (ST3.out.step h4 HFX.out.2.2.1 hc4 hF4); clear h4 hc4 hF4)
    | fail)
  clear x0 x1 x2 x3 x4 x5 x6 x7 x8
  obtain ⟨x0, x1, x2, x3, x4, x5, x6, x7, x8⟩ := ST4.out.Q.cells
  go_upto_region 4 with (first
    | (go_at_call 103; refine (rwnum_any w4 B g F4 y2 r.cls 2 ST4.out.W (by have := HX.out; omega) ST4.out.D.ic.2).mono ?_; rw [← HY3.out]; rintro e w5 ⟨rfl, F5, h5, hc5, hF5⟩; have ST5 := Lib.hid (ST4.out.step h5 HFX.out.2.2.2.1 hc5 hF5); clear h5 hc5 hF5)
    | fail)
  clear x0 x1 x2 x3 x4 x5 x6 x7 x8
  obtain ⟨x0, x1, x2, x3, x4, x5, x6, x7, x8⟩ := ST5.out.Q.cells
  go_upto_region 5 with (first
    | (go_at_call 103; refine (rwnum_any w5 B g F5 y3 r.ttl 4 ST5.out.W (by have := HX.out; omega) ST5.out.D.il.2).mono ?_; rw [← HY4.out]; rintro e w6 ⟨rfl, F6, h6, hc6, hF6⟩; have ST6 := Lib.hid (ST5.out.step h6 HFX.out.2.2.2.2.1 hc6 hF6); clear h6 hc6 hF6)
    | fail)
  clear x0 x1 x2 x3 x4 x5 x6 x7 x8
  obtain ⟨A6, k6, z6⟩ := ST6.out.W.bytes_len
  go_upto_region 7 with (first
    | (go_at_call 103; refine (rwnum_any w6 B g F6 y4 0 2 ST6.out.W (by have := HX.out; omega) (by decide)).mono ?_; rw [← HY5.out]; rintro e w8 ⟨rfl, F8, h8, hc8, hF8⟩; have ST8 := Lib.hid (ST6.out.step h8 HFX.out.2.2.2.2.2.1 hc8 hF8); clear h8 hc8 hF8)
    | fail)
  obtain ⟨x0, x1, x2, x3, x4, x5, x6, x7, x8⟩ := ST8.out.Q.cells
  go_upto_region 8 with (first
    | (go_at_call 55; refine (rputD_any r.type w8 B g F8 y5 s.d r.data S HF.out.2.1 ST8.out.W ST8.out.fine ST8.out.D.d ST8.out.SF (by have := HX.out; omega) (by have := HX.out; omega)).mono ?_; rw [← HY6.out]; rintro e w9 ⟨rfl, F9, h9, hc9, hF9⟩; have ST9 := Lib.hid (ST8.out.step h9 HFX.out.2.2.2.2.2.2 hc9 hF9); clear h9 hc9 hF9)
    | fail)
  clear x0 x1 x2 x3 x4 x5 x6 x7 x8 z6
  have h4l : y4.b.length ≤ 8990330 := HX.out.2.2.2.2.2.1
  have hn65 := HNL.out
  obtain ⟨gb, cap, z0, hcap, hcm, hcell, hfz, hgb, hset⟩ := ST9.out.W.bytes_at (by have := HN2.out; omega)
  have HCAP := Lib.hid hcap
  have HSET := Lib.hid hset
  have HCL := Lib.hid hcell
  rw [HN2.out] at z0
  clear hcap hset hcell
  go_upto_region 11 with fail
  rw [show ((y4.b.length : Int) + (2 + (n : Int)) - (y4.b.length : Int) - 2) = (n : Int) by omega]
  obtain ⟨ca, hca⟩ := HCL.out y4.b.length (by have := HN2.out; omega)
  obtain ⟨cb, hcb⟩ := HCL.out (y4.b.length + 1) (by have := HN2.out; omega)
  have hf1 := hfz y4.b.length
  have hf2 := hfz (y4.b.length + 1)
  go_wp2
  go_ret
  have e1 : ((n : Int) / 256) = ((UInt8.ofNat (n / 256)).toNat : Int) := by rw [ofNat_u8]; omega
  have e2 : ((n : Int) % 256) = ((UInt8.ofNat n).toNat : Int) := by rw [ofNat_u8]
  have hs := HSET.out y4.b.length (y4.b.length + 1) (UInt8.ofNat (n / 256)) (UInt8.ofNat n)
  rw [HEND.out] at hs
  rw [e1, e2]
  exact ⟨rfl, F9, hs.1, ST9.out.C.trans hs.2 ST9.out.N, ST9.out.N⟩
end Go.Proofs.Ytbjaphldncagjaa

/- The reference's OwnRRs: records that share nothing. -/
namespace Go.Proofs.Ytbjaphldncagjaa
open Go.RowKit
set_option maxRecDepth 100000

theorem elRR : ElT Try.prog 31 48 encRR 168 := ElT.mk Try.underlying31 (.agg (rrCells RS.nil RR.zero)) 9 (by kernel_rfl) rfl rfl
/-- A record's nine cells, at a place. -/
def RCells (w : World) (b p : Nat) (s : RS) (x : RR) : Prop :=
  w.cell? ⟨b, p, none⟩ = some (.slice s.A x.name.length s.c) ∧ w.cell? ⟨b, p + 1, none⟩ = some (.int .i64 x.type) ∧ w.cell? ⟨b, p + 2, none⟩ = some (.int .i64 x.cls) ∧ w.cell? ⟨b, p + 3, none⟩ = some (.int .i64 x.ttl) ∧
    w.cell? ⟨b, p + 4, none⟩ = some (.slice s.d.A0 x.data.bytes.length s.d.c0) ∧ w.cell? ⟨b, p + 5, none⟩ = some (.slice s.d.A1 x.data.host.length s.d.c1) ∧ w.cell? ⟨b, p + 6, none⟩ = some (.slice s.d.A2 x.data.mail.length s.d.c2) ∧ w.cell? ⟨b, p + 7, none⟩ = some (.slice s.d.A3 x.data.nums.length s.d.c3) ∧ w.cell? ⟨b, p + 8, none⟩ = some (.slice s.d.A4 x.data.texts.length s.d.c4)
theorem RCells.below {w w' : World} {b p : Nat} {s : RS} {x : RR} (h : RCells w b p s x) (hb : Below w.heap.size w w') : RCells w' b p s x := by
  obtain ⟨h0, h1, h2, h3, h4, h5, h6, h7, h8⟩ := h
  exact ⟨below_cell hb h0, below_cell hb h1, below_cell hb h2, below_cell hb h3, below_cell hb h4, below_cell hb h5, below_cell hb h6, below_cell hb h7, below_cell hb h8⟩
/-- A list of records read in memory. -/
theorem rr_at {So Si : Nat → Prop} {w : World} {A : Option Addr} {n : Nat} {xs : List RR} (h : Els encRR So Si w A n xs) {k : Nat} {r : RR} (hx : xs[k]? = some r) :
    ∃ b off s, A = some ⟨b, off, none⟩ ∧ So b ∧ RIn Si w s r ∧ RCells w b (off + k * 9) s r := by
  obtain ⟨b, off, rfl, hb, hat⟩ := Els.flat h (by rw [← h.len]; exact Nat.lt_of_le_of_lt (Nat.zero_le k) (List.getElem?_eq_some_iff.1 hx).1)
  obtain ⟨r', ⟨s, rfl, hr⟩, hc⟩ := hat k r hx
  refine ⟨b, off, s, rfl, hb, hr, ?_⟩
  have hc' : ∀ j u, (rrCells s r).toList[j]? = some u → w.cell? ⟨b, off + k * 9 + j, none⟩ = some u := fun j u hu => by rw [Nat.add_assoc]; exact hc j u hu
  exact ⟨hc' 0 _ rfl, hc' 1 _ rfl, hc' 2 _ rfl, hc' 3 _ rfl, hc' 4 _ rfl, hc' 5 _ rfl, hc' 6 _ rfl, hc' 7 _ rfl, hc' 8 _ rfl⟩
/-- A row of the call's own, all of it new since block number B. -/
def NewE {α : Type} (E : Enc α) (e : TypeId) (B : Nat) (w : World) (v : Value) (xs : List α) : Prop := ∃ S, OwnE E e S w B v xs ∧ ∀ b, S b → B ≤ b
/-- Between two block numbers. -/
def btS (lo hi : Nat) : Nat → Prop := fun b => lo ≤ b ∧ b < hi
theorem NewE.nil {α : Type} (E : Enc α) (e : TypeId) (w : World) (B : Nat) : NewE E e B w (.slice none 0 0) [] := ⟨noS, OwnE.nil _ _ _ _, fun _ h => h.elim⟩
theorem NewE.below {α : Type} {E : Enc α} {e : TypeId} {B : Nat} {w w' : World} {v : Value} {xs : List α} (h : NewE E e B w v xs) (hb : Below w.heap.size w w') : NewE E e B w' v xs := by
  obtain ⟨S, ho, hS⟩ := h
  exact ⟨S, ho.below hb, hS⟩
theorem NewE.rd {α : Type} {E : Enc α} {e : TypeId} {B : Nat} {w : World} {v : Value} {xs : List α} (h : NewE E e B w v xs) : ∃ A c, v = .slice A xs.length c ∧ Els E (geS B w) (geS B w) w A xs.length xs ∧ xs.length ≤ c ∧ c ≤ maxLen := by
  obtain ⟨S, ho, hS⟩ := h
  have hl := ho.lt
  have hSl : ∀ b, S b → b < w.heap.size := by obtain ⟨_, _, _, hb⟩ := ho; exact fun b hb' => (hb b hb').1
  obtain ⟨A, c, rfl, he, h1, h2⟩ := ho.form
  exact ⟨A, c, rfl, he.mono (fun b hb => hl b hb) (fun b hb => ⟨hS b hb, hSl b hb⟩), h1, h2⟩

theorem five {w : World} {q : Nat} {s : RS} {x : RR} (h : RRow w q s x) (t : DS) : RRow (((((w.setCell ⟨q, 4, none⟩ (.slice t.A0 x.data.bytes.length t.c0)).setCell ⟨q, 5, none⟩ (.slice t.A1 x.data.host.length t.c1)).setCell ⟨q, 6, none⟩ (.slice t.A2 x.data.mail.length t.c2)).setCell ⟨q, 7, none⟩ (.slice t.A3 x.data.nums.length t.c3)).setCell ⟨q, 8, none⟩ (.slice t.A4 x.data.texts.length t.c4)) q { s with d := t } x :=
  heap_setCell_same _ _ 8 _ _ _ (heap_setCell_same _ _ 7 _ _ _ (heap_setCell_same _ _ 6 _ _ _ (heap_setCell_same _ _ 5 _ _ _ (heap_setCell_same _ _ 4 _ _ _ h))))
theorem five_chg (w : World) (q : Nat) (v4 v5 v6 v7 v8 : Value) : Chg (fun k => k = q) w (((((w.setCell ⟨q, 4, none⟩ v4).setCell ⟨q, 5, none⟩ v5).setCell ⟨q, 6, none⟩ v6).setCell ⟨q, 7, none⟩ v7).setCell ⟨q, 8, none⟩ v8) := by
  have k : ∀ {u : World} (j : Nat) (v : Value), Chg (fun k => k = q) w u → Chg (fun k => k = q) w (u.setCell ⟨q, j, none⟩ v) := fun j v h => h.setCell (p := ⟨q, j, none⟩) (Or.inl rfl) v
  exact k 8 _ (k 7 _ (k 6 _ (k 5 _ (k 4 _ (Chg.refl _ w)))))
/-- A record so small that it can be copied. -/
def Light9 (r : RR) : Prop := r.name.length ≤ 8796093022208 ∧ r.data.bytes.length ≤ 8796093022208 ∧ r.data.host.length ≤ 8796093022208 ∧ r.data.mail.length ≤ 8796093022208 ∧ r.data.nums.length ≤ 8796093022208 ∧ r.data.texts.length ≤ 8796093022208

set_option maxHeartbeats 4000000 in
theorem ownRRs_any (A : Option Addr) (n c : Nat) (xs : List RR) (w : World) (h : RdE encRR w A n xs) (hn : n ≤ 1000000) (hL : ∀ r ∈ xs, Light9 r) :
    Calls Try.prog 38 #[.slice A n c] w (RetP (fun v w' => NewE encRR 48 w.heap.size w' v xs) w) := by
  have hlt := Lib.hid h.len
  have HL := Lib.hid hL
  have H := Lib.hid h
  clear h hL
  go_enter Try.func38, Try.ntmps38
  go_wp2
  go_loopw [3, 4] (fun v i wr => ∃ k : Nat, i = .int .i64 k ∧ k ≤ n ∧ NewE encRR 48 w.heap.size wr v (xs.take k) ∧ Hid (Below w.heap.size w wr)) (fun _ i _ => n - (intOf i).toNat)
  case atStart => exact ⟨0, rfl, Nat.zero_le _, NewE.nil _ _ _ _, bl⟩
  case round =>
    obtain ⟨k, rfl, hk, ⟨S, hown, hS⟩, HBW⟩ := hrel
    by_cases hlt' : k < n
    · obtain ⟨r, hr⟩ : ∃ r, xs[k]? = some r := ⟨_, List.getElem?_eq_getElem (by rw [hlt.out]; exact hlt')⟩
      have HLR := Lib.hid (HL.out r (List.mem_of_getElem? hr))
      obtain ⟨b, off, s, rfl, hb0, hri, hrc⟩ := rr_at H.out hr
      have HRI := Lib.hid (hri.below HBW.out (fun b hb => hb))
      have HSb : Hid (∀ b, ltS w b → b < wr.heap.size) := fun b (hb : b < w.heap.size) => Nat.lt_of_lt_of_le hb HBW.out.size
      obtain ⟨d0, d1, d2, d3, d4, d5, d6, d7, d8⟩ := hrc.below HBW.out
      have HTK := Lib.hid hr
      have HOWN := Lib.hid hown
      have HS := Lib.hid hS
      clear hr hri hrc hown hS hb0
      obtain ⟨w1, hw1⟩ : ∃ w1, w1 = wr.alloc (.cells #[.slice s.A r.name.length s.c, .int .i64 r.type, .int .i64 r.cls, .int .i64 r.ttl, .slice s.d.A0 r.data.bytes.length s.d.c0, .slice s.d.A1 r.data.host.length s.d.c1, .slice s.d.A2 r.data.mail.length s.d.c2, .slice s.d.A3 r.data.nums.length s.d.c3, .slice s.d.A4 r.data.texts.length s.d.c4] 48) := ⟨_, rfl⟩
      have hb1 : Below wr.heap.size wr w1 := by rw [hw1]; exact bl.alloc (Nat.le_refl _) _
      have hR1 : RRow w1 wr.heap.size s r := by rw [hw1]; exact heap_alloc_new wr _
      have hsz1 : w1.heap.size = wr.heap.size + 1 := by rw [hw1]; simp
      have HB1 := Lib.hid hb1
      have HR1 := Lib.hid hR1
      have HZ1 := Lib.hid hsz1
      clear hb1 hR1 hsz1
      go_upto_region 6 with (fail)
      rw [← hw1]
      clear hw1 d0 d1 d2 d3 d4 d5 d6 d7 d8
      obtain ⟨x0, x1, x2, x3, x4, x5, x6, x7, x8⟩ := HR1.out.cells
      have hfr0 := HR1.out.free 0
      generalize hq : wr.heap.size = q at *
      have HQ := Lib.hid hq
      clear hq
      have xa0 := below_cell (bl.alloc (Nat.le_refl _) (.cells #[] 9)) x0
      go_upto_region 7 with (first
        | ((with_reducible show wpList _ _ _ (⟨some 19, _, _, _, _, _⟩ :: _) _ _); go_must (refine wpL_cloneS rfl (.tmp 16) (.tmp 18) rfl rfl s.A _ s.c r.name rfl (HRI.out.keep (fun b hb => HB1.out.block b (HSb.out b hb))).n (by have := HLR.out.1; omega) ?_; intro v2 w2 hown2 hb2; obtain ⟨A2, c2, rfl, _, hl2, hm2⟩ := OwnE.form hown2; have hR2 := HR1.out.below hb2; have e0 := hR2.cells.1; have f0 := hR2.free 0))
        | fail)
      obtain ⟨u2, hu2⟩ : ∃ u2, u2 = w2.setCell ⟨q, 0, none⟩ (.slice A2 r.name.length c2) := ⟨_, rfl⟩
      have hU2 : RRow u2 q { s with A := A2, c := c2 } r := by rw [hu2]; exact hR2.put 0 _ _ _ rfl
      have hcu2 : Chg (fun z => z = q) w2 u2 := by rw [hu2]; exact chg_g1 w2 q 0 _
      have hown2' : OwnS u2 (q + 1) (.slice A2 r.name.length c2) r.name := by rw [HZ1.out] at hown2; exact ownE_chg hown2 hcu2 (fun z h1 _ e => by omega)
      have hz2 : q + 1 ≤ u2.heap.size := by have h1 := hb2.size; have h2 := hcu2.size; rw [HZ1.out] at h1; omega
      have hbu2 : Below q wr u2 := by
        have h1 : Below q wr w2 := HB1.out.trans (hb2.mono (by rw [HZ1.out]; omega))
        exact h1.trans (hcu2.below (fun z hz => by omega) (by have h2 := hb2.size; rw [HZ1.out] at h2; omega))
      have HU2 := Lib.hid hU2
      have HOW2 := Lib.hid hown2'
      have HZ2 := Lib.hid hz2
      have HBU2 := Lib.hid hbu2
      rw [← hu2]
      clear hu2 hU2 hcu2 hown2 hown2' hz2 hbu2 hR2 e0 f0 xa0 x0 x1 x2 x3 x4 x5 x6 x7 x8 hfr0 hb2
      obtain ⟨x0, x1, x2, x3, x4, x5, x6, x7, x8⟩ := HU2.out.cells
      go_upto_region 8 with (first
        | (go_at_call 53; refine (ownData_any s.d r.data u2 ((HRI.out.keep (fun b hb => HBU2.out.block b (HSb.out b hb))).d.rd (fun b hb => by have h1 := HSb.out b hb; have h2 := HZ2.out; omega)) HLR.out.2).mono ?_; rintro e w3 ⟨v3, rfl, ⟨s3, rfl, ho3⟩, hb3⟩; unfold dsV; have hR3 := HU2.out.below hb3; obtain ⟨e0, e1, e2, e3, e4, e5, e6, e7, e8⟩ := hR3.cells; have f4 := hR3.free 4; have f5 := hR3.free 5; have f6 := hR3.free 6; have f7 := hR3.free 7; have f8 := hR3.free 8)
        | fail)
      obtain ⟨u3', hu3⟩ : ∃ u3', u3' = (((((w3.setCell ⟨q, 4, none⟩ (.slice s3.A0 r.data.bytes.length s3.c0)).setCell ⟨q, 5, none⟩ (.slice s3.A1 r.data.host.length s3.c1)).setCell ⟨q, 6, none⟩ (.slice s3.A2 r.data.mail.length s3.c2)).setCell ⟨q, 7, none⟩ (.slice s3.A3 r.data.nums.length s3.c3)).setCell ⟨q, 8, none⟩ (.slice s3.A4 r.data.texts.length s3.c4)) := ⟨_, rfl⟩
      have hU3 : RRow u3' q { { s with A := A2, c := c2 } with d := s3 } r := by rw [hu3]; exact five hR3 s3
      have hcu3 : Chg (fun z => z = q) w3 u3' := by rw [hu3]; exact five_chg w3 q _ _ _ _ _
      have hz3 : q + 1 ≤ w3.heap.size ∧ w3.heap.size ≤ u3'.heap.size := ⟨Nat.le_trans HZ2.out hb3.size, hcu3.size⟩
      have hbw3 : Below q wr w3 := HBU2.out.trans (hb3.mono (by have := HZ2.out; omega))
      have hbu3 : Below q wr u3' := hbw3.trans (hcu3.below (fun z hz => by omega) (by omega))
      have hrin : RIn (btS (q + 1) u3'.heap.size) u3' { { s with A := A2, c := c2 } with d := s3 } r := by
        have h1 := ownE_els (HOW2.out.below hb3) rfl
        have h2 := ho3.din
        have hk3 : ∀ b, q + 1 ≤ b ∧ b < w3.heap.size → u3'.heap[b]? = w3.heap[b]? := fun b hb => hcu3.block b hb.2 (fun e => by omega)
        have hm : ∀ b, q + 1 ≤ b ∧ b < w3.heap.size → btS (q + 1) u3'.heap.size b := fun b hb => ⟨hb.1, by omega⟩
        have hz := HZ2.out
        exact ⟨(h1.1.keep (fun b hb => hk3 b hb) (fun b hb => hk3 b hb)).mono (fun b hb => hm b hb) (fun b hb => hm b hb), h1.2, (h2.keep (fun b hb => hk3 b ⟨by have := hb.1; omega, hb.2⟩)).mono (fun b hb => hm b ⟨by have := hb.1; omega, hb.2⟩), HRI.out.it, HRI.out.ic, HRI.out.il⟩
      have HBU3 := Lib.hid hbu3
      have HRIN := Lib.hid hrin
      have hsz3 : q + 1 ≤ u3'.heap.size := by omega
      rw [← hu3]
      obtain ⟨y0, y1, y2, y3, y4, y5, y6, y7, y8⟩ := hU3.cells
      have hown : OwnE encRR 48 S u3' w.heap.size u3 (xs.take k) := by have h := HOWN.out; have hb := HBU3.out; rw [← HQ.out] at hb; exact h.below hb
      have hlto := HOWN.out.lt
      have hbase : w.heap.size ≤ q := by rw [← HQ.out]; exact HBW.out.size
      have hrow : encRR.R (btS (q + 1) u3'.heap.size) u3' [.slice A2 r.name.length c2, .int .i64 r.type, .int .i64 r.cls, .int .i64 r.ttl, .slice s3.A0 r.data.bytes.length s3.c0, .slice s3.A1 r.data.host.length s3.c1, .slice s3.A2 r.data.mail.length s3.c2, .slice s3.A3 r.data.nums.length s3.c3, .slice s3.A4 r.data.texts.length s3.c4] r := ⟨_, rfl, hrin⟩
      rw [HQ.out] at hlto
      clear hu3 hU3 hcu3 hz3 hbw3 hbu3 hrin hR3 e0 e1 e2 e3 e4 e5 e6 e7 e8 f4 f5 f6 f7 f8 x0 x1 x2 x3 x4 x5 x6 x7 x8 hb3 ho3
      go_wp2_with (first
        | ((with_reducible show wpList _ _ _ (⟨some 28, _, _, _, _, _⟩ :: _) _ _); refine wpL_pushE elRR rfl (.tmp 25) (.tmp 27) rfl w.heap.size _ (xs.take k) rfl hown _ r hrow ?hS rfl ?hb ?hl ?hbase ?_; rotate_right; intro v4 w4 hown4 hg4 hat4)
        | fail)
      · go_roundw
        case rel =>
          refine ⟨k + 1, by go_num, by omega, ⟨_, by rw [List.take_add_one, HTK.out]; exact hown4, fun x hx => ?_⟩, ?_⟩
          · rcases hx with hx | hx
            · exact HS.out x hx
            · have := hx.1; omega
          · have hb := HBU3.out
            rw [← HQ.out] at hb
            exact (nx HBW.out hb).grown hg4 (by omega) (fun j hj => (hown.lt j hj).1)
        case measure => simp [intOf]; omega
      case hS =>
        intro x hx
        refine ⟨hx.2, fun he => ?_⟩
        have := (hlto x he.symm).2
        have := hx.1
        omega
      case hb => have : min k xs.length ≤ k := Nat.min_le_left _ _; omega
      case hl => have : min k xs.length ≤ k := Nat.min_le_left _ _; unfold maxLen; omega
      case hbase => omega
    · go_wp2
      go_ret
      have hkn : k = n := by omega
      exact ⟨_, rfl, ⟨S, by rw [hkn, List.take_of_length_le (by rw [hlt.out]; omega)] at hown; exact hown, hS⟩, HBW.out⟩
end Go.Proofs.Ytbjaphldncagjaa

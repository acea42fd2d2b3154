/- Parts of a proof, joined: OpenMs, FinePlain, WtrLaws, RWPlain, PutPlain, DBack, PutAt, RrPutP, RWFine, RRrPlain, RRests, MsPlain, Shapes, Snd1. -/
import Derived.Test.YtimkdpkhdbiniaaQ03
import Derived.Test.YtimkdpkhdbiniaaQ02
import Derived.Test.YtimkdpkhdbiniaaQ01
/- Data, records, questions and messages that came in, with how large they are. -/
namespace Go.Proofs.Ytimkdpkhdbiniaa
open Go.ChangeShapes Go.WideShapes Go.ChangeAt Go.RowKit
set_option maxRecDepth 100000

theorem bulk_mem {H : Type} {l : List (DataW H)} {d : DataW H} (h : d ∈ l) : Rows.uptoBulk d ≤ Rows.uptoBulkAll l := by
  induction l with
  | nil => cases h
  | cons x l ih =>
    simp only [Rows.uptoBulkAll]
    rcases List.mem_cons.1 h with e | e
    · subst e; omega
    · have := ih e; omega
/-- A field's bulk, and its weights, of the struct's. -/
theorem field_bulk {H : Type} {xs : List (DataW H × List MemPlace)} {x : DataW H} {i : Nat} {y : DataW H × List MemPlace} (hx : x = .agg (xs.map (·.1))) (hy : xs[i]? = some y) : Rows.uptoBulk y.1 + 1 ≤ Rows.uptoBulk x := by
  subst hx
  have h := bulk_mem (List.mem_map.2 ⟨y, List.mem_of_getElem? hy, rfl⟩ : y.1 ∈ xs.map (·.1))
  simp only [Rows.uptoBulk]
  omega
theorem opens_Qu : Opens 25 encQu any one := by
  intro H enc W base sp hd fuel cs x h
  obtain ⟨xs, n, hx, hc, hl, hfd, hw⟩ := trod_fields Try.underlying25 h
  rw [show Try.prog.cellsOf 25 = 3 by kernel_rfl] at hc
  obtain ⟨c0, c1, c2, rfl⟩ := len3 hc
  obtain ⟨y0, e0, h0⟩ := hfd 0 _ rfl
  obtain ⟨y1, e1, h1⟩ := hfd 1 _ rfl
  obtain ⟨y2, e2, h2⟩ := hfd 2 _ rfl
  have g0 : DataW.trod enc Try.prog W base sp hd n 23 (([c0, c1, c2].drop 0).take (Try.prog.cellsOf 23)) = some y0 := h0
  have g1 : DataW.trod enc Try.prog W base sp hd n 3 (([c0, c1, c2].drop 1).take (Try.prog.cellsOf 3)) = some y1 := h1
  have g2 : DataW.trod enc Try.prog W base sp hd n 3 (([c0, c1, c2].drop 2).take (Try.prog.cellsOf 3)) = some y2 := h2
  rw [show Try.prog.cellsOf 3 = 1 by kernel_rfl] at g1 g2
  rw [show Try.prog.cellsOf 23 = 1 by kernel_rfl] at g0
  obtain ⟨a0, ⟨A0, n0, k0, r0, q0, l0, m0⟩, f0, w0⟩ := opens_sl (t := 23) Try.underlying23 (by kernel_rfl) (opens_str Try.underlying9) H enc W base sp hd n _ _ g0
  obtain ⟨a1, ⟨r1, b1⟩, f1, w1⟩ := opens_int Try.underlying3 H enc W base sp hd n _ _ g1
  obtain ⟨a2, ⟨r2, b2⟩, f2, w2⟩ := opens_int Try.underlying3 H enc W base sp hd n _ _ g2
  simp at r0 r1 r2
  have e0 := q0.1
  subst r0 r1 r2 e0
  exact ⟨⟨a0, a1, a2⟩, ⟨A0, k0, rfl, q0, ⟨l0, m0⟩, b1, b2⟩, fun _ => trivial, by rw [hx]; simp [one, Rows.uptoBulk]⟩
theorem len14 {α : Type} {l : List α} (h : l.length = 14) : ∃ a0 a1 a2 a3 a4 a5 a6 a7 a8 a9 a10 a11 a12 a13, l = [a0, a1, a2, a3, a4, a5, a6, a7, a8, a9, a10, a11, a12, a13] := by
  match l, h with
  | [a0, a1, a2, a3, a4, a5, a6, a7, a8, a9, a10, a11, a12, a13], _ => exact ⟨a0, a1, a2, a3, a4, a5, a6, a7, a8, a9, a10, a11, a12, a13, rfl⟩
end Go.Proofs.Ytimkdpkhdbiniaa

/- rdata: which data may be, in plain Lean. -/
namespace Go.Proofs.Ytimkdpkhdbiniaa

def hostP (yes : Bool) (n : List (List UInt8)) : Prop := if yes = true then SoundN n else n = []
def textsP (yes : Bool) (t : List (List UInt8)) : Prop := if yes = true then (1 ≤ t.length ∧ t.length ≤ 64 ∧ ∀ l ∈ t, l.length ≤ 255) else t = []
def FineS (s : Shp) (d : Da) : Prop :=
  (0 ≤ s.bytes → (d.bytes.length : Int) = s.bytes) ∧ d.bytes.length ≤ 65535 ∧ (d.nums.length : Int) = s.nums ∧ hostP s.host d.host ∧ hostP s.mail d.mail ∧ (∀ n ∈ d.nums, fitsB n s.size = true) ∧ textsP s.texts d.texts
/-- May a type say so? -/
def FineD (k : Int) (d : Da) : Prop := (1 ≤ k ∧ k ≤ 65535) ∧ FineS (shapeP k) d
noncomputable def fineB (k : Int) (d : Da) : Bool := @decide (FineD k d) (Classical.propDecidable _)
theorem fineB_true {k : Int} {d : Da} (h : FineD k d) : fineB k d = true := by unfold fineB; simpa using h
theorem fineB_false {k : Int} {d : Da} (h : ¬ FineD k d) : fineB k d = false := by unfold fineB; simpa using h
theorem fineB_iff {k : Int} {d : Da} : fineB k d = true ↔ FineD k d := by unfold fineB; simp
end Go.Proofs.Ytimkdpkhdbiniaa

/- wname: what is written is read. No program in it. -/
namespace Go.Proofs.Ytimkdpkhdbiniaa

/-- A name stands at a place: what is behind it, and its labels. -/
inductive Stands (b : List UInt8) : Nat → Nat → Nat → List (List UInt8) → Prop
  | fin {beg p : Nat} (h : b[p]? = some 0) : Stands b beg p (p + 1) []
  | lab {beg p next : Nat} {l : List UInt8} {ls : List (List UInt8)} (c : UInt8) (h : b[p]? = some c) (h1 : 1 ≤ l.length) (h2 : l.length ≤ 63) (hc : c.toNat = l.length) (hl : (b.drop (p + 1)).take l.length = l) (hs : Stands b beg (p + 1 + l.length) next ls) : Stands b beg p next (l :: ls)
  | ptr {beg p q next : Nat} {ls : List (List UInt8)} (c d : UInt8) (h : b[p]? = some c) (hd : b[p + 1]? = some d) (hc : 192 ≤ c.toNat) (hq : (c.toNat * 256 + d.toNat) % 16384 = q) (hb : q < beg) (hn : next ≤ p + 2) (hs : Stands b q q next ls) : Stands b beg p (p + 2) ls

theorem Stands.lt {b : List UInt8} {beg p next : Nat} {ls : List (List UInt8)} (h : Stands b beg p next ls) : p < b.length := by
  cases h with
  | fin h => exact (List.getElem?_eq_some_iff.1 h).1
  | lab c h => exact (List.getElem?_eq_some_iff.1 h).1
  | ptr c d h => exact (List.getElem?_eq_some_iff.1 h).1

theorem get_ext {b : List UInt8} (y : List UInt8) {p : Nat} {c : UInt8} (h : b[p]? = some c) : (b ++ y)[p]? = some c := by
  rw [List.getElem?_append_left (List.getElem?_eq_some_iff.1 h).1, h]
theorem cut_ext {b l : List UInt8} (y : List UInt8) {p : Nat} (h1 : 1 ≤ l.length) (h : (b.drop p).take l.length = l) : ((b ++ y).drop p).take l.length = l := by
  have e := congrArg List.length h
  rw [List.length_take, List.length_drop] at e
  rw [List.drop_append_of_le_length (by omega), List.take_append_of_le_length (by rw [List.length_drop]; omega), h]
theorem Stands.ext {b : List UInt8} {beg p next : Nat} {ls : List (List UInt8)} (h : Stands b beg p next ls) (y : List UInt8) : Stands (b ++ y) beg p next ls := by
  induction h with
  | fin h => exact .fin (get_ext y h)
  | lab c h h1 h2 hc hl _ ih => exact .lab c (get_ext y h) h1 h2 hc (cut_ext y h1 hl) ih
  | ptr c d h hd hc hq hb hn _ ih => exact .ptr c d (get_ext y h) (get_ext y hd) hc hq hb hn ih
theorem Stands.beg_le {b : List UInt8} {beg beg' p next : Nat} {ls : List (List UInt8)} (h : Stands b beg p next ls) (hb : beg ≤ beg') : Stands b beg' p next ls := by
  induction h with
  | fin h => exact .fin h
  | lab c h h1 h2 hc hl _ ih => exact .lab c h h1 h2 hc hl (ih hb)
  | ptr c d h hd hc hq hb' hn hs => exact .ptr c d h hd hc hq (by omega) hn hs
theorem Stands.read {b : List UInt8} {beg p next : Nat} {ls : List (List UInt8)} (h : Stands b beg p next ls) : ∀ (nx : Nat) (acc : List (List UInt8)), sizeN (acc ++ ls) ≤ 255 → getP b p beg nx acc = (acc ++ ls, ((max nx next : Nat) : Int), 0) := by
  induction h with
  | fin h =>
    intro nx acc _
    rw [getP_end h rfl, List.append_nil]
  | @lab beg p next l ls c h h1 h2 hc hl hs ih =>
    intro nx acc hz
    have hlen := congrArg List.length hl
    rw [List.length_take, List.length_drop] at hlen
    have e : acc ++ l :: ls = (acc ++ [l]) ++ ls := by simp
    have e1 := sizeN_snoc acc l
    have e2 := sizeN_append (acc ++ [l]) ls
    have e3 := sizeN_length ls
    rw [e] at hz
    rw [getP_label h (by omega) (by omega) (by omega) (by omega), hc, hl, ih nx (acc ++ [l]) hz, ← e]
  | ptr c d h hd hc hq hb hn hs ih =>
    intro nx acc hz
    rw [getP_ptr h hc hd (by omega), hq, ih _ acc hz]
    congr 2
    omega

theorem ptr_bytes (p : Nat) (hp : p < 16384) : ((UInt8.ofNat (192 + p / 256)).toNat * 256 + (UInt8.ofNat (p % 256)).toNat) % 16384 = p ∧ 192 ≤ (UInt8.ofNat (192 + p / 256)).toNat := by
  simp only [UInt8.toNat_ofNat']
  omega
theorem restB_ne {l : List UInt8} {n : List (List UInt8)} (i : Nat) : restB (l :: n) ≠ restB (n.drop i) := by
  intro h
  have e := congrArg List.length h
  have h1 := restB_length (l :: n)
  have h2 := restB_length (n.drop i)
  have h3 := sizeN_append (n.take i) (n.drop i)
  rw [List.take_append_drop] at h3
  have h4 := sizeN_length (n.take i)
  simp only [sizeN] at h1
  omega

theorem lab_first {x : Wr} {l y : List UInt8} (hl : l.length ≤ 63) : ((x.label l).b ++ y)[x.b.length]? = some (UInt8.ofNat l.length) ∧ (UInt8.ofNat l.length).toNat = l.length ∧ (((x.label l).b ++ y).drop (x.b.length + 1)).take l.length = l ∧ (x.label l).b.length = x.b.length + 1 + l.length := by
  refine ⟨?_, by simp only [UInt8.toNat_ofNat']; omega, ?_, by simp [Wr.label, Wr.raw]; omega⟩
  · simp [Wr.label, Wr.raw]
  · have e : (x.label l).b ++ y = (x.b ++ [UInt8.ofNat l.length]) ++ (l ++ y) := by simp [Wr.label, Wr.raw]
    rw [e, List.drop_left' (by simp), List.take_left' rfl]
theorem label_note_b (x : Wr) (r l : List UInt8) : ((x.note r).label l).b = (x.label l).b := by simp [Wr.label, Wr.raw, Wr.note_b]

theorem Wr.name_stands (n : List (List UInt8)) (short : Bool) : ∀ (x : Wr) (beg : Nat), (∀ l ∈ n, 1 ≤ l.length ∧ l.length ≤ 63) → beg ≤ x.b.length →
    (∀ i, i < n.length → ∀ p, lookR x.rests (restB (n.drop i)) = some p → p < beg ∧ p < 16384 ∧ ∃ nx, nx ≤ beg ∧ Stands x.b p p nx (n.drop i)) →
    Stands (x.name n short).b beg x.b.length (x.name n short).b.length n ∧ ∀ r p, lookR (x.name n short).rests r = some p → lookR x.rests r = some p ∨ (p < 16384 ∧ ∃ i, i < n.length ∧ r = restB (n.drop i) ∧ Stands (x.name n short).b p p (x.name n short).b.length (n.drop i)) := by
  induction n with
  | nil =>
    intro x beg _ _ _
    refine ⟨?_, fun r p h => .inl h⟩
    have h : Stands (x.b ++ [0]) beg x.b.length (x.b.length + 1) [] := .fin (by simp)
    simpa [Wr.name, Wr.raw] using h
  | cons l n ih =>
    intro x beg hlab hbeg hold
    obtain ⟨hl1, hl2⟩ := hlab l (List.mem_cons_self ..)
    have hlab' : ∀ m ∈ n, 1 ≤ m.length ∧ m.length ≤ 63 := fun m hm => hlab m (List.mem_cons_of_mem _ hm)
    have h0 := hold 0 (by simp)
    rw [List.drop_zero] at h0
    have step : ∀ x' : Wr, x'.b = (x.label l).b → (∀ r p, lookR x'.rests r = some p → lookR x.rests r = some p ∨ (r = restB (l :: n) ∧ p = x.b.length ∧ p < 16384)) →
        Stands (x'.name n short).b beg x.b.length (x'.name n short).b.length (l :: n) ∧ ∀ r p, lookR (x'.name n short).rests r = some p → lookR x.rests r = some p ∨ (p < 16384 ∧ ∃ i, i < (l :: n).length ∧ r = restB ((l :: n).drop i) ∧ Stands (x'.name n short).b p p (x'.name n short).b.length ((l :: n).drop i)) := by
      intro x' hx' hr'
      have hlen : x'.b.length = x.b.length + 1 + l.length := by rw [hx']; exact (lab_first (x := x) (y := []) hl2).2.2.2
      obtain ⟨hs, hrs⟩ := ih x' beg hlab' (by omega) (fun i hi p hp => by
        rcases hr' _ _ hp with h | ⟨h, _⟩
        · obtain ⟨a1, a2, nx, a3, a4⟩ := hold (i + 1) (by simp; omega) p (by simpa using h)
          refine ⟨a1, a2, nx, a3, ?_⟩
          have := a4.ext (UInt8.ofNat l.length :: l)
          rw [hx']
          simpa [Wr.label, Wr.raw] using this
        · exact absurd h.symm (restB_ne i))
      obtain ⟨y, hy, _⟩ := Wr.name_b (x := x') n short
      obtain ⟨f1, f2, f3, f4⟩ := lab_first (x := x) (y := y) hl2
      have hst : Stands (x'.name n short).b beg x.b.length (x'.name n short).b.length (l :: n) := by
        refine .lab _ ?_ hl1 hl2 f2 ?_ ?_
        · rw [hy, hx']; exact f1
        · rw [hy, hx']; exact f3
        · rw [← hlen]; exact hs
      refine ⟨hst, fun r p hp => ?_⟩
      rcases hrs r p hp with h | ⟨h1, i, h2, h3, h4⟩
      · rcases hr' _ _ h with h | ⟨e1, e2, e3⟩
        · exact .inl h
        · exact .inr ⟨e3, 0, by simp, by simpa using e1, by subst e2; simpa using hst.beg_le hbeg⟩
      · exact .inr ⟨h1, i + 1, by simp; omega, by simpa using h3, by simpa using h4⟩
    unfold Wr.name
    split
    · rename_i p hp
      by_cases hsh : short = true
      · rw [if_pos hsh]
        obtain ⟨a1, a2, nx, a3, a4⟩ := h0 p hp
        obtain ⟨b1, b2⟩ := ptr_bytes p a2
        refine ⟨?_, fun r p h => .inl h⟩
        have h : Stands (x.b ++ ptrB p) beg x.b.length (x.b.length + 2) (l :: n) := .ptr _ _ (by simp [ptrB]) (by simp [ptrB]) b2 b1 a1 (by omega) (a4.ext _)
        simpa [Wr.raw, ptrB] using h
      · rw [if_neg hsh]
        exact step (x.label l) rfl (fun r p h => .inl h)
    · refine step ((x.note (restB (l :: n))).label l) (label_note_b x _ l) (fun r p h => ?_)
      by_cases hl : x.b.length < 16384
      · have e : ((x.note (restB (l :: n))).label l).rests = (restB (l :: n), x.b.length) :: x.rests := by
          unfold Wr.note
          rw [if_pos hl]
          rfl
        rw [e] at h
        simp only [lookR] at h
        split at h
        · rename_i he
          injection h with h
          exact .inr ⟨he.symm, h.symm, by omega⟩
        · exact .inl h
      · have e : ((x.note (restB (l :: n))).label l).rests = x.rests := by
          unfold Wr.note
          rw [if_neg hl]
          rfl
        rw [e] at h
        exact .inl h

/-- What a writer knows of rests is so. -/
def Wr.True (x : Wr) : Prop := ∀ r p, lookR x.rests r = some p → p < 16384 ∧ ∃ ls nx, r = restB ls ∧ (∀ l ∈ ls, 1 ≤ l.length ∧ l.length ≤ 63) ∧ nx ≤ x.b.length ∧ Stands x.b p p nx ls
theorem Wr.True.raw {x : Wr} (h : x.True) (bs : List UInt8) : (x.raw bs).True := fun r p hp => by
  obtain ⟨h1, ls, nx, h2, h3, h4, h5⟩ := h r p hp
  exact ⟨h1, ls, nx, h2, h3, by simp [Wr.raw]; omega, h5.ext bs⟩
theorem Wr.True.name {x : Wr} (h : x.True) {n : List (List UInt8)} (hn : ∀ l ∈ n, 1 ≤ l.length ∧ l.length ≤ 63) (short : Bool) :
    (x.name n short).True ∧ Stands (x.name n short).b x.b.length x.b.length (x.name n short).b.length n := by
  obtain ⟨hs, hr⟩ := Wr.name_stands n short x x.b.length hn (Nat.le_refl _) (fun i hi p hp => by
    obtain ⟨h1, ls, nx, h2, h3, h4, h5⟩ := h _ p hp
    have e : n.drop i = ls := restB_inj (fun l hl => by have := (hn l (List.mem_of_mem_drop hl)).2; omega) (fun l hl => by have := (h3 l hl).2; omega) h2
    rw [e]
    exact ⟨h5.lt, h1, nx, h4, h5⟩)
  refine ⟨fun r p hp => ?_, hs⟩
  obtain ⟨y, hy, _⟩ := Wr.name_b (x := x) n short
  rcases hr r p hp with h' | ⟨h1, i, h2, h3, h4⟩
  · obtain ⟨h1, ls, nx, h2, h3, h4, h5⟩ := h r p h'
    exact ⟨h1, ls, nx, h2, h3, by rw [hy, List.length_append]; omega, by rw [hy]; exact h5.ext y⟩
  · exact ⟨h1, n.drop i, _, h3, fun l hl => hn l (List.mem_of_mem_drop hl), Nat.le_refl _, h4⟩
theorem Wr.name_le {x : Wr} (n : List (List UInt8)) (short : Bool) : (x.name n short).b.length ≤ x.b.length + sizeN n := by
  induction n generalizing x with
  | nil => simp [Wr.name, Wr.raw, sizeN]
  | cons l n ih =>
    unfold Wr.name
    have h1 := sizeN_length n
    split
    · split
      · simp only [Wr.raw, ptrB, sizeN, List.length_append, List.length_cons, List.length_nil]; omega
      · have := ih (x := x.label l)
        simp only [Wr.label, Wr.raw, sizeN, List.length_append, List.length_cons] at this ⊢
        omega
    · have := ih (x := (x.note (restB (l :: n))).label l)
      simp only [Wr.label, Wr.raw, Wr.note_b, sizeN, List.length_append, List.length_cons] at this ⊢
      omega
end Go.Proofs.Ytimkdpkhdbiniaa

/- wname: the reference's writer in plain words, and that the program's writes the same bytes. No program in it. -/
namespace Go.Proofs.Ytimkdpkhdbiniaa

/-- What was written, and where rests stand: the eldest one first. -/
structure RW where
  b : List UInt8
  rests : List (Nat × List (List UInt8))
def findR : List (Nat × List (List UInt8)) → List (List UInt8) → Option Nat
  | [], _ => none
  | (p, m) :: rs, n => if m = n then some p else findR rs n
def RW.nil : RW := ⟨[], []⟩
def RW.raw (x : RW) (bs : List UInt8) : RW := { x with b := x.b ++ bs }
def RW.label (x : RW) (l : List UInt8) : RW := x.raw (UInt8.ofNat l.length :: l)
def RW.note (x : RW) (n : List (List UInt8)) : RW := if x.b.length < 16384 then { x with rests := x.rests ++ [(x.b.length, n)] } else x
def RW.name : RW → List (List UInt8) → Bool → RW
  | x, [], _ => x.raw [0]
  | x, l :: n, short => match findR x.rests (l :: n) with
    | some p => if short = true then x.raw (ptrB p) else ((x.note (l :: n)).label l).name n short
    | none => ((x.note (l :: n)).label l).name n short

theorem findR_append (rs rs' : List (Nat × List (List UInt8))) (n : List (List UInt8)) : findR (rs ++ rs') n = (findR rs n).or (findR rs' n) := by
  induction rs with
  | nil => simp [findR]
  | cons r rs ih =>
    obtain ⟨p, m⟩ := r
    simp only [List.cons_append, findR]
    split
    · rfl
    · exact ih
def Small (n : List (List UInt8)) : Prop := ∀ l ∈ n, l.length < 256
theorem Small.tail {l : List UInt8} {n : List (List UInt8)} (h : Small (l :: n)) : Small n := fun x hx => h x (List.mem_cons_of_mem _ hx)
theorem small_of_sound {n : List (List UInt8)} (h : SoundN n) : Small n := fun l hl => by have := (h.1 l hl).2; omega

/-- Both know the same. -/
def Alike (x : Wr) (y : RW) : Prop := x.b = y.b ∧ (∀ n, Small n → lookR x.rests (restB n) = findR y.rests n) ∧ ∀ n p, findR y.rests n = some p → p < 16384
theorem alike_nil : Alike Wr.nil RW.nil := ⟨rfl, fun _ _ => rfl, fun _ _ h => by cases h⟩
theorem Alike.raw {x : Wr} {y : RW} (h : Alike x y) (bs : List UInt8) : Alike (x.raw bs) (y.raw bs) := ⟨by simp [Wr.raw, RW.raw, h.1], h.2⟩
theorem Alike.label {x : Wr} {y : RW} (h : Alike x y) (l : List UInt8) : Alike (x.label l) (y.label l) := h.raw _
theorem Alike.note_old {x : Wr} {y : RW} (h : Alike x y) {n : List (List UInt8)} (hf : findR y.rests n ≠ none) : Alike x (y.note n) := by
  unfold RW.note
  split
  · refine ⟨h.1, fun m hm => ?_, fun m p hp => ?_⟩
    · rw [findR_append, h.2.1 m hm]
      cases hfm : findR y.rests m with
      | some p => rfl
      | none =>
        simp only [findR, Option.none_or]
        rw [if_neg (fun e => hf (by rw [e]; exact hfm))]
    · rw [findR_append] at hp
      cases hfm : findR y.rests m with
      | some q => rw [hfm] at hp; exact h.2.2 m p (by rw [hfm]; exact hp)
      | none =>
        rw [hfm, Option.none_or] at hp
        simp only [findR] at hp
        rw [if_neg (fun e => hf (by rw [e]; exact hfm))] at hp
        cases hp
  · exact h
theorem Alike.note_new {x : Wr} {y : RW} (h : Alike x y) {n : List (List UInt8)} (hn : Small n) (hf : findR y.rests n = none) : Alike (x.note (restB n)) (y.note n) := by
  unfold RW.note Wr.note
  rw [h.1]
  split
  · rename_i hl
    refine ⟨rfl, fun m hm => ?_, fun m p hp => ?_⟩
    · rw [findR_append]
      simp only [lookR, findR]
      by_cases e : n = m
      · subst e
        rw [if_pos rfl, if_pos rfl, hf, Option.none_or]
      · rw [if_neg (fun e' => e (restB_inj hn hm e')), if_neg e, h.2.1 m hm]
        cases findR y.rests m <;> rfl
    · rw [findR_append] at hp
      cases hfm : findR y.rests m with
      | some q => rw [hfm] at hp; exact h.2.2 m p (by rw [hfm]; exact hp)
      | none =>
        rw [hfm, Option.none_or] at hp
        simp only [findR] at hp
        split at hp
        · injection hp with hp
          subst hp
          exact hl
        · cases hp
  · exact h
theorem Alike.name {n : List (List UInt8)} (hn : Small n) (short : Bool) {x : Wr} {y : RW} (h : Alike x y) : Alike (x.name n short) (y.name n short) := by
  induction n generalizing x y with
  | nil => exact h.raw _
  | cons l n ih =>
    have e := h.2.1 (l :: n) hn
    unfold Wr.name RW.name
    rw [e]
    cases hp : findR y.rests (l :: n) with
    | some p =>
      simp only
      split
      · exact h.raw _
      · exact ih hn.tail ((h.note_old (by rw [hp]; simp)).label l)
    | none => exact ih hn.tail ((h.note_new hn hp).label l)
theorem RW.note_b (x : RW) (n : List (List UInt8)) : (x.note n).b = x.b := by unfold RW.note; split <;> rfl
theorem RW.note_rests (x : RW) (n : List (List UInt8)) : (x.note n).rests.length ≤ x.rests.length + 1 := by unfold RW.note; split <;> simp
theorem RW.name_rests {x : RW} (n : List (List UInt8)) (short : Bool) : (x.name n short).rests.length ≤ x.rests.length + n.length := by
  induction n generalizing x with
  | nil => exact Nat.le_refl _
  | cons l n ih =>
    unfold RW.name
    have h1 := ih (x := (x.note (l :: n)).label l)
    have h2 := x.note_rests (l :: n)
    simp only [RW.label, RW.raw, List.length_cons] at h1 ⊢
    split
    · split
      · exact Nat.le_add_right _ _
      · omega
    · omega
end Go.Proofs.Ytimkdpkhdbiniaa

/- rdata: how data is written, in plain Lean; that both writers write the same. -/
namespace Go.Proofs.Ytimkdpkhdbiniaa

def Wr.texts (x : Wr) (ts : List (List UInt8)) : Wr := ts.foldl (fun y t => (y.raw (putB [] t.length 1)).raw t) x
def Wr.nums (x : Wr) (ns : List Int) (z : Int) : Wr := ns.foldl (fun y n => y.raw (putB [] n z)) x
def RW.texts (x : RW) (ts : List (List UInt8)) : RW := ts.foldl (fun y t => (y.raw (putB [] t.length 1)).raw t) x
def RW.nums (x : RW) (ns : List Int) (z : Int) : RW := ns.foldl (fun y n => y.raw (putB [] n z)) x
theorem Wr.texts_snoc (x : Wr) (ts : List (List UInt8)) (t : List UInt8) : x.texts (ts ++ [t]) = ((x.texts ts).raw (putB [] t.length 1)).raw t := by simp [Wr.texts, List.foldl_append]
theorem Wr.nums_snoc (x : Wr) (ns : List Int) (n z : Int) : x.nums (ns ++ [n]) z = (x.nums ns z).raw (putB [] n z) := by simp [Wr.nums, List.foldl_append]
theorem RW.texts_snoc (x : RW) (ts : List (List UInt8)) (t : List UInt8) : x.texts (ts ++ [t]) = ((x.texts ts).raw (putB [] t.length 1)).raw t := by simp [RW.texts, List.foldl_append]
theorem RW.nums_snoc (x : RW) (ns : List Int) (n z : Int) : x.nums (ns ++ [n]) z = (x.nums ns z).raw (putB [] n z) := by simp [RW.nums, List.foldl_append]
theorem Wr.raw_nil (x : Wr) : x.raw [] = x := by simp [Wr.raw]
theorem RW.raw_nil (x : RW) : x.raw [] = x := by simp [RW.raw]

/-- How a type's data is written. -/
def Wr.data (x : Wr) (s : Shp) (d : Da) : Wr :=
  let x1 := (x.raw d.bytes).texts d.texts
  let x2 := if s.first = true then x1.nums d.nums s.size else x1
  let x3 := if s.host = true then x2.name d.host s.short else x2
  let x4 := if s.mail = true then x3.name d.mail s.short else x3
  if s.first = true then x4 else x4.nums d.nums s.size
def RW.data (x : RW) (s : Shp) (d : Da) : RW :=
  let x1 := (x.raw d.bytes).texts d.texts
  let x2 := if s.first = true then x1.nums d.nums s.size else x1
  let x3 := if s.host = true then x2.name d.host s.short else x2
  let x4 := if s.mail = true then x3.name d.mail s.short else x3
  if s.first = true then x4 else x4.nums d.nums s.size

theorem Alike.texts {x : Wr} {y : RW} (h : Alike x y) (ts : List (List UInt8)) : Alike (x.texts ts) (y.texts ts) := by
  refine snoc_ind (P := fun ts => Alike (x.texts ts) (y.texts ts)) h (fun ts t ih => ?_) ts
  rw [Wr.texts_snoc, RW.texts_snoc]
  exact (ih.raw _).raw _
theorem Alike.nums {x : Wr} {y : RW} (h : Alike x y) (ns : List Int) (z : Int) : Alike (x.nums ns z) (y.nums ns z) := by
  refine snoc_ind (P := fun ns => Alike (x.nums ns z) (y.nums ns z)) h (fun ns n ih => ?_) ns
  rw [Wr.nums_snoc, RW.nums_snoc]
  exact ih.raw _
theorem Alike.data {x : Wr} {y : RW} (h : Alike x y) {s : Shp} {d : Da} (hf : FineS s d) : Alike (x.data s d) (y.data s d) := by
  obtain ⟨_, _, _, hh, hm, _, _⟩ := hf
  have h1 := (h.raw d.bytes).texts d.texts
  unfold Wr.data RW.data
  simp only
  have h2 : Alike (if s.first = true then ((x.raw d.bytes).texts d.texts).nums d.nums s.size else (x.raw d.bytes).texts d.texts) (if s.first = true then ((y.raw d.bytes).texts d.texts).nums d.nums s.size else (y.raw d.bytes).texts d.texts) := by
    split
    · exact h1.nums _ _
    · exact h1
  generalize (if s.first = true then ((x.raw d.bytes).texts d.texts).nums d.nums s.size else (x.raw d.bytes).texts d.texts) = x2 at h2 ⊢
  generalize (if s.first = true then ((y.raw d.bytes).texts d.texts).nums d.nums s.size else (y.raw d.bytes).texts d.texts) = y2 at h2 ⊢
  have h3 : Alike (if s.host = true then x2.name d.host s.short else x2) (if s.host = true then y2.name d.host s.short else y2) := by
    unfold hostP at hh
    split
    · rename_i e
      rw [if_pos e] at hh
      exact Alike.name (small_of_sound hh) s.short h2
    · exact h2
  generalize (if s.host = true then x2.name d.host s.short else x2) = x3 at h3 ⊢
  generalize (if s.host = true then y2.name d.host s.short else y2) = y3 at h3 ⊢
  have h4 : Alike (if s.mail = true then x3.name d.mail s.short else x3) (if s.mail = true then y3.name d.mail s.short else y3) := by
    unfold hostP at hm
    split
    · rename_i e
      rw [if_pos e] at hm
      exact Alike.name (small_of_sound hm) s.short h3
    · exact h3
  split
  · exact h4
  · exact h4.nums _ _

theorem putB_len (n z : Int) : (putB [] n z).length ≤ 7 := by
  unfold putB
  split
  · rename_i h
    have h' := fitsB_true h
    rw [List.nil_append, length_be]
    omega
  · simp
theorem Wr.nums_len (x : Wr) (ns : List Int) (z : Int) : (x.nums ns z).b.length ≤ x.b.length + 7 * ns.length ∧ (x.nums ns z).rests = x.rests := by
  refine snoc_ind (P := fun ns => (x.nums ns z).b.length ≤ x.b.length + 7 * ns.length ∧ (x.nums ns z).rests = x.rests) ⟨by simp [Wr.nums], rfl⟩ (fun ns n ih => ?_) ns
  rw [Wr.nums_snoc]
  have := putB_len n z
  refine ⟨?_, ih.2⟩
  simp only [Wr.raw, List.length_append, List.length_singleton]
  have := ih.1
  omega
theorem Wr.texts_len (x : Wr) (ts : List (List UInt8)) (k : Nat) (h : ∀ t ∈ ts, t.length ≤ k) : (x.texts ts).b.length ≤ x.b.length + (7 + k) * ts.length ∧ (x.texts ts).rests = x.rests := by
  revert h
  refine snoc_ind (P := fun ts => (∀ t ∈ ts, t.length ≤ k) → (x.texts ts).b.length ≤ x.b.length + (7 + k) * ts.length ∧ (x.texts ts).rests = x.rests) (fun _ => ⟨by simp [Wr.texts], rfl⟩) (fun ts t ih h => ?_) ts
  rw [Wr.texts_snoc]
  obtain ⟨h1, h2⟩ := ih (fun t ht => h t (List.mem_append_left _ ht))
  have := putB_len t.length 1
  have h3 := h t (List.mem_append_right _ (List.mem_singleton.2 rfl))
  refine ⟨?_, h2⟩
  simp only [Wr.raw, List.length_append, List.length_singleton, Nat.mul_add, Nat.mul_one]
  omega
theorem RW.nums_len (x : RW) (ns : List Int) (z : Int) : (x.nums ns z).b.length ≤ x.b.length + 7 * ns.length ∧ (x.nums ns z).rests = x.rests := by
  refine snoc_ind (P := fun ns => (x.nums ns z).b.length ≤ x.b.length + 7 * ns.length ∧ (x.nums ns z).rests = x.rests) ⟨by simp [RW.nums], rfl⟩ (fun ns n ih => ?_) ns
  rw [RW.nums_snoc]
  have := putB_len n z
  refine ⟨?_, ih.2⟩
  simp only [RW.raw, List.length_append, List.length_singleton]
  have := ih.1
  omega
theorem RW.texts_len (x : RW) (ts : List (List UInt8)) (k : Nat) (h : ∀ t ∈ ts, t.length ≤ k) : (x.texts ts).b.length ≤ x.b.length + (7 + k) * ts.length ∧ (x.texts ts).rests = x.rests := by
  revert h
  refine snoc_ind (P := fun ts => (∀ t ∈ ts, t.length ≤ k) → (x.texts ts).b.length ≤ x.b.length + (7 + k) * ts.length ∧ (x.texts ts).rests = x.rests) (fun _ => ⟨by simp [RW.texts], rfl⟩) (fun ts t ih h => ?_) ts
  rw [RW.texts_snoc]
  obtain ⟨h1, h2⟩ := ih (fun t ht => h t (List.mem_append_left _ ht))
  have := putB_len t.length 1
  have h3 := h t (List.mem_append_right _ (List.mem_singleton.2 rfl))
  refine ⟨?_, h2⟩
  simp only [RW.raw, List.length_append, List.length_singleton, Nat.mul_add, Nat.mul_one]
  omega
end Go.Proofs.Ytimkdpkhdbiniaa

/- rdata: data that was written is read as it is. No program in it. -/
namespace Go.Proofs.Ytimkdpkhdbiniaa

/-- Bytes l stand at p. -/
def Seg (b : List UInt8) (p : Nat) (l : List UInt8) : Prop := ∃ a y, b = a ++ l ++ y ∧ a.length = p
theorem Seg.cut {b l : List UInt8} {p : Nat} (h : Seg b p l) : (b.drop p).take l.length = l := by
  obtain ⟨a, y, rfl, rfl⟩ := h
  rw [List.append_assoc, List.drop_left, List.take_left]
theorem Seg.left {b l m : List UInt8} {p : Nat} (h : Seg b p (l ++ m)) : Seg b p l := by
  obtain ⟨a, y, rfl, rfl⟩ := h
  exact ⟨a, m ++ y, by simp, rfl⟩
theorem Seg.right {b l m : List UInt8} {p : Nat} (h : Seg b p (l ++ m)) : Seg b (p + l.length) m := by
  obtain ⟨a, y, rfl, rfl⟩ := h
  exact ⟨a ++ l, y, by simp, by simp⟩
theorem Seg.mk (a l y : List UInt8) : Seg (a ++ l ++ y) a.length l := ⟨a, y, rfl, rfl⟩

/-- Numbers of a size, one behind the other. -/
def numsB (ns : List Int) (z : Int) : List UInt8 := ns.flatMap fun n => putB [] n z
/-- Texts, one behind the other. -/
def textsB (ts : List (List UInt8)) : List UInt8 := ts.flatMap fun t => putB [] t.length 1 ++ t
theorem Wr.nums_b (x : Wr) (ns : List Int) (z : Int) : x.nums ns z = x.raw (numsB ns z) := by
  refine snoc_ind (P := fun ns => x.nums ns z = x.raw (numsB ns z)) (by simp [Wr.nums, numsB, Wr.raw]) (fun ns n ih => ?_) ns
  rw [Wr.nums_snoc, ih]
  simp [numsB, Wr.raw, List.flatMap_append]
theorem Wr.texts_b (x : Wr) (ts : List (List UInt8)) : x.texts ts = x.raw (textsB ts) := by
  refine snoc_ind (P := fun ts => x.texts ts = x.raw (textsB ts)) (by simp [Wr.texts, textsB, Wr.raw]) (fun ts n ih => ?_) ts
  rw [Wr.texts_snoc, ih]
  simp [textsB, Wr.raw, List.flatMap_append]
theorem numsB_cons (n : Int) (ns : List Int) (z : Int) : numsB (n :: ns) z = putB [] n z ++ numsB ns z := rfl
theorem textsB_cons (t : List UInt8) (ts : List (List UInt8)) : textsB (t :: ts) = putB [] t.length 1 ++ t ++ textsB ts := rfl
theorem putB_len_fit {n z : Int} (h : fitsB n z = true) : (putB [] n z).length = z.toNat := by
  have := putB_length [] n z h
  have h2 := fitsB_true h
  simp at this
  omega
theorem numsB_len {ns : List Int} {z : Int} (h : ∀ n ∈ ns, fitsB n z = true) : (numsB ns z).length = z.toNat * ns.length := by
  induction ns with
  | nil => simp [numsB]
  | cons n ns ih =>
    rw [numsB_cons, List.length_append, putB_len_fit (h n (List.mem_cons_self ..)), ih (fun m hm => h m (List.mem_cons_of_mem _ hm)), List.length_cons, Nat.mul_succ]
    omega
theorem fits_nat {n z : Int} (h : fitsB n z = true) : n.toNat < 256 ^ z.toNat := by
  obtain ⟨h1, h2, h3, h4⟩ := fitsB_true h
  obtain ⟨z, rfl⟩ := Int.eq_ofNat_of_zero_le (Int.le_trans (by decide) h1)
  obtain ⟨q, rfl⟩ := Int.eq_ofNat_of_zero_le h3
  simp only [Int.toNat_natCast] at h4 ⊢
  have : (q : Int) < ((256 ^ z : Nat) : Int) := by rw [Int.natCast_pow]; exact h4
  omega
theorem numR_back {b : List UInt8} {p en : Nat} {n z : Int} (hf : fitsB n z = true) (h : Seg b p (putB [] n z)) (he : p + z.toNat ≤ en) : numR b p en z.toNat = .ok (n.toNat, p + z.toNat) := by
  have h2 := fitsB_true hf
  have hc := h.cut
  rw [putB_len_fit hf] at hc
  unfold numR
  rw [if_neg (by omega), hc]
  unfold putB
  rw [if_pos hf, List.nil_append, val_be _ _ (fits_nat hf)]
theorem bytesR_back {b l : List UInt8} {p en : Nat} (h : Seg b p l) (he : p + l.length ≤ en) : bytesR b p en l.length = .ok (l, p + l.length) := by
  unfold bytesR
  rw [if_neg (by omega), h.cut]
theorem numsR_back {b : List UInt8} {en : Nat} {z : Int} : ∀ {ns : List Int} {p : Nat} {acc : List Int}, (∀ n ∈ ns, fitsB n z = true) → Seg b p (numsB ns z) → p + (numsB ns z).length ≤ en → numsR b en z.toNat ns.length p acc = .ok (acc ++ ns, p + (numsB ns z).length)
  | [], p, acc, _, _, _ => by simp [numsR, numsB]
  | n :: ns, p, acc, hf, h, he => by
    have hn := hf n (List.mem_cons_self ..)
    have hl := putB_len_fit hn
    rw [numsB_cons] at h he ⊢
    rw [List.length_append, hl] at he ⊢
    have h2 := h.right
    rw [hl] at h2
    rw [List.length_cons, numsR, numR_back hn h.left (by omega)]
    simp only
    rw [numsR_back (fun m hm => hf m (List.mem_cons_of_mem _ hm)) h2 (by omega)]
    have := (fitsB_true hn).2.2.1
    rw [Int.toNat_of_nonneg this, List.append_assoc, List.singleton_append, Nat.add_assoc]
theorem fits_len {t : List UInt8} (h : t.length ≤ 255) : fitsB (t.length : Int) 1 = true := by unfold fitsB; simp; omega
theorem textsR_back {b : List UInt8} {en : Nat} {ts : List (List UInt8)} : ∀ {k p : Nat} {acc : List (List UInt8)}, (∀ t ∈ ts, t.length ≤ 255) → ts.length ≤ k → 0 < (acc ++ ts).length → Seg b p (textsB ts) → p + (textsB ts).length = en → textsR b en k p acc = .ok (acc ++ ts, en) := by
  induction ts with
  | nil =>
    intro k p acc _ _ h0 _ he
    have he' : p = en := he
    rw [List.append_nil] at h0 ⊢
    cases k with
    | zero => rw [textsR, if_neg (by omega), if_neg (by omega), he']
    | succ k => rw [textsR, if_neg (by omega), if_neg (by omega), he']
  | cons t ts ih =>
    intro k p acc hf hk h0 h he
    cases k with
    | zero => simp at hk
    | succ k =>
      have ht := hf t (List.mem_cons_self ..)
      have hn := fits_len ht
      have hl : (putB [] (t.length : Int) 1).length = 1 := putB_len_fit hn
      rw [textsB_cons] at h he
      rw [List.length_append, List.length_append, hl] at he
      have h1 := h.left.left
      have h2 := h.left.right
      have h3 := h.right
      rw [List.length_append, hl] at h3
      rw [hl] at h2
      have hr : numR b p en 1 = .ok ((t.length : Int).toNat, p + 1) := numR_back (z := 1) hn h1 (by show p + 1 ≤ en; omega)
      rw [textsR, if_pos (by omega), hr]
      simp only
      rw [Int.toNat_natCast, bytesR_back h2 (by omega)]
      simp only
      rw [ih (acc := acc ++ [t]) (fun m hm => hf m (List.mem_cons_of_mem _ hm)) (by simpa using hk) (by simp; omega) (by rw [show p + 1 + t.length = p + (1 + t.length) by omega]; exact h3) (by omega)]
      simp
theorem nameX_back {b : List UInt8} {p q en : Nat} {n : List (List UInt8)} (hs : SoundN n) (h : Stands b p p q n) (hq : q ≤ en) : nameX b p en = .ok (n, q) := by
  have hr := h.read 0 [] (by simpa using hs.2)
  rw [List.nil_append, Nat.zero_max] at hr
  unfold nameX
  rw [hr]
  simp only
  rw [if_pos trivial, Int.toNat_natCast, if_neg (by omega)]
theorem Da.eta5 (d : Da) {b : List UInt8} {h m : List (List UInt8)} {n : List Int} {t : List (List UInt8)} (e1 : d.bytes = b) (e2 : d.host = h) (e3 : d.mail = m) (e4 : d.nums = n) (e5 : d.texts = t) : d = ⟨b, h, m, n, t⟩ := by
  cases d; simp_all
theorem nil_of_len0 {α : Type} {l : List α} (h : (l.length : Int) = 0) : l = [] := List.eq_nil_of_length_eq_zero (by omega)
section
variable {x : Wr} {d : Da}
theorem data_A (hf : FineS shpA d) : ∃ bs, d = ⟨bs, [], [], [], []⟩ ∧ bs.length = 4 ∧ x.data shpA d = x.raw bs := by
  obtain ⟨h1, h2, h3, h4, h5, h6, h7⟩ := hf
  simp [shpA, hostP, textsP] at h1 h3 h4 h5 h7
  have e := Da.eta5 d rfl h4 h5 h3 h7
  refine ⟨d.bytes, e, by omega, ?_⟩
  rw [e]; simp [Wr.data, shpA, Wr.texts, Wr.nums]
theorem data_Q (hf : FineS shpQ d) : ∃ bs, d = ⟨bs, [], [], [], []⟩ ∧ bs.length = 16 ∧ x.data shpQ d = x.raw bs := by
  obtain ⟨h1, h2, h3, h4, h5, h6, h7⟩ := hf
  simp [shpQ, hostP, textsP] at h1 h3 h4 h5 h7
  have e := Da.eta5 d rfl h4 h5 h3 h7
  refine ⟨d.bytes, e, by omega, ?_⟩
  rw [e]; simp [Wr.data, shpQ, Wr.texts, Wr.nums]
theorem data_B (hf : FineS shpB d) : ∃ bs, d = ⟨bs, [], [], [], []⟩ ∧ x.data shpB d = x.raw bs := by
  obtain ⟨h1, h2, h3, h4, h5, h6, h7⟩ := hf
  simp [shpB, hostP, textsP] at h3 h4 h5 h7
  have e := Da.eta5 d rfl h4 h5 h3 h7
  refine ⟨d.bytes, e, ?_⟩
  rw [e]; simp [Wr.data, shpB, Wr.texts, Wr.nums]
theorem data_T (hf : FineS shpT d) : ∃ ts, d = ⟨[], [], [], [], ts⟩ ∧ 1 ≤ ts.length ∧ ts.length ≤ 64 ∧ (∀ t ∈ ts, t.length ≤ 255) ∧ x.data shpT d = x.raw (textsB ts) := by
  obtain ⟨h1, h2, h3, h4, h5, h6, h7⟩ := hf
  simp only [shpT, hostP, textsP, if_pos, Bool.false_eq_true, ite_false] at h1 h3 h4 h5 h7
  have e := Da.eta5 d (nil_of_len0 (h1 (by decide))) h4 h5 (nil_of_len0 h3) rfl
  refine ⟨d.texts, e, h7.1, h7.2.1, h7.2.2, ?_⟩
  rw [e]; simp [Wr.data, shpT, Wr.texts_b, Wr.nums, Wr.raw]
theorem data_N (hf : FineS shpN d) : ∃ h, d = ⟨[], h, [], [], []⟩ ∧ SoundN h ∧ x.data shpN d = x.name h true := by
  obtain ⟨h1, h2, h3, h4, h5, h6, h7⟩ := hf
  simp only [shpN, hostP, textsP, if_pos, Bool.false_eq_true, ite_false] at h1 h3 h4 h5 h7
  have e := Da.eta5 d (nil_of_len0 (h1 (by decide))) rfl h5 (nil_of_len0 h3) h7
  refine ⟨d.host, e, h4, ?_⟩
  rw [e]; simp [Wr.data, shpN, Wr.texts, Wr.nums, Wr.raw_nil]
theorem data_M (hf : FineS shpM d) : ∃ ns h, d = ⟨[], h, [], ns, []⟩ ∧ ns.length = 1 ∧ (∀ n ∈ ns, fitsB n 2 = true) ∧ SoundN h ∧ x.data shpM d = (x.raw (numsB ns 2)).name h true := by
  obtain ⟨h1, h2, h3, h4, h5, h6, h7⟩ := hf
  simp only [shpM, hostP, textsP, if_pos, Bool.false_eq_true, ite_false] at h1 h3 h4 h5 h6 h7
  have e := Da.eta5 d (nil_of_len0 (h1 (by decide))) rfl h5 rfl h7
  refine ⟨d.nums, d.host, e, by omega, h6, h4, ?_⟩
  rw [e]; simp [Wr.data, shpM, Wr.texts, Wr.nums_b, Wr.raw_nil]
theorem data_V (hf : FineS shpV3 d) : ∃ ns h, d = ⟨[], h, [], ns, []⟩ ∧ ns.length = 3 ∧ (∀ n ∈ ns, fitsB n 2 = true) ∧ SoundN h ∧ x.data shpV3 d = (x.raw (numsB ns 2)).name h false := by
  obtain ⟨h1, h2, h3, h4, h5, h6, h7⟩ := hf
  simp only [shpV3, hostP, textsP, if_pos, Bool.false_eq_true, ite_false] at h1 h3 h4 h5 h6 h7
  have e := Da.eta5 d (nil_of_len0 (h1 (by decide))) rfl h5 rfl h7
  refine ⟨d.nums, d.host, e, by omega, h6, h4, ?_⟩
  rw [e]; simp [Wr.data, shpV3, Wr.texts, Wr.nums_b, Wr.raw_nil]
theorem data_S (hf : FineS shpS d) : ∃ ns h m, d = ⟨[], h, m, ns, []⟩ ∧ ns.length = 5 ∧ (∀ n ∈ ns, fitsB n 4 = true) ∧ SoundN h ∧ SoundN m ∧ x.data shpS d = ((x.name h true).name m true).raw (numsB ns 4) := by
  obtain ⟨h1, h2, h3, h4, h5, h6, h7⟩ := hf
  simp only [shpS, hostP, textsP, if_pos, Bool.false_eq_true, ite_false] at h1 h3 h4 h5 h6 h7
  have e := Da.eta5 d (nil_of_len0 (h1 (by decide))) rfl rfl rfl h7
  refine ⟨d.nums, d.host, d.mail, e, by omega, h6, h4, h5, ?_⟩
  rw [e]; simp [Wr.data, shpS, Wr.texts, Wr.nums_b, Wr.raw_nil]
end
theorem Wr.True.data {x : Wr} (hx : x.True) {k : Int} {d : Da} (hf : FineS (shapeP k) d) : (x.data (shapeP k) d).True := by
  rcases shape_cases k with e | e | e | e | e | e | e | e <;> rw [e] at hf ⊢
  · obtain ⟨_, _, _, e⟩ := data_A (x := x) hf; rw [e]; exact hx.raw _
  · obtain ⟨_, _, _, e⟩ := data_Q (x := x) hf; rw [e]; exact hx.raw _
  · obtain ⟨_, _, h, e⟩ := data_N (x := x) hf; rw [e]; exact (hx.name h.1 _).1
  · obtain ⟨_, _, _, _, _, h, e⟩ := data_M (x := x) hf; rw [e]; exact ((hx.raw _).name h.1 _).1
  · obtain ⟨_, _, _, _, _, _, h, h2, e⟩ := data_S (x := x) hf; rw [e]; exact (((hx.name h.1 _).1.name h2.1 _).1).raw _
  · obtain ⟨_, _, _, _, _, h, e⟩ := data_V (x := x) hf; rw [e]; exact ((hx.raw _).name h.1 _).1
  · obtain ⟨_, _, _, _, _, e⟩ := data_T (x := x) hf; rw [e]; exact hx.raw _
  · obtain ⟨_, _, e⟩ := data_B (x := x) hf; rw [e]; exact hx.raw _

theorem seg_raw (x : Wr) (l y : List UInt8) : Seg ((x.raw l).b ++ y) x.b.length l := Seg.mk _ _ _
theorem raw_len (x : Wr) (l : List UInt8) : (x.raw l).b.length = x.b.length + l.length := by simp [Wr.raw]
theorem seg_name (x : Wr) (l y : List UInt8) (n : List (List UInt8)) (sh : Bool) : Seg (((x.raw l).name n sh).b ++ y) x.b.length l := by
  obtain ⟨z, hz, _⟩ := Wr.name_b (x := x.raw l) n sh
  rw [hz]
  exact ⟨x.b, z ++ y, by simp [Wr.raw], rfl⟩

section
variable (b : List UInt8) (pos en : Nat)
theorem dataR_A : dataR b pos en shpA = (match bytesR b pos en 4 with | .error e => .error e | .ok (x, q) => .ok ({ Da.zero with bytes := x }, q)) := rfl
theorem dataR_Q : dataR b pos en shpQ = (match bytesR b pos en 16 with | .error e => .error e | .ok (x, q) => .ok ({ Da.zero with bytes := x }, q)) := rfl
theorem dataR_B : dataR b pos en shpB = (match bytesR b pos en (en - pos) with | .error e => .error e | .ok (x, q) => .ok ({ Da.zero with bytes := x }, q)) := rfl
theorem dataR_T : dataR b pos en shpT = (match textsR b en 64 pos [] with | .error e => .error e | .ok (x, q) => .ok ({ Da.zero with texts := x }, q)) := rfl
theorem dataR_N : dataR b pos en shpN = (match nameX b pos en with | .error e => .error e | .ok (n, q) => .ok ({ Da.zero with host := n }, q)) := rfl
theorem dataR_M : dataR b pos en shpM = (match numsR b en 2 1 pos [] with
    | .error e => .error e
    | .ok (x, q) => match nameX b q en with
      | .error e => .error e
      | .ok (n, r) => .ok ({ Da.zero with nums := x, host := n }, r)) := rfl
theorem dataR_V : dataR b pos en shpV3 = (match numsR b en 2 3 pos [] with
    | .error e => .error e
    | .ok (x, q) => match nameX b q en with
      | .error e => .error e
      | .ok (n, r) => .ok ({ Da.zero with nums := x, host := n }, r)) := rfl
theorem dataR_S : dataR b pos en shpS = (match nameX b pos en with
    | .error e => .error e
    | .ok (n, q) => match nameX b q en with
      | .error e => .error e
      | .ok (m, r) => match numsR b en 4 5 r [] with
        | .error e => .error e
        | .ok (x, t) => .ok ({ Da.zero with nums := x, host := n, mail := m }, t)) := rfl
end
/-- What was written is read, all of it; and of one byte less nothing, but of bytes and of many texts. -/
theorem data_back {x : Wr} (hx : x.True) {k : Int} {d : Da} (hf : FineS (shapeP k) d) (y : List UInt8) :
    dataR ((x.data (shapeP k) d).b ++ y) x.b.length (x.data (shapeP k) d).b.length (shapeP k) = .ok (d, (x.data (shapeP k) d).b.length) := by
  rcases shape_cases k with e | e | e | e | e | e | e | e <;> rw [e] at hf ⊢
  · obtain ⟨bs, rfl, hl, e⟩ := data_A (x := x) hf
    rw [e]
    have h := bytesR_back (en := (x.raw bs).b.length) (seg_raw x bs y) (by rw [raw_len]; omega)
    rw [hl] at h
    rw [dataR_A]
    rw [h, raw_len, hl]; rfl
  · obtain ⟨bs, rfl, hl, e⟩ := data_Q (x := x) hf
    rw [e]
    have h := bytesR_back (en := (x.raw bs).b.length) (seg_raw x bs y) (by rw [raw_len]; omega)
    rw [hl] at h
    rw [dataR_Q]
    rw [h, raw_len, hl]; rfl
  · obtain ⟨n, rfl, hn, e⟩ := data_N (x := x) hf
    rw [e]
    have h := nameX_back hn ((hx.name hn.1 true).2.ext y) (Nat.le_refl _)
    rw [dataR_N]
    rw [h]; rfl
  · obtain ⟨ns, n, rfl, hl, hns, hn, e⟩ := data_M (x := x) hf
    rw [e]
    have h := nameX_back hn (((hx.raw (numsB ns 2)).name hn.1 true).2.ext y) (Nat.le_refl _)
    obtain ⟨z, hz, _⟩ := Wr.name_b (x := x.raw (numsB ns 2)) n true
    have h2 := numsR_back (en := ((x.raw (numsB ns 2)).name n true).b.length) (acc := []) hns (seg_name x _ y n true) (by rw [hz]; simp [Wr.raw])
    rw [hl] at h2
    rw [raw_len] at h
    rw [dataR_M]
    rw [show numsR _ _ 2 1 _ [] = _ from h2]
    simp only
    rw [h]; rfl
  · obtain ⟨ns, n, m, rfl, hl, hns, hn, hm, e⟩ := data_S (x := x) hf
    rw [e]
    have t1 := hx.name hn.1 true
    have t2 := t1.1.name hm.1 true
    obtain ⟨z, hz, _⟩ := Wr.name_b (x := x.name n true) m true
    have hw : (((x.name n true).name m true).raw (numsB ns 4)).b ++ y = (x.name n true).b ++ (z ++ numsB ns 4 ++ y) := by simp [Wr.raw, hz]
    have hw2 : (((x.name n true).name m true).raw (numsB ns 4)).b ++ y = ((x.name n true).name m true).b ++ (numsB ns 4 ++ y) := by simp [Wr.raw]
    have q1 : (x.name n true).b.length ≤ ((x.name n true).name m true).b.length := by rw [hz]; simp
    have q2 := raw_len ((x.name n true).name m true) (numsB ns 4)
    have h := nameX_back (en := (((x.name n true).name m true).raw (numsB ns 4)).b.length) hn (t1.2.ext (z ++ numsB ns 4 ++ y)) (by omega)
    have h' := nameX_back (en := (((x.name n true).name m true).raw (numsB ns 4)).b.length) hm (t2.2.ext (numsB ns 4 ++ y)) (by omega)
    rw [← hw] at h
    rw [← hw2] at h'
    have h2 := numsR_back (en := (((x.name n true).name m true).raw (numsB ns 4)).b.length) (acc := []) hns (seg_raw ((x.name n true).name m true) _ y) (by omega)
    rw [hl] at h2
    rw [dataR_S]
    rw [h]
    simp only
    rw [h']
    simp only
    rw [show numsR _ _ 4 5 _ [] = _ from h2, q2]; rfl
  · obtain ⟨ns, n, rfl, hl, hns, hn, e⟩ := data_V (x := x) hf
    rw [e]
    have h := nameX_back hn (((hx.raw (numsB ns 2)).name hn.1 false).2.ext y) (Nat.le_refl _)
    obtain ⟨z, hz, _⟩ := Wr.name_b (x := x.raw (numsB ns 2)) n false
    have h2 := numsR_back (en := ((x.raw (numsB ns 2)).name n false).b.length) (acc := []) hns (seg_name x _ y n false) (by rw [hz]; simp [Wr.raw])
    rw [hl] at h2
    rw [raw_len] at h
    rw [dataR_V]
    rw [show numsR _ _ 2 3 _ [] = _ from h2]
    simp only
    rw [h]; rfl
  · obtain ⟨ts, rfl, h1, h64, ht, e⟩ := data_T (x := x) hf
    rw [e]
    have h := textsR_back (en := (x.raw (textsB ts)).b.length) (k := 64) (acc := []) ht h64 (by simp; omega) (seg_raw x _ y) (raw_len _ _).symm
    rw [dataR_T]
    rw [h]; rfl
  · obtain ⟨bs, rfl, e⟩ := data_B (x := x) hf
    rw [e]
    have h := bytesR_back (en := (x.raw bs).b.length) (seg_raw x bs y) (by rw [raw_len]; omega)
    rw [dataR_B]
    rw [raw_len, Nat.add_sub_cancel_left]
    rw [raw_len] at h
    rw [h]; rfl
theorem textsB_len {ts : List (List UInt8)} (h : ∀ t ∈ ts, t.length ≤ 255) : (textsB ts).length ≤ 256 * ts.length := by
  induction ts with
  | nil => simp [textsB]
  | cons t ts ih =>
    have h1 := ih fun u hu => h u (List.mem_cons_of_mem _ hu)
    have h2 := h t (List.mem_cons_self ..)
    have h3 : (putB [] (t.length : Int) 1).length = 1 := putB_len_fit (fits_len h2)
    rw [textsB_cons]
    simp only [List.length_append, List.length_cons, h3]
    omega
/-- Data takes at most so much, and writes down so many rests. -/
theorem Wr.data_len (x : Wr) {k : Int} {d : Da} (hf : FineS (shapeP k) d) : x.b.length ≤ (x.data (shapeP k) d).b.length ∧ (x.data (shapeP k) d).b.length ≤ x.b.length + 65535 ∧ (x.data (shapeP k) d).rests.length ≤ x.rests.length + 510 := by
  have name_b : ∀ (y : Wr) n sh, y.b.length ≤ (y.name n sh).b.length := fun y n sh => by obtain ⟨z, hz, _⟩ := Wr.name_b (x := y) n sh; rw [hz]; simp
  rcases shape_cases k with e | e | e | e | e | e | e | e <;> rw [e] at hf ⊢
  · obtain ⟨bs, rfl, hl, e⟩ := data_A (x := x) hf; rw [e]; have := raw_len x bs; refine ⟨by omega, by omega, by simp [Wr.raw]⟩
  · obtain ⟨bs, rfl, hl, e⟩ := data_Q (x := x) hf; rw [e]; have := raw_len x bs; refine ⟨by omega, by omega, by simp [Wr.raw]⟩
  · obtain ⟨n, rfl, hn, e⟩ := data_N (x := x) hf; rw [e]
    have h1 := Wr.name_le (x := x) n true; have h2 := Wr.name_rests (x := x) n true; have h3 := name_b x n true; have h4 := sizeN_length n; have h5 := hn.2
    exact ⟨h3, by omega, by omega⟩
  · obtain ⟨ns, n, rfl, hl, hns, hn, e⟩ := data_M (x := x) hf; rw [e]
    have h0 := raw_len x (numsB ns 2); have h00 := numsB_len hns; rw [hl] at h00
    have h1 := Wr.name_le (x := x.raw (numsB ns 2)) n true; have h2 := Wr.name_rests (x := x.raw (numsB ns 2)) n true; have h3 := name_b (x.raw (numsB ns 2)) n true; have h4 := sizeN_length n; have h5 := hn.2
    have h6 : (x.raw (numsB ns 2)).rests = x.rests := rfl
    rw [h6] at h2
    have h7 : (numsB ns 2).length = 2 := h00
    exact ⟨by omega, by omega, by omega⟩
  · obtain ⟨ns, n, m, rfl, hl, hns, hn, hm, e⟩ := data_S (x := x) hf; rw [e]
    have h0 := raw_len ((x.name n true).name m true) (numsB ns 4); have h00 := numsB_len hns; rw [hl] at h00
    have h1 := Wr.name_le (x := x) n true; have h2 := Wr.name_rests (x := x) n true; have h3 := name_b x n true; have h4 := sizeN_length n; have h5 := hn.2
    have h1' := Wr.name_le (x := x.name n true) m true; have h2' := Wr.name_rests (x := x.name n true) m true; have h3' := name_b (x.name n true) m true; have h4' := sizeN_length m; have h5' := hm.2
    have h6 : (((x.name n true).name m true).raw (numsB ns 4)).rests = ((x.name n true).name m true).rests := rfl
    have h7 : (numsB ns 4).length = 20 := h00
    rw [h6]
    exact ⟨by omega, by omega, by omega⟩
  · obtain ⟨ns, n, rfl, hl, hns, hn, e⟩ := data_V (x := x) hf; rw [e]
    have h0 := raw_len x (numsB ns 2); have h00 := numsB_len hns; rw [hl] at h00
    have h1 := Wr.name_le (x := x.raw (numsB ns 2)) n false; have h2 := Wr.name_rests (x := x.raw (numsB ns 2)) n false; have h3 := name_b (x.raw (numsB ns 2)) n false; have h4 := sizeN_length n; have h5 := hn.2
    have h6 : (x.raw (numsB ns 2)).rests = x.rests := rfl
    rw [h6] at h2
    have h7 : (numsB ns 2).length = 6 := h00
    exact ⟨by omega, by omega, by omega⟩
  · obtain ⟨ts, rfl, h1, h64, ht, e⟩ := data_T (x := x) hf; rw [e]; have := raw_len x (textsB ts); have := textsB_len ht; exact ⟨by omega, by omega, by simp [Wr.raw]⟩
  · obtain ⟨bs, he, e⟩ := data_B (x := x) hf
    have h6 : bs.length ≤ 65535 := by have := hf.2.1; rw [he] at this; exact this
    rw [e]; have := raw_len x bs; exact ⟨by omega, by omega, by simp [Wr.raw]⟩
theorem getD_back {x : Wr} (hx : x.True) {k : Int} {d : Da} (hf : FineD k d) (y : List UInt8) {z : Nat} (hz : x.b.length + z = (x.data (shapeP k) d).b.length) :
    getD ((x.data (shapeP k) d).b ++ y) (x.b.length : Int) (z : Int) k = (d, 0) := by
  have h1 := hf.1
  unfold getD
  rw [if_neg (by omega), if_neg (by rw [List.length_append]; omega), Int.toNat_natCast, Int.toNat_natCast, hz, data_back hx hf.2 y]
  simp
end Go.Proofs.Ytimkdpkhdbiniaa

/- wname: bytes in the place of bytes, in plain Lean. No program in it. -/
namespace Go.Proofs.Ytimkdpkhdbiniaa

/-- Bytes in the place of bytes. -/
def putAt (bs : List UInt8) (k : Nat) (r : List UInt8) : List UInt8 := bs.take k ++ (r ++ bs.drop (k + r.length))
theorem putAt_length {bs r : List UInt8} {k : Nat} (h : k + r.length ≤ bs.length) : (putAt bs k r).length = bs.length := by simp [putAt]; omega
def Wr.put (x : Wr) (k : Nat) (r : List UInt8) : Wr := { x with b := putAt x.b k r }
end Go.Proofs.Ytimkdpkhdbiniaa

/- rr: how a record is written, and that it is read as it is, in plain Lean. No program in it. -/
namespace Go.Proofs.Ytimkdpkhdbiniaa
set_option maxRecDepth 100000

/-- May a record be? -/
def FineR (r : RR) : Prop := SoundN r.name ∧ FineD r.type r.data ∧ fitsB r.cls 2 = true ∧ 0 ≤ r.ttl ∧ r.ttl < 2147483648
noncomputable def fineRB (r : RR) : Bool := @decide (FineR r) (Classical.propDecidable _)
theorem fineRB_true {r : RR} (h : FineR r) : fineRB r = true := by unfold fineRB; simpa using h
theorem fineRB_false {r : RR} (h : ¬ FineR r) : fineRB r = false := by unfold fineRB; simpa using h
theorem fineRB_iff {r : RR} : fineRB r = true ↔ FineR r := by unfold fineRB; simp

/-- What is appended does not hang on what stands there, but on how much. -/
def Op (f : Wr → Wr) : Prop := ∀ x x' : Wr, x.b.length = x'.b.length → x.rests = x'.rests → ∃ z, (f x).b = x.b ++ z ∧ (f x').b = x'.b ++ z ∧ (f x).rests = (f x').rests
theorem Op.id : Op (fun x => x) := fun _ _ _ hr => ⟨[], by simp, by simp, hr⟩
theorem Op.comp {f g : Wr → Wr} (hf : Op f) (hg : Op g) : Op (fun x => g (f x)) := fun x x' hl hr => by
  obtain ⟨z, h1, h2, h3⟩ := hf x x' hl hr
  obtain ⟨z', h4, h5, h6⟩ := hg (f x) (f x') (by rw [h1, h2]; simp [hl]) h3
  exact ⟨z ++ z', by rw [h4, h1, List.append_assoc], by rw [h5, h2, List.append_assoc], h6⟩
theorem Wr.raw_rests (x : Wr) (l : List UInt8) : (x.raw l).rests = x.rests := rfl
theorem Op.raw (l : List UInt8) : Op (fun x => x.raw l) := fun _ _ _ hr => ⟨l, rfl, rfl, hr⟩
theorem Op.note (r : List UInt8) : Op (fun x => x.note r) := fun x x' hl hr => by
  simp only [Wr.note]
  rw [hl]
  split
  · exact ⟨[], by simp, by simp, by simp [hr]⟩
  · exact ⟨[], by simp, by simp, hr⟩
theorem Op.name (n : List (List UInt8)) (sh : Bool) : Op (fun x => x.name n sh) := by
  induction n with
  | nil => exact Op.raw [0]
  | cons l n ih =>
    intro x x' hl hr
    have h1 := (Op.raw (UInt8.ofNat l.length :: l)).comp ih
    have h2 := (Op.note (restB (l :: n))).comp h1
    simp only [Wr.name]
    rw [hr]
    split
    · split
      · exact Op.raw _ x x' hl hr
      · exact h1 x x' hl hr
    · exact h2 x x' hl hr
theorem Op.ite {f g : Wr → Wr} {c : Prop} [Decidable c] (hf : Op f) (hg : Op g) : Op (fun x => if c then f x else g x) := by
  by_cases h : c
  · simpa [h] using hf
  · simpa [h] using hg
theorem Op.texts (ts : List (List UInt8)) : Op (fun x => x.texts ts) := by
  have : (fun x : Wr => x.texts ts) = fun x => x.raw (textsB ts) := funext fun x => Wr.texts_b x ts
  rw [this]; exact Op.raw _
theorem Op.nums (ns : List Int) (z : Int) : Op (fun x => x.nums ns z) := by
  have : (fun x : Wr => x.nums ns z) = fun x => x.raw (numsB ns z) := funext fun x => Wr.nums_b x ns z
  rw [this]; exact Op.raw _
theorem Op.data (s : Shp) (d : Da) : Op (fun x => x.data s d) := by
  have h1 := (Op.raw d.bytes).comp (Op.texts d.texts)
  have h2 := h1.comp (Op.ite (c := s.first = true) (Op.nums d.nums s.size) Op.id)
  have h3 := h2.comp (Op.ite (c := s.host = true) (Op.name d.host s.short) Op.id)
  have h4 := h3.comp (Op.ite (c := s.mail = true) (Op.name d.mail s.short) Op.id)
  exact h4.comp (Op.ite (c := s.first = true) Op.id (Op.nums d.nums s.size))

/-- The head of a record: its name and what stands ahead of the data's length. -/
def Wr.rrHead (x : Wr) (r : RR) : Wr := (((x.name r.name true).raw (putB [] r.type 2)).raw (putB [] r.cls 2)).raw (putB [] r.ttl 4)
/-- How a record is written: the data's length is put in its place behind the data. -/
def Wr.rr (x : Wr) (r : RR) : Wr :=
  let y := ((x.rrHead r).raw (putB [] 0 2)).data (shapeP r.type) r.data
  y.put (x.rrHead r).b.length (putB [] (y.b.length - (x.rrHead r).b.length - 2 : Nat) 2)
/-- The data's length. -/
def Wr.rrLen (x : Wr) (r : RR) : Nat := (((x.rrHead r).raw (putB [] 0 2)).data (shapeP r.type) r.data).b.length - (x.rrHead r).b.length - 2
theorem fits2 {n : Nat} (h : n < 65536) : fitsB (n : Int) 2 = true := by unfold fitsB; simp; omega
theorem put2_len (n : Nat) (h : n < 65536) : (putB [] (n : Int) 2).length = 2 := by rw [putB_len_fit (fits2 h)]; rfl
theorem put02_len : (putB [] (0 : Int) 2).length = 2 := put2_len 0 (by omega)
theorem putAt_mid (a l l' z : List UInt8) (h : l.length = l'.length) : putAt (a ++ l ++ z) a.length l' = a ++ l' ++ z := by
  unfold putAt
  rw [← h, List.append_assoc, List.take_left, ← List.append_assoc, ← List.append_assoc]
  congr 1
  rw [show a.length + l.length = (a ++ l).length by rw [List.length_append], List.drop_left]
/-- As if the length had been there from the first. -/
theorem Wr.rr_eq (x : Wr) (r : RR) (h : x.rrLen r < 65536) : x.rr r = ((x.rrHead r).raw (putB [] (x.rrLen r : Int) 2)).data (shapeP r.type) r.data := by
  have h0 := put02_len
  have hl := put2_len _ h
  obtain ⟨z, h1, h2, h3⟩ := Op.data (shapeP r.type) r.data ((x.rrHead r).raw (putB [] 0 2)) ((x.rrHead r).raw (putB [] (x.rrLen r : Int) 2)) (by rw [raw_len, raw_len, h0, hl]) (by rw [Wr.raw_rests, Wr.raw_rests])
  have hb : (x.rr r).b = (((x.rrHead r).raw (putB [] (x.rrLen r : Int) 2)).data (shapeP r.type) r.data).b := by
    rw [h2]
    show putAt (((x.rrHead r).raw (putB [] 0 2)).data (shapeP r.type) r.data).b (x.rrHead r).b.length (putB [] (x.rrLen r : Int) 2) = _
    rw [h1]
    exact putAt_mid _ _ _ _ (by rw [h0, hl])
  have hr : (x.rr r).rests = (((x.rrHead r).raw (putB [] (x.rrLen r : Int) 2)).data (shapeP r.type) r.data).rests := h3
  cases hx : x.rr r
  cases hy : ((x.rrHead r).raw (putB [] (x.rrLen r : Int) 2)).data (shapeP r.type) r.data
  rw [hx, hy] at hb hr
  simp only at hb hr
  rw [hb, hr]

theorem Wr.rrLen_lt (x : Wr) {r : RR} (h : FineR r) : x.rrLen r < 65536 := by
  have h1 := Wr.data_len ((x.rrHead r).raw (putB [] 0 2)) h.2.1.2
  have h0 := put02_len
  have h2 := raw_len (x.rrHead r) (putB [] 0 2)
  unfold Wr.rrLen
  omega
theorem fits4 {n : Int} (h0 : 0 ≤ n) (h : n < 2147483648) : fitsB n 4 = true := by unfold fitsB; simp; omega
theorem fitsK {k : Int} {d : Da} (h : FineD k d) : fitsB k 2 = true := by unfold fitsB; simp; have := h.1; omega
theorem Wr.rrHead_b (x : Wr) (r : RR) : (x.rrHead r).b = (x.name r.name true).b ++ (putB [] r.type 2 ++ putB [] r.cls 2 ++ putB [] r.ttl 4) := by simp [Wr.rrHead, Wr.raw]
theorem Wr.rrHead_len (x : Wr) {r : RR} (h : FineR r) : (x.rrHead r).b.length = (x.name r.name true).b.length + 8 := by
  rw [Wr.rrHead_b]
  have h1 := putB_len_fit (fitsK h.2.1)
  have h2 := putB_len_fit h.2.2.1
  have h3 := putB_len_fit (fits4 h.2.2.2.1 h.2.2.2.2)
  simp only [List.length_append]
  rw [h1, h2, h3]
  rfl
theorem Wr.True.rr {x : Wr} (hx : x.True) {r : RR} (h : FineR r) : (x.rr r).True := by
  rw [Wr.rr_eq x r (x.rrLen_lt h)]
  exact (((((hx.name h.1.1 true).1.raw _).raw _).raw _).raw _).data h.2.1.2
theorem Wr.rr_len (x : Wr) {r : RR} (h : FineR r) : (x.rr r).b.length = (x.name r.name true).b.length + 10 + x.rrLen r ∧ (x.rr r).rests.length ≤ x.rests.length + 765 := by
  have h1 := Wr.rr_eq x r (x.rrLen_lt h)
  have hl := x.rrLen_lt h
  obtain ⟨z, h2, h3, h4⟩ := Op.data (shapeP r.type) r.data ((x.rrHead r).raw (putB [] 0 2)) ((x.rrHead r).raw (putB [] (x.rrLen r : Int) 2)) (by rw [raw_len, raw_len, put2_len _ hl]; rw [put02_len]) (by rw [Wr.raw_rests, Wr.raw_rests])
  have h0 := put02_len
  have h5 := x.rrHead_len h
  have hz : x.rrLen r = z.length := by
    unfold Wr.rrLen
    rw [h2, List.length_append, raw_len, h0]
    omega
  have h6 := Wr.data_len ((x.rrHead r).raw (putB [] (x.rrLen r : Int) 2)) h.2.1.2
  have h7 := Wr.name_rests (x := x) r.name true
  have h8 := sizeN_length r.name
  have h9 := h.1.2
  have h10 : ((x.rrHead r).raw (putB [] (x.rrLen r : Int) 2)).rests = (x.name r.name true).rests := rfl
  rw [h10] at h6
  rw [h1]
  refine ⟨?_, by omega⟩
  rw [h3, List.length_append, raw_len, put2_len _ hl]
  omega
theorem Wr.rr_ext (x : Wr) {r : RR} (h : FineR r) : ∃ z, (x.rr r).b = x.b ++ z := by
  rw [Wr.rr_eq x r (x.rrLen_lt h)]
  obtain ⟨z, h2, _⟩ := Op.data (shapeP r.type) r.data ((x.rrHead r).raw (putB [] (x.rrLen r : Int) 2)) _ rfl rfl
  obtain ⟨z', h3, _⟩ := Wr.name_b (x := x) r.name true
  exact ⟨z' ++ (putB [] r.type 2 ++ (putB [] r.cls 2 ++ (putB [] r.ttl 4 ++ (putB [] (x.rrLen r : Int) 2 ++ z)))), by rw [show (((x.rrHead r).raw (putB [] (x.rrLen r : Int) 2)).data (shapeP r.type) r.data).b = _ from h2]; simp only [Wr.raw]; rw [Wr.rrHead_b, h3]; simp only [List.append_assoc]⟩

theorem numA_seg {b : List UInt8} {p : Nat} {n z : Int} (hf : fitsB n z = true) (h : Seg b p (putB [] n z)) : (numA b p z.toNat : Int) = n := by
  have h2 := fitsB_true hf
  have hc := h.cut
  rw [putB_len_fit hf] at hc
  unfold numA
  rw [hc]
  unfold putB
  rw [if_pos hf, List.nil_append, val_be _ _ (fits_nat hf)]
  omega
/-- What was written is read, whatever stands behind it. -/
theorem getRR_back {x : Wr} (hx : x.True) {r : RR} (h : FineR r) (y : List UInt8) : getRR ((x.rr r).b ++ y) (x.b.length : Int) = (r, ((x.rr r).b.length : Int), 0) := by
  have hlen := (x.rr_len h).1
  have hlt := x.rrLen_lt h
  have hfk := fitsK h.2.1
  have hft := fits4 h.2.2.2.1 h.2.2.2.2
  have l1 := putB_len_fit hfk
  have l2 := putB_len_fit h.2.2.1
  have l3 := putB_len_fit hft
  have l4 := put2_len _ hlt
  have hhd := x.rrHead_len h
  have ht := (hx.name h.1.1 true)
  have hth : ((x.rrHead r).raw (putB [] (x.rrLen r : Int) 2)).True := (((ht.1.raw _).raw _).raw _).raw _
  have hrw := Wr.rr_eq x r hlt
  obtain ⟨z, h2, _⟩ := Op.data (shapeP r.type) r.data ((x.rrHead r).raw (putB [] (x.rrLen r : Int) 2)) _ rfl rfl
  have hB : (x.rr r).b ++ y = (x.name r.name true).b ++ (putB [] r.type 2 ++ putB [] r.cls 2 ++ putB [] r.ttl 4 ++ (putB [] (x.rrLen r : Int) 2 ++ z ++ y)) := by
    rw [hrw, h2]
    simp only [Wr.raw]
    rw [Wr.rrHead_b]
    simp only [List.append_assoc]
  obtain ⟨p, hp⟩ : ∃ p, p = (x.name r.name true).b.length := ⟨_, rfl⟩
  have hname : nameA ((x.rr r).b ++ y) (x.b.length : Int) = (r.name, (p : Int), 0) := by
    unfold nameA
    rw [if_neg (by omega), Int.toNat_natCast, hB, (ht.2.ext _).read 0 [] (by simpa using h.1.2), List.nil_append, Nat.zero_max, hp]
  have sg : Seg ((x.rr r).b ++ y) p (putB [] r.type 2 ++ putB [] r.cls 2 ++ putB [] r.ttl 4 ++ putB [] (x.rrLen r : Int) 2) :=
    ⟨(x.name r.name true).b, z ++ y, by rw [hB]; simp only [List.append_assoc], hp.symm⟩
  have s1 := numA_seg hfk sg.left.left.left
  have s2 := numA_seg h.2.2.1 sg.left.left.right
  have s3 := numA_seg hft sg.left.right
  have s4 := numA_seg (fits2 hlt) sg.right
  rw [l1] at s2
  rw [List.length_append, l1, l2] at s3
  rw [List.length_append, List.length_append, l1, l2, l3] at s4
  have s1' : (numA ((x.rr r).b ++ y) p 2 : Int) = r.type := s1
  have s2' : (numA ((x.rr r).b ++ y) (p + 2) 2 : Int) = r.cls := s2
  have s3' : (numA ((x.rr r).b ++ y) (p + 4) 4 : Int) = r.ttl := s3
  have s4' : (numA ((x.rr r).b ++ y) (p + 8) 2 : Int) = (x.rrLen r : Int) := s4
  have hq : ((x.rrHead r).raw (putB [] (x.rrLen r : Int) 2)).b.length = p + 10 := by rw [raw_len, l4, hhd, hp]
  have hg := getD_back hth h.2.1 y (z := x.rrLen r) (by rw [← hrw, hq, hlen, hp])
  rw [← hrw, hq] at hg
  have htt : ttlA ((x.rr r).b ++ y) p = r.ttl := by
    unfold ttlA
    have := h.2.2.2.2
    rw [if_neg (by omega), s3']
  have hk1 := h.2.1.1
  unfold getRR
  rw [hname]
  simp only [ne_eq, not_true_eq_false, if_false, Int.toNat_natCast]
  unfold getRR1
  rw [s4', s1', hg, s2', htt, if_neg (by rw [List.length_append]; omega), if_neg (by omega), if_neg (by simp)]
  have s5 : numA ((x.rr r).b ++ y) (p + 8) 2 = x.rrLen r := by omega
  rw [s5, hlen, hp]
end Go.Proofs.Ytimkdpkhdbiniaa

/- The reference's writer: what is known of rests. No program in it. -/
namespace Go.Proofs.Ytimkdpkhdbiniaa
open Go.RowKit

/-- What is known of rests may be so. -/
def RW.Fine (x : RW) : Prop := ∀ r ∈ x.rests, r.1 < 16384 ∧ SoundN r.2
theorem RW.fine_nil : RW.nil.Fine := fun _ h => (List.not_mem_nil h).elim
theorem RW.Fine.raw {x : RW} (h : x.Fine) (bs : List UInt8) : (x.raw bs).Fine := h
theorem RW.Fine.note {x : RW} (h : x.Fine) {n : List (List UInt8)} (hn : SoundN n) : (x.note n).Fine := by
  unfold RW.note
  split
  · intro r hr
    rcases List.mem_append.1 hr with hr | hr
    · exact h r hr
    · rw [List.mem_singleton] at hr
      subst hr
      exact ⟨by assumption, hn⟩
  · exact h
theorem RW.Fine.name {n : List (List UInt8)} (hn : SoundN n) (short : Bool) {x : RW} (h : x.Fine) : (x.name n short).Fine := by
  induction n generalizing x with
  | nil => exact h
  | cons l n ih =>
    have h1 := ih hn.tail ((h.note hn).raw (UInt8.ofNat l.length :: l))
    unfold RW.name
    split
    · split
      · exact h
      · exact h1
    · exact h1
end Go.Proofs.Ytimkdpkhdbiniaa

/- The reference's PutRR, in plain Lean; that both writers write the same. No program in it. -/
namespace Go.Proofs.Ytimkdpkhdbiniaa
set_option maxRecDepth 100000

def RW.rrHead (y : RW) (r : RR) : RW := (((y.name r.name true).raw (putB [] r.type 2)).raw (putB [] r.cls 2)).raw (putB [] r.ttl 4)
/-- How the reference writes a record. -/
def RW.rr (y : RW) (r : RR) : RW :=
  let z := ((y.rrHead r).raw (putB [] 0 2)).data (shapeP r.type) r.data
  { z with b := putAt z.b (y.rrHead r).b.length (putB [] (z.b.length - (y.rrHead r).b.length - 2 : Nat) 2) }
theorem Alike.rrHead {x : Wr} {y : RW} (h : Alike x y) {r : RR} (hf : FineR r) : Alike (x.rrHead r) (y.rrHead r) :=
  (((Alike.name (small_of_sound hf.1) true h).raw _).raw _).raw _
theorem Alike.rr {x : Wr} {y : RW} (h : Alike x y) {r : RR} (hf : FineR r) : Alike (x.rr r) (y.rr r) := by
  have h1 := h.rrHead hf
  have h2 := (h1.raw (putB [] 0 2)).data hf.2.1.2
  refine ⟨?_, h2.2.1, h2.2.2⟩
  show putAt _ _ _ = putAt _ _ _
  rw [h2.1, h1.1]
theorem RW.Fine.textsP {y : RW} (h : y.Fine) (ts : List (List UInt8)) : (y.texts ts).Fine := by
  refine snoc_ind (P := fun ts => (y.texts ts).Fine) h (fun ts t ih => ?_) ts
  rw [RW.texts_snoc]
  exact (ih.raw _).raw _
theorem RW.Fine.numsP {y : RW} (h : y.Fine) (ns : List Int) (z : Int) : (y.nums ns z).Fine := by
  refine snoc_ind (P := fun ns => (y.nums ns z).Fine) h (fun ns n ih => ?_) ns
  rw [RW.nums_snoc]
  exact ih.raw _
theorem RW.Fine.data {y : RW} (h : y.Fine) {k : Int} {d : Da} (hf : FineS (shapeP k) d) : (y.data (shapeP k) d).Fine := by
  obtain ⟨_, _, _, hh, hm, _, _⟩ := hf
  have h1 := (h.raw d.bytes).textsP d.texts
  unfold RW.data
  simp only
  have h2 : (if (shapeP k).first = true then ((y.raw d.bytes).texts d.texts).nums d.nums (shapeP k).size else (y.raw d.bytes).texts d.texts).Fine := by
    split
    · exact h1.numsP _ _
    · exact h1
  generalize (if (shapeP k).first = true then ((y.raw d.bytes).texts d.texts).nums d.nums (shapeP k).size else (y.raw d.bytes).texts d.texts) = y2 at h2 ⊢
  have h3 : (if (shapeP k).host = true then y2.name d.host (shapeP k).short else y2).Fine := by
    unfold hostP at hh
    split
    · rename_i e
      rw [if_pos e] at hh
      exact RW.Fine.name hh _ h2
    · exact h2
  generalize (if (shapeP k).host = true then y2.name d.host (shapeP k).short else y2) = y3 at h3 ⊢
  have h4 : (if (shapeP k).mail = true then y3.name d.mail (shapeP k).short else y3).Fine := by
    unfold hostP at hm
    split
    · rename_i e
      rw [if_pos e] at hm
      exact RW.Fine.name hm _ h3
    · exact h3
  split
  · exact h4
  · exact h4.numsP _ _
theorem RW.Fine.rr {y : RW} (h : y.Fine) {r : RR} (hf : FineR r) : (y.rr r).Fine := by
  have h1 : (y.rrHead r).Fine := (((RW.Fine.name hf.1 true h).raw _).raw _).raw _
  exact (h1.raw (putB [] 0 2)).data hf.2.1.2
theorem put2_bytes {n : Nat} (h : n < 65536) : putB [] (n : Int) 2 = [UInt8.ofNat (n / 256), UInt8.ofNat n] := by
  unfold putB
  rw [if_pos (fits2 h)]
  rfl
theorem set_two (b : List UInt8) (k : Nat) (x y : UInt8) (h : k + 2 ≤ b.length) : (b.set k x).set (k + 1) y = putAt b k [x, y] := by
  apply List.ext_getElem?
  intro i
  unfold putAt
  simp only [List.length_cons, List.length_nil, Nat.zero_add]
  rw [List.getElem?_set, List.getElem?_set, List.getElem?_append]
  simp only [List.length_set, List.length_take]
  rw [Nat.min_eq_left (by omega)]
  by_cases h1 : i < k
  · rw [if_neg (by omega), if_neg (by omega), if_pos h1, List.getElem?_take, if_pos h1]
  · rw [if_neg h1]
    by_cases h2 : i = k
    · subst h2
      rw [if_neg (by omega), if_pos rfl, if_pos (by omega), Nat.sub_self]
      rfl
    · by_cases h3 : i = k + 1
      · subst h3
        rw [if_pos rfl, if_pos (by omega), show k + 1 - k = 1 by omega]
        rfl
      · rw [if_neg (by omega), if_neg (by omega)]
        obtain ⟨j, rfl⟩ : ∃ j, i = k + 2 + j := ⟨i - (k + 2), by omega⟩
        rw [show k + 2 + j - k = j + 2 by omega]
        simp only [List.cons_append, List.nil_append, List.getElem?_cons_succ, List.getElem?_drop]
end Go.Proofs.Ytimkdpkhdbiniaa

/- The reference's writer: how many rests a record notes. No program in it. -/
namespace Go.Proofs.Ytimkdpkhdbiniaa
open Go.RowKit
set_option maxRecDepth 100000

theorem RW.data_rests (y : RW) {k : Int} {d : Da} (hf : FineS (shapeP k) d) : (y.data (shapeP k) d).rests.length ≤ y.rests.length + 510 := by
  obtain ⟨_, _, _, hh, hm, _, _⟩ := hf
  have nm : ∀ (y2 : RW) (n : List (List UInt8)) (b s : Bool), hostP b n → (if b = true then y2.name n s else y2).rests.length ≤ y2.rests.length + 255 := by
    intro y2 n b s h
    unfold hostP at h
    split
    · rename_i e
      rw [if_pos e] at h
      have h1 := RW.name_rests (x := y2) n s
      have h2 := sizeN_length n
      have h3 := h.2
      omega
    · omega
  have nu : ∀ (y2 : RW) (b : Bool), (if b = true then y2.nums d.nums (shapeP k).size else y2).rests = y2.rests := by
    intro y2 b
    split
    · exact (y2.nums_len d.nums _).2
    · rfl
  have nu2 : ∀ (y2 : RW) (b : Bool), (if b = true then y2 else y2.nums d.nums (shapeP k).size).rests = y2.rests := by
    intro y2 b
    split
    · rfl
    · exact (y2.nums_len d.nums _).2
  have ht : ((y.raw d.bytes).texts d.texts).rests = y.rests := by
    have h := snoc_ind (P := fun ts => ((y.raw d.bytes).texts ts).rests = y.rests) rfl (fun ts t ih => by rw [RW.texts_snoc]; exact ih) d.texts
    exact h
  unfold RW.data
  simp only
  rw [nu2]
  have h4 := nm (if (shapeP k).host = true then (if (shapeP k).first = true then ((y.raw d.bytes).texts d.texts).nums d.nums (shapeP k).size else (y.raw d.bytes).texts d.texts).name d.host (shapeP k).short else if (shapeP k).first = true then ((y.raw d.bytes).texts d.texts).nums d.nums (shapeP k).size else (y.raw d.bytes).texts d.texts) d.mail (shapeP k).mail (shapeP k).short hm
  have h3 := nm (if (shapeP k).first = true then ((y.raw d.bytes).texts d.texts).nums d.nums (shapeP k).size else (y.raw d.bytes).texts d.texts) d.host (shapeP k).host (shapeP k).short hh
  rw [nu, ht] at h3
  omega
theorem RW.rr_rests (y : RW) {r : RR} (hf : FineR r) : (y.rr r).rests.length ≤ y.rests.length + 765 := by
  have h1 := RW.data_rests ((y.rrHead r).raw (putB [] 0 2)) hf.2.1.2
  have h2 := RW.name_rests (x := y) r.name true
  have h3 := sizeN_length r.name
  have h4 := hf.1.2
  have h5 : (y.rr r).rests = (((y.rrHead r).raw (putB [] 0 2)).data (shapeP r.type) r.data).rests := rfl
  have h6 : ((y.rrHead r).raw (putB [] 0 2)).rests = (y.name r.name true).rests := rfl
  rw [h6] at h1
  rw [h5]
  omega
end Go.Proofs.Ytimkdpkhdbiniaa

/- Messages, in plain Lean: which may be, and how one is written. No program in it. -/
namespace Go.Proofs.Ytimkdpkhdbiniaa
open Go.RowKit
set_option maxRecDepth 100000

/-- A question that may be. -/
def FineQ (q : Qu) : Prop := SoundN q.name ∧ 1 ≤ q.type ∧ fitsB q.type 2 = true ∧ fitsB q.cls 2 = true
noncomputable def fineQ (q : Qu) : Bool := soundB q.name && (decide (1 ≤ q.type) && (fitsB q.type 2 && fitsB q.cls 2))
theorem fineQ_iff {q : Qu} : fineQ q = true ↔ FineQ q := by
  unfold fineQ FineQ
  rw [Bool.and_eq_true, Bool.and_eq_true, Bool.and_eq_true, decide_eq_true_iff, soundB_iff]
/-- A record that may be in a message. -/
def FineK (r : RR) : Prop := r.type ≠ 41 ∧ FineR r
noncomputable def fineK (r : RR) : Bool := !(decide (r.type = 41)) && fineRB r
theorem fineK_iff {r : RR} : fineK r = true ↔ FineK r := by
  unfold fineK FineK
  rw [Bool.and_eq_true, fineRB_iff]
  simp
def totM (m : Ms) : Nat := m.qs.length + m.an.length + m.au.length + m.ex.length
structure FineM (m : Ms) : Prop where
  tot : totM m ≤ 512
  id : fitsB m.id 2 = true
  op0 : 0 ≤ m.op
  op : m.op < 16
  rc0 : 0 ≤ m.rcode
  rc : m.rcode < 16
  size : fitsB m.size 2 = true
  edns : m.edns = true ∨ m.size = 0
  qs : ∀ q ∈ m.qs, FineQ q
  an : ∀ r ∈ m.an, FineK r
  au : ∀ r ∈ m.au, FineK r
  ex : ∀ r ∈ m.ex, FineK r
open Classical in
noncomputable def fineM (m : Ms) : Bool := decide (FineM m)
open Classical in
theorem fineM_yes {m : Ms} (h : FineM m) : fineM m = true := by unfold fineM; exact decide_eq_true h
open Classical in
theorem fineM_no {m : Ms} (h : ¬ FineM m) : fineM m = false := by unfold fineM; exact decide_eq_false h

theorem Wr.data_len2 (x : Wr) {k : Int} {d : Da} (hf : FineS (shapeP k) d) : (x.data (shapeP k) d).b.length ≤ x.b.length + 16384 + d.bytes.length := by
  rcases shape_cases k with e | e | e | e | e | e | e | e <;> rw [e] at hf ⊢
  · obtain ⟨bs, rfl, hl, e⟩ := data_A (x := x) hf; rw [e]; have := raw_len x bs; show _ ≤ _ + _ + bs.length; omega
  · obtain ⟨bs, rfl, hl, e⟩ := data_Q (x := x) hf; rw [e]; have := raw_len x bs; show _ ≤ _ + _ + bs.length; omega
  · obtain ⟨n, rfl, hn, e⟩ := data_N (x := x) hf; rw [e]
    have h1 := Wr.name_le (x := x) n true; have h5 := hn.2
    omega
  · obtain ⟨ns, n, rfl, hl, hns, hn, e⟩ := data_M (x := x) hf; rw [e]
    have h0 := raw_len x (numsB ns 2); have h00 := numsB_len hns; rw [hl] at h00
    have h1 := Wr.name_le (x := x.raw (numsB ns 2)) n true; have h5 := hn.2
    have h7 : (numsB ns 2).length = 2 := h00
    omega
  · obtain ⟨ns, n, m, rfl, hl, hns, hn, hm, e⟩ := data_S (x := x) hf; rw [e]
    have h0 := raw_len ((x.name n true).name m true) (numsB ns 4); have h00 := numsB_len hns; rw [hl] at h00
    have h1 := Wr.name_le (x := x) n true; have h5 := hn.2
    have h1' := Wr.name_le (x := x.name n true) m true; have h5' := hm.2
    have h7 : (numsB ns 4).length = 20 := h00
    omega
  · obtain ⟨ns, n, rfl, hl, hns, hn, e⟩ := data_V (x := x) hf; rw [e]
    have h0 := raw_len x (numsB ns 2); have h00 := numsB_len hns; rw [hl] at h00
    have h1 := Wr.name_le (x := x.raw (numsB ns 2)) n false; have h5 := hn.2
    have h7 : (numsB ns 2).length = 6 := h00
    omega
  · obtain ⟨ts, rfl, h1, h64, ht, e⟩ := data_T (x := x) hf; rw [e]; have := raw_len x (textsB ts); have := textsB_len ht; omega
  · obtain ⟨bs, he, e⟩ := data_B (x := x) hf
    rw [e, he]; have := raw_len x bs; show _ ≤ _ + _ + bs.length; omega
theorem Wr.rr_len2 (x : Wr) {r : RR} (h : FineR r) : (x.rr r).b.length ≤ x.b.length + 16660 + r.data.bytes.length := by
  have h1 := (x.rr_len h).1
  have h2 := Wr.data_len2 ((x.rrHead r).raw (putB [] 0 2)) h.2.1.2
  have h3 := Wr.name_le (x := x) r.name true
  have h4 := h.1.2
  have h5 := raw_len (x.rrHead r) (putB [] 0 2)
  have h6 := put02_len
  have h7 : x.rrLen r = (((x.rrHead r).raw (putB [] 0 2)).data (shapeP r.type) r.data).b.length - (x.rrHead r).b.length - 2 := rfl
  omega

/-- The second number of a message's head. -/
def bitN (b : Bool) (n : Int) : Int := if b = true then n else 0
def flagsN (m : Ms) : Int := bitN m.resp 32768 + m.op * 2048 + bitN m.aa 1024 + bitN m.tc 512 + bitN m.rd 256 + bitN m.ra 128 + m.rcode
theorem flagsN_fits {m : Ms} (h : FineM m) : 0 ≤ flagsN m ∧ flagsN m < 65536 := by
  have h0 := h.op0; have h1 := h.op; have h2 := h.rc0; have h3 := h.rc
  unfold flagsN bitN
  constructor
  · split <;> split <;> split <;> split <;> split <;> omega
  · split <;> split <;> split <;> split <;> split <;> omega
def headN (m : Ms) : List Int := [m.id, flagsN m, m.qs.length, m.an.length, m.au.length, m.ex.length + bitN m.edns 1]

section
/-- How the program writes. -/
def Wr.num2 (x : Wr) (n : Int) : Wr := x.raw (putB [] n 2)
def Wr.qu (x : Wr) (q : Qu) : Wr := ((x.name q.name true).num2 q.type).num2 q.cls
def Wr.nums2 (x : Wr) (l : List Int) : Wr := l.foldl Wr.num2 x
def Wr.qus (x : Wr) (l : List Qu) : Wr := l.foldl Wr.qu x
def Wr.rrs (x : Wr) (l : List RR) : Wr := l.foldl Wr.rr x
def Wr.opt (x : Wr) (m : Ms) : Wr := if m.edns = true then (((x.raw [0]).num2 41).num2 m.size).raw (putB [] 0 6) else x
def msW (m : Ms) : Wr := (((((Wr.nil.nums2 (headN m)).qus m.qs).rrs m.an).rrs m.au).rrs m.ex).opt m
/-- How the reference writes. -/
def RW.num2 (x : RW) (n : Int) : RW := x.raw (putB [] n 2)
def RW.qu (x : RW) (q : Qu) : RW := ((x.name q.name true).num2 q.type).num2 q.cls
def RW.nums2 (x : RW) (l : List Int) : RW := l.foldl RW.num2 x
def RW.qus (x : RW) (l : List Qu) : RW := l.foldl RW.qu x
def RW.rrs (x : RW) (l : List RR) : RW := l.foldl RW.rr x
def RW.opt (x : RW) (m : Ms) : RW := if m.edns = true then ((x.raw [0, 0, 41]).num2 m.size).raw [0, 0, 0, 0, 0, 0] else x
def msR (m : Ms) : RW := ((((RW.nil.nums2 (headN m)).qus m.qs).rrs (m.an ++ m.au ++ m.ex))).opt m
end
theorem Wr.rrs_append (x : Wr) (l k : List RR) : x.rrs (l ++ k) = (x.rrs l).rrs k := List.foldl_append
theorem foldl_take {α β : Type} (f : β → α → β) (b : β) {l : List α} {k : Nat} {x : α} (h : l[k]? = some x) : (l.take (k + 1)).foldl f b = f ((l.take k).foldl f b) x := by
  rw [List.take_add_one, h, Option.toList_some, List.foldl_append]
  rfl

theorem Alike.num2 {x : Wr} {y : RW} (h : Alike x y) (n : Int) : Alike (x.num2 n) (y.num2 n) := h.raw _
theorem Alike.nums2 {x : Wr} {y : RW} (h : Alike x y) (l : List Int) : Alike (x.nums2 l) (y.nums2 l) := by
  unfold Wr.nums2 RW.nums2
  refine snoc_ind (P := fun l => Alike (l.foldl Wr.num2 x) (l.foldl RW.num2 y)) h (fun l n ih => ?_) l
  rw [List.foldl_append, List.foldl_append]
  exact ih.num2 n
theorem Alike.qu {x : Wr} {y : RW} (h : Alike x y) {q : Qu} (hf : FineQ q) : Alike (x.qu q) (y.qu q) := ((Alike.name (small_of_sound hf.1) true h).num2 _).num2 _
theorem allp_snoc {α : Type} {P : α → Prop} {l : List α} {a : α} (h : ∀ x ∈ l ++ [a], P x) : (∀ x ∈ l, P x) ∧ P a := ⟨fun x hx => h x (List.mem_append_left _ hx), h a (List.mem_append_right _ (List.mem_singleton.2 rfl))⟩
theorem Alike.qus {x : Wr} {y : RW} (h : Alike x y) (l : List Qu) : (∀ q ∈ l, FineQ q) → Alike (x.qus l) (y.qus l) := by
  unfold Wr.qus RW.qus
  refine snoc_ind (P := fun l => (∀ q ∈ l, FineQ q) → Alike (l.foldl Wr.qu x) (l.foldl RW.qu y)) (fun _ => h) (fun l n ih hf => ?_) l
  obtain ⟨h1, h2⟩ := allp_snoc hf
  rw [List.foldl_append, List.foldl_append]
  exact (ih h1).qu h2
theorem Alike.rrs {x : Wr} {y : RW} (h : Alike x y) (l : List RR) : (∀ r ∈ l, FineK r) → Alike (x.rrs l) (y.rrs l) := by
  unfold Wr.rrs RW.rrs
  refine snoc_ind (P := fun l => (∀ r ∈ l, FineK r) → Alike (l.foldl Wr.rr x) (l.foldl RW.rr y)) (fun _ => h) (fun l n ih hf => ?_) l
  obtain ⟨h1, h2⟩ := allp_snoc hf
  rw [List.foldl_append, List.foldl_append]
  exact (ih h1).rr h2.2
theorem Alike.opt {x : Wr} {y : RW} (h : Alike x y) (m : Ms) : Alike (x.opt m) (y.opt m) := by
  unfold Wr.opt RW.opt
  split
  · have h1 := (((h.raw [0, 0, 41]).num2 m.size).raw [0, 0, 0, 0, 0, 0])
    have e : ((((x.raw [0]).num2 41).num2 m.size).raw (putB [] 0 6)) = (((x.raw [0, 0, 41]).num2 m.size).raw [0, 0, 0, 0, 0, 0]) := by
      have e1 : putB [] 41 2 = [0, 41] := by decide
      have e2 : putB [] 0 6 = [0, 0, 0, 0, 0, 0] := by decide
      unfold Wr.num2
      rw [e1, e2]
      simp [Wr.raw]
    rw [e]
    exact h1
  · exact h
/-- Both write the same. -/
theorem ms_alike {m : Ms} (h : FineM m) : Alike (msW m) (msR m) := by
  unfold msW msR
  rw [← Wr.rrs_append, ← Wr.rrs_append, ← List.append_assoc]
  refine (((alike_nil.nums2 _).qus _ h.qs).rrs _ ?_).opt m
  intro r hr
  rcases List.mem_append.1 hr with hr | hr
  · rcases List.mem_append.1 hr with hr | hr
    · exact h.an r hr
    · exact h.au r hr
  · exact h.ex r hr
end Go.Proofs.Ytimkdpkhdbiniaa

/- rdata.shapes: which fields a type has. -/
namespace Go.Proofs.Ytimkdpkhdbiniaa
open Go.RowKit
set_option maxRecDepth 100000
set_option linter.unusedVariables false

set_option maxHeartbeats 2000000 in
theorem shapes_any (k : Int) (w : World) : Calls Try.prog 156 #[.int .i64 k] w (RetP (fun v _ => v = shpV (shapeP k)) w) := by
  by_cases h1 : k = 1
  · subst h1
    go_enter Try.func156, Try.ntmps156
    go_wp2
    refine bodyPost_ret (v := shpV shpA) ?_ rfl ⟨_, rfl, rfl, bl.alloc (Nat.le_refl _) _⟩
    simp [results, Try.results156, go_sem]
    rfl
  by_cases h28 : k = 28
  · subst h28
    go_enter Try.func156, Try.ntmps156
    go_wp2
    refine bodyPost_ret (v := shpV shpQ) ?_ rfl ⟨_, rfl, rfl, bl.alloc (Nat.le_refl _) _⟩
    simp [results, Try.results156, go_sem]
    rfl
  by_cases h2 : k = 2
  · subst h2
    go_enter Try.func156, Try.ntmps156
    go_wp2
    refine bodyPost_ret (v := shpV shpN) ?_ rfl ⟨_, rfl, rfl, bl.alloc (Nat.le_refl _) _⟩
    simp [results, Try.results156, go_sem]
    rfl
  by_cases h5 : k = 5
  · subst h5
    go_enter Try.func156, Try.ntmps156
    go_wp2
    refine bodyPost_ret (v := shpV shpN) ?_ rfl ⟨_, rfl, rfl, bl.alloc (Nat.le_refl _) _⟩
    simp [results, Try.results156, go_sem]
    rfl
  by_cases h12 : k = 12
  · subst h12
    go_enter Try.func156, Try.ntmps156
    go_wp2
    refine bodyPost_ret (v := shpV shpN) ?_ rfl ⟨_, rfl, rfl, bl.alloc (Nat.le_refl _) _⟩
    simp [results, Try.results156, go_sem]
    rfl
  by_cases h15 : k = 15
  · subst h15
    go_enter Try.func156, Try.ntmps156
    go_wp2
    refine bodyPost_ret (v := shpV shpM) ?_ rfl ⟨_, rfl, rfl, bl.alloc (Nat.le_refl _) _⟩
    simp [results, Try.results156, go_sem]
    rfl
  by_cases h6 : k = 6
  · subst h6
    go_enter Try.func156, Try.ntmps156
    go_wp2
    refine bodyPost_ret (v := shpV shpS) ?_ rfl ⟨_, rfl, rfl, bl.alloc (Nat.le_refl _) _⟩
    simp [results, Try.results156, go_sem]
    rfl
  by_cases h33 : k = 33
  · subst h33
    go_enter Try.func156, Try.ntmps156
    go_wp2
    refine bodyPost_ret (v := shpV shpV3) ?_ rfl ⟨_, rfl, rfl, bl.alloc (Nat.le_refl _) _⟩
    simp [results, Try.results156, go_sem]
    rfl
  by_cases h16 : k = 16
  · subst h16
    go_enter Try.func156, Try.ntmps156
    go_wp2
    refine bodyPost_ret (v := shpV shpT) ?_ rfl ⟨_, rfl, rfl, bl.alloc (Nat.le_refl _) _⟩
    simp [results, Try.results156, go_sem]
    rfl
  have he : shapeP k = shpB := by unfold shapeP; rw [if_neg h1, if_neg h28, if_neg (by omega), if_neg h15, if_neg h6, if_neg h33, if_neg h16]
  rw [he]
  go_enter Try.func156, Try.ntmps156
  go_wp2
  refine bodyPost_ret (v := shpV shpB) ?_ rfl ⟨_, rfl, rfl, bl.alloc (Nat.le_refl _) _⟩
  simp [results, Try.results156, go_sem]
  rfl
end Go.Proofs.Ytimkdpkhdbiniaa

/- rdata: texts that are too long, numbers that do not fit. -/
namespace Go.Proofs.Ytimkdpkhdbiniaa
open Go.RowKit
set_option maxRecDepth 100000

theorem long_any (l : List UInt8) (w : World) : Calls Try.prog 159 #[.string (bstr l)] w (Ret (.bool (decide (255 < l.length))) w) := by
  have hbs := bstr_size l
  go_enter Try.func159, Try.ntmps159
  go_wp2
  go_ret
  refine ⟨ret_bool ?_, rfl⟩
  rw [Bool.eq_iff_iff, decide_eq_true_iff, decide_eq_true_iff]
  omega
/-- Some text is too long. -/
def LongT (ns : List (List UInt8)) : Prop := ¬ ∀ l ∈ ns, l.length ≤ 255

set_option maxHeartbeats 1000000 in
theorem index2_any (A : Option Addr) (n c : Nat) (ns : List (List UInt8)) (w : World) {So Si : Nat → Prop} (h : Els encS So Si w A n ns) (hn : n ≤ 1000000000) :
    Calls Try.prog 160 #[.slice A n c, .func (.func 159) #[] #[]] w (RetIdx (LongT ns) w) := by
  have hl := h.len
  subst hl
  go_enter Try.func160, Try.ntmps160
  go_wp2
  go_loop [5, 8] (fun _ iv => ∃ k : Nat, iv = .int .i64 k ∧ k ≤ ns.length ∧ Hid (∀ l ∈ ns.take k, l.length ≤ 255)) (fun _ iv => ns.length - (intOf iv).toNat)
  case atStart => exact ⟨0, rfl, Nat.zero_le _, fun l hl => by simp at hl⟩
  case round =>
    obtain ⟨k, rfl, hk, HK⟩ := hrel
    by_cases hlt : k < ns.length
    · obtain ⟨l, hx⟩ : ∃ l, ns[k]? = some l := ⟨_, List.getElem?_eq_getElem hlt⟩
      obtain ⟨b, off, rfl, _, hc, hll⟩ := strs_at h hx
      have HX := Lib.hid hx
      clear hx
      by_cases hb : l.length ≤ 255
      · have hq := Lib.hid (long_any l w)
        rw [show decide (255 < l.length) = false from decide_eq_false (by omega)] at hq
        go_wp2_with (go_at_call 159; refine hq.out.mono ?_; rintro e w1 ⟨rfl, rfl⟩)
        go_round
        case rel => exact ⟨k + 1, by go_num, by omega, fun m hm => by rw [List.take_add_one, HX.out, Option.toList_some, List.mem_append, List.mem_singleton] at hm; exact hm.elim (HK.out m) (fun e => by rw [e]; exact hb)⟩
        case measure => simp [intOf]; omega
      · have hq := Lib.hid (long_any l w)
        rw [show decide (255 < l.length) = true from decide_eq_true (by omega)] at hq
        have HB := Lib.hid hb
        clear hb
        go_wp2_with (go_at_call 159; refine hq.out.mono ?_; rintro e w1 ⟨rfl, rfl⟩)
        go_ret
        exact ⟨_, rfl, ⟨fun _ ha => HB.out (ha l (List.mem_of_getElem? HX.out)), fun _ => Int.natCast_nonneg _⟩, rfl⟩
    · obtain rfl : k = ns.length := by omega
      rw [List.take_length] at HK
      go_wp2
      go_ret
      exact ⟨-1, rfl, ⟨fun h => absurd h (by decide), fun h => absurd HK.out h⟩, rfl⟩

theorem contains2_any (A : Option Addr) (n c : Nat) (ns : List (List UInt8)) (w : World) {So Si : Nat → Prop} (h : Els encS So Si w A n ns) (hn : n ≤ 1000000000) (b : Bool) (hb : b = true ↔ LongT ns) :
    Calls Try.prog 110 #[.slice A n c, .func (.func 159) #[] #[]] w (Ret (.bool b) w) := by
  have HB := Lib.hid hb
  clear hb
  go_enter Try.func110, Try.ntmps110
  go_wp2_with (go_at_call 160; refine (index2_any A n c ns _ h hn).mono ?_; rintro e w1 ⟨i, rfl, hi, rfl⟩; have HI := Lib.hid hi; clear hi)
  go_ret
  refine ⟨ret_bool ?_, rfl⟩
  show decide (0 ≤ i) = b
  rw [Bool.eq_iff_iff, decide_eq_true_iff, HI.out, HB.out]


/-- Some number does not fit. -/
def OddI (ns : List Int) (z : Int) : Prop := ¬ ∀ l ∈ ns, fitsB l z = true
theorem odd_any (l z : Int) (g : Nat) (w : World) (hc : w.cell? ⟨g, 5, none⟩ = some (.int .i64 z)) : Calls Try.prog 158 #[.int .i64 l, .pointer (some ⟨g, 0, none⟩)] w (Ret (.bool (!fitsB l z)) w) := by
  go_enter Try.func158, Try.ntmps158
  go_wp2_with (first
    | (go_at_call 88; refine (fits_any l z w).mono ?_; rintro e w1 ⟨rfl, rfl⟩)
    | fail)
  go_ret
  exact ⟨rfl, rfl⟩

set_option maxHeartbeats 1000000 in
theorem index1_any (A : Option Addr) (n c : Nat) (ns : List Int) (z : Int) (g : Nat) (w : World) {So Si : Nat → Prop} (h : Els encI So Si w A n ns) (hn : n ≤ 1000000000) (hz : w.cell? ⟨g, 5, none⟩ = some (.int .i64 z)) :
    Calls Try.prog 189 #[.slice A n c, .func (.func 158) #[] #[.pointer (some ⟨g, 0, none⟩)]] w (RetIdx (OddI ns z) w) := by
  have hl := h.len
  subst hl
  go_enter Try.func189, Try.ntmps189
  go_wp2
  go_loop [5, 8] (fun _ iv => ∃ k : Nat, iv = .int .i64 k ∧ k ≤ ns.length ∧ Hid (∀ l ∈ ns.take k, fitsB l z = true)) (fun _ iv => ns.length - (intOf iv).toNat)
  case atStart => exact ⟨0, rfl, Nat.zero_le _, fun l hl => by simp at hl⟩
  case round =>
    obtain ⟨k, rfl, hk, HK⟩ := hrel
    by_cases hlt : k < ns.length
    · obtain ⟨l, hx⟩ : ∃ l, ns[k]? = some l := ⟨_, List.getElem?_eq_getElem hlt⟩
      obtain ⟨b, off, rfl, _, hc, hll⟩ := ints_at h hx
      have HX := Lib.hid hx
      clear hx
      by_cases hb : fitsB l z = true
      · have hq := Lib.hid (odd_any l z g w hz)
        rw [hb] at hq
        have HB := Lib.hid hb
        clear hb
        go_wp2_with (go_at_call 158; refine hq.out.mono ?_; rintro e w1 ⟨rfl, rfl⟩)
        go_round
        case rel => exact ⟨k + 1, by go_num, by omega, fun m hm => by rw [List.take_add_one, HX.out, Option.toList_some, List.mem_append, List.mem_singleton] at hm; exact hm.elim (HK.out m) (fun e => by rw [e]; exact HB.out)⟩
        case measure => simp [intOf]; omega
      · have hq := Lib.hid (odd_any l z g w hz)
        rw [show fitsB l z = false from by simpa using hb] at hq
        have HB := Lib.hid hb
        clear hb
        go_wp2_with (go_at_call 158; refine hq.out.mono ?_; rintro e w1 ⟨rfl, rfl⟩)
        go_ret
        exact ⟨_, rfl, ⟨fun _ ha => HB.out (ha l (List.mem_of_getElem? HX.out)), fun _ => Int.natCast_nonneg _⟩, rfl⟩
    · obtain rfl : k = ns.length := by omega
      rw [List.take_length] at HK
      go_wp2
      go_ret
      exact ⟨-1, rfl, ⟨fun h => absurd h (by decide), fun h => absurd HK.out h⟩, rfl⟩

theorem contains1_any (A : Option Addr) (n c : Nat) (ns : List Int) (z : Int) (g : Nat) (w : World) {So Si : Nat → Prop} (h : Els encI So Si w A n ns) (hn : n ≤ 1000000000) (hz : w.cell? ⟨g, 5, none⟩ = some (.int .i64 z)) (b : Bool) (hb : b = true ↔ OddI ns z) :
    Calls Try.prog 157 #[.slice A n c, .func (.func 158) #[] #[.pointer (some ⟨g, 0, none⟩)]] w (Ret (.bool b) w) := by
  have HB := Lib.hid hb
  clear hb
  go_enter Try.func157, Try.ntmps157
  go_wp2_with (go_at_call 189; refine (index1_any A n c ns z g _ h hn hz).mono ?_; rintro e w1 ⟨i, rfl, hi, rfl⟩; have HI := Lib.hid hi; clear hi)
  go_ret
  refine ⟨ret_bool ?_, rfl⟩
  show decide (0 ≤ i) = b
  rw [Bool.eq_iff_iff, decide_eq_true_iff, HI.out, HB.out]

section
variable {A : Option Addr} {n c : Nat} {w : World} {So Si : Nat → Prop}
theorem contains2_yes {ns : List (List UInt8)} (h : Els encS So Si w A n ns) (hn : n ≤ 1000000000) (hb : LongT ns) :
    Calls Try.prog 110 #[.slice A n c, .func (.func 159) #[] #[]] w (Ret (.bool true) w) := contains2_any A n c ns w h hn true ⟨fun _ => hb, fun _ => rfl⟩
theorem contains2_no {ns : List (List UInt8)} (h : Els encS So Si w A n ns) (hn : n ≤ 1000000000) (hb : ¬ LongT ns) :
    Calls Try.prog 110 #[.slice A n c, .func (.func 159) #[] #[]] w (Ret (.bool false) w) := contains2_any A n c ns w h hn false ⟨fun h => (by cases h), fun h => absurd h hb⟩
theorem contains1_yes {ns : List Int} {z : Int} {g : Nat} (h : Els encI So Si w A n ns) (hn : n ≤ 1000000000) (hz : w.cell? ⟨g, 5, none⟩ = some (.int .i64 z)) (hb : OddI ns z) :
    Calls Try.prog 157 #[.slice A n c, .func (.func 158) #[] #[.pointer (some ⟨g, 0, none⟩)]] w (Ret (.bool true) w) := contains1_any A n c ns z g w h hn hz true ⟨fun _ => hb, fun _ => rfl⟩
theorem contains1_no {ns : List Int} {z : Int} {g : Nat} (h : Els encI So Si w A n ns) (hn : n ≤ 1000000000) (hz : w.cell? ⟨g, 5, none⟩ = some (.int .i64 z)) (hb : ¬ OddI ns z) :
    Calls Try.prog 157 #[.slice A n c, .func (.func 158) #[] #[.pointer (some ⟨g, 0, none⟩)]] w (Ret (.bool false) w) := contains1_any A n c ns z g w h hn hz false ⟨fun h => (by cases h), fun h => absurd h hb⟩
end
end Go.Proofs.Ytimkdpkhdbiniaa

/- Parts of a proof, joined: Wtr3, Wtr4, WtrLaws, TimeB, Time1, LawT. -/
import Derived.Laws.BitsLemmas
import Derived.Lib.ConvBytes
import Derived.Test.YtimkdpkhdbiniaaZADM02
import Derived.Test.YtimkdpkhdbiniaaZADM01
/- wname: Name. -/
namespace Go.Proofs.Ytimkdpkhdbiniaa
open Go.RowKit Go.Maps

/-- []byte(s). -/
theorem conv_rd (w : World) (l : List UInt8) : RdB (Lib.bytesWorld w 5 (bstr l)) (some ⟨w.heap.size, 0, none⟩) l.length l ∧ Below w.heap.size w (Lib.bytesWorld w 5 (bstr l)) := by
  refine ⟨⟨by simp, fun _ => ⟨w.heap.size, 0, rfl, fun j u hu => ?_⟩⟩, ⟨rfl, rfl, rfl, by rw [Lib.bytesWorld_size]; omega, fun k hk => Lib.bytesWorld_at_old w _ _ k hk⟩⟩
  rw [List.getElem?_map] at hu
  cases hj : l[j]? with
  | none => rw [hj] at hu; cases hu
  | some y =>
    rw [hj] at hu
    injection hu with hu
    subst hu
    have hjl : j < l.length := (List.getElem?_eq_some_iff.1 hj).1
    have := Lib.bytesWorld_cell w 5 (bstr l) j (by rw [bstr_size]; exact hjl)
    rw [Nat.zero_add, this]
    have e : (bstr l).data.toList = l := by simp [bstr]
    rw [e]
    unfold bV
    rw [List.getD_eq_getElem?_getD, hj]
    rfl
end Go.Proofs.Ytimkdpkhdbiniaa

/- wname: Name walked. -/
namespace Go.Proofs.Ytimkdpkhdbiniaa
open Go.RowKit Go.Maps

end Go.Proofs.Ytimkdpkhdbiniaa

/- wname: what is written is read. No program in it. -/
namespace Go.Proofs.Ytimkdpkhdbiniaa

/-- A name stands at a place: what is behind it, and its labels. -/
inductive Stands (b : List UInt8) : Nat → Nat → Nat → List (List UInt8) → Prop
  | fin {beg p : Nat} (h : b[p]? = some 0) : Stands b beg p (p + 1) []
  | lab {beg p next : Nat} {l : List UInt8} {ls : List (List UInt8)} (c : UInt8) (h : b[p]? = some c) (h1 : 1 ≤ l.length) (h2 : l.length ≤ 63) (hc : c.toNat = l.length) (hl : (b.drop (p + 1)).take l.length = l) (hs : Stands b beg (p + 1 + l.length) next ls) : Stands b beg p next (l :: ls)
  | ptr {beg p q next : Nat} {ls : List (List UInt8)} (c d : UInt8) (h : b[p]? = some c) (hd : b[p + 1]? = some d) (hc : 192 ≤ c.toNat) (hq : (c.toNat * 256 + d.toNat) % 16384 = q) (hb : q < beg) (hn : next ≤ p + 2) (hs : Stands b q q next ls) : Stands b beg p (p + 2) ls

theorem Stands.lt {b : List UInt8} {beg p next : Nat} {ls : List (List UInt8)} (h : Stands b beg p next ls) : p < b.length := by
  cases h with
  | fin h => exact (List.getElem?_eq_some_iff.1 h).1
  | lab c h => exact (List.getElem?_eq_some_iff.1 h).1
  | ptr c d h => exact (List.getElem?_eq_some_iff.1 h).1

theorem get_ext {b : List UInt8} (y : List UInt8) {p : Nat} {c : UInt8} (h : b[p]? = some c) : (b ++ y)[p]? = some c := by
  rw [List.getElem?_append_left (List.getElem?_eq_some_iff.1 h).1, h]
theorem cut_ext {b l : List UInt8} (y : List UInt8) {p : Nat} (h1 : 1 ≤ l.length) (h : (b.drop p).take l.length = l) : ((b ++ y).drop p).take l.length = l := by
  have e := congrArg List.length h
  rw [List.length_take, List.length_drop] at e
  rw [List.drop_append_of_le_length (by omega), List.take_append_of_le_length (by rw [List.length_drop]; omega), h]
theorem Stands.ext {b : List UInt8} {beg p next : Nat} {ls : List (List UInt8)} (h : Stands b beg p next ls) (y : List UInt8) : Stands (b ++ y) beg p next ls := by
  induction h with
  | fin h => exact .fin (get_ext y h)
  | lab c h h1 h2 hc hl _ ih => exact .lab c (get_ext y h) h1 h2 hc (cut_ext y h1 hl) ih
  | ptr c d h hd hc hq hb hn _ ih => exact .ptr c d (get_ext y h) (get_ext y hd) hc hq hb hn ih
theorem Stands.beg_le {b : List UInt8} {beg beg' p next : Nat} {ls : List (List UInt8)} (h : Stands b beg p next ls) (hb : beg ≤ beg') : Stands b beg' p next ls := by
  induction h with
  | fin h => exact .fin h
  | lab c h h1 h2 hc hl _ ih => exact .lab c h h1 h2 hc hl (ih hb)
  | ptr c d h hd hc hq hb' hn hs => exact .ptr c d h hd hc hq (by omega) hn hs
theorem Stands.read {b : List UInt8} {beg p next : Nat} {ls : List (List UInt8)} (h : Stands b beg p next ls) : ∀ (nx : Nat) (acc : List (List UInt8)), sizeN (acc ++ ls) ≤ 255 → getP b p beg nx acc = (acc ++ ls, ((max nx next : Nat) : Int), 0) := by
  induction h with
  | fin h =>
    intro nx acc _
    rw [getP_end h rfl, List.append_nil]
  | @lab beg p next l ls c h h1 h2 hc hl hs ih =>
    intro nx acc hz
    have hlen := congrArg List.length hl
    rw [List.length_take, List.length_drop] at hlen
    have e : acc ++ l :: ls = (acc ++ [l]) ++ ls := by simp
    have e1 := sizeN_snoc acc l
    have e2 := sizeN_append (acc ++ [l]) ls
    have e3 := sizeN_length ls
    rw [e] at hz
    rw [getP_label h (by omega) (by omega) (by omega) (by omega), hc, hl, ih nx (acc ++ [l]) hz, ← e]
  | ptr c d h hd hc hq hb hn hs ih =>
    intro nx acc hz
    rw [getP_ptr h hc hd (by omega), hq, ih _ acc hz]
    congr 2
    omega

theorem ptr_bytes (p : Nat) (hp : p < 16384) : ((UInt8.ofNat (192 + p / 256)).toNat * 256 + (UInt8.ofNat (p % 256)).toNat) % 16384 = p ∧ 192 ≤ (UInt8.ofNat (192 + p / 256)).toNat := by
  simp only [UInt8.toNat_ofNat']
  omega
theorem restB_ne {l : List UInt8} {n : List (List UInt8)} (i : Nat) : restB (l :: n) ≠ restB (n.drop i) := by
  intro h
  have e := congrArg List.length h
  have h1 := restB_length (l :: n)
  have h2 := restB_length (n.drop i)
  have h3 := sizeN_append (n.take i) (n.drop i)
  rw [List.take_append_drop] at h3
  have h4 := sizeN_length (n.take i)
  simp only [sizeN] at h1
  omega

theorem lab_first {x : Wr} {l y : List UInt8} (hl : l.length ≤ 63) : ((x.label l).b ++ y)[x.b.length]? = some (UInt8.ofNat l.length) ∧ (UInt8.ofNat l.length).toNat = l.length ∧ (((x.label l).b ++ y).drop (x.b.length + 1)).take l.length = l ∧ (x.label l).b.length = x.b.length + 1 + l.length := by
  refine ⟨?_, by simp only [UInt8.toNat_ofNat']; omega, ?_, by simp [Wr.label, Wr.raw]; omega⟩
  · simp [Wr.label, Wr.raw]
  · have e : (x.label l).b ++ y = (x.b ++ [UInt8.ofNat l.length]) ++ (l ++ y) := by simp [Wr.label, Wr.raw]
    rw [e, List.drop_left' (by simp), List.take_left' rfl]
theorem label_note_b (x : Wr) (r l : List UInt8) : ((x.note r).label l).b = (x.label l).b := by simp [Wr.label, Wr.raw, Wr.note_b]

theorem Wr.name_stands (n : List (List UInt8)) (short : Bool) : ∀ (x : Wr) (beg : Nat), (∀ l ∈ n, 1 ≤ l.length ∧ l.length ≤ 63) → beg ≤ x.b.length →
    (∀ i, i < n.length → ∀ p, lookR x.rests (restB (n.drop i)) = some p → p < beg ∧ p < 16384 ∧ ∃ nx, nx ≤ beg ∧ Stands x.b p p nx (n.drop i)) →
    Stands (x.name n short).b beg x.b.length (x.name n short).b.length n ∧ ∀ r p, lookR (x.name n short).rests r = some p → lookR x.rests r = some p ∨ (p < 16384 ∧ ∃ i, i < n.length ∧ r = restB (n.drop i) ∧ Stands (x.name n short).b p p (x.name n short).b.length (n.drop i)) := by
  induction n with
  | nil =>
    intro x beg _ _ _
    refine ⟨?_, fun r p h => .inl h⟩
    have h : Stands (x.b ++ [0]) beg x.b.length (x.b.length + 1) [] := .fin (by simp)
    simpa [Wr.name, Wr.raw] using h
  | cons l n ih =>
    intro x beg hlab hbeg hold
    obtain ⟨hl1, hl2⟩ := hlab l (List.mem_cons_self ..)
    have hlab' : ∀ m ∈ n, 1 ≤ m.length ∧ m.length ≤ 63 := fun m hm => hlab m (List.mem_cons_of_mem _ hm)
    have h0 := hold 0 (by simp)
    rw [List.drop_zero] at h0
    have step : ∀ x' : Wr, x'.b = (x.label l).b → (∀ r p, lookR x'.rests r = some p → lookR x.rests r = some p ∨ (r = restB (l :: n) ∧ p = x.b.length ∧ p < 16384)) →
        Stands (x'.name n short).b beg x.b.length (x'.name n short).b.length (l :: n) ∧ ∀ r p, lookR (x'.name n short).rests r = some p → lookR x.rests r = some p ∨ (p < 16384 ∧ ∃ i, i < (l :: n).length ∧ r = restB ((l :: n).drop i) ∧ Stands (x'.name n short).b p p (x'.name n short).b.length ((l :: n).drop i)) := by
      intro x' hx' hr'
      have hlen : x'.b.length = x.b.length + 1 + l.length := by rw [hx']; exact (lab_first (x := x) (y := []) hl2).2.2.2
      obtain ⟨hs, hrs⟩ := ih x' beg hlab' (by omega) (fun i hi p hp => by
        rcases hr' _ _ hp with h | ⟨h, _⟩
        · obtain ⟨a1, a2, nx, a3, a4⟩ := hold (i + 1) (by simp; omega) p (by simpa using h)
          refine ⟨a1, a2, nx, a3, ?_⟩
          have := a4.ext (UInt8.ofNat l.length :: l)
          rw [hx']
          simpa [Wr.label, Wr.raw] using this
        · exact absurd h.symm (restB_ne i))
      obtain ⟨y, hy, _⟩ := Wr.name_b (x := x') n short
      obtain ⟨f1, f2, f3, f4⟩ := lab_first (x := x) (y := y) hl2
      have hst : Stands (x'.name n short).b beg x.b.length (x'.name n short).b.length (l :: n) := by
        refine .lab _ ?_ hl1 hl2 f2 ?_ ?_
        · rw [hy, hx']; exact f1
        · rw [hy, hx']; exact f3
        · rw [← hlen]; exact hs
      refine ⟨hst, fun r p hp => ?_⟩
      rcases hrs r p hp with h | ⟨h1, i, h2, h3, h4⟩
      · rcases hr' _ _ h with h | ⟨e1, e2, e3⟩
        · exact .inl h
        · exact .inr ⟨e3, 0, by simp, by simpa using e1, by subst e2; simpa using hst.beg_le hbeg⟩
      · exact .inr ⟨h1, i + 1, by simp; omega, by simpa using h3, by simpa using h4⟩
    unfold Wr.name
    split
    · rename_i p hp
      by_cases hsh : short = true
      · rw [if_pos hsh]
        obtain ⟨a1, a2, nx, a3, a4⟩ := h0 p hp
        obtain ⟨b1, b2⟩ := ptr_bytes p a2
        refine ⟨?_, fun r p h => .inl h⟩
        have h : Stands (x.b ++ ptrB p) beg x.b.length (x.b.length + 2) (l :: n) := .ptr _ _ (by simp [ptrB]) (by simp [ptrB]) b2 b1 a1 (by omega) (a4.ext _)
        simpa [Wr.raw, ptrB] using h
      · rw [if_neg hsh]
        exact step (x.label l) rfl (fun r p h => .inl h)
    · refine step ((x.note (restB (l :: n))).label l) (label_note_b x _ l) (fun r p h => ?_)
      by_cases hl : x.b.length < 16384
      · have e : ((x.note (restB (l :: n))).label l).rests = (restB (l :: n), x.b.length) :: x.rests := by
          unfold Wr.note
          rw [if_pos hl]
          rfl
        rw [e] at h
        simp only [lookR] at h
        split at h
        · rename_i he
          injection h with h
          exact .inr ⟨he.symm, h.symm, by omega⟩
        · exact .inl h
      · have e : ((x.note (restB (l :: n))).label l).rests = x.rests := by
          unfold Wr.note
          rw [if_neg hl]
          rfl
        rw [e] at h
        exact .inl h

/-- What a writer knows of rests is so. -/
def Wr.True (x : Wr) : Prop := ∀ r p, lookR x.rests r = some p → p < 16384 ∧ ∃ ls nx, r = restB ls ∧ (∀ l ∈ ls, 1 ≤ l.length ∧ l.length ≤ 63) ∧ nx ≤ x.b.length ∧ Stands x.b p p nx ls
theorem Wr.True.raw {x : Wr} (h : x.True) (bs : List UInt8) : (x.raw bs).True := fun r p hp => by
  obtain ⟨h1, ls, nx, h2, h3, h4, h5⟩ := h r p hp
  exact ⟨h1, ls, nx, h2, h3, by simp [Wr.raw]; omega, h5.ext bs⟩
theorem Wr.True.name {x : Wr} (h : x.True) {n : List (List UInt8)} (hn : ∀ l ∈ n, 1 ≤ l.length ∧ l.length ≤ 63) (short : Bool) :
    (x.name n short).True ∧ Stands (x.name n short).b x.b.length x.b.length (x.name n short).b.length n := by
  obtain ⟨hs, hr⟩ := Wr.name_stands n short x x.b.length hn (Nat.le_refl _) (fun i hi p hp => by
    obtain ⟨h1, ls, nx, h2, h3, h4, h5⟩ := h _ p hp
    have e : n.drop i = ls := restB_inj (fun l hl => by have := (hn l (List.mem_of_mem_drop hl)).2; omega) (fun l hl => by have := (h3 l hl).2; omega) h2
    rw [e]
    exact ⟨h5.lt, h1, nx, h4, h5⟩)
  refine ⟨fun r p hp => ?_, hs⟩
  obtain ⟨y, hy, _⟩ := Wr.name_b (x := x) n short
  rcases hr r p hp with h' | ⟨h1, i, h2, h3, h4⟩
  · obtain ⟨h1, ls, nx, h2, h3, h4, h5⟩ := h r p h'
    exact ⟨h1, ls, nx, h2, h3, by rw [hy, List.length_append]; omega, by rw [hy]; exact h5.ext y⟩
  · exact ⟨h1, n.drop i, _, h3, fun l hl => hn l (List.mem_of_mem_drop hl), Nat.le_refl _, h4⟩
theorem Wr.name_le {x : Wr} (n : List (List UInt8)) (short : Bool) : (x.name n short).b.length ≤ x.b.length + sizeN n := by
  induction n generalizing x with
  | nil => simp [Wr.name, Wr.raw, sizeN]
  | cons l n ih =>
    unfold Wr.name
    have h1 := sizeN_length n
    split
    · split
      · simp only [Wr.raw, ptrB, sizeN, List.length_append, List.length_cons, List.length_nil]; omega
      · have := ih (x := x.label l)
        simp only [Wr.label, Wr.raw, sizeN, List.length_append, List.length_cons] at this ⊢
        omega
    · have := ih (x := (x.note (restB (l :: n))).label l)
      simp only [Wr.label, Wr.raw, Wr.note_b, sizeN, List.length_append, List.length_cons] at this ⊢
      omega
end Go.Proofs.Ytimkdpkhdbiniaa

/- Times, in plain Lean. No program in it. -/
namespace Go.Proofs.Ytimkdpkhdbiniaa
end Go.Proofs.Ytimkdpkhdbiniaa

/- ttl.Time. -/
namespace Go.Proofs.Ytimkdpkhdbiniaa
open Go.RowKit
set_option maxRecDepth 100000
set_option linter.unusedVariables false

end Go.Proofs.Ytimkdpkhdbiniaa

/- What each law's walk ends with. -/
namespace Go.Proofs.Ytimkdpkhdbiniaa
open Go.RowKit

/-- The law returns true, and what was there is as it was. -/
def LawT (w : World) (e : Ending) (w' : World) : Prop := e = .returned (.bool true) ∧ Below w.heap.size w w'
end Go.Proofs.Ytimkdpkhdbiniaa

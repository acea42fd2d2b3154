/- Parts of a proof, joined: Foot, NumPlain, WnamePlain, WtrPlain, WtrMem, Tac, Num, Put, Wtr1, Strs, Wtr2, RName, Same. -/
import Derived.Laws.BitsAllLaws
import Derived.Laws.BitsLemmas
import Derived.RowKit
import Derived.Maps.Own
import Derived.Maps.OwnSet
import Derived.Maps.Views
import Derived.StringKeys
import Derived.Deep.Cut
import Derived.Deep.CutBlock
import Derived.Deep.DeepCutAuto
import Derived.Deep.DeepMust
import Derived.Deep.DeepFit
import Derived.Deep.RegionHeld3
import Derived.Deep.LoopGhost
import Derived.Outline
import Derived.Test.YtimkdpkhdbiniaaChecked
import Derived.Test.YtimkdpkhdbiniaaZADM01
/- What a call may have written: the blocks of a set, and new ones. No program in it. -/
namespace Go.Proofs.Ytimkdpkhdbiniaa
open Go.RowKit

/-- Whatever was there and is not of F is as it was. -/
structure Chg (F : Nat → Prop) (w w' : World) : Prop where
  os : w'.os = w.os
  tape : w'.tape = w.tape
  output : w'.output = w.output
  size : w.heap.size ≤ w'.heap.size
  block : ∀ k, k < w.heap.size → ¬ F k → w'.heap[k]? = w.heap[k]?

section
variable {F G : Nat → Prop} {a b c : World}
theorem Chg.refl (F : Nat → Prop) (a : World) : Chg F a a := ⟨rfl, rfl, rfl, Nat.le_refl _, fun _ _ _ => rfl⟩
theorem Chg.trans (h : Chg F a b) (k : Chg G b c) (hG : ∀ x, G x → F x ∨ a.heap.size ≤ x) : Chg F a c :=
  ⟨k.os.trans h.os, k.tape.trans h.tape, k.output.trans h.output, Nat.le_trans h.size k.size, fun i hi hF =>
    (k.block i (Nat.lt_of_lt_of_le hi h.size) (fun hg => (hG i hg).elim hF (fun h => by omega))).trans (h.block i hi hF)⟩
theorem Chg.mono (h : Chg F a b) (hF : ∀ x, F x → G x ∨ a.heap.size ≤ x) : Chg G a b :=
  ⟨h.os, h.tape, h.output, h.size, fun i hi hG => h.block i hi (fun hf => (hF i hf).elim hG (fun h => by omega))⟩
theorem Chg.of_below (h : Below a.heap.size a b) : Chg F a b := ⟨h.os, h.tape, h.output, h.size, fun i hi _ => h.block i hi⟩
theorem Chg.below {B : Nat} (h : Chg F a b) (hF : ∀ x, F x → B ≤ x) (hB : B ≤ a.heap.size) : Below B a b :=
  ⟨h.os, h.tape, h.output, h.size, fun i hi => h.block i (by omega) (fun hf => by have := hF i hf; omega)⟩
theorem Chg.setCell (h : Chg F a b) {p : Addr} (hp : F p.block ∨ a.heap.size ≤ p.block) (u : Value) : Chg F a (b.setCell p u) :=
  ⟨h.os, h.tape, h.output, by simp [World.setCell]; exact h.size, fun i hi hF => by
    have hne : i ≠ p.block := fun e => by subst e; exact hp.elim hF (fun h => by omega)
    exact (Below.heap_setCell b p u i hne).trans (h.block i hi hF)⟩
theorem Chg.setRow (h : Chg F a b) {g : Nat} (hp : F g ∨ a.heap.size ≤ g) (cs : Array Value) : Chg F a (b.setRow g cs) :=
  ⟨h.os, h.tape, h.output, by simp; exact h.size, fun i hi hF => by
    have hne : i ≠ g := fun e => by subst e; exact hp.elim hF (fun h => by omega)
    exact (setRow_other b g i cs hne).trans (h.block i hi hF)⟩
theorem Chg.alloc (h : Chg F a b) (o : Obj) : Chg F a (b.alloc o) :=
  h.trans (G := fun _ => False) (Chg.of_below ((Below.refl _ _).alloc (Nat.le_refl _) o)) (fun _ h => h.elim)
theorem Chg.drew (h : Chg F a b) : Chg F a b.drew := ⟨h.os, h.tape, h.output, h.size, h.block⟩
theorem Chg.drewN (h : Chg F a b) (k : Nat) : Chg F a (b.drewN k) := ⟨h.os, h.tape, h.output, h.size, h.block⟩
theorem Chg.grown (h : Chg F a b) {row : Option Nat} (hg : b.grownBy c row) (hr : ∀ k, row = some k → F k ∨ a.heap.size ≤ k) : Chg F a c :=
  ⟨hg.os.trans h.os, hg.tape.trans h.tape, hg.output.trans h.output, Nat.le_trans h.size hg.size, fun i hi hF =>
    (hg.block i (Nat.lt_of_lt_of_le hi h.size) (fun e => (hr i e.symm).elim hF (fun h => by omega))).trans (h.block i hi hF)⟩
theorem Chg.nx (h : Chg F a b) (k : Below b.heap.size b c) : Chg F a c := h.trans (G := fun _ => False) (Chg.of_below k) (fun _ h => h.elim)
theorem Chg.cell (h : Chg F a b) {p : Addr} {u : Value} (hc : a.cell? p = some u) (hF : ¬ F p.block) : b.cell? p = some u :=
  (World.cell?_of_block (h.block _ (World.block_lt_of_cell? a p hc) hF)).trans hc
theorem Chg.heap (h : Chg F a b) {g : Nat} {o : Obj} (hc : a.heap[g]? = some o) (hF : ¬ F g) : b.heap[g]? = some o :=
  (h.block g (Array.getElem?_eq_some_iff.1 hc).1 hF).trans hc
end

section
variable {F : Nat → Prop} {w w' : World} {A : Option Addr} {n : Nat} {bs : List UInt8}
theorem RdB.chg (h : RdB w A n bs) (hc : Chg F w w') (hF : ∀ b off, A = some ⟨b, off, none⟩ → ¬ F b) : RdB w' A n bs :=
  ⟨h.1, fun hn => by
    obtain ⟨b, off, e, hr⟩ := h.2 hn
    exact ⟨b, off, e, fun j u hu => hc.cell (hr j u hu) (hF b off e)⟩⟩
theorem RdB.lt (h : RdB w A n bs) (hn : 0 < n) : ∃ b off, A = some ⟨b, off, none⟩ ∧ b < w.heap.size := by
  obtain ⟨b, off, x, e, _, hc⟩ := h.at_ hn
  exact ⟨b, off, e, World.block_lt_of_cell? w _ hc⟩
end

section
variable {α : Type} {E : Enc α} {e : TypeId} {S S' : Nat → Prop} {F : Nat → Prop} {w w' : World} {base : Nat} {v : Value} {xs : List α}
theorem OwnE.chg (h : OwnE E e S w base v xs) (hc : Chg F w w') (hv : ∀ k, v.ownBlock = some k → ¬ F k) (hS : ∀ b, S b → ¬ F b) : OwnE E e S w' base v xs := by
  have hl := h.lt
  have hb : ∀ b, S b → b < w.heap.size := by
    obtain ⟨_, _, _, hb⟩ := h
    exact fun b hb' => (hb b hb').1
  exact h.keep hc.size (fun k hk => hc.block k (hl k hk).2 (hv k hk)) (fun b hb' => hc.block b (hb b hb') (hS b hb'))
theorem OwnE.S_lt (h : OwnE E e S w base v xs) : ∀ b, S b → b < w.heap.size ∧ some b ≠ v.ownBlock := by
  obtain ⟨_, _, _, hb⟩ := h
  exact hb
end
theorem chg_g1 (w : World) (g k : Nat) (u : Value) : Chg (fun k => k = g) w (w.setCell ⟨g, k, none⟩ u) := (Chg.refl (fun k => k = g) w).setCell (p := ⟨g, k, none⟩) (Or.inl rfl) u
end Go.Proofs.Ytimkdpkhdbiniaa

/- Numbers as bytes, in plain Lean: what fits, which bytes, what is read back. No program in it. -/
namespace Go.Proofs.Ytimkdpkhdbiniaa

/-- Has a number so many bytes? -/
def fitsB (n size : Int) : Bool := decide (1 ≤ size ∧ size ≤ 7 ∧ 0 ≤ n ∧ n < 256 ^ size.toNat)
/-- The last k bytes of a number, the greatest first. -/
def be (n : Nat) : Nat → List UInt8
  | 0 => []
  | k + 1 => be (n / 256) k ++ [UInt8.ofNat n]
def putB (bs : List UInt8) (n size : Int) : List UInt8 := if fitsB n size then bs ++ be n.toNat size.toNat else bs
def val (l : List UInt8) : Nat := l.foldl (fun a x => a * 256 + x.toNat) 0
theorem snoc_ind {α : Type} {P : List α → Prop} (h0 : P []) (h1 : ∀ l x, P l → P (l ++ [x])) (l : List α) : P l := by
  have h : ∀ m : List α, P m.reverse := by
    intro m
    induction m with
    | nil => simpa using h0
    | cons x m ih => rw [List.reverse_cons]; exact h1 _ _ ih
  have := h l.reverse
  rwa [List.reverse_reverse] at this

theorem fitsB_true {n size : Int} (h : fitsB n size = true) : 1 ≤ size ∧ size ≤ 7 ∧ 0 ≤ n ∧ n < 256 ^ size.toNat := of_decide_eq_true h

theorem length_be (n k : Nat) : (be n k).length = k := by
  induction k generalizing n with
  | zero => rfl
  | succ k ih => simp [be, ih]

theorem putB_length (bs : List UInt8) (n size : Int) (h : fitsB n size = true) : ((putB bs n size).length : Int) = bs.length + size := by
  obtain ⟨h1, h2, h3, h4⟩ := fitsB_true h
  unfold putB
  rw [if_pos h, List.length_append, length_be]
  omega
end Go.Proofs.Ytimkdpkhdbiniaa

/- Reading a name, in plain Lean, as the program does it. -/
namespace Go.Proofs.Ytimkdpkhdbiniaa

/-- How many bytes a name has, as it is written. -/
def sizeN : List (List UInt8) → Nat
  | [] => 1
  | l :: n => l.length + 1 + sizeN n
theorem sizeN_append (a b : List (List UInt8)) : sizeN (a ++ b) + 1 = sizeN a + sizeN b := by
  induction a with
  | nil => simp [sizeN]; omega
  | cons x a ih => simp only [List.cons_append, sizeN]; omega
theorem sizeN_snoc (a : List (List UInt8)) (l : List UInt8) : sizeN (a ++ [l]) = sizeN a + l.length + 1 := by
  have := sizeN_append a [l]
  simp only [sizeN] at this
  omega
theorem sizeN_length (n : List (List UInt8)) : n.length + 1 ≤ sizeN n := by
  induction n with
  | nil => simp [sizeN]
  | cons l n ih => simp only [sizeN, List.length_cons]; omega
def getP (b : List UInt8) (at_ beg nx : Nat) (ls : List (List UInt8)) : List (List UInt8) × Int × Int :=
  match b[at_]? with
  | none => ([], 0, 3)
  | some c =>
    if c.toNat = 0 then (ls, ((max nx (at_ + 1) : Nat) : Int), 0)
    else if 192 ≤ c.toNat then
      match b[at_ + 1]? with
      | none => ([], 0, 3)
      | some d => if (c.toNat * 256 + d.toNat) % 16384 < beg then getP b ((c.toNat * 256 + d.toNat) % 16384) ((c.toNat * 256 + d.toNat) % 16384) (max nx (at_ + 2)) ls else ([], 0, 6)
    else if 63 < c.toNat then ([], 0, 5)
    else if b.length < at_ + 1 + c.toNat then ([], 0, 3)
    else if 255 < sizeN ls + 1 + c.toNat then ([], 0, 5)
    else getP b (at_ + 1 + c.toNat) beg nx (ls ++ [(b.drop (at_ + 1)).take c.toNat])
termination_by (beg, 256 - sizeN ls)
decreasing_by
  · exact Prod.Lex.left _ _ (by omega)
  · refine Prod.Lex.right _ ?_
    rw [sizeN_snoc, List.length_take, List.length_drop]
    omega

section
variable {b : List UInt8} {at_ beg nx : Nat} {ls : List (List UInt8)}
theorem getP_end {c : UInt8} (h : b[at_]? = some c) (hc : c.toNat = 0) : getP b at_ beg nx ls = (ls, ((max nx (at_ + 1) : Nat) : Int), 0) := by
  rw [getP, h]; simp only; rw [if_pos hc]
theorem getP_ptr {c d : UInt8} (h : b[at_]? = some c) (hc : 192 ≤ c.toNat) (h2 : b[at_ + 1]? = some d) (hb : (c.toNat * 256 + d.toNat) % 16384 < beg) :
    getP b at_ beg nx ls = getP b ((c.toNat * 256 + d.toNat) % 16384) ((c.toNat * 256 + d.toNat) % 16384) (max nx (at_ + 2)) ls := by
  rw [getP, h]; simp only; rw [if_neg (by omega), if_pos hc, h2]; simp only; rw [if_pos hb]
theorem getP_label {c : UInt8} (h : b[at_]? = some c) (h0 : c.toNat ≠ 0) (hc : c.toNat ≤ 63) (hl : at_ + 1 + c.toNat ≤ b.length) (hs : sizeN ls + 1 + c.toNat ≤ 255) :
    getP b at_ beg nx ls = getP b (at_ + 1 + c.toNat) beg nx (ls ++ [(b.drop (at_ + 1)).take c.toNat]) := by
  rw [getP, h]; simp only; rw [if_neg h0, if_neg (by omega), if_neg (by omega), if_neg (by omega), if_neg (by omega)]
end

end Go.Proofs.Ytimkdpkhdbiniaa

/- Writing names, in plain Lean, as the program does it. No program in it. -/
namespace Go.Proofs.Ytimkdpkhdbiniaa

/-- A name's labels as they are written without pointers. -/
def restB : List (List UInt8) → List UInt8
  | [] => []
  | l :: n => UInt8.ofNat l.length :: (l ++ restB n)
def SoundN (n : List (List UInt8)) : Prop := (∀ l ∈ n, 1 ≤ l.length ∧ l.length ≤ 63) ∧ sizeN n ≤ 255
noncomputable def soundB (n : List (List UInt8)) : Bool := @decide (SoundN n) (Classical.propDecidable _)
theorem soundB_true {n : List (List UInt8)} (h : SoundN n) : soundB n = true := by unfold soundB; simpa using h
theorem soundB_false {n : List (List UInt8)} (h : ¬ SoundN n) : soundB n = false := by unfold soundB; simpa using h
theorem soundB_iff {n : List (List UInt8)} : soundB n = true ↔ SoundN n := by unfold soundB; simp
theorem SoundN.tail {l : List UInt8} {n : List (List UInt8)} (h : SoundN (l :: n)) : SoundN n := ⟨fun x hx => h.1 x (List.mem_cons_of_mem _ hx), by have := h.2; simp only [sizeN] at this; omega⟩
theorem SoundN.head {l : List UInt8} {n : List (List UInt8)} (h : SoundN (l :: n)) : 1 ≤ l.length ∧ l.length ≤ 63 := h.1 l (List.mem_cons_self ..)
theorem SoundN.drop {n : List (List UInt8)} (h : SoundN n) (k : Nat) : SoundN (n.drop k) := by
  induction k generalizing n with
  | zero => exact h
  | succ k ih =>
    cases n with
    | nil => exact h
    | cons l n => exact ih h.tail
theorem restB_length (n : List (List UInt8)) : (restB n).length + 1 = sizeN n := by
  induction n with
  | nil => rfl
  | cons l n ih => simp only [restB, sizeN, List.length_cons, List.length_append]; omega
theorem restB_inj {a b : List (List UInt8)} (ha : ∀ l ∈ a, l.length < 256) (hb : ∀ l ∈ b, l.length < 256) (h : restB a = restB b) : a = b := by
  induction a generalizing b with
  | nil =>
    cases b with
    | nil => rfl
    | cons l b => simp [restB] at h
  | cons l a ih =>
    cases b with
    | nil => simp [restB] at h
    | cons m b =>
      simp only [restB, List.cons.injEq] at h
      have hl := ha l (List.mem_cons_self ..)
      have hm := hb m (List.mem_cons_self ..)
      have e : l.length = m.length := by
        have := congrArg UInt8.toNat h.1
        simp only [UInt8.toNat_ofNat'] at this
        omega
      obtain ⟨e1, e2⟩ := List.append_inj h.2 e
      rw [e1, ih (fun x hx => ha x (List.mem_cons_of_mem _ hx)) (fun x hx => hb x (List.mem_cons_of_mem _ hx)) e2]

/-- What was written, and where rests stand: the newest one first. -/
structure Wr where
  b : List UInt8
  rests : List (List UInt8 × Nat)
def lookR : List (List UInt8 × Nat) → List UInt8 → Option Nat
  | [], _ => none
  | (r, p) :: rs, k => if r = k then some p else lookR rs k
def Wr.nil : Wr := ⟨[], []⟩
def Wr.raw (x : Wr) (bs : List UInt8) : Wr := { x with b := x.b ++ bs }
/-- A number of two bytes that leads to a place. -/
def ptrB (p : Nat) : List UInt8 := [UInt8.ofNat (192 + p / 256), UInt8.ofNat (p % 256)]
def Wr.label (x : Wr) (l : List UInt8) : Wr := x.raw (UInt8.ofNat l.length :: l)
def Wr.note (x : Wr) (r : List UInt8) : Wr := if x.b.length < 16384 then { x with rests := (r, x.b.length) :: x.rests } else x
def Wr.name : Wr → List (List UInt8) → Bool → Wr
  | x, [], _ => x.raw [0]
  | x, l :: n, short => match lookR x.rests (restB (l :: n)) with
    | some p => if short = true then x.raw (ptrB p) else (x.label l).name n short
    | none => ((x.note (restB (l :: n))).label l).name n short

theorem Wr.note_b (x : Wr) (r : List UInt8) : (x.note r).b = x.b := by unfold Wr.note; split <;> rfl
theorem Wr.note_rests (x : Wr) (r : List UInt8) : (x.note r).rests.length ≤ x.rests.length + 1 := by unfold Wr.note; split <;> simp
theorem Wr.name_b {x : Wr} (n : List (List UInt8)) (short : Bool) : ∃ y, (x.name n short).b = x.b ++ y ∧ y.length ≤ sizeN n + 1 ∧ 1 ≤ y.length := by
  induction n generalizing x with
  | nil => exact ⟨[0], rfl, by simp [sizeN], by simp⟩
  | cons l n ih =>
    unfold Wr.name
    have h1 := sizeN_length n
    split
    · split
      · exact ⟨_, rfl, by simp [ptrB, sizeN]; omega, by simp [ptrB]⟩
      · obtain ⟨y, e, h, h2⟩ := ih (x := x.label l)
        exact ⟨UInt8.ofNat l.length :: l ++ y, by rw [e]; simp [Wr.label, Wr.raw], by simp only [List.length_append, List.length_cons, sizeN]; omega, by simp⟩
    · obtain ⟨y, e, h, h2⟩ := ih (x := (x.note (restB (l :: n))).label l)
      exact ⟨UInt8.ofNat l.length :: l ++ y, by rw [e]; simp [Wr.label, Wr.raw, Wr.note_b], by simp only [List.length_append, List.length_cons, sizeN]; omega, by simp⟩
theorem Wr.name_rests {x : Wr} (n : List (List UInt8)) (short : Bool) : (x.name n short).rests.length ≤ x.rests.length + n.length := by
  induction n generalizing x with
  | nil => exact Nat.le_refl _
  | cons l n ih =>
    unfold Wr.name
    split
    · split
      · exact Nat.le_add_right _ _
      · have := ih (x := x.label l)
        simp only [Wr.label, Wr.raw, List.length_cons] at this ⊢
        omega
    · have h1 := ih (x := (x.note (restB (l :: n))).label l)
      have h2 := x.note_rests (restB (l :: n))
      simp only [Wr.label, Wr.raw, List.length_cons] at h1 ⊢
      omega
end Go.Proofs.Ytimkdpkhdbiniaa

/- wname: how a writer lies in memory. -/
namespace Go.Proofs.Ytimkdpkhdbiniaa
open Go.RowKit Go.Maps
set_option maxRecDepth 100000

section
variable {w w' : World} {B g : Nat} {F G : Nat → Prop} {x : Wr}
end

end Go.Proofs.Ytimkdpkhdbiniaa

/- The tactics that the walks use, in one place. -/
namespace Go.Proofs.Ytimkdpkhdbiniaa
open Go.RowKit
section
variable {P : Program} {f : FuncId} {args : Array Value} {w : World} {n a : Nat} {v : Value}
end
end Go.Proofs.Ytimkdpkhdbiniaa

/- num.Fits, num.Put, num.Get and the reference's, each once: what it computes. -/
namespace Go.Proofs.Ytimkdpkhdbiniaa
open Go.RowKit

theorem fits_eq {n size : Int} (h1 : 1 ≤ size) (h2 : size ≤ 7) (h3 : 0 ≤ n) : (n / 2 ^ (8 * size).toNat == 0) = fitsB n size := by
  have e : (8 * size).toNat = 8 * size.toNat := by omega
  have e2 : (2 : Int) ^ (8 * size.toNat) = 256 ^ size.toNat := by rw [Int.pow_mul]; rfl
  rw [e, e2]
  have hp : (0 : Int) < 256 ^ size.toNat := Int.pow_pos (by decide)
  unfold fitsB
  rw [Bool.eq_iff_iff, beq_iff_eq, decide_eq_true_iff]
  constructor
  · intro h
    refine ⟨h1, h2, h3, ?_⟩
    have := Int.emod_add_mul_ediv n (256 ^ size.toNat)
    have h4 := Int.emod_lt_of_pos n hp
    rw [h] at this
    omega
  · rintro ⟨_, _, _, h⟩
    exact Int.ediv_eq_zero_of_lt h3 h

set_option maxHeartbeats 400000 in
theorem fits_any (n size : Int) (w : World) :
    Calls Try.prog 88 #[.int .i64 n, .int .i64 size] w (Ret (.bool (fitsB n size)) w) := by
  by_cases h1 : 1 ≤ size
  · by_cases h2 : size ≤ 7
    · by_cases h3 : 0 ≤ n
      · have he := Lib.hid (fits_eq h1 h2 h3)
        go_enter Try.func88, Try.ntmps88
        go_wp2
        go_ret
        exact ⟨ret_bool he.out, rfl⟩
      · have he : Hid (false = fitsB n size) := by unfold fitsB; exact (decide_eq_false fun h => h3 h.2.2.1).symm
        go_enter Try.func88, Try.ntmps88
        go_wp2
        go_ret
        exact ⟨ret_bool he.out, rfl⟩
    · have he : Hid (false = fitsB n size) := by unfold fitsB; exact (decide_eq_false fun h => h2 h.2.1).symm
      go_enter Try.func88, Try.ntmps88
      go_wp2
      go_ret
      exact ⟨ret_bool he.out, rfl⟩
  · have he : Hid (false = fitsB n size) := by unfold fitsB; exact (decide_eq_false fun h => h1 h.1).symm
    go_enter Try.func88, Try.ntmps88
    go_wp2
    go_ret
    exact ⟨ret_bool he.out, rfl⟩

theorem rfits_eq {n size : Int} (h1 : 1 ≤ size) (h2 : size ≤ 7) (h3 : 0 ≤ n) : (n / 256 ^ size.toNat == 0) = fitsB n size := by
  rw [← fits_eq h1 h2 h3]
  have e : (8 * size).toNat = 8 * size.toNat := by omega
  have e2 : (2 : Int) ^ (8 * size.toNat) = 256 ^ size.toNat := by rw [Int.pow_mul]; rfl
  rw [e, e2]

set_option maxHeartbeats 400000 in
theorem rfits_any (n size : Int) (w : World) (hm : n ≤ 9223372036854775807) :
    Calls Try.prog 90 #[.int .i64 n, .int .i64 size] w (Ret (.bool (fitsB n size)) w) := by
  by_cases h1 : 1 ≤ size
  · by_cases h2 : size ≤ 7
    · by_cases h3 : 0 ≤ n
      · have he := Lib.hid (rfits_eq h1 h2 h3)
        go_enter Try.func90, Try.ntmps90
        go_wp2
        go_loop [0, 5] (fun m i => ∃ k : Nat, i = .int .i64 k ∧ (k : Int) ≤ size ∧ m = .int .i64 (n / 256 ^ k)) (fun _ i => (size - intOf i).toNat)
        case atStart => exact ⟨0, rfl, by omega, by simp⟩
        case round =>
          obtain ⟨k, rfl, hk, rfl⟩ := hrel
          have hp : (0 : Int) < 256 ^ k := Int.pow_pos (by decide)
          have h4 : 0 ≤ n / 256 ^ k := Int.ediv_nonneg h3 (by omega)
          have HS : Hid (n / 256 ^ k / 256 = n / 256 ^ (k + 1)) := by
            show _ = _
            rw [Int.ediv_ediv_of_nonneg (by omega), Int.pow_succ]
          have h5 : n / 256 ^ k ≤ 9223372036854775807 := Int.le_trans (Int.ediv_le_self _ h3) hm
          clear hp
          obtain ⟨q, hq⟩ : ∃ q, q = n / 256 ^ k := ⟨_, rfl⟩
          rw [← hq] at h4 h5 HS ⊢
          have HQ := Lib.hid hq
          clear hq
          by_cases hlt : (k : Int) < size
          · go_wp2
            go_round
            case rel => exact ⟨k + 1, by go_num, by omega, by rw [← HS.out]⟩
            case measure => simp [intOf]; omega
          · go_wp2
            go_ret
            refine ⟨ret_bool ?_, rfl⟩
            rw [← he.out, HQ.out]
            have : size.toNat = k := by omega
            rw [this]
      · have he : Hid (false = fitsB n size) := by unfold fitsB; exact (decide_eq_false fun h => h3 h.2.2.1).symm
        go_enter Try.func90, Try.ntmps90
        go_wp2
        go_ret
        exact ⟨ret_bool he.out, rfl⟩
    · have he : Hid (false = fitsB n size) := by unfold fitsB; exact (decide_eq_false fun h => h2 h.2.1).symm
      go_enter Try.func90, Try.ntmps90
      go_wp2
      go_ret
      exact ⟨ret_bool he.out, rfl⟩
  · have he : Hid (false = fitsB n size) := by unfold fitsB; exact (decide_eq_false fun h => h1 h.1).symm
    go_enter Try.func90, Try.ntmps90
    go_wp2
    go_ret
    exact ⟨ret_bool he.out, rfl⟩
end Go.Proofs.Ytimkdpkhdbiniaa

/- num.Put: a number behind bytes. -/
namespace Go.Proofs.Ytimkdpkhdbiniaa
open Go.RowKit

end Go.Proofs.Ytimkdpkhdbiniaa

/- wname: New, Len, Bytes, Raw, Num. -/
namespace Go.Proofs.Ytimkdpkhdbiniaa
open Go.RowKit Go.Maps

set_option maxHeartbeats 400000 in
theorem sclone_any (A : Option Addr) (m c : Nat) (bs : List UInt8) (w : World) (hb : RdB w A m bs) (hm : m ≤ 140737488355328) :
    Calls Try.prog 152 #[.slice A m c] w (RetP (fun v w' => OwnB w' w.heap.size v bs) w) := by
  have hlb := hb.len
  subst hlb
  rcases A with _ | ad
  · have hn : bs = [] := by
      rcases bs with _ | ⟨x, bs⟩
      · rfl
      · obtain ⟨b, off, e, _⟩ := hb.2 (by simp); cases e
    subst hn
    have he := fun W : World => Lib.run_eql_slice_nil (P := Try.prog) W 22 5 none ([] : List UInt8).length c 0 0 Try.underlying22
    simp only [List.length_nil, Option.isNone_none] at he
    go_enter Try.func152, Try.ntmps152
    go_wp2
    go_ret
    exact ⟨_, rfl, OwnB.nil _ _, bl⟩
  · have he := fun W : World => Lib.run_eql_slice_nil (P := Try.prog) W 22 5 (some ad) bs.length c 0 0 Try.underlying22
    simp only [Option.isNone_some] at he
    go_enter Try.func152, Try.ntmps152
    go_wp2_with ((with_reducible show wpList _ _ _ (⟨some 7, _, _, _, _, _⟩ :: _) _ _); refine wpL_cloneB rfl (.tmp 5) (.tmp 6) rfl rfl _ _ c bs rfl hb hm ?_; intro v2 w2 hown2 hb2)
    go_ret
    exact ⟨_, rfl, hown2, hb2⟩

end Go.Proofs.Ytimkdpkhdbiniaa

/- Slices of strings of the call's own, over this seat's type numbers. -/
namespace Go.Proofs.Ytimkdpkhdbiniaa
open Go.RowKit

theorem elS : ElT Try.prog 23 9 encS 16 := ElT.mk Try.underlying23 (.string ByteArray.empty) 1 (by kernel_rfl) rfl rfl

/-- A slice of strings of the call's own. -/
def OwnS (w : World) (base : Nat) (v : Value) (l : List (List UInt8)) : Prop := OwnE encS 9 noS w base v l
theorem OwnS.nil (w : World) (base : Nat) : OwnS w base (.slice none 0 0) [] := OwnE.nil _ _ _ _

end Go.Proofs.Ytimkdpkhdbiniaa

/- wname: rest; name: Size, Sound. -/
namespace Go.Proofs.Ytimkdpkhdbiniaa
open Go.RowKit

/-- A slice of strings, its element. -/
theorem strs_at {So Si : Nat → Prop} {w : World} {A : Option Addr} {n : Nat} {ns : List (List UInt8)} (h : Els encS So Si w A n ns) {k : Nat} {l : List UInt8} (hx : ns[k]? = some l) :
    ∃ b off, A = some ⟨b, off, none⟩ ∧ So b ∧ w.cell? ⟨b, off + k, none⟩ = some (.string (bstr l)) ∧ l.length ≤ maxLen := by
  obtain ⟨b, off, rfl, hs, hat⟩ := h.flat (by rw [← h.len]; exact Nat.lt_of_le_of_lt (Nat.zero_le k) (List.getElem?_eq_some_iff.1 hx).1)
  obtain ⟨r, ⟨rfl, hl⟩, hc⟩ := hat k l hx
  exact ⟨b, off, rfl, hs, by simpa [encS, flatE] using hc 0 _ rfl, hl⟩

theorem sizeN_take {ns : List (List UInt8)} {k : Nat} {l : List UInt8} (hx : ns[k]? = some l) : sizeN (ns.take (k + 1)) = sizeN (ns.take k) + l.length + 1 := by
  rw [List.take_add_one, hx, Option.toList_some, sizeN_snoc]
theorem sizeN_take_le (ns : List (List UInt8)) (k : Nat) : sizeN (ns.take k) ≤ sizeN ns := by
  have := sizeN_append (ns.take k) (ns.drop k)
  rw [List.take_append_drop] at this
  have := sizeN_length (ns.drop k)
  omega

set_option maxHeartbeats 400000 in
theorem size_any (A : Option Addr) (n c : Nat) (ns : List (List UInt8)) (w : World) {So Si : Nat → Prop} (h : Els encS So Si w A n ns) (hs : sizeN ns ≤ 1000000000000) :
    Calls Try.prog 112 #[.slice A n c] w (Ret (.int .i64 (sizeN ns : Int)) w) := by
  have hl := h.len
  subst hl
  have hsl := sizeN_length ns
  go_enter Try.func112, Try.ntmps112
  go_wp2
  go_loop [3, 8] (fun sv iv => ∃ k : Nat, iv = .int .i64 k ∧ k ≤ ns.length ∧ sv = .int .i64 (sizeN (ns.take k) : Nat)) (fun _ iv => ns.length - (intOf iv).toNat)
  case atStart => exact ⟨0, rfl, Nat.zero_le _, rfl⟩
  case round =>
    obtain ⟨k, rfl, hk, rfl⟩ := hrel
    have ht := sizeN_take_le ns k
    by_cases hlt : k < ns.length
    · obtain ⟨l, hx⟩ : ∃ l, ns[k]? = some l := ⟨_, List.getElem?_eq_getElem hlt⟩
      obtain ⟨b, off, rfl, _, hc, hll⟩ := strs_at h hx
      have hst := sizeN_take hx
      have ht2 := sizeN_take_le ns (k + 1)
      have hle : sizeN (ns.take k) + l.length + 1 ≤ 1000000000000 := by omega
      have HS := Lib.hid hst
      clear hx hst ht2
      generalize sizeN (ns.take k) = z at HS ht hle ⊢
      have hbs := bstr_size l
      go_wp2
      go_round
      case rel => exact ⟨k + 1, by go_num, by omega, by rw [HS.out]; go_num⟩
      case measure => simp [intOf]; omega
    · obtain rfl : k = ns.length := by omega
      rw [List.take_length]
      go_wp2
      go_ret
      exact ⟨rfl, rfl⟩

set_option maxRecDepth 100000 in
set_option maxHeartbeats 400000 in
theorem badlabel_any (l : List UInt8) (w : World) : Calls Try.prog 111 #[.string (bstr l)] w (Ret (.bool (decide (¬ (1 ≤ l.length ∧ l.length ≤ 63)))) w) := by
  have hbs := bstr_size l
  by_cases h0 : l = []
  · subst h0
    have he : (bstr ([] : List UInt8)).toList = [] := bstr_toList []
    go_enter Try.func111, Try.ntmps111
    go_wp2
    go_ret
    exact ⟨ret_bool rfl, rfl⟩
  · have hp : 0 < l.length := List.length_pos_iff.2 h0
    have he : (bstr l).toList.isEmpty = false := by rw [bstr_toList]; simpa using h0
    have he2 : (bstr l).toList = [] ↔ False := by rw [bstr_toList]; simp [h0]
    go_enter Try.func111, Try.ntmps111
    go_wp2
    go_ret
    refine ⟨ret_bool ?_, rfl⟩
    show decide (63 < (l.length : Int)) = _
    rw [Bool.eq_iff_iff, decide_eq_true_iff, decide_eq_true_iff]
    omega

/-- Some label may not be. -/
def BadLab (ns : List (List UInt8)) : Prop := ¬ ∀ l ∈ ns, 1 ≤ l.length ∧ l.length ≤ 63
/-- A place, or one below 0. -/
def RetIdx (bad : Prop) (w : World) (e : Ending) (w' : World) : Prop := ∃ i : Int, e = .returned (.int .i64 i) ∧ (0 ≤ i ↔ bad) ∧ w = w'

set_option maxRecDepth 100000 in
set_option maxHeartbeats 1000000 in
theorem index_any (A : Option Addr) (n c : Nat) (ns : List (List UInt8)) (w : World) {So Si : Nat → Prop} (h : Els encS So Si w A n ns) (hn : n ≤ 1000000000) :
    Calls Try.prog 160 #[.slice A n c, .func (.func 111) #[] #[]] w (RetIdx (BadLab ns) w) := by
  have hl := h.len
  subst hl
  go_enter Try.func160, Try.ntmps160
  go_wp2
  go_loop [5, 8] (fun _ iv => ∃ k : Nat, iv = .int .i64 k ∧ k ≤ ns.length ∧ Hid (∀ l ∈ ns.take k, 1 ≤ l.length ∧ l.length ≤ 63)) (fun _ iv => ns.length - (intOf iv).toNat)
  case atStart => exact ⟨0, rfl, Nat.zero_le _, fun l hl => by simp at hl⟩
  case round =>
    obtain ⟨k, rfl, hk, HK⟩ := hrel
    by_cases hlt : k < ns.length
    · obtain ⟨l, hx⟩ : ∃ l, ns[k]? = some l := ⟨_, List.getElem?_eq_getElem hlt⟩
      obtain ⟨b, off, rfl, _, hc, hll⟩ := strs_at h hx
      have HX := Lib.hid hx
      clear hx
      by_cases hb : 1 ≤ l.length ∧ l.length ≤ 63
      · have hq := Lib.hid (badlabel_any l w)
        rw [show decide (¬ (1 ≤ l.length ∧ l.length ≤ 63)) = false by simp [hb]] at hq
        go_wp2_with (go_at_call 111; refine hq.out.mono ?_; rintro e w1 ⟨rfl, rfl⟩)
        go_round
        case rel => exact ⟨k + 1, by go_num, by omega, fun m hm => by rw [List.take_add_one, HX.out, Option.toList_some, List.mem_append, List.mem_singleton] at hm; exact hm.elim (HK.out m) (fun e => by rw [e]; exact hb)⟩
        case measure => simp [intOf]; omega
      · have hq := Lib.hid (badlabel_any l w)
        rw [show decide (¬ (1 ≤ l.length ∧ l.length ≤ 63)) = true by simp [hb]] at hq
        have HB := Lib.hid hb
        clear hb
        go_wp2_with (go_at_call 111; refine hq.out.mono ?_; rintro e w1 ⟨rfl, rfl⟩)
        go_ret
        exact ⟨_, rfl, ⟨fun _ ha => HB.out (ha l (List.mem_of_getElem? HX.out)), fun _ => Int.natCast_nonneg _⟩, rfl⟩
    · obtain rfl : k = ns.length := by omega
      rw [List.take_length] at HK
      go_wp2
      go_ret
      exact ⟨-1, rfl, ⟨fun h => absurd h (by decide), fun h => absurd HK.out h⟩, rfl⟩

set_option maxRecDepth 100000 in
set_option maxHeartbeats 400000 in
theorem contains_any (A : Option Addr) (n c : Nat) (ns : List (List UInt8)) (w : World) {So Si : Nat → Prop} (h : Els encS So Si w A n ns) (hn : n ≤ 1000000000) (b : Bool) (hb : b = true ↔ BadLab ns) :
    Calls Try.prog 110 #[.slice A n c, .func (.func 111) #[] #[]] w (Ret (.bool b) w) := by
  have HB := Lib.hid hb
  clear hb
  go_enter Try.func110, Try.ntmps110
  go_wp2_with (go_at_call 160; refine (index_any A n c ns _ h hn).mono ?_; rintro e w1 ⟨i, rfl, hi, rfl⟩; have HI := Lib.hid hi; clear hi)
  go_ret
  refine ⟨ret_bool ?_, rfl⟩
  show decide (0 ≤ i) = b
  rw [Bool.eq_iff_iff, decide_eq_true_iff, HI.out, HB.out]

theorem sizeN_le {ns : List (List UInt8)} (h : ∀ l ∈ ns, l.length ≤ 63) : sizeN ns ≤ 64 * ns.length + 1 := by
  induction ns with
  | nil => simp [sizeN]
  | cons l n ih =>
    have h1 := ih (fun x hx => h x (List.mem_cons_of_mem _ hx))
    have h2 := h l (List.mem_cons_self ..)
    simp only [sizeN, List.length_cons]
    omega

set_option maxRecDepth 100000 in
set_option maxHeartbeats 1000000 in
theorem sound_any (A : Option Addr) (n c : Nat) (ns : List (List UInt8)) (w : World) {So Si : Nat → Prop} (h : Els encS So Si w A n ns) (hn : n ≤ 1000000000) :
    Calls Try.prog 61 #[.slice A n c] w (Ret (.bool (soundB ns)) w) := by
  have hl := h.len
  subst hl
  have hsl := sizeN_length ns
  by_cases h1 : ns.length ≤ 255
  · by_cases h2 : ∀ l ∈ ns, 1 ≤ l.length ∧ l.length ≤ 63
    · have h3 := sizeN_le (fun l hl => (h2 l hl).2)
      have hq : soundB ns = decide ((sizeN ns : Int) ≤ 255) := by
        rw [Bool.eq_iff_iff, soundB_iff, decide_eq_true_iff]
        exact ⟨fun h => by have := h.2; omega, fun h => ⟨h2, by omega⟩⟩
      have HQ := Lib.hid hq
      have hcf := Lib.hid (contains_any A ns.length c ns w h hn false ⟨(fun h => by cases h), fun h => absurd h2 h⟩)
      clear h2 hq
      go_enter Try.func61, Try.ntmps61
      go_wp2_with (first
        | (go_at_call 110; refine hcf.out.mono ?_; rintro e w1 ⟨rfl, rfl⟩)
        | (go_at_call 112; refine (size_any A ns.length c ns _ h (by omega)).mono ?_; rintro e w1 ⟨rfl, rfl⟩))
      go_ret
      exact ⟨ret_bool HQ.out.symm, rfl⟩
    · have hq := Lib.hid (soundB_false (fun h => h2 h.1))
      have hcf := Lib.hid (contains_any A ns.length c ns w h hn true ⟨fun _ => h2, fun _ => rfl⟩)
      clear h2
      go_enter Try.func61, Try.ntmps61
      go_wp2_with (go_at_call 110; refine hcf.out.mono ?_; rintro e w1 ⟨rfl, rfl⟩)
      go_ret
      exact ⟨ret_bool hq.out.symm, rfl⟩
  · have hq := Lib.hid (soundB_false (n := ns) (fun h => h1 (by have := h.2; omega)))
    have hd : decide ((ns.length : Int) ≤ 255) = false := by simp; omega
    go_enter Try.func61, Try.ntmps61
    go_wp2
    go_ret
    exact ⟨ret_bool hq.out.symm, rfl⟩
end Go.Proofs.Ytimkdpkhdbiniaa

/- The reference's Size, Sound, Exact of names. -/
namespace Go.Proofs.Ytimkdpkhdbiniaa
open Go.RowKit

set_option maxHeartbeats 400000 in
theorem rsize_any (A : Option Addr) (n c : Nat) (ns : List (List UInt8)) (w : World) {So Si : Nat → Prop} (h : Els encS So Si w A n ns) (hs : sizeN ns ≤ 1000000000000) :
    Calls Try.prog 66 #[.slice A n c] w (Ret (.int .i64 (sizeN ns : Int)) w) := by
  have hl := h.len
  subst hl
  have hsl := sizeN_length ns
  go_enter Try.func66, Try.ntmps66
  go_wp2
  go_loop [3, 4] (fun sv iv => ∃ k : Nat, iv = .int .i64 k ∧ k ≤ ns.length ∧ sv = .int .i64 (sizeN (ns.take k) : Nat)) (fun _ iv => ns.length - (intOf iv).toNat)
  case atStart => exact ⟨0, rfl, Nat.zero_le _, rfl⟩
  case round =>
    obtain ⟨k, rfl, hk, rfl⟩ := hrel
    have ht := sizeN_take_le ns k
    by_cases hlt : k < ns.length
    · obtain ⟨l, hx⟩ : ∃ l, ns[k]? = some l := ⟨_, List.getElem?_eq_getElem hlt⟩
      obtain ⟨b, off, rfl, _, hc, hll⟩ := strs_at h hx
      have hst := sizeN_take hx
      have ht2 := sizeN_take_le ns (k + 1)
      have hle : sizeN (ns.take k) + l.length + 1 ≤ 1000000000000 := by omega
      have HS := Lib.hid hst
      clear hx hst ht2
      generalize sizeN (ns.take k) = z at HS ht hle ⊢
      have hbs := bstr_size l
      go_wp2
      go_round
      case rel => exact ⟨k + 1, by go_num, by omega, by rw [HS.out]; go_num⟩
      case measure => simp [intOf]; omega
    · obtain rfl : k = ns.length := by omega
      rw [List.take_length]
      go_wp2
      go_ret
      exact ⟨rfl, rfl⟩

theorem sizeN_labels (ns : List (List UInt8)) (h : ∀ l ∈ ns, 1 ≤ l.length ∧ l.length ≤ 63) : 2 * ns.length + 1 ≤ sizeN ns ∧ sizeN ns ≤ 64 * ns.length + 1 := by
  induction ns with
  | nil => simp [sizeN]
  | cons l n ih =>
    have h1 := h l (List.mem_cons_self ..)
    have h2 := ih (fun m hm => h m (List.mem_cons_of_mem _ hm))
    simp only [sizeN, List.length_cons]
    omega

set_option maxRecDepth 100000 in
set_option maxHeartbeats 1000000 in
theorem rsound_any (A : Option Addr) (n c : Nat) (ns : List (List UInt8)) (w : World) {So Si : Nat → Prop} (h : Els encS So Si w A n ns) :
    Calls Try.prog 27 #[.slice A n c] w (Ret (.bool (soundB ns)) w) := by
  have hl := h.len
  subst hl
  by_cases h127 : 127 < ns.length
  · have hb : soundB ns = false := soundB_false fun hs => by have := sizeN_labels ns hs.1; have := hs.2; omega
    rw [hb]
    clear hb
    go_enter Try.func27, Try.ntmps27
    go_wp2
    go_ret
    exact ⟨rfl, rfl⟩
  · go_enter Try.func27, Try.ntmps27
    go_wp2
    go_loop [3] (fun iv => ∃ k : Nat, iv = .int .i64 k ∧ k ≤ ns.length ∧ Hid (∀ l ∈ ns.take k, 1 ≤ l.length ∧ l.length ≤ 63)) (fun iv => ns.length - (intOf iv).toNat)
    case atStart => exact ⟨0, rfl, Nat.zero_le _, fun l hl => by simp at hl⟩
    case round =>
      obtain ⟨k, rfl, hk, HK⟩ := hrel
      by_cases hlt : k < ns.length
      · obtain ⟨l, hx⟩ : ∃ l, ns[k]? = some l := ⟨_, List.getElem?_eq_getElem hlt⟩
        obtain ⟨b, off, rfl, _, hc, hll⟩ := strs_at h hx
        have HX := Lib.hid hx
        have hbs := bstr_size l
        clear hx
        by_cases hb : 1 ≤ l.length ∧ l.length ≤ 63
        · obtain ⟨h1, h2⟩ := hb
          go_wp2
          go_round
          case rel => exact ⟨k + 1, by go_num, by omega, fun m hm => by
            rw [List.take_add_one, HX.out, Option.toList_some, List.mem_append, List.mem_singleton] at hm
            rcases hm with hm | rfl
            · exact HK.out m hm
            · exact ⟨h1, h2⟩⟩
          case measure => simp [intOf]; omega
        · have hf : soundB ns = false := soundB_false fun hs => hb (hs.1 l (List.mem_of_getElem? HX.out))
          rw [hf]
          clear hf
          by_cases h1 : l.length < 1
          · go_wp2
            go_ret
            exact ⟨rfl, rfl⟩
          · have h2 : 63 < l.length := by omega
            go_wp2
            go_ret
            exact ⟨rfl, rfl⟩
      · obtain rfl : k = ns.length := by omega
        have hlab := HK.out
        rw [List.take_length] at hlab
        have hz := sizeN_labels ns hlab
        have HB := Lib.hid (show soundB ns = decide ((sizeN ns : Int) ≤ 255) by
          rw [Bool.eq_iff_iff, soundB_iff, decide_eq_true_iff]
          exact ⟨fun hs => by have := hs.2; omega, fun hs => ⟨hlab, by omega⟩⟩)
        clear hlab
        go_wp2_with (go_at_call 66; refine (rsize_any _ _ _ ns _ h (by omega)).mono ?_; rintro e w1 ⟨rfl, rfl⟩)
        go_ret
        exact ⟨ret_bool HB.out.symm, rfl⟩

set_option maxRecDepth 100000 in
set_option maxHeartbeats 1000000 in
theorem rexact_any (A A' : Option Addr) (n c n' c' : Nat) (xs ys : List (List UInt8)) (w : World) {So Si So' Si' : Nat → Prop} (hx : Els encS So Si w A n xs) (hy : Els encS So' Si' w A' n' ys) (hn : n ≤ maxLen) (hn' : n' ≤ maxLen) :
    Calls Try.prog 28 #[.slice A n c, .slice A' n' c'] w (RetN (.bool (decide (xs = ys))) w) := by
  unfold maxLen at hn hn'
  have hlx := Lib.hid hx.len
  have hly := Lib.hid hy.len
  by_cases hnn : n = n'
  · subst hnn
    go_enter Try.func28, Try.ntmps28
    go_wp2
    go_loopw [5] (fun i wr => ∃ k m : Nat, i = .int .i64 k ∧ k ≤ n ∧ wr = w.drewN m ∧ xs.take k = ys.take k) (fun i _ => n - (intOf i).toNat)
    case atStart => exact ⟨0, 0, rfl, Nat.zero_le _, rfl, rfl⟩
    case round =>
      obtain ⟨k, m, rfl, hk, rfl, ht⟩ := hrel
      have HT := Lib.hid ht
      clear ht
      by_cases hlt : k < n
      · obtain ⟨x, gx⟩ : ∃ x, xs[k]? = some x := ⟨_, List.getElem?_eq_getElem (by rw [hlx.out]; exact hlt)⟩
        obtain ⟨y, gy⟩ : ∃ y, ys[k]? = some y := ⟨_, List.getElem?_eq_getElem (by rw [hly.out]; exact hlt)⟩
        obtain ⟨b, off, rfl, _, cx, _⟩ := strs_at hx gx
        obtain ⟨b', off', rfl, _, cy, _⟩ := strs_at hy gy
        have GX := Lib.hid gx
        have GY := Lib.hid gy
        clear gx gy
        by_cases hxy : x = y
        · subst hxy
          go_wp2
          go_quiet (fail)
          go_wp2
          go_roundw
          case rel => exact ⟨k + 1, _, by go_num, by omega, rfl, take_eq_succ HT.out GX.out GY.out rfl⟩
          case measure => simp [intOf]; omega
        · have hbne : ((bstr x).toList == (bstr y).toList) = false := by rw [bstr_toList, bstr_toList, beq_eq_false_iff_ne]; exact hxy
          go_wp2
          go_quiet (fail)
          go_wp2
          go_ret
          exact ⟨ret_bool (decide_eq_false (ne_of_get GX.out GY.out hxy)).symm, _, World.drewN_drewN _ _ _⟩
      · go_wp2
        go_ret
        have hk' : k = n := by omega
        refine ⟨ret_bool (decide_eq_true ?_).symm, _, rfl⟩
        have := HT.out
        rwa [hk', List.take_of_length_le (by rw [hlx.out]; omega), List.take_of_length_le (by rw [hly.out]; omega)] at this
  · have hb : ((n : Int) != (n' : Int)) = true := by rw [bne_iff_ne]; omega
    go_enter Try.func28, Try.ntmps28
    go_wp2
    go_ret
    refine ⟨ret_bool (decide_eq_false ?_).symm, 0, rfl⟩
    rintro rfl
    exact hnn (hlx.out.symm.trans hly.out)
end Go.Proofs.Ytimkdpkhdbiniaa

/- gazetteerref01.Same: are two lists of bytes the same. -/
namespace Go.Proofs.Ytimkdpkhdbiniaa
open Go.RowKit

set_option maxHeartbeats 400000 in
theorem same_any (A A' : Option Addr) (n c n' c' : Nat) (xs ys : List UInt8) (w : World) (hx : RdB w A n xs) (hy : RdB w A' n' ys) (hn : n ≤ maxLen) (hn' : n' ≤ maxLen) :
    Calls Try.prog 25 #[.slice A n c, .slice A' n' c'] w (RetN (.bool (decide (xs = ys))) w) := by
  unfold maxLen at hn hn'
  have hlx := Lib.hid hx.len
  have hly := Lib.hid hy.len
  by_cases hnn : n = n'
  · subst hnn
    go_enter Try.func25, Try.ntmps25
    go_wp2
    go_loopw [5] (fun i wr => ∃ k m : Nat, i = .int .i64 k ∧ k ≤ n ∧ wr = w.drewN m ∧ xs.take k = ys.take k) (fun i _ => n - (intOf i).toNat)
    case atStart => exact ⟨0, 0, rfl, Nat.zero_le _, rfl, rfl⟩
    case round =>
      obtain ⟨k, m, rfl, hk, rfl, ht⟩ := hrel
      have HT := Lib.hid ht
      clear ht
      by_cases hlt : k < n
      · obtain ⟨b, off, x, rfl, gx, cx⟩ := hx.at_ hlt
        obtain ⟨b', off', y, rfl, gy, cy⟩ := hy.at_ hlt
        have GX := Lib.hid gx
        have GY := Lib.hid gy
        clear gx gy
        go_wp2
        go_quiet (fail)
        go_wp2
        · have hne : (↑x.toNat != (↑y.toNat : Int)) = true := by assumption
          go_ret
          refine ⟨ret_bool (decide_eq_false (ne_of_get GX.out GY.out fun e => ?_)).symm, _, World.drewN_drewN _ _ _⟩
          rw [e] at hne; simp at hne
        · have heq : (↑x.toNat != (↑y.toNat : Int)) = false := by assumption
          go_roundw
          case rel => exact ⟨k + 1, _, by go_num, by omega, rfl, take_eq_succ HT.out GX.out GY.out (u8_eq (by simpa using heq))⟩
          case measure => simp [intOf]; omega
      · go_wp2
        go_ret
        have hk' : k = n := by omega
        refine ⟨ret_bool (decide_eq_true ?_).symm, _, rfl⟩
        have := HT.out
        rwa [hk', List.take_of_length_le (by rw [hlx.out]; omega), List.take_of_length_le (by rw [hly.out]; omega)] at this
  · have hb : ((n : Int) != (n' : Int)) = true := by rw [bne_iff_ne]; omega
    go_enter Try.func25, Try.ntmps25
    go_wp2
    go_ret
    refine ⟨ret_bool (decide_eq_false ?_).symm, 0, rfl⟩
    rintro rfl
    exact hnn (hlx.out.symm.trans hly.out)
end Go.Proofs.Ytimkdpkhdbiniaa

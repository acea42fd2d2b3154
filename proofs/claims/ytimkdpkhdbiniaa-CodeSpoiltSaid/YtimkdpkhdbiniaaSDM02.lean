/- Parts of a proof, joined: Foot, NumPlain, WnamePlain, WtrPlain, WtrMem, Tac, Num, Put, Wtr1, Strs, Wtr2, RName, Same. -/
import Derived.Laws.BitsAllLaws
import Derived.Laws.BitsLemmas
import Derived.RowKit
import Derived.Maps.Own
import Derived.Maps.OwnSet
import Derived.Maps.Views
import Derived.StringKeys
import Derived.Deep.Cut
import Derived.Deep.CutBlock
import Derived.Deep.DeepCutAuto
import Derived.Deep.DeepMust
import Derived.Deep.DeepFit
import Derived.Deep.RegionHeld3
import Derived.Deep.LoopGhost
import Derived.Outline
import Derived.Test.YtimkdpkhdbiniaaChecked
import Derived.Test.YtimkdpkhdbiniaaSDM01
/- What a call may have written: the blocks of a set, and new ones. No program in it. -/
namespace Go.Proofs.Ytimkdpkhdbiniaa
open Go.RowKit

/-- Whatever was there and is not of F is as it was. -/
structure Chg (F : Nat → Prop) (w w' : World) : Prop where
  os : w'.os = w.os
  tape : w'.tape = w.tape
  output : w'.output = w.output
  size : w.heap.size ≤ w'.heap.size
  block : ∀ k, k < w.heap.size → ¬ F k → w'.heap[k]? = w.heap[k]?

section
variable {F G : Nat → Prop} {a b c : World}
theorem Chg.refl (F : Nat → Prop) (a : World) : Chg F a a := ⟨rfl, rfl, rfl, Nat.le_refl _, fun _ _ _ => rfl⟩
theorem Chg.trans (h : Chg F a b) (k : Chg G b c) (hG : ∀ x, G x → F x ∨ a.heap.size ≤ x) : Chg F a c :=
  ⟨k.os.trans h.os, k.tape.trans h.tape, k.output.trans h.output, Nat.le_trans h.size k.size, fun i hi hF =>
    (k.block i (Nat.lt_of_lt_of_le hi h.size) (fun hg => (hG i hg).elim hF (fun h => by omega))).trans (h.block i hi hF)⟩
theorem Chg.mono (h : Chg F a b) (hF : ∀ x, F x → G x ∨ a.heap.size ≤ x) : Chg G a b :=
  ⟨h.os, h.tape, h.output, h.size, fun i hi hG => h.block i hi (fun hf => (hF i hf).elim hG (fun h => by omega))⟩
theorem Chg.of_below (h : Below a.heap.size a b) : Chg F a b := ⟨h.os, h.tape, h.output, h.size, fun i hi _ => h.block i hi⟩
theorem Chg.below {B : Nat} (h : Chg F a b) (hF : ∀ x, F x → B ≤ x) (hB : B ≤ a.heap.size) : Below B a b :=
  ⟨h.os, h.tape, h.output, h.size, fun i hi => h.block i (by omega) (fun hf => by have := hF i hf; omega)⟩
theorem Chg.setCell (h : Chg F a b) {p : Addr} (hp : F p.block ∨ a.heap.size ≤ p.block) (u : Value) : Chg F a (b.setCell p u) :=
  ⟨h.os, h.tape, h.output, by simp [World.setCell]; exact h.size, fun i hi hF => by
    have hne : i ≠ p.block := fun e => by subst e; exact hp.elim hF (fun h => by omega)
    exact (Below.heap_setCell b p u i hne).trans (h.block i hi hF)⟩
theorem Chg.setRow (h : Chg F a b) {g : Nat} (hp : F g ∨ a.heap.size ≤ g) (cs : Array Value) : Chg F a (b.setRow g cs) :=
  ⟨h.os, h.tape, h.output, by simp; exact h.size, fun i hi hF => by
    have hne : i ≠ g := fun e => by subst e; exact hp.elim hF (fun h => by omega)
    exact (setRow_other b g i cs hne).trans (h.block i hi hF)⟩
theorem Chg.alloc (h : Chg F a b) (o : Obj) : Chg F a (b.alloc o) :=
  h.trans (G := fun _ => False) (Chg.of_below ((Below.refl _ _).alloc (Nat.le_refl _) o)) (fun _ h => h.elim)
theorem Chg.drew (h : Chg F a b) : Chg F a b.drew := ⟨h.os, h.tape, h.output, h.size, h.block⟩
theorem Chg.drewN (h : Chg F a b) (k : Nat) : Chg F a (b.drewN k) := ⟨h.os, h.tape, h.output, h.size, h.block⟩
theorem Chg.grown (h : Chg F a b) {row : Option Nat} (hg : b.grownBy c row) (hr : ∀ k, row = some k → F k ∨ a.heap.size ≤ k) : Chg F a c :=
  ⟨hg.os.trans h.os, hg.tape.trans h.tape, hg.output.trans h.output, Nat.le_trans h.size hg.size, fun i hi hF =>
    (hg.block i (Nat.lt_of_lt_of_le hi h.size) (fun e => (hr i e.symm).elim hF (fun h => by omega))).trans (h.block i hi hF)⟩
theorem Chg.nx (h : Chg F a b) (k : Below b.heap.size b c) : Chg F a c := h.trans (G := fun _ => False) (Chg.of_below k) (fun _ h => h.elim)
theorem Chg.cell (h : Chg F a b) {p : Addr} {u : Value} (hc : a.cell? p = some u) (hF : ¬ F p.block) : b.cell? p = some u :=
  (World.cell?_of_block (h.block _ (World.block_lt_of_cell? a p hc) hF)).trans hc
theorem Chg.heap (h : Chg F a b) {g : Nat} {o : Obj} (hc : a.heap[g]? = some o) (hF : ¬ F g) : b.heap[g]? = some o :=
  (h.block g (Array.getElem?_eq_some_iff.1 hc).1 hF).trans hc
end

section
variable {F : Nat → Prop} {w w' : World} {A : Option Addr} {n : Nat} {bs : List UInt8}
theorem RdB.chg (h : RdB w A n bs) (hc : Chg F w w') (hF : ∀ b off, A = some ⟨b, off, none⟩ → ¬ F b) : RdB w' A n bs :=
  ⟨h.1, fun hn => by
    obtain ⟨b, off, e, hr⟩ := h.2 hn
    exact ⟨b, off, e, fun j u hu => hc.cell (hr j u hu) (hF b off e)⟩⟩
theorem RdB.lt (h : RdB w A n bs) (hn : 0 < n) : ∃ b off, A = some ⟨b, off, none⟩ ∧ b < w.heap.size := by
  obtain ⟨b, off, x, e, _, hc⟩ := h.at_ hn
  exact ⟨b, off, e, World.block_lt_of_cell? w _ hc⟩
end

section
variable {α : Type} {E : Enc α} {e : TypeId} {S S' : Nat → Prop} {F : Nat → Prop} {w w' : World} {base : Nat} {v : Value} {xs : List α}
theorem OwnE.chg (h : OwnE E e S w base v xs) (hc : Chg F w w') (hv : ∀ k, v.ownBlock = some k → ¬ F k) (hS : ∀ b, S b → ¬ F b) : OwnE E e S w' base v xs := by
  have hl := h.lt
  have hb : ∀ b, S b → b < w.heap.size := by
    obtain ⟨_, _, _, hb⟩ := h
    exact fun b hb' => (hb b hb').1
  exact h.keep hc.size (fun k hk => hc.block k (hl k hk).2 (hv k hk)) (fun b hb' => hc.block b (hb b hb') (hS b hb'))
end
theorem chg_g1 (w : World) (g k : Nat) (u : Value) : Chg (fun k => k = g) w (w.setCell ⟨g, k, none⟩ u) := (Chg.refl (fun k => k = g) w).setCell (p := ⟨g, k, none⟩) (Or.inl rfl) u
end Go.Proofs.Ytimkdpkhdbiniaa

/- Numbers as bytes, in plain Lean: what fits, which bytes, what is read back. No program in it. -/
namespace Go.Proofs.Ytimkdpkhdbiniaa

/-- Has a number so many bytes? -/
def fitsB (n size : Int) : Bool := decide (1 ≤ size ∧ size ≤ 7 ∧ 0 ≤ n ∧ n < 256 ^ size.toNat)
/-- The last k bytes of a number, the greatest first. -/
def be (n : Nat) : Nat → List UInt8
  | 0 => []
  | k + 1 => be (n / 256) k ++ [UInt8.ofNat n]
def putB (bs : List UInt8) (n size : Int) : List UInt8 := if fitsB n size then bs ++ be n.toNat size.toNat else bs
def val (l : List UInt8) : Nat := l.foldl (fun a x => a * 256 + x.toNat) 0
/-- The number at a place, and the error. -/
def getN (bs : List UInt8) (at_ size : Int) : Int × Int :=
  if size < 1 ∨ 7 < size ∨ at_ < 0 then (0, 1)
  else if (bs.length : Int) < at_ ∨ (bs.length : Int) - at_ < size then (0, 3)
  else ((val ((bs.drop at_.toNat).take size.toNat) : Int), 0)

theorem snoc_ind {α : Type} {P : List α → Prop} (h0 : P []) (h1 : ∀ l x, P l → P (l ++ [x])) (l : List α) : P l := by
  have h : ∀ m : List α, P m.reverse := by
    intro m
    induction m with
    | nil => simpa using h0
    | cons x m ih => rw [List.reverse_cons]; exact h1 _ _ ih
  have := h l.reverse
  rwa [List.reverse_reverse] at this

theorem fitsB_true {n size : Int} (h : fitsB n size = true) : 1 ≤ size ∧ size ≤ 7 ∧ 0 ≤ n ∧ n < 256 ^ size.toNat := of_decide_eq_true h

theorem length_be (n k : Nat) : (be n k).length = k := by
  induction k generalizing n with
  | zero => rfl
  | succ k ih => simp [be, ih]

theorem be_step (n j k : Nat) : be (n / 256 ^ j) (k + 1) = be (n / 256 ^ (j + 1)) k ++ [UInt8.ofNat (n / 256 ^ j)] := by
  rw [be, Nat.div_div_eq_div_mul, ← Nat.pow_succ]

theorem val_snoc (l : List UInt8) (x : UInt8) : val (l ++ [x]) = val l * 256 + x.toNat := by simp [val, List.foldl_append]

theorem val_lt (l : List UInt8) : val l < 256 ^ l.length := by
  refine snoc_ind (P := fun l => val l < 256 ^ l.length) ?_ (fun l x ih => ?_) l
  · simp [val]
  · rw [val_snoc, List.length_append, List.length_singleton, Nat.pow_succ]
    have := x.toNat_lt
    omega

theorem val_be (n k : Nat) (h : n < 256 ^ k) : val (be n k) = n := by
  induction k generalizing n with
  | zero => simp at h; subst h; rfl
  | succ k ih =>
    rw [be, val_snoc, ih (n / 256) (by rw [Nat.pow_succ] at h; omega)]
    have : (UInt8.ofNat n).toNat = n % 256 := by simp
    omega

theorem shl_or (n x : Nat) (hx : x < 256) : n <<< 8 ||| x = n * 256 + x := by
  rw [← Nat.shiftLeft_add_eq_or_of_lt (i := 8) (by simpa using hx) n, Nat.shiftLeft_eq]

theorem ofNat_u8 (n : Nat) : ((UInt8.ofNat n).toNat : Int) = (n : Int) % 256 := by simp

theorem shr_byte (q i : Nat) : (q : Int) / 2 ^ (8 * i) % 256 = ((UInt8.ofNat (q / 256 ^ i)).toNat : Int) := by
  rw [Int.pow_mul, ofNat_u8]
  show _ = ((q / 256 ^ i : Nat) : Int) % 256
  rw [Int.natCast_ediv, Int.natCast_pow]
  rfl

theorem be_next (q i z : Nat) (h : i + 1 ≤ z) : be (q / 256 ^ (i + 1)) (z - (i + 1)) ++ [UInt8.ofNat (q / 256 ^ i)] = be (q / 256 ^ i) (z - i) := by
  rw [← be_step]
  congr 1
  omega
theorem be_first (q z : Nat) : be (q / 256 ^ z) (z - z) = [] := by rw [Nat.sub_self]; rfl
theorem be_last (q z : Nat) : be (q / 256 ^ 0) (z - 0) = be q z := by simp

theorem val_lt_of {l : List UInt8} {k : Nat} (h : l.length ≤ k) : val l < 256 ^ k := Nat.lt_of_lt_of_le (val_lt l) (Nat.pow_le_pow_right (by decide) h)
theorem val_take (l : List UInt8) (k : Nat) (x : UInt8) (h : l[k]? = some x) : val (l.take (k + 1)) = val (l.take k) * 256 + x.toNat := by
  rw [List.take_add_one, h]; exact val_snoc _ _
theorem pow256_6 : 256 ^ 6 = 281474976710656 := by decide

theorem putB_length (bs : List UInt8) (n size : Int) (h : fitsB n size = true) : ((putB bs n size).length : Int) = bs.length + size := by
  obtain ⟨h1, h2, h3, h4⟩ := fitsB_true h
  unfold putB
  rw [if_pos h, List.length_append, length_be]
  omega
theorem ofInt_i64 (a : Nat) (ha : a < 9223372036854775808) : (BitVec.ofInt 64 (a : Int)).toNat = a := by
  rw [BitVec.ofInt_natCast, BitVec.toNat_ofNat]; exact Nat.mod_eq_of_lt (by omega)
theorem i64_or_nat (a b : Nat) (ha : a < 9223372036854775808) (hb : b < 9223372036854775808) : bits .or .i64 (a : Int) (b : Int) = ((a ||| b : Nat) : Int) := by
  have hx : a ||| b < 2 ^ 63 := Nat.or_lt_two_pow (by omega) (by omega)
  show IntKind.i64.wrap ((BitVec.ofInt 64 (a : Int) ||| BitVec.ofInt 64 (b : Int)).toNat : Int) = _
  rw [BitVec.toNat_or, ofInt_i64 a ha, ofInt_i64 b hb, IntKind.wrap_i64]
  omega
theorem i64_and_nat (a b : Nat) (ha : a < 9223372036854775808) (hb : b < 9223372036854775808) : bits .and .i64 (a : Int) (b : Int) = ((a &&& b : Nat) : Int) := by
  have hx : a &&& b < 2 ^ 63 := Nat.and_lt_two_pow _ (by omega)
  show IntKind.i64.wrap ((BitVec.ofInt 64 (a : Int) &&& BitVec.ofInt 64 (b : Int)).toNat : Int) = _
  rw [BitVec.toNat_and, ofInt_i64 a ha, ofInt_i64 b hb, IntKind.wrap_i64]
  omega
theorem or_byte (v x : Nat) (hv : v < 281474976710656) (hx : x < 256) : bits .or .i64 ((v : Int) * 256) (x : Int) = ((v * 256 + x : Nat) : Int) := by
  have h := i64_or_nat (v * 256) x (by omega) (by omega)
  rw [show ((v * 256 : Nat) : Int) = (v : Int) * 256 from rfl] at h
  rw [h, show v * 256 = v <<< 8 from (Nat.shiftLeft_eq v 8).symm, shl_or _ _ hx, Nat.shiftLeft_eq]

end Go.Proofs.Ytimkdpkhdbiniaa

/- Reading a name, in plain Lean, as the program does it. -/
namespace Go.Proofs.Ytimkdpkhdbiniaa

/-- How many bytes a name has, as it is written. -/
def sizeN : List (List UInt8) → Nat
  | [] => 1
  | l :: n => l.length + 1 + sizeN n
theorem sizeN_append (a b : List (List UInt8)) : sizeN (a ++ b) + 1 = sizeN a + sizeN b := by
  induction a with
  | nil => simp [sizeN]; omega
  | cons x a ih => simp only [List.cons_append, sizeN]; omega
theorem sizeN_snoc (a : List (List UInt8)) (l : List UInt8) : sizeN (a ++ [l]) = sizeN a + l.length + 1 := by
  have := sizeN_append a [l]
  simp only [sizeN] at this
  omega
theorem sizeN_length (n : List (List UInt8)) : n.length + 1 ≤ sizeN n := by
  induction n with
  | nil => simp [sizeN]
  | cons l n ih => simp only [sizeN, List.length_cons]; omega
def getP (b : List UInt8) (at_ beg nx : Nat) (ls : List (List UInt8)) : List (List UInt8) × Int × Int :=
  match b[at_]? with
  | none => ([], 0, 3)
  | some c =>
    if c.toNat = 0 then (ls, ((max nx (at_ + 1) : Nat) : Int), 0)
    else if 192 ≤ c.toNat then
      match b[at_ + 1]? with
      | none => ([], 0, 3)
      | some d => if (c.toNat * 256 + d.toNat) % 16384 < beg then getP b ((c.toNat * 256 + d.toNat) % 16384) ((c.toNat * 256 + d.toNat) % 16384) (max nx (at_ + 2)) ls else ([], 0, 6)
    else if 63 < c.toNat then ([], 0, 5)
    else if b.length < at_ + 1 + c.toNat then ([], 0, 3)
    else if 255 < sizeN ls + 1 + c.toNat then ([], 0, 5)
    else getP b (at_ + 1 + c.toNat) beg nx (ls ++ [(b.drop (at_ + 1)).take c.toNat])
termination_by (beg, 256 - sizeN ls)
decreasing_by
  · exact Prod.Lex.left _ _ (by omega)
  · refine Prod.Lex.right _ ?_
    rw [sizeN_snoc, List.length_take, List.length_drop]
    omega

section
variable {b : List UInt8} {at_ beg nx : Nat} {ls : List (List UInt8)}
theorem getP_short (h : b.length ≤ at_) : getP b at_ beg nx ls = ([], 0, 3) := by
  rw [getP, List.getElem?_eq_none h]
theorem getP_end {c : UInt8} (h : b[at_]? = some c) (hc : c.toNat = 0) : getP b at_ beg nx ls = (ls, ((max nx (at_ + 1) : Nat) : Int), 0) := by
  rw [getP, h]; simp only; rw [if_pos hc]
theorem getP_short2 {c : UInt8} (h : b[at_]? = some c) (hc : 192 ≤ c.toNat) (h2 : b.length ≤ at_ + 1) : getP b at_ beg nx ls = ([], 0, 3) := by
  rw [getP, h]; simp only; rw [if_neg (by omega), if_pos hc, List.getElem?_eq_none h2]
theorem getP_ptr {c d : UInt8} (h : b[at_]? = some c) (hc : 192 ≤ c.toNat) (h2 : b[at_ + 1]? = some d) (hb : (c.toNat * 256 + d.toNat) % 16384 < beg) :
    getP b at_ beg nx ls = getP b ((c.toNat * 256 + d.toNat) % 16384) ((c.toNat * 256 + d.toNat) % 16384) (max nx (at_ + 2)) ls := by
  rw [getP, h]; simp only; rw [if_neg (by omega), if_pos hc, h2]; simp only; rw [if_pos hb]
theorem getP_loop {c d : UInt8} (h : b[at_]? = some c) (hc : 192 ≤ c.toNat) (h2 : b[at_ + 1]? = some d) (hb : ¬ (c.toNat * 256 + d.toNat) % 16384 < beg) : getP b at_ beg nx ls = ([], 0, 6) := by
  rw [getP, h]; simp only; rw [if_neg (by omega), if_pos hc, h2]; simp only; rw [if_neg hb]
theorem getP_name {c : UInt8} (h : b[at_]? = some c) (hc : 63 < c.toNat) (hc2 : c.toNat < 192) : getP b at_ beg nx ls = ([], 0, 5) := by
  rw [getP, h]; simp only; rw [if_neg (by omega), if_neg (by omega), if_pos hc]
theorem getP_cut {c : UInt8} (h : b[at_]? = some c) (h0 : c.toNat ≠ 0) (hc : c.toNat ≤ 63) (hl : b.length < at_ + 1 + c.toNat) : getP b at_ beg nx ls = ([], 0, 3) := by
  rw [getP, h]; simp only; rw [if_neg h0, if_neg (by omega), if_neg (by omega), if_pos hl]
theorem getP_long {c : UInt8} (h : b[at_]? = some c) (h0 : c.toNat ≠ 0) (hc : c.toNat ≤ 63) (hl : at_ + 1 + c.toNat ≤ b.length) (hs : 255 < sizeN ls + 1 + c.toNat) : getP b at_ beg nx ls = ([], 0, 5) := by
  rw [getP, h]; simp only; rw [if_neg h0, if_neg (by omega), if_neg (by omega), if_neg (by omega), if_pos hs]
theorem getP_label {c : UInt8} (h : b[at_]? = some c) (h0 : c.toNat ≠ 0) (hc : c.toNat ≤ 63) (hl : at_ + 1 + c.toNat ≤ b.length) (hs : sizeN ls + 1 + c.toNat ≤ 255) :
    getP b at_ beg nx ls = getP b (at_ + 1 + c.toNat) beg nx (ls ++ [(b.drop (at_ + 1)).take c.toNat]) := by
  rw [getP, h]; simp only; rw [if_neg h0, if_neg (by omega), if_neg (by omega), if_neg (by omega), if_neg (by omega)]
end

theorem getN_1 {b : List UInt8} {at_ : Nat} : getN b at_ 1 = match b[at_]? with | none => (0, 3) | some c => ((c.toNat : Int), 0) := by
  unfold getN
  rw [if_neg (by omega)]
  by_cases h : at_ < b.length
  · rw [if_neg (by omega), List.getElem?_eq_getElem h]
    simp only [Int.toNat_natCast]
    rw [List.drop_eq_getElem_cons h, show (1 : Int).toNat = 0 + 1 from rfl, List.take_succ_cons, List.take_zero]
    simp [val]
  · rw [if_pos (by omega), List.getElem?_eq_none (by omega)]
theorem getN_2 {b : List UInt8} {at_ : Nat} {c : UInt8} (hc : b[at_]? = some c) : getN b at_ 2 = match b[at_ + 1]? with | none => (0, 3) | some d => (((c.toNat * 256 + d.toNat : Nat) : Int), 0) := by
  have h0 : at_ < b.length := (List.getElem?_eq_some_iff.1 hc).1
  rw [List.getElem?_eq_getElem h0] at hc
  injection hc with hc
  unfold getN
  rw [if_neg (by omega)]
  by_cases h : at_ + 1 < b.length
  · rw [if_neg (by omega), List.getElem?_eq_getElem h]
    simp only [Int.toNat_natCast]
    rw [List.drop_eq_getElem_cons h0, List.drop_eq_getElem_cons h, hc, show (2 : Int).toNat = 0 + 1 + 1 from rfl, List.take_succ_cons, List.take_succ_cons, List.take_zero]
    simp [val]
  · rw [if_pos (by omega), List.getElem?_eq_none (by omega)]
theorem getN_1n {b : List UInt8} {at_ : Nat} (h : b[at_]? = none) : getN b at_ 1 = (0, 3) := by rw [getN_1, h]
theorem getN_1s {b : List UInt8} {at_ : Nat} {c : UInt8} (h : b[at_]? = some c) : getN b at_ 1 = ((c.toNat : Int), 0) := by rw [getN_1, h]
theorem getN_2n {b : List UInt8} {at_ : Nat} {c : UInt8} (hc : b[at_]? = some c) (h : b[at_ + 1]? = none) : getN b at_ 2 = (0, 3) := by rw [getN_2 hc, h]
theorem getN_2s {b : List UInt8} {at_ : Nat} {c d : UInt8} (hc : b[at_]? = some c) (h : b[at_ + 1]? = some d) : getN b at_ 2 = (((c.toNat * 256 + d.toNat : Nat) : Int), 0) := by rw [getN_2 hc, h]
theorem and_16383 (n : Nat) (h : n < 9223372036854775808) : bits .and .i64 (n : Int) 16383 = ((n % 16384 : Nat) : Int) := by
  have h1 := i64_and_nat n 16383 h (by omega)
  rw [show ((16383 : Nat) : Int) = 16383 from rfl] at h1
  rw [h1, show (16383 : Nat) = 2 ^ 14 - 1 from rfl, Nat.and_two_pow_sub_one_eq_mod]
end Go.Proofs.Ytimkdpkhdbiniaa

/- Writing names, in plain Lean, as the program does it. No program in it. -/
namespace Go.Proofs.Ytimkdpkhdbiniaa

/-- A name's labels as they are written without pointers. -/
def restB : List (List UInt8) → List UInt8
  | [] => []
  | l :: n => UInt8.ofNat l.length :: (l ++ restB n)
def SoundN (n : List (List UInt8)) : Prop := (∀ l ∈ n, 1 ≤ l.length ∧ l.length ≤ 63) ∧ sizeN n ≤ 255
noncomputable def soundB (n : List (List UInt8)) : Bool := @decide (SoundN n) (Classical.propDecidable _)
theorem soundB_true {n : List (List UInt8)} (h : SoundN n) : soundB n = true := by unfold soundB; simpa using h
theorem soundB_false {n : List (List UInt8)} (h : ¬ SoundN n) : soundB n = false := by unfold soundB; simpa using h
theorem soundB_iff {n : List (List UInt8)} : soundB n = true ↔ SoundN n := by unfold soundB; simp
theorem SoundN.tail {l : List UInt8} {n : List (List UInt8)} (h : SoundN (l :: n)) : SoundN n := ⟨fun x hx => h.1 x (List.mem_cons_of_mem _ hx), by have := h.2; simp only [sizeN] at this; omega⟩
theorem SoundN.head {l : List UInt8} {n : List (List UInt8)} (h : SoundN (l :: n)) : 1 ≤ l.length ∧ l.length ≤ 63 := h.1 l (List.mem_cons_self ..)
theorem SoundN.drop {n : List (List UInt8)} (h : SoundN n) (k : Nat) : SoundN (n.drop k) := by
  induction k generalizing n with
  | zero => exact h
  | succ k ih =>
    cases n with
    | nil => exact h
    | cons l n => exact ih h.tail
theorem restB_length (n : List (List UInt8)) : (restB n).length + 1 = sizeN n := by
  induction n with
  | nil => rfl
  | cons l n ih => simp only [restB, sizeN, List.length_cons, List.length_append]; omega
theorem restB_inj {a b : List (List UInt8)} (ha : ∀ l ∈ a, l.length < 256) (hb : ∀ l ∈ b, l.length < 256) (h : restB a = restB b) : a = b := by
  induction a generalizing b with
  | nil =>
    cases b with
    | nil => rfl
    | cons l b => simp [restB] at h
  | cons l a ih =>
    cases b with
    | nil => simp [restB] at h
    | cons m b =>
      simp only [restB, List.cons.injEq] at h
      have hl := ha l (List.mem_cons_self ..)
      have hm := hb m (List.mem_cons_self ..)
      have e : l.length = m.length := by
        have := congrArg UInt8.toNat h.1
        simp only [UInt8.toNat_ofNat'] at this
        omega
      obtain ⟨e1, e2⟩ := List.append_inj h.2 e
      rw [e1, ih (fun x hx => ha x (List.mem_cons_of_mem _ hx)) (fun x hx => hb x (List.mem_cons_of_mem _ hx)) e2]

/-- What was written, and where rests stand: the newest one first. -/
structure Wr where
  b : List UInt8
  rests : List (List UInt8 × Nat)
def lookR : List (List UInt8 × Nat) → List UInt8 → Option Nat
  | [], _ => none
  | (r, p) :: rs, k => if r = k then some p else lookR rs k
def Wr.nil : Wr := ⟨[], []⟩
def Wr.raw (x : Wr) (bs : List UInt8) : Wr := { x with b := x.b ++ bs }
/-- A number of two bytes that leads to a place. -/
def ptrB (p : Nat) : List UInt8 := [UInt8.ofNat (192 + p / 256), UInt8.ofNat (p % 256)]
def Wr.label (x : Wr) (l : List UInt8) : Wr := x.raw (UInt8.ofNat l.length :: l)
def Wr.note (x : Wr) (r : List UInt8) : Wr := if x.b.length < 16384 then { x with rests := (r, x.b.length) :: x.rests } else x
def Wr.name : Wr → List (List UInt8) → Bool → Wr
  | x, [], _ => x.raw [0]
  | x, l :: n, short => match lookR x.rests (restB (l :: n)) with
    | some p => if short = true then x.raw (ptrB p) else (x.label l).name n short
    | none => ((x.note (restB (l :: n))).label l).name n short

/-- The places that rests stand at may be led to. -/
def Wr.Near (x : Wr) : Prop := ∀ r p, lookR x.rests r = some p → p < 16384
theorem Wr.near_nil : Wr.nil.Near := fun r p h => by cases h
theorem Wr.Near.raw {x : Wr} (h : x.Near) (bs : List UInt8) : (x.raw bs).Near := h
theorem Wr.Near.label {x : Wr} (h : x.Near) (l : List UInt8) : (x.label l).Near := h
theorem Wr.Near.note {x : Wr} (h : x.Near) (r : List UInt8) : (x.note r).Near := by
  unfold Wr.note
  split
  · rename_i hl
    intro r' p hp
    simp only [lookR] at hp
    split at hp
    · injection hp with hp; omega
    · exact h r' p hp
  · exact h
theorem Wr.Near.name {x : Wr} (h : x.Near) (n : List (List UInt8)) (short : Bool) : (x.name n short).Near := by
  induction n generalizing x with
  | nil => exact h
  | cons l n ih =>
    unfold Wr.name
    split
    · split
      · exact h
      · exact ih (h.label l)
    · exact ih ((h.note _).label l)
theorem Wr.note_b (x : Wr) (r : List UInt8) : (x.note r).b = x.b := by unfold Wr.note; split <;> rfl
theorem Wr.note_rests (x : Wr) (r : List UInt8) : (x.note r).rests.length ≤ x.rests.length + 1 := by unfold Wr.note; split <;> simp
theorem Wr.name_b {x : Wr} (n : List (List UInt8)) (short : Bool) : ∃ y, (x.name n short).b = x.b ++ y ∧ y.length ≤ sizeN n + 1 ∧ 1 ≤ y.length := by
  induction n generalizing x with
  | nil => exact ⟨[0], rfl, by simp [sizeN], by simp⟩
  | cons l n ih =>
    unfold Wr.name
    have h1 := sizeN_length n
    split
    · split
      · exact ⟨_, rfl, by simp [ptrB, sizeN]; omega, by simp [ptrB]⟩
      · obtain ⟨y, e, h, h2⟩ := ih (x := x.label l)
        exact ⟨UInt8.ofNat l.length :: l ++ y, by rw [e]; simp [Wr.label, Wr.raw], by simp only [List.length_append, List.length_cons, sizeN]; omega, by simp⟩
    · obtain ⟨y, e, h, h2⟩ := ih (x := (x.note (restB (l :: n))).label l)
      exact ⟨UInt8.ofNat l.length :: l ++ y, by rw [e]; simp [Wr.label, Wr.raw, Wr.note_b], by simp only [List.length_append, List.length_cons, sizeN]; omega, by simp⟩
theorem Wr.name_rests {x : Wr} (n : List (List UInt8)) (short : Bool) : (x.name n short).rests.length ≤ x.rests.length + n.length := by
  induction n generalizing x with
  | nil => exact Nat.le_refl _
  | cons l n ih =>
    unfold Wr.name
    split
    · split
      · exact Nat.le_add_right _ _
      · have := ih (x := x.label l)
        simp only [Wr.label, Wr.raw, List.length_cons] at this ⊢
        omega
    · have h1 := ih (x := (x.note (restB (l :: n))).label l)
      have h2 := x.note_rests (restB (l :: n))
      simp only [Wr.label, Wr.raw, List.length_cons] at h1 ⊢
      omega
end Go.Proofs.Ytimkdpkhdbiniaa

/- wname: how a writer lies in memory. -/
namespace Go.Proofs.Ytimkdpkhdbiniaa
open Go.RowKit Go.Maps
set_option maxRecDepth 100000

theorem OwnB.chgv {w w' : World} {base : Nat} {v : Value} {F : Nat → Prop} {bs : List UInt8} (h : OwnB w base v bs) (hc : Chg F w w') (hv : ∀ k, v.ownBlock = some k → ¬ F k) : OwnB w' base v bs := by
  refine ⟨h.1, ?_⟩
  rcases h.2 with h0 | ⟨g, cap, cur, rfl, h1, h2, h3⟩
  · exact .inl h0
  · exact .inr ⟨g, cap, cur, rfl, h1, hc.heap h2 (hv g rfl), h3⟩

/-- Block mb is a map from strings to ints that says what rs says. -/
def MapIs (w : World) (mb : Nat) (rs : List (List UInt8 × Nat)) : Prop :=
  ∃ D : DataW Unit, w.ownsMap Try.prog 9 (plainElem Try.prog 3) mb rs.length D ∧ IsMap D ∧ ∀ k, Maps.has D (.string k) = (lookR rs k).isSome ∧ ∀ p, lookR rs k = some p → ∀ z, D.atKey (.string k) z = .lit (.int .i64 (p : Int))

theorem MapIs.keep {w w' : World} {mb : Nat} {rs : List (List UInt8 × Nat)} (h : MapIs w mb rs) (hk : w'.heap[mb]? = w.heap[mb]?) : MapIs w' mb rs := by
  obtain ⟨D, ⟨es, clock, h1, h2⟩, h3⟩ := h
  exact ⟨D, ⟨es, clock, hk.trans h1, h2⟩, h3⟩
theorem MapIs.made (w : World) : MapIs (w.alloc (.map #[] 0)) w.heap.size [] :=
  ⟨.map [], World.ownsMap_made _ _ _ _, isMap_empty, fun k => ⟨rfl, fun p h => by cases h⟩⟩
theorem MapIs.lt {w : World} {mb : Nat} {rs : List (List UInt8 × Nat)} (h : MapIs w mb rs) : mb < w.heap.size := by
  obtain ⟨D, h1, _⟩ := h
  exact h1.lt

theorem str_keyed : Keyed Try.prog 9 := string_keyed Try.underlying9
theorem int_zero (w : World) : (zeroValue 3).run Try.prog w = .ok (.int .i64 0) w := by kernel_rfl
theorem key_str {k : List UInt8} (hk : k.length ≤ maxLen) : keyOf Try.prog 9 (.string (bstr k)) = some (.string k) := by
  have := Go.WideMaps.keyOf_string_mk (P := Try.prog) Try.underlying9 (s := bstr k) (by rw [bstr_size]; exact hk)
  rw [this]
  congr 2
theorem isKey_str (k : List UInt8) : WideAt.IsKeyLit (.string k) := by trivial

/-- m[k] = p. -/
theorem MapIs.put {w : World} {mb : Nat} {rs : List (List UInt8 × Nat)} (h : MapIs w mb rs) {k : List UInt8} (hk : k.length ≤ maxLen) {p : Nat} (hp : p ≤ 1000000000000) (hn : rs.length < maxLen) :
    ∃ w', (Instr.mapUpdate 174 (.map (some mb)) (.string (bstr k)) (.int .i64 (p : Int))).run Try.prog w = .ok () w' ∧ MapIs w' mb ((k, p) :: rs) ∧ w.grownBy w' (some mb) := by
  obtain ⟨D, h1, h2, h3⟩ := h
  obtain ⟨w', hrun, ho, hg⟩ := h1.update str_keyed Try.underlying174 hn (key_str hk) (plainElem_int Try.underlying3 (a := (p : Int)) (WalkArith.wf_i64 ⟨by omega, by omega⟩))
  refine ⟨w', hrun, ⟨_, ho, h2.put _ _, fun k' => ?_⟩, hg⟩
  by_cases e : k' = k
  · subst e
    refine ⟨by rw [has_put_same h2 (isKey_str _)]; simp [lookR], fun q hq z => ?_⟩
    simp only [lookR, if_pos] at hq
    injection hq with hq
    subst hq
    exact atKey_put_same h2 (isKey_str _) _ _
  · have hne : (Lit.string k') ≠ .string k := fun h => e (by injection h)
    have hl : lookR ((k, p) :: rs) k' = lookR rs k' := by simp only [lookR]; rw [if_neg (fun h => e h.symm)]
    rw [hl, has_put_other hne]
    exact ⟨(h3 k').1, fun q hq z => by rw [atKey_put_other hne]; exact (h3 k').2 q hq z⟩

/-- p, there := m[k]. -/
theorem wpL_look {w : World} {mb : Nat} {rs : List (List UInt8 × Nat)} (h : MapIs w mb rs) {ops : Array Oper} {rest : List Oper} {o : Oper} {a : Act} {Q : Exit → Act → World → Prop} (hg : o.guard = none) (m x : Operand) (hop : o.op = Op.lookup 174 m x true)
    (hm : a.eval m = .map (some mb)) {k : List UInt8} (hx : a.eval x = .string (bstr k)) (hk : k.length ≤ maxLen)
    (hsome : ∀ p, lookR rs k = some p → wpList Try.prog ops Q rest (a.put o.dst (.tuple #[.int .i64 (p : Int), .bool true])) w)
    (hnone : lookR rs k = none → ∀ c : Int, wpList Try.prog ops Q rest (a.put o.dst (.tuple #[.int .i64 c, .bool false])) w) : wpList Try.prog ops Q (o :: rest) a w := by
  obtain ⟨D, h1, h2, h3⟩ := h
  refine wpList_lookup_own_ok_int w hg m x 174 hop 9 3 .i64 str_keyed Try.underlying174 Try.underlying3 (int_zero w) mb rs.length D hm h1 (.string (bstr k)) (.string k) hx (key_str hk) (fun c hc _ => ?_)
  rw [(h3 k).1]
  cases hl : lookR rs k with
  | none => exact hnone hl c
  | some p =>
    rw [(h3 k).2 p hl] at hc
    injection hc with hc
    injection hc with _ hc
    rw [← hc]
    exact hsome p hl

/-- The writer at block g reads as x; what it leads to lies in blocks of F. -/
def Wtr (w : World) (B : Nat) (F : Nat → Prop) (g : Nat) (x : Wr) : Prop :=
  x.Near ∧ ∃ bv mb, w.heap[g]? = some (.cells #[bv, .map (some mb)] 176 (0, 0)) ∧ OwnB w B bv x.b ∧ MapIs w mb x.rests ∧ (F g ∧ B ≤ g) ∧ (∀ k, bv.ownBlock = some k → F k ∧ k ≠ g ∧ k ≠ mb) ∧ (F mb ∧ mb ≠ g) ∧ ∀ k, F k → B ≤ k ∧ k < w.heap.size

section
variable {w w' : World} {B g : Nat} {F G : Nat → Prop} {x : Wr}
theorem Wtr.near (h : Wtr w B F g x) : x.Near := h.1
theorem Wtr.F_lt (h : Wtr w B F g x) : ∀ k, F k → B ≤ k ∧ k < w.heap.size := by obtain ⟨_, _, _, _, _, _, _, _, _, h⟩ := h; exact h
theorem Wtr.chg (h : Wtr w B F g x) (hc : Chg G w w') (hd : ∀ k, F k → ¬ G k) : Wtr w' B F g x := by
  obtain ⟨hn, bv, mb, hg, hb, hm, hgF, hbF, hmF, hF⟩ := h
  exact ⟨hn, bv, mb, hc.heap hg (hd g hgF.1), hb.chgv hc (fun k hk => hd k (hbF k hk).1), hm.keep (hc.block mb hm.lt (hd mb hmF.1)), hgF, hbF, hmF, fun k hk => ⟨(hF k hk).1, Nat.lt_of_lt_of_le (hF k hk).2 hc.size⟩⟩
theorem Wtr.below (h : Wtr w B F g x) (hb : Below w.heap.size w w') : Wtr w' B F g x := h.chg (G := fun _ => False) (Chg.of_below hb) (fun _ _ h => h)
theorem Wtr.base_le {B' : Nat} (h : Wtr w B F g x) (hB : B' ≤ B) : Wtr w B' F g x := by
  obtain ⟨hn, bv, mb, hg, hb, hm, hgF, hbF, hmF, hF⟩ := h
  exact ⟨hn, bv, mb, hg, hb.mono hB, hm, ⟨hgF.1, by omega⟩, hbF, hmF, fun k hk => ⟨Nat.le_trans hB (hF k hk).1, (hF k hk).2⟩⟩
theorem Wtr.bw {w0 : World} (hb : Below w0.heap.size w0 w) (h : Wtr w B F g x) (hB : w0.heap.size ≤ B) (hc : Chg F w w') : Below w0.heap.size w0 w' :=
  hb.trans (hc.below (fun x hx => Nat.le_trans hB (h.F_lt x hx).1) hb.size)
end

/-- A writer's call: what it returns, and what the writer is then. -/
def RetX (w : World) (B : Nat) (F : Nat → Prop) (g : Nat) (y : Wr) (v : Value) (e : Ending) (w' : World) : Prop :=
  e = .returned v ∧ ∃ F', Wtr w' B F' g y ∧ Chg F w w' ∧ ∀ z, F' z → F z ∨ w.heap.size ≤ z
end Go.Proofs.Ytimkdpkhdbiniaa

/- The tactics that the walks use, in one place. -/
namespace Go.Proofs.Ytimkdpkhdbiniaa
open Go.RowKit
section
variable {P : Program} {f : FuncId} {args : Array Value} {w : World} {n a : Nat} {v : Value}
end
end Go.Proofs.Ytimkdpkhdbiniaa

/- num.Fits, num.Put, num.Get and the reference's, each once: what it computes. -/
namespace Go.Proofs.Ytimkdpkhdbiniaa
open Go.RowKit

theorem fits_eq {n size : Int} (h1 : 1 ≤ size) (h2 : size ≤ 7) (h3 : 0 ≤ n) : (n / 2 ^ (8 * size).toNat == 0) = fitsB n size := by
  have e : (8 * size).toNat = 8 * size.toNat := by omega
  have e2 : (2 : Int) ^ (8 * size.toNat) = 256 ^ size.toNat := by rw [Int.pow_mul]; rfl
  rw [e, e2]
  have hp : (0 : Int) < 256 ^ size.toNat := Int.pow_pos (by decide)
  unfold fitsB
  rw [Bool.eq_iff_iff, beq_iff_eq, decide_eq_true_iff]
  constructor
  · intro h
    refine ⟨h1, h2, h3, ?_⟩
    have := Int.emod_add_mul_ediv n (256 ^ size.toNat)
    have h4 := Int.emod_lt_of_pos n hp
    rw [h] at this
    omega
  · rintro ⟨_, _, _, h⟩
    exact Int.ediv_eq_zero_of_lt h3 h

set_option maxHeartbeats 400000 in
theorem fits_any (n size : Int) (w : World) :
    Calls Try.prog 88 #[.int .i64 n, .int .i64 size] w (Ret (.bool (fitsB n size)) w) := by
  by_cases h1 : 1 ≤ size
  · by_cases h2 : size ≤ 7
    · by_cases h3 : 0 ≤ n
      · have he := Lib.hid (fits_eq h1 h2 h3)
        go_enter Try.func88, Try.ntmps88
        go_wp2
        go_ret
        exact ⟨ret_bool he.out, rfl⟩
      · have he : Hid (false = fitsB n size) := by unfold fitsB; exact (decide_eq_false fun h => h3 h.2.2.1).symm
        go_enter Try.func88, Try.ntmps88
        go_wp2
        go_ret
        exact ⟨ret_bool he.out, rfl⟩
    · have he : Hid (false = fitsB n size) := by unfold fitsB; exact (decide_eq_false fun h => h2 h.2.1).symm
      go_enter Try.func88, Try.ntmps88
      go_wp2
      go_ret
      exact ⟨ret_bool he.out, rfl⟩
  · have he : Hid (false = fitsB n size) := by unfold fitsB; exact (decide_eq_false fun h => h1 h.1).symm
    go_enter Try.func88, Try.ntmps88
    go_wp2
    go_ret
    exact ⟨ret_bool he.out, rfl⟩

theorem rfits_eq {n size : Int} (h1 : 1 ≤ size) (h2 : size ≤ 7) (h3 : 0 ≤ n) : (n / 256 ^ size.toNat == 0) = fitsB n size := by
  rw [← fits_eq h1 h2 h3]
  have e : (8 * size).toNat = 8 * size.toNat := by omega
  have e2 : (2 : Int) ^ (8 * size.toNat) = 256 ^ size.toNat := by rw [Int.pow_mul]; rfl
  rw [e, e2]

set_option maxHeartbeats 400000 in
theorem rfits_any (n size : Int) (w : World) (hm : n ≤ 9223372036854775807) :
    Calls Try.prog 90 #[.int .i64 n, .int .i64 size] w (Ret (.bool (fitsB n size)) w) := by
  by_cases h1 : 1 ≤ size
  · by_cases h2 : size ≤ 7
    · by_cases h3 : 0 ≤ n
      · have he := Lib.hid (rfits_eq h1 h2 h3)
        go_enter Try.func90, Try.ntmps90
        go_wp2
        go_loop [0, 5] (fun m i => ∃ k : Nat, i = .int .i64 k ∧ (k : Int) ≤ size ∧ m = .int .i64 (n / 256 ^ k)) (fun _ i => (size - intOf i).toNat)
        case atStart => exact ⟨0, rfl, by omega, by simp⟩
        case round =>
          obtain ⟨k, rfl, hk, rfl⟩ := hrel
          have hp : (0 : Int) < 256 ^ k := Int.pow_pos (by decide)
          have h4 : 0 ≤ n / 256 ^ k := Int.ediv_nonneg h3 (by omega)
          have HS : Hid (n / 256 ^ k / 256 = n / 256 ^ (k + 1)) := by
            show _ = _
            rw [Int.ediv_ediv_of_nonneg (by omega), Int.pow_succ]
          have h5 : n / 256 ^ k ≤ 9223372036854775807 := Int.le_trans (Int.ediv_le_self _ h3) hm
          clear hp
          obtain ⟨q, hq⟩ : ∃ q, q = n / 256 ^ k := ⟨_, rfl⟩
          rw [← hq] at h4 h5 HS ⊢
          have HQ := Lib.hid hq
          clear hq
          by_cases hlt : (k : Int) < size
          · go_wp2
            go_round
            case rel => exact ⟨k + 1, by go_num, by omega, by rw [← HS.out]⟩
            case measure => simp [intOf]; omega
          · go_wp2
            go_ret
            refine ⟨ret_bool ?_, rfl⟩
            rw [← he.out, HQ.out]
            have : size.toNat = k := by omega
            rw [this]
      · have he : Hid (false = fitsB n size) := by unfold fitsB; exact (decide_eq_false fun h => h3 h.2.2.1).symm
        go_enter Try.func90, Try.ntmps90
        go_wp2
        go_ret
        exact ⟨ret_bool he.out, rfl⟩
    · have he : Hid (false = fitsB n size) := by unfold fitsB; exact (decide_eq_false fun h => h2 h.2.1).symm
      go_enter Try.func90, Try.ntmps90
      go_wp2
      go_ret
      exact ⟨ret_bool he.out, rfl⟩
  · have he : Hid (false = fitsB n size) := by unfold fitsB; exact (decide_eq_false fun h => h1 h.1).symm
    go_enter Try.func90, Try.ntmps90
    go_wp2
    go_ret
    exact ⟨ret_bool he.out, rfl⟩
end Go.Proofs.Ytimkdpkhdbiniaa

/- num.Put: a number behind bytes. -/
namespace Go.Proofs.Ytimkdpkhdbiniaa
open Go.RowKit

set_option maxHeartbeats 400000 in
theorem put_any (A : Option Addr) (m c : Nat) (bs : List UInt8) (n size : Int) (w : World) (hb : RdB w A m bs) (hm : m ≤ 140737488355000) :
    Calls Try.prog 149 #[.slice A m c, .int .i64 n, .int .i64 size] w (RetP (fun v w' => OwnB w' w.heap.size v (putB bs n size)) w) := by
  have hlb := Lib.hid hb.len
  obtain ⟨X, hX⟩ : ∃ X : Array Value, X = madeCells #[.int .u8 0] (m + 7) := ⟨_, rfl⟩
  have hmk := mkB m (m + 7) (by omega) (by omega)
  rw [show ((m + 7 : Nat) : Int) = (m : Int) + 7 from rfl, ← hX] at hmk
  have hXs : Hid (X.size = m + 7) := by rw [hX]; exact mkB_size _
  clear hX
  by_cases hf : fitsB n size = true
  · obtain ⟨f1, f2, f3, f4⟩ := fitsB_true hf
    have F4 := Lib.hid f4
    clear f4
    obtain ⟨z, rfl⟩ := Int.eq_ofNat_of_zero_le (Int.le_trans (by decide) f1)
    obtain ⟨q, rfl⟩ := Int.eq_ofNat_of_zero_le f3
    have hbl : Hid (putB bs q z = bs ++ be q z) := by unfold putB; rw [if_pos hf]; rfl
    go_enter Try.func149, Try.ntmps149
    go_wp2_with (first
      | ((with_reducible show wpList _ _ _ (⟨some 17, _, _, _, _, _⟩ :: _) _ _); refine wpL_copyB rfl (.tmp 15) (.tmp 16) rfl w.heap.size m (m + 7) rfl A c rfl X (heap_alloc_new _ _) hXs.out (by omega) (by unfold maxLen; omega) bs (hb.alloc _) w.heap.size (Nat.le_refl _) ?_
         intro w1 hown1 hg1)
      | (go_at_call 88; refine (fits_any _ _ _).mono ?_; rintro e w' ⟨rfl, rfl⟩))
    have hb1 : Below w.heap.size w w1 := ((Below.refl _ _).alloc (Nat.le_refl _) _).grown hg1 (by simp) (fun k hk => by injection hk; omega)
    clear hg1
    go_loopw [7, 8] (fun v i wr => ∃ j : Nat, i = .int .i64 ((j : Int) - 1) ∧ j ≤ z ∧ OwnB wr w.heap.size v (bs ++ be (q / 256 ^ j) (z - j)) ∧ Below w.heap.size w wr) (fun _ i _ => (intOf i + 1).toNat)
    case atStart => exact ⟨z, by first | rfl | rw [IntWalk.wrap64_in _ (by omega)], Nat.le_refl _, by rw [be_first, List.append_nil, ← hlb.out] at *; exact hown1, hb1⟩
    case round =>
      obtain ⟨j, rfl, hj, hown, hbw⟩ := hrel
      rcases j with _ | i
      · go_wp2
        go_ret
        exact ⟨_, rfl, by rw [hbl.out]; rwa [be_last] at hown, hbw⟩
      · go_wp2_with (at_builtin; refine wpL_pushB rfl (.tmp 29) (.tmp 35) rfl w.heap.size _ _ rfl hown _ (UInt8.ofNat (q / 256 ^ i)) ?hn rfl ?hb hbw.size ?_; rotate_right; intro v2 w2 hown2 hg2 _)
        case hn => exact shr_byte q i
        case hb => rw [List.length_append, length_be, hlb.out]; omega
        have hbw2 : Below w.heap.size w w2 := hbw.grown hg2 hbw.size fun k hk => (World.ownsRow.lt hown k hk).1
        have HO := Lib.hid hown2
        clear hown2 hown hg2
        go_wp2
        go_roundw
        case rel => exact ⟨i, by go_num, by omega, by have := HO.out; rwa [List.append_assoc, be_next _ _ _ hj] at this, hbw2⟩
        case measure => simp [intOf]
  · have hfe : fitsB n size = false := by simpa using hf
    have hbl : Hid (putB bs n size = bs) := by unfold putB; rw [if_neg hf]; rfl
    clear hf
    go_enter Try.func149, Try.ntmps149
    go_wp2_with (first
      | ((with_reducible show wpList _ _ _ (⟨some 17, _, _, _, _, _⟩ :: _) _ _); refine wpL_copyB rfl (.tmp 15) (.tmp 16) rfl w.heap.size m (m + 7) rfl A c rfl X (heap_alloc_new _ _) hXs.out (by omega) (by unfold maxLen; omega) bs (hb.alloc _) w.heap.size (Nat.le_refl _) ?_
         intro w1 hown1 hg1)
      | (go_at_call 88; refine (fits_any _ _ _).mono ?_; rintro e w' ⟨rfl, rfl⟩))
    go_ret
    exact ⟨_, rfl, by rw [hbl.out]; exact hown1, ((Below.refl _ _).alloc (Nat.le_refl _) _).grown hg1 (by simp) (fun k hk => by injection hk; omega)⟩
end Go.Proofs.Ytimkdpkhdbiniaa

/- wname: New, Len, Bytes, Raw, Num. -/
namespace Go.Proofs.Ytimkdpkhdbiniaa
open Go.RowKit Go.Maps

set_option maxHeartbeats 400000 in
theorem sclone_any (A : Option Addr) (m c : Nat) (bs : List UInt8) (w : World) (hb : RdB w A m bs) (hm : m ≤ 140737488355328) :
    Calls Try.prog 152 #[.slice A m c] w (RetP (fun v w' => OwnB w' w.heap.size v bs) w) := by
  have hlb := hb.len
  subst hlb
  rcases A with _ | ad
  · have hn : bs = [] := by
      rcases bs with _ | ⟨x, bs⟩
      · rfl
      · obtain ⟨b, off, e, _⟩ := hb.2 (by simp); cases e
    subst hn
    have he := fun W : World => Lib.run_eql_slice_nil (P := Try.prog) W 22 5 none ([] : List UInt8).length c 0 0 Try.underlying22
    simp only [List.length_nil, Option.isNone_none] at he
    go_enter Try.func152, Try.ntmps152
    go_wp2
    go_ret
    exact ⟨_, rfl, OwnB.nil _ _, bl⟩
  · have he := fun W : World => Lib.run_eql_slice_nil (P := Try.prog) W 22 5 (some ad) bs.length c 0 0 Try.underlying22
    simp only [Option.isNone_some] at he
    go_enter Try.func152, Try.ntmps152
    go_wp2_with ((with_reducible show wpList _ _ _ (⟨some 7, _, _, _, _, _⟩ :: _) _ _); refine wpL_cloneB rfl (.tmp 5) (.tmp 6) rfl rfl _ _ c bs rfl hb hm ?_; intro v2 w2 hown2 hb2)
    go_ret
    exact ⟨_, rfl, hown2, hb2⟩

theorem heap_alloc2_old' (w : World) (o o' : Obj) : ((w.alloc o).alloc o').heap[w.heap.size]? = (w.alloc o).heap[w.heap.size]? := Below.heap_alloc _ _ _ (by simp)

/-- The writer's bytes have been appended to, and stored. -/
theorem put_b {w w2 : World} {B g mb : Nat} {F : Nat → Prop} {x : Wr} {bv v2 r : Value} {bs : List UInt8} (hn : x.Near) (hg : w.heap[g]? = some (.cells #[bv, .map (some mb)] 176 (0, 0))) (hm : MapIs w mb x.rests) (hgF : F g ∧ B ≤ g)
    (hbF : ∀ k, bv.ownBlock = some k → F k ∧ k ≠ g ∧ k ≠ mb) (hmF : F mb ∧ mb ≠ g) (hF : ∀ k, F k → B ≤ k ∧ k < w.heap.size) (hown : OwnB w2 B v2 (x.b ++ bs)) (hgr : w.grownBy w2 bv.ownBlock) (hv : v2.ownBlock = bv.ownBlock ∨ v2.ownBlock = some w.heap.size) :
    RetX w B F g (x.raw bs) r (.returned r) (w2.setCell ⟨g, 0, none⟩ v2) := by
  have hgl := (hF g hgF.1).2
  have hml := (hF mb hmF.1).2
  have hsz := hgr.size
  have hc : Chg F w w2 := (Chg.refl F w).grown hgr (fun k hk => .inl (hbF k hk).1)
  have hgw : w2.heap[g]? = some (.cells #[bv, .map (some mb)] 176 (0, 0)) := (hgr.block g hgl (fun e => (hbF g e.symm).2.1 rfl)).trans hg
  have hcg : Chg (fun k => k = g) w2 (w2.setCell ⟨g, 0, none⟩ v2) := (Chg.refl (fun k => k = g) w2).setCell (p := ⟨g, 0, none⟩) (Or.inl rfl) v2
  have hv2 : ∀ k, v2.ownBlock = some k → (F k ∨ (w.heap.size ≤ k ∧ k < w2.heap.size)) ∧ k ≠ g ∧ k ≠ mb := fun k hk => by
    rcases hv with e | e
    · rw [e] at hk
      exact ⟨.inl (hbF k hk).1, (hbF k hk).2⟩
    · have hl := (World.ownsRow.lt hown k hk).2
      rw [e] at hk
      injection hk with hk
      exact ⟨.inr ⟨by omega, hl⟩, by omega, by omega⟩
  refine ⟨rfl, fun k => F k ∨ (w.heap.size ≤ k ∧ k < w2.heap.size), ⟨hn.raw bs, v2, mb, (heap_setCell_same _ _ _ _ _ _ hgw).trans rfl, hown.chgv hcg (fun k hk e => (hv2 k hk).2.1 e), (hm.keep (hgr.block mb hml (fun e => (hbF mb e.symm).2.2 rfl))).keep (hcg.block mb (by omega) hmF.2), ⟨.inl hgF.1, hgF.2⟩, hv2, ⟨.inl hmF.1, hmF.2⟩, fun k hk => ?_⟩, hc.setCell (p := ⟨g, 0, none⟩) (Or.inl hgF.1) _, fun k hk => hk.imp id (·.1)⟩
  have hz : (w2.setCell ⟨g, 0, none⟩ v2).heap.size = w2.heap.size := by simp
  rw [hz]
  rcases hk with hk | hk
  · exact ⟨(hF k hk).1, by have := (hF k hk).2; omega⟩
  · exact ⟨by omega, hk.2⟩

set_option maxHeartbeats 400000 in
theorem wnew_any (w : World) : Calls Try.prog 100 #[] w (fun e w' => ∃ g F, e = .returned (.pointer (some ⟨g, 0, none⟩)) ∧ Wtr w' w.heap.size F g Wr.nil ∧ Below w.heap.size w w') := by
  have hmm := @run_makeMap Try.prog
  go_enter Try.func100, Try.ntmps100
  go_wp2
  go_ret
  refine ⟨w.heap.size + 1, fun k => w.heap.size ≤ k ∧ k < w.heap.size + 2, rfl, ⟨Wr.near_nil, .slice none 0 0, w.heap.size, heap_alloc2_new w _ _, OwnB.nil _ _, (MapIs.made w).keep (heap_alloc2_old' w _ _), ⟨⟨by omega, by omega⟩, by omega⟩, fun k hk => by simp [Value.ownBlock] at hk, ⟨⟨by omega, by omega⟩, by omega⟩, fun k hk => ⟨hk.1, by simp; omega⟩⟩, (bl.alloc (Nat.le_refl _) _).alloc (by simp) _⟩

set_option maxHeartbeats 400000 in
theorem wlen_any (w : World) (B g : Nat) (F : Nat → Prop) (x : Wr) (h : Wtr w B F g x) :
    Calls Try.prog 184 #[.pointer (some ⟨g, 0, none⟩)] w (Ret (.int .i64 (x.b.length : Int)) w) := by
  obtain ⟨hn, bv, mb, hg, hb, _⟩ := h
  obtain ⟨A, c, rfl, _⟩ := hb.form
  have c0 : w.cell? ⟨g, 0, none⟩ = some (.slice A x.b.length c) := (cell_of_row _ _ _ _ _ _ hg).trans rfl
  clear hg hb
  go_enter Try.func184, Try.ntmps184
  go_wp2
  go_ret
  exact ⟨rfl, rfl⟩

set_option maxHeartbeats 400000 in
theorem wbytes_any (w : World) (B g : Nat) (F : Nat → Prop) (x : Wr) (h : Wtr w B F g x) (hx : x.b.length ≤ 1000000000) :
    Calls Try.prog 104 #[.pointer (some ⟨g, 0, none⟩)] w (RetP (fun v w' => OwnB w' w.heap.size v x.b) w) := by
  obtain ⟨hn, bv, mb, hg, hb, _⟩ := h
  obtain ⟨A, c, rfl, hr, _⟩ := hb.form
  have c0 : w.cell? ⟨g, 0, none⟩ = some (.slice A x.b.length c) := (cell_of_row _ _ _ _ _ _ hg).trans rfl
  clear hg hb
  go_enter Try.func104, Try.ntmps104
  go_wp2_with (go_at_call 152; refine (sclone_any _ _ _ x.b _ hr (by omega)).mono ?_; rintro e w2 ⟨v2, rfl, hown2, hb2⟩)
  go_ret
  exact ⟨_, rfl, hown2, hb2⟩

set_option maxHeartbeats 400000 in
theorem wraw_any (w : World) (B g : Nat) (F : Nat → Prop) (x : Wr) (A : Option Addr) (n c : Nat) (bs : List UInt8) (h : Wtr w B F g x) (hb : RdB w A n bs) (hx : x.b.length + n ≤ 1000000000) :
    Calls Try.prog 148 #[.pointer (some ⟨g, 0, none⟩), .slice A n c] w (RetX w B F g (x.raw bs) (.tuple #[])) := by
  have hlb := hb.len
  subst hlb
  obtain ⟨hn, bv, mb, hg, hbv, hm, hgF, hbF, hmF, hF⟩ := h
  obtain ⟨A1, c1, rfl, hr1, _⟩ := hbv.form
  have c0 : w.cell? ⟨g, 0, none⟩ = some (.slice A1 x.b.length c1) := (cell_of_row _ _ _ _ _ _ hg).trans rfl
  have HG := Lib.hid hg
  have hgl := (hF g hgF.1).2
  clear hg
  go_enter Try.func148, Try.ntmps148
  go_wp2_with ((with_reducible show wpList _ _ _ (⟨some 12, _, _, _, _, _⟩ :: _) _ _); refine wpL_appB rfl (.tmp 10) (.tmp 11) rfl B (.slice A1 x.b.length c1) x.b rfl hbv A _ c bs rfl hb (by omega) (Nat.le_trans hgF.2 (Nat.le_of_lt hgl)) ?_; intro v2 w2 hown2 hg2 hv2; obtain ⟨A2, c2, rfl, _⟩ := hown2.form; rw [List.length_append] at hown2 hv2 ⊢; have hgw := (hg2.block g hgl (fun e => (hbF g e.symm).2.1 rfl)).trans HG.out; have d0 := (cell_of_row _ _ 0 _ _ _ hgw).trans rfl; have f0 : ∀ k, w2.frozen? ⟨g, k, none⟩ = false := fun k => frozen_of_row _ _ _ _ _ hgw)
  go_end0
  exact put_b hn HG.out hm hgF hbF hmF hF hown2 hg2 hv2

theorem putB_nil_le (n size : Int) : (putB [] n size).length ≤ 7 := by
  unfold putB
  split
  · rename_i h
    obtain ⟨_, h2, _⟩ := fitsB_true h
    simp [length_be]
    omega
  · simp
set_option maxHeartbeats 400000 in
theorem wnum_any (w : World) (B g : Nat) (F : Nat → Prop) (x : Wr) (n size : Int) (h : Wtr w B F g x) (hx : x.b.length ≤ 100000000) :
    Calls Try.prog 101 #[.pointer (some ⟨g, 0, none⟩), .int .i64 n, .int .i64 size] w (RetX w B F g (x.raw (putB [] n size)) (.tuple #[])) := by
  have hl := putB_nil_le n size
  have H := Lib.hid h
  clear h
  go_enter Try.func101, Try.ntmps101
  go_wp2_with (first
    | (go_at_call 149; refine (put_any none 0 0 [] n size _ (Rd.nil _ _ _) (by omega)).mono ?_; rintro e w2 ⟨v2, rfl, hown2, hb2⟩; obtain ⟨A2, c2, rfl, hr2, _⟩ := hown2.form)
    | (go_at_call 148; refine (wraw_any w2 B g F x _ _ _ _ (H.out.below hb2) hr2 (by omega)).mono ?_; rintro e w3 ⟨rfl, F3, h3, hc3, hF3⟩))
  go_end0
  exact ⟨rfl, F3, h3, (Chg.of_below hb2).trans hc3 (fun k hk => .inl hk), fun k hk => (hF3 k hk).imp id (Nat.le_trans hb2.size)⟩
end Go.Proofs.Ytimkdpkhdbiniaa

/- Slices of strings of the call's own, over this seat's type numbers. -/
namespace Go.Proofs.Ytimkdpkhdbiniaa
open Go.RowKit

theorem elS : ElT Try.prog 23 9 encS 16 := ElT.mk Try.underlying23 (.string ByteArray.empty) 1 (by kernel_rfl) rfl rfl

/-- A slice of strings of the call's own. -/
def OwnS (w : World) (base : Nat) (v : Value) (l : List (List UInt8)) : Prop := OwnE encS 9 noS w base v l
theorem OwnS.nil (w : World) (base : Nat) : OwnS w base (.slice none 0 0) [] := OwnE.nil _ _ _ _

/-- append(s, x): one string. -/
theorem wpL_pushS {w : World} {ops : Array Oper} {rest : List Oper} {o : Oper} {a : Act} {Q : Exit → Act → World → Prop} (hgd : Region.wanted o (yielded ops a.tmps) = true) (s x : Operand)
    (ho : o.op = .call { callee := .builtin .append, args := #[s, x], argTypes := #[23, 23] })
    (base : Nat) (v : Value) (xs : List (List UInt8)) (hs : a.eval s = v) (hown : OwnS w base v xs) (y : List UInt8) (hy : y.length ≤ maxLen)
    {g : Nat} (hx : a.eval x = .slice (some ⟨g, 0, none⟩) 1 1) (hb : xs.length + 1 ≤ 8796093022208) (hbase : base ≤ w.heap.size)
    (h : ∀ v' w', OwnS w' base v' (xs ++ [y]) → w.grownBy w' v.ownBlock → (v'.ownBlock = v.ownBlock ∨ v'.ownBlock = some (w.heap.size + 1)) → wpList Try.prog ops Q rest (a.put o.dst v') w') (hgs : g = w.heap.size := by simp) :
    wpList Try.prog ops Q (o :: rest) a (w.alloc (.cells #[.string (bstr y)] 9)) := by
  refine wpL_pushE (S' := noS) elS hgd s x ho base v xs hs hown [.string (bstr y)] y ⟨rfl, hy⟩ (fun b hb => hb.elim) hx (by omega) (by unfold maxLen; omega) hbase (fun v' w' h1 h2 h3 => h v' w' ?_ h2 h3) hgs
  obtain ⟨cells, h4, h5, _⟩ := h1
  exact ⟨cells, h4, fun i x hx => E_noS (h5 i x hx), fun b hb => hb.elim⟩
where
  E_noS {S : Nat → Prop} {w : World} {r : List Value} {x : List UInt8} (h : encS.R S w r x) : encS.R noS w r x := h
end Go.Proofs.Ytimkdpkhdbiniaa

/- wname: rest; name: Size, Sound. -/
namespace Go.Proofs.Ytimkdpkhdbiniaa
open Go.RowKit

/-- A slice of strings, its element. -/
theorem strs_at {So Si : Nat → Prop} {w : World} {A : Option Addr} {n : Nat} {ns : List (List UInt8)} (h : Els encS So Si w A n ns) {k : Nat} {l : List UInt8} (hx : ns[k]? = some l) :
    ∃ b off, A = some ⟨b, off, none⟩ ∧ So b ∧ w.cell? ⟨b, off + k, none⟩ = some (.string (bstr l)) ∧ l.length ≤ maxLen := by
  obtain ⟨b, off, rfl, hs, hat⟩ := h.flat (by rw [← h.len]; exact Nat.lt_of_le_of_lt (Nat.zero_le k) (List.getElem?_eq_some_iff.1 hx).1)
  obtain ⟨r, ⟨rfl, hl⟩, hc⟩ := hat k l hx
  exact ⟨b, off, rfl, hs, by simpa [encS, flatE] using hc 0 _ rfl, hl⟩

theorem sizeN_take {ns : List (List UInt8)} {k : Nat} {l : List UInt8} (hx : ns[k]? = some l) : sizeN (ns.take (k + 1)) = sizeN (ns.take k) + l.length + 1 := by
  rw [List.take_add_one, hx, Option.toList_some, sizeN_snoc]
theorem restB_snoc (n : List (List UInt8)) (l : List UInt8) : restB (n ++ [l]) = restB n ++ (UInt8.ofNat l.length :: l) := by
  induction n with
  | nil => simp [restB]
  | cons x n ih => simp only [List.cons_append, restB, ih, List.append_assoc]
theorem restB_take {ns : List (List UInt8)} {k : Nat} {l : List UInt8} (hx : ns[k]? = some l) : restB (ns.take (k + 1)) = restB (ns.take k) ++ [UInt8.ofNat l.length] ++ l := by
  rw [List.take_add_one, hx, Option.toList_some, restB_snoc, List.append_assoc]
  rfl
theorem sizeN_take_le (ns : List (List UInt8)) (k : Nat) : sizeN (ns.take k) ≤ sizeN ns := by
  have := sizeN_append (ns.take k) (ns.drop k)
  rw [List.take_append_drop] at this
  have := sizeN_length (ns.drop k)
  omega

set_option maxHeartbeats 400000 in
theorem size_any (A : Option Addr) (n c : Nat) (ns : List (List UInt8)) (w : World) {So Si : Nat → Prop} (h : Els encS So Si w A n ns) (hs : sizeN ns ≤ 1000000000000) :
    Calls Try.prog 112 #[.slice A n c] w (Ret (.int .i64 (sizeN ns : Int)) w) := by
  have hl := h.len
  subst hl
  have hsl := sizeN_length ns
  go_enter Try.func112, Try.ntmps112
  go_wp2
  go_loop [3, 8] (fun sv iv => ∃ k : Nat, iv = .int .i64 k ∧ k ≤ ns.length ∧ sv = .int .i64 (sizeN (ns.take k) : Nat)) (fun _ iv => ns.length - (intOf iv).toNat)
  case atStart => exact ⟨0, rfl, Nat.zero_le _, rfl⟩
  case round =>
    obtain ⟨k, rfl, hk, rfl⟩ := hrel
    have ht := sizeN_take_le ns k
    by_cases hlt : k < ns.length
    · obtain ⟨l, hx⟩ : ∃ l, ns[k]? = some l := ⟨_, List.getElem?_eq_getElem hlt⟩
      obtain ⟨b, off, rfl, _, hc, hll⟩ := strs_at h hx
      have hst := sizeN_take hx
      have ht2 := sizeN_take_le ns (k + 1)
      have hle : sizeN (ns.take k) + l.length + 1 ≤ 1000000000000 := by omega
      have HS := Lib.hid hst
      clear hx hst ht2
      generalize sizeN (ns.take k) = z at HS ht hle ⊢
      have hbs := bstr_size l
      go_wp2
      go_round
      case rel => exact ⟨k + 1, by go_num, by omega, by rw [HS.out]; go_num⟩
      case measure => simp [intOf]; omega
    · obtain rfl : k = ns.length := by omega
      rw [List.take_length]
      go_wp2
      go_ret
      exact ⟨rfl, rfl⟩

set_option maxRecDepth 100000 in
set_option maxHeartbeats 1000000 in
theorem rest_any (A : Option Addr) (n c : Nat) (ns : List (List UInt8)) (w : World) {So Si : Nat → Prop} (h : Els encS So Si w A n ns) (hs : sizeN ns ≤ 1000000) (hl2 : ∀ l ∈ ns, l.length < 256) :
    Calls Try.prog 151 #[.slice A n c] w (RetP (fun v _ => v = .string (bstr (restB ns))) w) := by
  have hl := h.len
  subst hl
  have hsl := sizeN_length ns
  have HL := Lib.hid hl2
  clear hl2
  go_enter Try.func151, Try.ntmps151
  go_wp2
  go_loopw [3, 8] (fun bv iv wr => ∃ k : Nat, iv = .int .i64 k ∧ k ≤ ns.length ∧ OwnB wr w.heap.size bv (restB (ns.take k)) ∧ Below w.heap.size w wr) (fun _ iv _ => ns.length - (intOf iv).toNat)
  case atStart => exact ⟨0, rfl, Nat.zero_le _, OwnB.nil _ _, bl⟩
  case round =>
    obtain ⟨k, rfl, hk, hown, hbw⟩ := hrel
    have ht := sizeN_take_le ns k
    have htr := restB_length (ns.take k)
    by_cases hlt : k < ns.length
    · obtain ⟨l, hx⟩ : ∃ l, ns[k]? = some l := ⟨_, List.getElem?_eq_getElem hlt⟩
      obtain ⟨b, off, rfl, _, hc0, hll⟩ := strs_at h hx
      have hc := below_cell hbw hc0
      have hst := restB_take hx
      have hll := HL.out l (List.mem_of_getElem? hx)
      have hof : (UInt8.ofNat l.length).toNat = l.length := by simp; omega
      have HOF := Lib.hid hof
      have ht2 := sizeN_take_le ns (k + 1)
      have HS := Lib.hid hst
      have hlen : (restB (ns.take k)).length ≤ 1000000 := by omega
      obtain ⟨A1, c1, rfl, _⟩ := hown.form
      clear hx hst ht2 hof htr
      generalize restB (ns.take k) = z at HS hown hlen ⊢
      have hbs := bstr_size l
      go_wp2_with (first
        | ((with_reducible show wpList _ _ _ (⟨some 17, _, _, _, _, _⟩ :: _) _ _); refine wpL_pushB rfl (.tmp 12) (.tmp 16) rfl w.heap.size (.slice A1 z.length c1) z rfl hown _ (UInt8.ofNat l.length) (by have := HOF.out; omega) rfl (by omega) hbw.size ?_; intro v2 w2 hown2 hg2 _; have hb2 := hbw.grown hg2 hbw.size (fun k hk => (World.ownsRow.lt hown k hk).1); obtain ⟨A2, c2, rfl, _⟩ := hown2.form; rw [List.length_append, List.length_singleton] at hown2 ⊢)
        | ((with_reducible show wpList _ _ _ (⟨some 20, _, _, _, _, _⟩ :: _) _ _); refine wpL_appS rfl (.tmp 18) (.tmp 19) rfl w.heap.size (.slice A2 (z.length + 1) c2) (z ++ [UInt8.ofNat l.length]) rfl hown2 l rfl (by simp; omega) hb2.size ?_; intro v3 w3 hown3 hg3 _; have hb3 := hb2.grown hg3 hb2.size (fun k hk => (World.ownsRow.lt hown2 k hk).1)))
      go_roundw
      case rel => exact ⟨k + 1, by go_num, by omega, by rw [HS.out]; exact hown3, hb3⟩
      case measure => simp [intOf]; omega
    · obtain rfl : k = ns.length := by omega
      rw [List.take_length] at hown
      obtain ⟨A1, c1, rfl, hr1, _⟩ := hown.form
      have cx := conv_str (P := Try.prog) _ _ _ Try.underlying22 Try.underlying5 Try.underlying9 wr A1 _ c1 _ hr1
      go_wp2
      go_ret
      exact ⟨_, rfl, rfl, hbw⟩

set_option maxRecDepth 100000 in
set_option maxHeartbeats 400000 in
theorem badlabel_any (l : List UInt8) (w : World) : Calls Try.prog 111 #[.string (bstr l)] w (Ret (.bool (decide (¬ (1 ≤ l.length ∧ l.length ≤ 63)))) w) := by
  have hbs := bstr_size l
  by_cases h0 : l = []
  · subst h0
    have he : (bstr ([] : List UInt8)).toList = [] := bstr_toList []
    go_enter Try.func111, Try.ntmps111
    go_wp2
    go_ret
    exact ⟨ret_bool rfl, rfl⟩
  · have hp : 0 < l.length := List.length_pos_iff.2 h0
    have he : (bstr l).toList.isEmpty = false := by rw [bstr_toList]; simpa using h0
    have he2 : (bstr l).toList = [] ↔ False := by rw [bstr_toList]; simp [h0]
    go_enter Try.func111, Try.ntmps111
    go_wp2
    go_ret
    refine ⟨ret_bool ?_, rfl⟩
    show decide (63 < (l.length : Int)) = _
    rw [Bool.eq_iff_iff, decide_eq_true_iff, decide_eq_true_iff]
    omega

/-- Some label may not be. -/
def BadLab (ns : List (List UInt8)) : Prop := ¬ ∀ l ∈ ns, 1 ≤ l.length ∧ l.length ≤ 63
/-- A place, or one below 0. -/
def RetIdx (bad : Prop) (w : World) (e : Ending) (w' : World) : Prop := ∃ i : Int, e = .returned (.int .i64 i) ∧ (0 ≤ i ↔ bad) ∧ w = w'

set_option maxRecDepth 100000 in
set_option maxHeartbeats 1000000 in
theorem index_any (A : Option Addr) (n c : Nat) (ns : List (List UInt8)) (w : World) {So Si : Nat → Prop} (h : Els encS So Si w A n ns) (hn : n ≤ 1000000000) :
    Calls Try.prog 160 #[.slice A n c, .func (.func 111) #[] #[]] w (RetIdx (BadLab ns) w) := by
  have hl := h.len
  subst hl
  go_enter Try.func160, Try.ntmps160
  go_wp2
  go_loop [5, 8] (fun _ iv => ∃ k : Nat, iv = .int .i64 k ∧ k ≤ ns.length ∧ Hid (∀ l ∈ ns.take k, 1 ≤ l.length ∧ l.length ≤ 63)) (fun _ iv => ns.length - (intOf iv).toNat)
  case atStart => exact ⟨0, rfl, Nat.zero_le _, fun l hl => by simp at hl⟩
  case round =>
    obtain ⟨k, rfl, hk, HK⟩ := hrel
    by_cases hlt : k < ns.length
    · obtain ⟨l, hx⟩ : ∃ l, ns[k]? = some l := ⟨_, List.getElem?_eq_getElem hlt⟩
      obtain ⟨b, off, rfl, _, hc, hll⟩ := strs_at h hx
      have HX := Lib.hid hx
      clear hx
      by_cases hb : 1 ≤ l.length ∧ l.length ≤ 63
      · have hq := Lib.hid (badlabel_any l w)
        rw [show decide (¬ (1 ≤ l.length ∧ l.length ≤ 63)) = false by simp [hb]] at hq
        go_wp2_with (go_at_call 111; refine hq.out.mono ?_; rintro e w1 ⟨rfl, rfl⟩)
        go_round
        case rel => exact ⟨k + 1, by go_num, by omega, fun m hm => by rw [List.take_add_one, HX.out, Option.toList_some, List.mem_append, List.mem_singleton] at hm; exact hm.elim (HK.out m) (fun e => by rw [e]; exact hb)⟩
        case measure => simp [intOf]; omega
      · have hq := Lib.hid (badlabel_any l w)
        rw [show decide (¬ (1 ≤ l.length ∧ l.length ≤ 63)) = true by simp [hb]] at hq
        have HB := Lib.hid hb
        clear hb
        go_wp2_with (go_at_call 111; refine hq.out.mono ?_; rintro e w1 ⟨rfl, rfl⟩)
        go_ret
        exact ⟨_, rfl, ⟨fun _ ha => HB.out (ha l (List.mem_of_getElem? HX.out)), fun _ => Int.natCast_nonneg _⟩, rfl⟩
    · obtain rfl : k = ns.length := by omega
      rw [List.take_length] at HK
      go_wp2
      go_ret
      exact ⟨-1, rfl, ⟨fun h => absurd h (by decide), fun h => absurd HK.out h⟩, rfl⟩

set_option maxRecDepth 100000 in
set_option maxHeartbeats 400000 in
theorem contains_any (A : Option Addr) (n c : Nat) (ns : List (List UInt8)) (w : World) {So Si : Nat → Prop} (h : Els encS So Si w A n ns) (hn : n ≤ 1000000000) (b : Bool) (hb : b = true ↔ BadLab ns) :
    Calls Try.prog 110 #[.slice A n c, .func (.func 111) #[] #[]] w (Ret (.bool b) w) := by
  have HB := Lib.hid hb
  clear hb
  go_enter Try.func110, Try.ntmps110
  go_wp2_with (go_at_call 160; refine (index_any A n c ns _ h hn).mono ?_; rintro e w1 ⟨i, rfl, hi, rfl⟩; have HI := Lib.hid hi; clear hi)
  go_ret
  refine ⟨ret_bool ?_, rfl⟩
  show decide (0 ≤ i) = b
  rw [Bool.eq_iff_iff, decide_eq_true_iff, HI.out, HB.out]

theorem sizeN_le {ns : List (List UInt8)} (h : ∀ l ∈ ns, l.length ≤ 63) : sizeN ns ≤ 64 * ns.length + 1 := by
  induction ns with
  | nil => simp [sizeN]
  | cons l n ih =>
    have h1 := ih (fun x hx => h x (List.mem_cons_of_mem _ hx))
    have h2 := h l (List.mem_cons_self ..)
    simp only [sizeN, List.length_cons]
    omega

set_option maxRecDepth 100000 in
set_option maxHeartbeats 1000000 in
theorem sound_any (A : Option Addr) (n c : Nat) (ns : List (List UInt8)) (w : World) {So Si : Nat → Prop} (h : Els encS So Si w A n ns) (hn : n ≤ 1000000000) :
    Calls Try.prog 61 #[.slice A n c] w (Ret (.bool (soundB ns)) w) := by
  have hl := h.len
  subst hl
  have hsl := sizeN_length ns
  by_cases h1 : ns.length ≤ 255
  · by_cases h2 : ∀ l ∈ ns, 1 ≤ l.length ∧ l.length ≤ 63
    · have h3 := sizeN_le (fun l hl => (h2 l hl).2)
      have hq : soundB ns = decide ((sizeN ns : Int) ≤ 255) := by
        rw [Bool.eq_iff_iff, soundB_iff, decide_eq_true_iff]
        exact ⟨fun h => by have := h.2; omega, fun h => ⟨h2, by omega⟩⟩
      have HQ := Lib.hid hq
      have hcf := Lib.hid (contains_any A ns.length c ns w h hn false ⟨(fun h => by cases h), fun h => absurd h2 h⟩)
      clear h2 hq
      go_enter Try.func61, Try.ntmps61
      go_wp2_with (first
        | (go_at_call 110; refine hcf.out.mono ?_; rintro e w1 ⟨rfl, rfl⟩)
        | (go_at_call 112; refine (size_any A ns.length c ns _ h (by omega)).mono ?_; rintro e w1 ⟨rfl, rfl⟩))
      go_ret
      exact ⟨ret_bool HQ.out.symm, rfl⟩
    · have hq := Lib.hid (soundB_false (fun h => h2 h.1))
      have hcf := Lib.hid (contains_any A ns.length c ns w h hn true ⟨fun _ => h2, fun _ => rfl⟩)
      clear h2
      go_enter Try.func61, Try.ntmps61
      go_wp2_with (go_at_call 110; refine hcf.out.mono ?_; rintro e w1 ⟨rfl, rfl⟩)
      go_ret
      exact ⟨ret_bool hq.out.symm, rfl⟩
  · have hq := Lib.hid (soundB_false (n := ns) (fun h => h1 (by have := h.2; omega)))
    have hd : decide ((ns.length : Int) ≤ 255) = false := by simp; omega
    go_enter Try.func61, Try.ntmps61
    go_wp2
    go_ret
    exact ⟨ret_bool hq.out.symm, rfl⟩
end Go.Proofs.Ytimkdpkhdbiniaa

/- The reference's Size, Sound, Exact of names. -/
namespace Go.Proofs.Ytimkdpkhdbiniaa
open Go.RowKit

set_option maxHeartbeats 400000 in
theorem rsize_any (A : Option Addr) (n c : Nat) (ns : List (List UInt8)) (w : World) {So Si : Nat → Prop} (h : Els encS So Si w A n ns) (hs : sizeN ns ≤ 1000000000000) :
    Calls Try.prog 66 #[.slice A n c] w (Ret (.int .i64 (sizeN ns : Int)) w) := by
  have hl := h.len
  subst hl
  have hsl := sizeN_length ns
  go_enter Try.func66, Try.ntmps66
  go_wp2
  go_loop [3, 4] (fun sv iv => ∃ k : Nat, iv = .int .i64 k ∧ k ≤ ns.length ∧ sv = .int .i64 (sizeN (ns.take k) : Nat)) (fun _ iv => ns.length - (intOf iv).toNat)
  case atStart => exact ⟨0, rfl, Nat.zero_le _, rfl⟩
  case round =>
    obtain ⟨k, rfl, hk, rfl⟩ := hrel
    have ht := sizeN_take_le ns k
    by_cases hlt : k < ns.length
    · obtain ⟨l, hx⟩ : ∃ l, ns[k]? = some l := ⟨_, List.getElem?_eq_getElem hlt⟩
      obtain ⟨b, off, rfl, _, hc, hll⟩ := strs_at h hx
      have hst := sizeN_take hx
      have ht2 := sizeN_take_le ns (k + 1)
      have hle : sizeN (ns.take k) + l.length + 1 ≤ 1000000000000 := by omega
      have HS := Lib.hid hst
      clear hx hst ht2
      generalize sizeN (ns.take k) = z at HS ht hle ⊢
      have hbs := bstr_size l
      go_wp2
      go_round
      case rel => exact ⟨k + 1, by go_num, by omega, by rw [HS.out]; go_num⟩
      case measure => simp [intOf]; omega
    · obtain rfl : k = ns.length := by omega
      rw [List.take_length]
      go_wp2
      go_ret
      exact ⟨rfl, rfl⟩

theorem sizeN_labels (ns : List (List UInt8)) (h : ∀ l ∈ ns, 1 ≤ l.length ∧ l.length ≤ 63) : 2 * ns.length + 1 ≤ sizeN ns ∧ sizeN ns ≤ 64 * ns.length + 1 := by
  induction ns with
  | nil => simp [sizeN]
  | cons l n ih =>
    have h1 := h l (List.mem_cons_self ..)
    have h2 := ih (fun m hm => h m (List.mem_cons_of_mem _ hm))
    simp only [sizeN, List.length_cons]
    omega

set_option maxRecDepth 100000 in
set_option maxHeartbeats 1000000 in
theorem rsound_any (A : Option Addr) (n c : Nat) (ns : List (List UInt8)) (w : World) {So Si : Nat → Prop} (h : Els encS So Si w A n ns) :
    Calls Try.prog 27 #[.slice A n c] w (Ret (.bool (soundB ns)) w) := by
  have hl := h.len
  subst hl
  by_cases h127 : 127 < ns.length
  · have hb : soundB ns = false := soundB_false fun hs => by have := sizeN_labels ns hs.1; have := hs.2; omega
    rw [hb]
    clear hb
    go_enter Try.func27, Try.ntmps27
    go_wp2
    go_ret
    exact ⟨rfl, rfl⟩
  · go_enter Try.func27, Try.ntmps27
    go_wp2
    go_loop [3] (fun iv => ∃ k : Nat, iv = .int .i64 k ∧ k ≤ ns.length ∧ Hid (∀ l ∈ ns.take k, 1 ≤ l.length ∧ l.length ≤ 63)) (fun iv => ns.length - (intOf iv).toNat)
    case atStart => exact ⟨0, rfl, Nat.zero_le _, fun l hl => by simp at hl⟩
    case round =>
      obtain ⟨k, rfl, hk, HK⟩ := hrel
      by_cases hlt : k < ns.length
      · obtain ⟨l, hx⟩ : ∃ l, ns[k]? = some l := ⟨_, List.getElem?_eq_getElem hlt⟩
        obtain ⟨b, off, rfl, _, hc, hll⟩ := strs_at h hx
        have HX := Lib.hid hx
        have hbs := bstr_size l
        clear hx
        by_cases hb : 1 ≤ l.length ∧ l.length ≤ 63
        · obtain ⟨h1, h2⟩ := hb
          go_wp2
          go_round
          case rel => exact ⟨k + 1, by go_num, by omega, fun m hm => by
            rw [List.take_add_one, HX.out, Option.toList_some, List.mem_append, List.mem_singleton] at hm
            rcases hm with hm | rfl
            · exact HK.out m hm
            · exact ⟨h1, h2⟩⟩
          case measure => simp [intOf]; omega
        · have hf : soundB ns = false := soundB_false fun hs => hb (hs.1 l (List.mem_of_getElem? HX.out))
          rw [hf]
          clear hf
          by_cases h1 : l.length < 1
          · go_wp2
            go_ret
            exact ⟨rfl, rfl⟩
          · have h2 : 63 < l.length := by omega
            go_wp2
            go_ret
            exact ⟨rfl, rfl⟩
      · obtain rfl : k = ns.length := by omega
        have hlab := HK.out
        rw [List.take_length] at hlab
        have hz := sizeN_labels ns hlab
        have HB := Lib.hid (show soundB ns = decide ((sizeN ns : Int) ≤ 255) by
          rw [Bool.eq_iff_iff, soundB_iff, decide_eq_true_iff]
          exact ⟨fun hs => by have := hs.2; omega, fun hs => ⟨hlab, by omega⟩⟩)
        clear hlab
        go_wp2_with (go_at_call 66; refine (rsize_any _ _ _ ns _ h (by omega)).mono ?_; rintro e w1 ⟨rfl, rfl⟩)
        go_ret
        exact ⟨ret_bool HB.out.symm, rfl⟩

set_option maxRecDepth 100000 in
set_option maxHeartbeats 1000000 in
theorem rexact_any (A A' : Option Addr) (n c n' c' : Nat) (xs ys : List (List UInt8)) (w : World) {So Si So' Si' : Nat → Prop} (hx : Els encS So Si w A n xs) (hy : Els encS So' Si' w A' n' ys) (hn : n ≤ maxLen) (hn' : n' ≤ maxLen) :
    Calls Try.prog 28 #[.slice A n c, .slice A' n' c'] w (RetN (.bool (decide (xs = ys))) w) := by
  unfold maxLen at hn hn'
  have hlx := Lib.hid hx.len
  have hly := Lib.hid hy.len
  by_cases hnn : n = n'
  · subst hnn
    go_enter Try.func28, Try.ntmps28
    go_wp2
    go_loopw [5] (fun i wr => ∃ k m : Nat, i = .int .i64 k ∧ k ≤ n ∧ wr = w.drewN m ∧ xs.take k = ys.take k) (fun i _ => n - (intOf i).toNat)
    case atStart => exact ⟨0, 0, rfl, Nat.zero_le _, rfl, rfl⟩
    case round =>
      obtain ⟨k, m, rfl, hk, rfl, ht⟩ := hrel
      have HT := Lib.hid ht
      clear ht
      by_cases hlt : k < n
      · obtain ⟨x, gx⟩ : ∃ x, xs[k]? = some x := ⟨_, List.getElem?_eq_getElem (by rw [hlx.out]; exact hlt)⟩
        obtain ⟨y, gy⟩ : ∃ y, ys[k]? = some y := ⟨_, List.getElem?_eq_getElem (by rw [hly.out]; exact hlt)⟩
        obtain ⟨b, off, rfl, _, cx, _⟩ := strs_at hx gx
        obtain ⟨b', off', rfl, _, cy, _⟩ := strs_at hy gy
        have GX := Lib.hid gx
        have GY := Lib.hid gy
        clear gx gy
        by_cases hxy : x = y
        · subst hxy
          go_wp2
          go_quiet (fail)
          go_wp2
          go_roundw
          case rel => exact ⟨k + 1, _, by go_num, by omega, rfl, take_eq_succ HT.out GX.out GY.out rfl⟩
          case measure => simp [intOf]; omega
        · have hbne : ((bstr x).toList == (bstr y).toList) = false := by rw [bstr_toList, bstr_toList, beq_eq_false_iff_ne]; exact hxy
          go_wp2
          go_quiet (fail)
          go_wp2
          go_ret
          exact ⟨ret_bool (decide_eq_false (ne_of_get GX.out GY.out hxy)).symm, _, World.drewN_drewN _ _ _⟩
      · go_wp2
        go_ret
        have hk' : k = n := by omega
        refine ⟨ret_bool (decide_eq_true ?_).symm, _, rfl⟩
        have := HT.out
        rwa [hk', List.take_of_length_le (by rw [hlx.out]; omega), List.take_of_length_le (by rw [hly.out]; omega)] at this
  · have hb : ((n : Int) != (n' : Int)) = true := by rw [bne_iff_ne]; omega
    go_enter Try.func28, Try.ntmps28
    go_wp2
    go_ret
    refine ⟨ret_bool (decide_eq_false ?_).symm, 0, rfl⟩
    rintro rfl
    exact hnn (hlx.out.symm.trans hly.out)
end Go.Proofs.Ytimkdpkhdbiniaa

/- gazetteerref01.Same: are two lists of bytes the same. -/
namespace Go.Proofs.Ytimkdpkhdbiniaa
open Go.RowKit

set_option maxHeartbeats 400000 in
theorem same_any (A A' : Option Addr) (n c n' c' : Nat) (xs ys : List UInt8) (w : World) (hx : RdB w A n xs) (hy : RdB w A' n' ys) (hn : n ≤ maxLen) (hn' : n' ≤ maxLen) :
    Calls Try.prog 25 #[.slice A n c, .slice A' n' c'] w (RetN (.bool (decide (xs = ys))) w) := by
  unfold maxLen at hn hn'
  have hlx := Lib.hid hx.len
  have hly := Lib.hid hy.len
  by_cases hnn : n = n'
  · subst hnn
    go_enter Try.func25, Try.ntmps25
    go_wp2
    go_loopw [5] (fun i wr => ∃ k m : Nat, i = .int .i64 k ∧ k ≤ n ∧ wr = w.drewN m ∧ xs.take k = ys.take k) (fun i _ => n - (intOf i).toNat)
    case atStart => exact ⟨0, 0, rfl, Nat.zero_le _, rfl, rfl⟩
    case round =>
      obtain ⟨k, m, rfl, hk, rfl, ht⟩ := hrel
      have HT := Lib.hid ht
      clear ht
      by_cases hlt : k < n
      · obtain ⟨b, off, x, rfl, gx, cx⟩ := hx.at_ hlt
        obtain ⟨b', off', y, rfl, gy, cy⟩ := hy.at_ hlt
        have GX := Lib.hid gx
        have GY := Lib.hid gy
        clear gx gy
        go_wp2
        go_quiet (fail)
        go_wp2
        · have hne : (↑x.toNat != (↑y.toNat : Int)) = true := by assumption
          go_ret
          refine ⟨ret_bool (decide_eq_false (ne_of_get GX.out GY.out fun e => ?_)).symm, _, World.drewN_drewN _ _ _⟩
          rw [e] at hne; simp at hne
        · have heq : (↑x.toNat != (↑y.toNat : Int)) = false := by assumption
          go_roundw
          case rel => exact ⟨k + 1, _, by go_num, by omega, rfl, take_eq_succ HT.out GX.out GY.out (u8_eq (by simpa using heq))⟩
          case measure => simp [intOf]; omega
      · go_wp2
        go_ret
        have hk' : k = n := by omega
        refine ⟨ret_bool (decide_eq_true ?_).symm, _, rfl⟩
        have := HT.out
        rwa [hk', List.take_of_length_le (by rw [hlx.out]; omega), List.take_of_length_le (by rw [hly.out]; omega)] at this
  · have hb : ((n : Int) != (n' : Int)) = true := by rw [bne_iff_ne]; omega
    go_enter Try.func25, Try.ntmps25
    go_wp2
    go_ret
    refine ⟨ret_bool (decide_eq_false ?_).symm, 0, rfl⟩
    rintro rfl
    exact hnn (hlx.out.symm.trans hly.out)
end Go.Proofs.Ytimkdpkhdbiniaa

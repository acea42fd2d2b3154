/- FlashActs: an act; the program's device and the reference's side by side; alike. -/
import Derived.Test.YtjpkddmdhdmhgaaRDev5
import Derived.Test.YtjpkddmdhdmhgaaLaw08
import Derived.Test.YtjpkddmdhdmhgaaRWMem
namespace Go.Proofs.Ytjpkddmdhdmhgaa
open Go.RowKit
set_option maxRecDepth 100000

structure Ac where
  what : Int
  pos : Int
  data : List UInt8
  mask : Nat
  torn : Nat
def in64 (n : Int) : Prop := -9223372036854775808 ≤ n ∧ n ≤ 9223372036854775807
def encAc : Enc Ac where
  size := 5
  R := fun S w r x => ∃ A c, r = [.int .i64 x.what, .int .i64 x.pos, .slice A x.data.length c, .int .u64 (x.mask : Int), .int .u64 (x.torn : Int)] ∧ Els encB S S w A x.data.length x.data ∧ x.data.length ≤ c ∧ c ≤ maxLen ∧ in64 x.what ∧ in64 x.pos ∧ x.mask < 18446744073709551616 ∧ x.torn < 18446744073709551616
  pos := by decide
  len := by rintro _ _ r x ⟨A, c, rfl, _⟩; rfl
  mono := by rintro S S' w r x h ⟨A, c, rfl, he, h1⟩; exact ⟨A, c, rfl, he.mono h h, h1⟩
  keep := by rintro S w w' r x h ⟨A, c, rfl, he, h1⟩; exact ⟨A, c, rfl, he.keep h h, h1⟩
  one := by
    rintro S w r x ⟨A, c, rfl, _⟩ u hu
    simp at hu
    rcases hu with rfl | rfl | rfl | rfl | rfl <;> rfl
theorem acs_at {w : World} {A : Option Addr} {n : Nat} {xs : List Ac} (h : RdE encAc w A n xs) {k : Nat} {x : Ac} (hx : xs[k]? = some x) :
    ∃ b off A1 c1, A = some ⟨b, off, none⟩ ∧ w.cell? ⟨b, off + k * 5, none⟩ = some (.int .i64 x.what) ∧ w.cell? ⟨b, off + k * 5 + 1, none⟩ = some (.int .i64 x.pos) ∧ w.cell? ⟨b, off + k * 5 + 2, none⟩ = some (.slice A1 x.data.length c1) ∧
      w.cell? ⟨b, off + k * 5 + 3, none⟩ = some (.int .u64 (x.mask : Int)) ∧ w.cell? ⟨b, off + k * 5 + 4, none⟩ = some (.int .u64 (x.torn : Int)) ∧ RdB w A1 x.data.length x.data ∧ x.data.length ≤ c1 ∧ c1 ≤ maxLen ∧ (∀ b' off', 0 < x.data.length → A1 = some ⟨b', off', none⟩ → b' < w.heap.size) ∧ in64 x.what ∧ in64 x.pos ∧ x.mask < 18446744073709551616 ∧ x.torn < 18446744073709551616 := by
  obtain ⟨b, off, rfl, _, hat⟩ := Els.flat h (by rw [← h.len]; exact Nat.lt_of_le_of_lt (Nat.zero_le k) (List.getElem?_eq_some_iff.1 hx).1)
  obtain ⟨r, ⟨A1, c1, rfl, he, h1, h2, h3, h4, h5, h6⟩, hc⟩ := hat k x hx
  have hq : ∀ (j : Nat) (u : Value), ([.int .i64 x.what, .int .i64 x.pos, .slice A1 x.data.length c1, .int .u64 (x.mask : Int), .int .u64 (x.torn : Int)] : List Value)[j]? = some u → w.cell? ⟨b, off + k * 5 + j, none⟩ = some u := fun j u hu => by
    have := hc j u hu
    rwa [← Nat.add_assoc] at this
  refine ⟨b, off, A1, c1, rfl, hq 0 _ rfl, hq 1 _ rfl, hq 2 _ rfl, hq 3 _ rfl, hq 4 _ rfl, els_bytes he, h1, h2, fun b' off' hn e => ?_, h3, h4, h5, h6⟩
  obtain ⟨b2, off2, e2, hb2, _⟩ := he.flat hn
  rw [e] at e2
  injection e2 with e2
  injection e2 with e2
  subst e2
  exact hb2

/-- An act in a block of its own. -/
def ABox (w : World) (q : Nat) (A : Option Addr) (c : Nat) (x : Ac) : Prop :=
  w.cell? ⟨q, 0, none⟩ = some (.int .i64 x.what) ∧ w.cell? ⟨q, 1, none⟩ = some (.int .i64 x.pos) ∧ w.cell? ⟨q, 2, none⟩ = some (.slice A x.data.length c) ∧ w.cell? ⟨q, 3, none⟩ = some (.int .u64 (x.mask : Int)) ∧ w.cell? ⟨q, 4, none⟩ = some (.int .u64 (x.torn : Int))
theorem ABox.made (w : World) (A : Option Addr) (c : Nat) (x : Ac) (e : TypeId) : ABox (w.alloc (.cells #[.int .i64 x.what, .int .i64 x.pos, .slice A x.data.length c, .int .u64 (x.mask : Int), .int .u64 (x.torn : Int)] e)) w.heap.size A c x :=
  ⟨new_cell w _ _ 0, new_cell w _ _ 1, new_cell w _ _ 2, new_cell w _ _ 3, new_cell w _ _ 4⟩
section
variable {w w' : World} {q : Nat} {A : Option Addr} {c : Nat} {x : Ac}
theorem ABox.below (h : ABox w q A c x) (hb : Below w.heap.size w w') : ABox w' q A c x := by
  obtain ⟨h0, h1, h2, h3, h4⟩ := h
  exact ⟨below_cell hb h0, below_cell hb h1, below_cell hb h2, below_cell hb h3, below_cell hb h4⟩
theorem ABox.chg {F : Nat → Prop} (h : ABox w q A c x) (hc : Chg F w w') (hq : ¬ F q) : ABox w' q A c x := by
  obtain ⟨h0, h1, h2, h3, h4⟩ := h
  exact ⟨hc.cell h0 hq, hc.cell h1 hq, hc.cell h2 hq, hc.cell h3 hq, hc.cell h4 hq⟩
end

/-- Both devices, apart. -/
structure DevSt (w wr : World) (g l : Nat) (F G : Nat → Prop) (d : Dv) : Prop where
  D : Dev wr w.heap.size F g d
  R : RDev wr w.heap.size G l d
  FG : ∀ b, F b → ¬ G b
  bw : Below w.heap.size w wr
/-- A device's side stands at another state for a while. -/
structure DevSt2 (w wr : World) (g l : Nat) (F G : Nat → Prop) (d d' : Dv) : Prop where
  D : Dev wr w.heap.size F g d
  R : RDev wr w.heap.size G l d'
  FG : ∀ b, F b → ¬ G b
  bw : Below w.heap.size w wr
section
variable {w wr w' : World} {g g' l : Nat} {F G F' : Nat → Prop} {d d1 d2 : Dv}
theorem DevSt.nx (h : DevSt w wr g l F G d) (hb : Below wr.heap.size wr w') : DevSt w w' g l F G d :=
  ⟨h.D.below hb, h.R.below hb, h.FG, Go.Proofs.Ytjpkddmdhdmhgaa.nx h.bw hb⟩
theorem DevSt2.nx (h : DevSt2 w wr g l F G d d1) (hb : Below wr.heap.size wr w') : DevSt2 w w' g l F G d d1 :=
  ⟨h.D.below hb, h.R.below hb, h.FG, Go.Proofs.Ytjpkddmdhdmhgaa.nx h.bw hb⟩
theorem DevSt.stepD (h : DevSt w wr g l F G d) (hw : Dev w' w.heap.size F' g' d1) (hc : Chg F wr w') (hF : ∀ z, F' z → F z ∨ wr.heap.size ≤ z) : DevSt2 w w' g' l F' G d1 d :=
  ⟨hw, h.R.chg hc (fun b hb hf => h.FG b hf hb), fun b hb hg => (hF b hb).elim (fun hf => h.FG b hf hg) (fun hl => by have := (h.R.F_lt b hg).2; omega), Dev.bw h.bw h.D (Nat.le_refl _) hc⟩
theorem DevSt2.stepR (h : DevSt2 w wr g l F G d1 d) (hw : RDev w' w.heap.size F' l d1) (hc : Chg G wr w') (hF : ∀ z, F' z → G z ∨ wr.heap.size ≤ z) : DevSt w w' g l F F' d1 :=
  ⟨h.D.chg hc (fun b hb hf => h.FG b hb hf), hw, fun b hb hg => (hF b hg).elim (fun hf => h.FG b hb hf) (fun hl => by have := (h.D.F_lt b hb).2; omega), RDev.bw h.bw h.R (Nat.le_refl _) hc⟩
theorem DevSt.far (h : DevSt w wr g l F G d) {b : Nat} (hb : b < w.heap.size) : ¬ F b ∧ ¬ G b :=
  ⟨fun hf => by have := (h.D.F_lt b hf).1; omega, fun hg => by have := (h.R.F_lt b hg).1; omega⟩
theorem DevSt.F_lt (h : DevSt w wr g l F G d) : ∀ b, F b ∨ G b → b < wr.heap.size := fun b hb => hb.elim (fun hf => (h.D.F_lt b hf).2) (fun hg => (h.R.F_lt b hg).2)
end

set_option maxHeartbeats 1000000 in
theorem alike_any (wr : World) (B B' g l : Nat) (F G : Nat → Prop) (d : Dv) (k : Int) (hD : Dev wr B F g d) (hR : RDev wr B' G l d) (hu : d.unsure.length ≤ 1000000) :
    Calls Try.prog 35 #[.pointer (some ⟨g, 0, none⟩), .pointer (some ⟨l, 0, none⟩), .int .i64 k] wr (LawT wr) := by
  have HD := Lib.hid hD
  have HR := Lib.hid hR
  have hrl : (d.read k).1.length ≤ 512 := by
    unfold Dv.read
    split
    · exact Dv.readV_len hD.fine k
    · exact Nat.zero_le _
  clear hD hR
  go_enter Try.func35, Try.ntmps35
  go_wp2_with (first
    | (go_at_call 75; refine (rread_any _ B' l G d k (HR.out.below hb1) hu).mono ?_; rintro e w2 ⟨v2, rfl, hown2, hb2⟩; obtain ⟨A2, c2, rfl, hr2, hl2, hm2⟩ := hown2.form)
    | (go_at_call 25; refine (read_any _ B g F d k HD.out hu).mono ?_; rintro e w1 ⟨v1, rfl, hown1, hb1⟩; obtain ⟨A1, c1, rfl, hr1, hl1, hm1⟩ := hown1.form)
    | (go_at_call 18; refine (same_any _ _ _ _ _ _ (d.read k).1 (d.read k).1 _ (hr1.below hb2) hr2 (by unfold maxLen; omega) (by unfold maxLen; omega)).mono ?_; rw [decide_eq_true rfl]; rintro e w3 ⟨rfl, m3, rfl⟩)
    | fail)
  go_ret
  exact ⟨rfl, nx (nx hb1 hb2) (dN bl m3)⟩
end Go.Proofs.Ytjpkddmdhdmhgaa

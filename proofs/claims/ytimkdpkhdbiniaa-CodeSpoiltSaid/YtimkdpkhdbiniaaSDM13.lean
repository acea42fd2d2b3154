/- Parts of a proof, joined: Put4, Put5. -/
import Derived.Test.YtimkdpkhdbiniaaSDM06
import Derived.Test.YtimkdpkhdbiniaaSDM05
import Derived.Test.YtimkdpkhdbiniaaSDM02b
import Derived.Test.YtimkdpkhdbiniaaSDM10
/- rdata.Put: the numbers. -/
namespace Go.Proofs.Ytimkdpkhdbiniaa
open Go.RowKit
set_option maxRecDepth 100000

theorem RetX.trans {w w1 w2 : World} {F F1 : Nat → Prop} (hc : Chg F w w1) (hF : ∀ z, F1 z → F z ∨ w.heap.size ≤ z) (hc2 : Chg F1 w1 w2) : Chg F w w2 := hc.trans hc2 hF
theorem new_trans {w w1 : World} {F F1 F2 : Nat → Prop} (hc : Chg F w w1) (hF : ∀ z, F1 z → F z ∨ w.heap.size ≤ z) (hF2 : ∀ z, F2 z → F1 z ∨ w1.heap.size ≤ z) : ∀ z, F2 z → F z ∨ w.heap.size ≤ z :=
  fun z hz => (hF2 z hz).elim (hF z) (fun h => .inr (Nat.le_trans hc.size h))

set_option maxHeartbeats 1000000 in
theorem wnums_any (w : World) (B g : Nat) (F : Nat → Prop) (x : Wr) (A : Option Addr) (n c : Nat) (ns : List Int) (z : Int) {S : Nat → Prop} (h : Wtr w B F g x) (hns : Els encI S S w A n ns) (hS : ∀ b, S b → b < w.heap.size ∧ ¬ F b) (hn : n ≤ 1000) (hx : x.b.length ≤ 10000000) :
    Calls Try.prog 197 #[.pointer (some ⟨g, 0, none⟩), .slice A n c, .int .i64 z] w (RetX w B F g (x.nums ns z) (.tuple #[])) := by
  have hl := hns.len
  subst hl
  have H := Lib.hid h
  have HN := Lib.hid hns
  have HS := Lib.hid hS
  have HX : Hid (∀ k, k ≤ ns.length → (x.nums (ns.take k) z).b.length ≤ 100000000) := fun k hk => by
    have := (x.nums_len (ns.take k) z).1
    rw [List.length_take] at this
    omega
  clear h hns hS hx
  go_enter Try.func197, Try.ntmps197
  go_wp2
  go_loopw [10] (fun iv wr => ∃ (j : Nat) (F1 : Nat → Prop), iv = .int .i64 j ∧ j ≤ ns.length ∧ Hid (Wtr wr B F1 g (x.nums (ns.take j) z)) ∧ Hid (Chg F w wr) ∧ Hid (∀ k, F1 k → F k ∨ w.heap.size ≤ k)) (fun iv _ => ns.length - (intOf iv).toNat)
  case atStart => exact ⟨0, F, rfl, Nat.zero_le _, H, Chg.refl _ _, fun k hk => .inl hk⟩
  case round =>
    obtain ⟨j, F1, rfl, hj, HW, HC, HF⟩ := hrel
    by_cases hlt : j < ns.length
    · obtain ⟨l, hl⟩ : ∃ l, ns[j]? = some l := ⟨_, List.getElem?_eq_getElem hlt⟩
      have hk := Els.keep (fun b hb => HC.out.block b (HS.out b hb).1 (HS.out b hb).2) (fun b hb => HC.out.block b (HS.out b hb).1 (HS.out b hb).2) HN.out
      obtain ⟨b, off, rfl, _, hcell, _⟩ := ints_at hk hl
      have HL := Lib.hid hl
      clear hk hl
      have HTK : Hid (x.nums (ns.take (j + 1)) z = (x.nums (ns.take j) z).raw (putB [] l z)) := by show _ = _; rw [List.take_add_one, HL.out]; exact Wr.nums_snoc _ _ _ _
      go_wp2_with (first
        | (go_at_call 101; refine (wnum_any wr B g F1 (x.nums (ns.take j) z) l z HW.out (HX.out j hj)).mono ?_; rintro e w2 ⟨rfl, F2, h2, hc2, hF2⟩)
        | fail)
      have HW2 : Hid (Wtr w2 B F2 g (x.nums (ns.take (j + 1)) z)) := by show Wtr _ _ _ _ _; rw [HTK.out]; exact h2
      have HC2 := Lib.hid (HC.out.trans hc2 HF.out)
      have HF3 := Lib.hid (new_trans HC.out HF.out hF2)
      go_roundw
      case rel => exact ⟨j + 1, F2, by go_num, by omega, HW2, HC2, HF3⟩
      case measure => simp [intOf]; omega
    · obtain rfl : j = ns.length := by omega
      have HW2 := HW.out
      rw [List.take_length] at HW2
      have HW3 := Lib.hid HW2
      clear HW2
      go_wp2
      refine bodyPost_ret (v := .tuple #[]) ?_ rfl ?_
      · simp [results, Try.results197]
      exact ⟨rfl, F1, HW3.out, HC.out, HF.out⟩
end Go.Proofs.Ytimkdpkhdbiniaa

/- rdata.Put: where its walk stands. -/
namespace Go.Proofs.Ytimkdpkhdbiniaa
open Go.RowKit
set_option maxRecDepth 100000

theorem nameS_sound {x : Wr} {ns : List (List UInt8)} (h : SoundN ns) (short : Bool) : x.nameS ns short = x.name ns short := by unfold Wr.nameS; rw [if_pos (soundB_true h)]
structure PutSt (w wr : World) (B g : Nat) (F Fr : Nat → Prop) (y : Wr) (q p : Nat) (S : Nat → Prop) (s : DS) (d : Da) (sh : Shp) : Prop where
  W : Wtr wr B Fr g y
  C : Chg F w wr
  N : ∀ z, Fr z → F z ∨ w.heap.size ≤ z
  Q : wr.heap[q]? = some (.cells (dCells s d) 46 (0, 0))
  P : wr.heap[p]? = some (.cells (shCells sh) 182 (0, 0))
  D : DIn S wr s d
  qF : ¬ Fr q
  pF : ¬ Fr p
  SF : ∀ b, S b → b < wr.heap.size ∧ ¬ Fr b
section
variable {w wr w' : World} {B g q p : Nat} {F Fr F' S : Nat → Prop} {y y' : Wr} {s : DS} {d : Da} {sh : Shp}
theorem PutSt.step (h : PutSt w wr B g F Fr y q p S s d sh) (hw : Wtr w' B F' g y') (hc : Chg Fr wr w') (hF : ∀ z, F' z → Fr z ∨ wr.heap.size ≤ z) : PutSt w w' B g F F' y' q p S s d sh where
  W := hw
  C := h.C.trans hc h.N
  N := new_trans h.C h.N hF
  Q := hc.heap h.Q h.qF
  P := hc.heap h.P h.pF
  D := h.D.chg hc h.SF
  qF := fun hq => (hF q hq).elim h.qF (fun hl => by have := (Array.getElem?_eq_some_iff.1 h.Q).1; omega)
  pF := fun hq => (hF p hq).elim h.pF (fun hl => by have := (Array.getElem?_eq_some_iff.1 h.P).1; omega)
  SF := fun b hb => ⟨Nat.lt_of_lt_of_le (h.SF b hb).1 hc.size, fun hq => (hF b hq).elim (h.SF b hb).2 (fun hl => by have := (h.SF b hb).1; omega)⟩
theorem PutSt.below (h : PutSt w wr B g F Fr y q p S s d sh) (hb : Below wr.heap.size wr w') : PutSt w w' B g F Fr y q p S s d sh := h.step (h.W.below hb) (Chg.of_below hb) (fun _ hz => .inl hz)
theorem PutSt.dc (h : PutSt w wr B g F Fr y q p S s d sh) (j : Nat) : wr.cell? ⟨q, j, none⟩ = (dCells s d)[j]? := cell_of_row _ _ _ _ _ _ h.Q
theorem PutSt.shc (h : PutSt w wr B g F Fr y q p S s d sh) (j : Nat) : wr.cell? ⟨p, j, none⟩ = (shCells sh)[j]? := cell_of_row _ _ _ _ _ _ h.P
theorem PutSt.done (h : PutSt w wr B g F Fr y q p S s d sh) {v : Value} {z : Wr} (hz : y = z) : RetX w B F g z v (.returned v) wr := by subst hz; exact ⟨rfl, Fr, h.W, h.C, h.N⟩
end
end Go.Proofs.Ytimkdpkhdbiniaa

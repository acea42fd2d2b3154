/- The reference's writer in memory: Num, Raw. -/
import Derived.Test.YtjpkddmdhdmhgaaBytes
import Derived.Test.YtjpkddmdhdmhgaaFoot
import Derived.Test.YtjpkddmdhdmhgaaRWPlain
import Derived.Test.YtjpkddmdhdmhgaaWtrMem
import Derived.Test.YtjpkddmdhdmhgaaRPut
import Derived.Test.YtjpkddmdhdmhgaaTac
namespace Go.Proofs.Ytjpkddmdhdmhgaa
open Go.RowKit
set_option maxRecDepth 100000

/-- Where the rest of a name stands. -/
def encRest : Enc (Nat × List (List UInt8)) where
  size := 2
  R := fun S w r x => ∃ A c, r = [.int .i64 (x.1 : Int), .slice A x.2.length c] ∧ Els encS S S w A x.2.length x.2 ∧ x.2.length ≤ c ∧ c ≤ maxLen
  pos := by decide
  len := by rintro _ _ r x ⟨A, c, rfl, _⟩; rfl
  mono := by rintro S S' w r x h ⟨A, c, rfl, he, h1⟩; exact ⟨A, c, rfl, he.mono h h, h1⟩
  keep := by rintro S w w' r x h ⟨A, c, rfl, he, h1⟩; exact ⟨A, c, rfl, he.keep h h, h1⟩
  one := by
    rintro S w r x ⟨A, c, rfl, _⟩ u hu
    simp at hu
    rcases hu with rfl | rfl <;> rfl
theorem elRest : ElT Try.prog 76 131 encRest 32 := ElT.mk Try.underlying76 (.agg #[.int .i64 0, .slice none 0 0]) 2 (by kernel_rfl) rfl rfl

/-- The reference's writer at block g reads as x; what it leads to lies in blocks of F. -/
def RWtr (w : World) (B : Nat) (F : Nat → Prop) (g : Nat) (x : RW) : Prop :=
  ∃ bv rv S, w.heap[g]? = some (.cells #[bv, rv] 78 (0, 0)) ∧ OwnB w B bv x.b ∧ OwnE encRest 131 S w B rv x.rests ∧ (F g ∧ B ≤ g) ∧ (∀ k, bv.ownBlock = some k → F k ∧ k ≠ g) ∧
    (∀ k, rv.ownBlock = some k → F k ∧ k ≠ g ∧ bv.ownBlock ≠ some k) ∧ (∀ k, S k → F k ∧ k ≠ g ∧ bv.ownBlock ≠ some k) ∧ ∀ k, F k → B ≤ k ∧ k < w.heap.size

section
variable {w w' w2 : World} {B g : Nat} {F G : Nat → Prop} {x : RW}
theorem RWtr.F_lt (h : RWtr w B F g x) : ∀ k, F k → B ≤ k ∧ k < w.heap.size := by obtain ⟨_, _, _, _, _, _, _, _, _, _, h⟩ := h; exact h
theorem RWtr.g_F (h : RWtr w B F g x) : F g ∧ B ≤ g := by obtain ⟨_, _, _, _, _, _, h, _⟩ := h; exact h
theorem RWtr.chg (h : RWtr w B F g x) (hc : Chg G w w') (hd : ∀ k, F k → ¬ G k) : RWtr w' B F g x := by
  obtain ⟨bv, rv, S, hg, hb, hr, hgF, hbF, hrF, hSF, hF⟩ := h
  exact ⟨bv, rv, S, hc.heap hg (hd g hgF.1), hb.chgv hc (fun k hk => hd k (hbF k hk).1), hr.chg hc (fun k hk => hd k (hrF k hk).1) (fun k hk => hd k (hSF k hk).1), hgF, hbF, hrF, hSF, fun k hk => ⟨(hF k hk).1, Nat.lt_of_lt_of_le (hF k hk).2 hc.size⟩⟩
theorem RWtr.below (h : RWtr w B F g x) (hb : Below w.heap.size w w') : RWtr w' B F g x := h.chg (G := fun _ => False) (Chg.of_below hb) (fun _ _ h => h)
theorem RWtr.base_le {B' : Nat} (h : RWtr w B F g x) (hB : B' ≤ B) : RWtr w B' F g x := by
  obtain ⟨bv, rv, S, hg, hb, hr, hgF, hbF, hrF, hSF, hF⟩ := h
  exact ⟨bv, rv, S, hg, hb.mono hB, hr.base_le hB, ⟨hgF.1, by omega⟩, hbF, hrF, hSF, fun k hk => ⟨Nat.le_trans hB (hF k hk).1, (hF k hk).2⟩⟩
theorem RWtr.bw {w0 : World} (hb : Below w0.heap.size w0 w) (h : RWtr w B F g x) (hB : w0.heap.size ≤ B) (hc : Chg F w w') : Below w0.heap.size w0 w' :=
  hb.trans (hc.below (fun x hx => Nat.le_trans hB (h.F_lt x hx).1) hb.size)
end

/-- A call of the reference's writer: what it returns, and what the writer is then. -/
def RetR (w : World) (B : Nat) (F : Nat → Prop) (g : Nat) (y : RW) (v : Value) (e : Ending) (w' : World) : Prop :=
  e = .returned v ∧ ∃ F', RWtr w' B F' g y ∧ Chg F w w' ∧ ∀ z, F' z → F z ∨ w.heap.size ≤ z

/-- A new writer. -/
theorem RWtr.made (w : World) : RWtr (w.alloc (.cells #[.slice none 0 0, .slice none 0 0] 78)) w.heap.size (fun k => k = w.heap.size) w.heap.size RW.nil :=
  ⟨.slice none 0 0, .slice none 0 0, noS, heap_alloc_new w _, OwnB.nil _ _, OwnE.nil _ _ _ _, ⟨rfl, Nat.le_refl _⟩, (fun k hk => by cases hk), (fun k hk => by cases hk), fun k hk => hk.elim, fun k hk => by subst hk; simp⟩

/-- Its bytes are others, in a row of the call's own. -/
theorem RWtr.set_b {w w2 : World} {B g : Nat} {F : Nat → Prop} {x : RW} {v2 r : Value} {bs : List UInt8} (h : RWtr w B F g x) (hown : OwnB w2 w.heap.size v2 bs) (hb : Below w.heap.size w w2) : RetR w B F g { x with b := bs } r (.returned r) (w2.setCell ⟨g, 0, none⟩ v2) := by
  obtain ⟨bv, rv, S, hg, hbv, hr, hgF, hbF, hrF, hSF, hF⟩ := h
  have hgl := (hF g hgF.1).2
  have hgw := (hb.block g hgl).trans hg
  have hcg : Chg (fun k => k = g) w2 (w2.setCell ⟨g, 0, none⟩ v2) := (Chg.refl (fun k => k = g) w2).setCell (p := ⟨g, 0, none⟩) (Or.inl rfl) v2
  have hv2 : ∀ k, v2.ownBlock = some k → w.heap.size ≤ k ∧ k < w2.heap.size := fun k hk => World.ownsRow.lt hown k hk
  have hsz := hb.size
  refine ⟨rfl, fun k => F k ∨ (w.heap.size ≤ k ∧ k < w2.heap.size), ⟨v2, rv, S, (heap_setCell_same _ _ _ _ _ _ hgw).trans rfl, (hown.chgv hcg (fun k hk e => by have := (hv2 k hk).1; omega)).mono (Nat.le_trans hgF.2 (Nat.le_of_lt hgl)), (hr.below hb).chg hcg (fun k hk e => (hrF k hk).2.1 e) (fun k hk e => (hSF k hk).2.1 e), ⟨.inl hgF.1, hgF.2⟩,
    fun k hk => ⟨.inr (hv2 k hk), by have := (hv2 k hk).1; omega⟩, fun k hk => ⟨.inl (hrF k hk).1, (hrF k hk).2.1, fun e => by have := (hv2 k e).1; have := (hF k (hrF k hk).1).2; omega⟩,
    fun k hk => ⟨.inl (hSF k hk).1, (hSF k hk).2.1, fun e => by have := (hv2 k e).1; have := (hF k (hSF k hk).1).2; omega⟩, fun k hk => ?_⟩, (Chg.of_below hb).setCell (p := ⟨g, 0, none⟩) (Or.inl hgF.1) _, fun k hk => hk.imp id (·.1)⟩
  have hz : (w2.setCell ⟨g, 0, none⟩ v2).heap.size = w2.heap.size := by simp
  rw [hz]
  rcases hk with hk | hk
  · exact ⟨(hF k hk).1, by have := (hF k hk).2; omega⟩
  · exact ⟨by omega, hk.2⟩

theorem putB_append (bs : List UInt8) (n size : Int) : putB bs n size = bs ++ putB [] n size := by
  unfold putB
  split <;> simp

set_option maxHeartbeats 400000 in
theorem rwnum_any (w : World) (B g : Nat) (F : Nat → Prop) (x : RW) (n size : Int) (h : RWtr w B F g x) (hx : x.b.length ≤ 1000000000) (hn : n ≤ 9223372036854775807) :
    Calls Try.prog 43 #[.pointer (some ⟨g, 0, none⟩), .int .i64 n, .int .i64 size] w (RetR w B F g (x.raw (putB [] n size)) (.tuple #[])) := by
  have H := Lib.hid h
  obtain ⟨bv, rv, S, hg, hb, _, hgF, hbF, _⟩ := h
  obtain ⟨A, c, rfl, hr, hl, _⟩ := hb.form
  have c0 : w.cell? ⟨g, 0, none⟩ = some (.slice A x.b.length c) := (cell_of_row _ _ _ _ _ _ hg).trans rfl
  have HG := Lib.hid hg
  have hgl := (H.out.F_lt g hgF.1).2
  clear hg hb
  go_enter Try.func43, Try.ntmps43
  go_wp2_with (go_at_call 54; refine (rput_any _ _ _ x.b n size _ hr (by omega) hn).mono ?_; rintro e w2 ⟨v2, rfl, hown2, hb2⟩; obtain ⟨A2, c2, rfl, _⟩ := hown2.form; have hgw := (hb2.block g hgl).trans HG.out; have d0 := (cell_of_row _ _ 0 _ _ _ hgw).trans rfl; have f0 : ∀ k, w2.frozen? ⟨g, k, none⟩ = false := fun k => frozen_of_row _ _ _ _ _ hgw)
  go_end0
  rw [putB_append x.b] at hown2 ⊢
  exact H.out.set_b hown2 hb2

set_option maxHeartbeats 400000 in
theorem rwraw_any (w : World) (B g : Nat) (F : Nat → Prop) (x : RW) (A1 : Option Addr) (n1 c1 : Nat) (bs : List UInt8) (h : RWtr w B F g x) (hbs : RdB w A1 n1 bs) (hx : x.b.length + n1 ≤ 1000000000) :
    Calls Try.prog 41 #[.pointer (some ⟨g, 0, none⟩), .slice A1 n1 c1] w (RetR w B F g (x.raw bs) (.tuple #[])) := by
  have hlb := hbs.len
  subst hlb
  have H := Lib.hid h
  obtain ⟨bv, rv, S, hg, hb, _, hgF, hbF, _⟩ := h
  obtain ⟨A, c, rfl, hr, hl, _⟩ := hb.form
  have c0 : w.cell? ⟨g, 0, none⟩ = some (.slice A x.b.length c) := (cell_of_row _ _ _ _ _ _ hg).trans rfl
  have HG := Lib.hid hg
  have hgl := (H.out.F_lt g hgF.1).2
  clear hg hb
  go_enter Try.func41, Try.ntmps41
  go_wp2_with (first
    | ((with_reducible show wpList _ _ _ (⟨some 10, _, _, _, _, _⟩ :: _) _ _); refine wpL_cloneB rfl (.tmp 5) (.tmp 9) rfl rfl A _ c x.b rfl hr (by omega) ?_; intro v2 w2 hown2 hb2)
    | ((with_reducible show wpList _ _ _ (⟨some 12, _, _, _, _, _⟩ :: _) _ _); refine wpL_appB rfl (.tmp 10) (.tmp 11) rfl w.heap.size v2 x.b rfl hown2 A1 _ c1 bs rfl (hbs.below hb2) (by omega) hb2.size ?_; intro v3 w3 hown3 hg3 hv3; obtain ⟨A3, c3, rfl, _⟩ := hown3.form; have hb3 : Below w.heap.size w w3 := hb2.grown hg3 hb2.size (fun j hj => (World.ownsRow.lt hown2 j hj).1); have hgw := (hb3.block g hgl).trans HG.out; have d0 := (cell_of_row _ _ 0 _ _ _ hgw).trans rfl; have f0 : ∀ k, w3.frozen? ⟨g, k, none⟩ = false := fun k => frozen_of_row _ _ _ _ _ hgw)
    | fail)
  go_end0
  rw [List.length_append] at hown3
  exact H.out.set_b hown3 hb3
end Go.Proofs.Ytjpkddmdhdmhgaa

/- wname: New, Len, Bytes, Raw, Num. -/
import Derived.Test.YtjpkddmdhdmhgaaWtrMem
import Derived.Test.YtjpkddmdhdmhgaaTac
import Derived.Test.YtjpkddmdhdmhgaaPut
namespace Go.Proofs.Ytjpkddmdhdmhgaa
open Go.RowKit Go.Maps

set_option maxHeartbeats 400000 in
theorem sclone_any (A : Option Addr) (m c : Nat) (bs : List UInt8) (w : World) (hb : RdB w A m bs) (hm : m ≤ 140737488355328) :
    Calls Try.prog 72 #[.slice A m c] w (RetP (fun v w' => OwnB w' w.heap.size v bs) w) := by
  have hlb := hb.len
  subst hlb
  rcases A with _ | ad
  · have hn : bs = [] := by
      rcases bs with _ | ⟨x, bs⟩
      · rfl
      · obtain ⟨b, off, e, _⟩ := hb.2 (by simp); cases e
    subst hn
    have he := fun W : World => Lib.run_eql_slice_nil (P := Try.prog) W 22 5 none ([] : List UInt8).length c 0 0 Try.underlying22
    simp only [List.length_nil, Option.isNone_none] at he
    go_enter Try.func72, Try.ntmps72
    go_wp2
    go_ret
    exact ⟨_, rfl, OwnB.nil _ _, bl⟩
  · have he := fun W : World => Lib.run_eql_slice_nil (P := Try.prog) W 22 5 (some ad) bs.length c 0 0 Try.underlying22
    simp only [Option.isNone_some] at he
    go_enter Try.func72, Try.ntmps72
    go_wp2_with ((with_reducible show wpList _ _ _ (⟨some 7, _, _, _, _, _⟩ :: _) _ _); refine wpL_cloneB rfl (.tmp 5) (.tmp 6) rfl rfl _ _ c bs rfl hb hm ?_; intro v2 w2 hown2 hb2)
    go_ret
    exact ⟨_, rfl, hown2, hb2⟩

theorem heap_alloc2_old' (w : World) (o o' : Obj) : ((w.alloc o).alloc o').heap[w.heap.size]? = (w.alloc o).heap[w.heap.size]? := Below.heap_alloc _ _ _ (by simp)

/-- The writer's bytes have been appended to, and stored. -/
theorem put_b {w w2 : World} {B g mb : Nat} {F : Nat → Prop} {x : Wr} {bv v2 r : Value} {bs : List UInt8} (hn : x.Near) (hg : w.heap[g]? = some (.cells #[bv, .map (some mb)] 127 (0, 0))) (hm : MapIs w mb x.rests) (hgF : F g ∧ B ≤ g)
    (hbF : ∀ k, bv.ownBlock = some k → F k ∧ k ≠ g ∧ k ≠ mb) (hmF : F mb ∧ mb ≠ g) (hF : ∀ k, F k → B ≤ k ∧ k < w.heap.size) (hown : OwnB w2 B v2 (x.b ++ bs)) (hgr : w.grownBy w2 bv.ownBlock) (hv : v2.ownBlock = bv.ownBlock ∨ v2.ownBlock = some w.heap.size) :
    RetX w B F g (x.raw bs) r (.returned r) (w2.setCell ⟨g, 0, none⟩ v2) := by
  have hgl := (hF g hgF.1).2
  have hml := (hF mb hmF.1).2
  have hsz := hgr.size
  have hc : Chg F w w2 := (Chg.refl F w).grown hgr (fun k hk => .inl (hbF k hk).1)
  have hgw : w2.heap[g]? = some (.cells #[bv, .map (some mb)] 127 (0, 0)) := (hgr.block g hgl (fun e => (hbF g e.symm).2.1 rfl)).trans hg
  have hcg : Chg (fun k => k = g) w2 (w2.setCell ⟨g, 0, none⟩ v2) := (Chg.refl (fun k => k = g) w2).setCell (p := ⟨g, 0, none⟩) (Or.inl rfl) v2
  have hv2 : ∀ k, v2.ownBlock = some k → (F k ∨ (w.heap.size ≤ k ∧ k < w2.heap.size)) ∧ k ≠ g ∧ k ≠ mb := fun k hk => by
    rcases hv with e | e
    · rw [e] at hk
      exact ⟨.inl (hbF k hk).1, (hbF k hk).2⟩
    · have hl := (World.ownsRow.lt hown k hk).2
      rw [e] at hk
      injection hk with hk
      exact ⟨.inr ⟨by omega, hl⟩, by omega, by omega⟩
  refine ⟨rfl, fun k => F k ∨ (w.heap.size ≤ k ∧ k < w2.heap.size), ⟨hn.raw bs, v2, mb, (heap_setCell_same _ _ _ _ _ _ hgw).trans rfl, hown.chgv hcg (fun k hk e => (hv2 k hk).2.1 e), (hm.keep (hgr.block mb hml (fun e => (hbF mb e.symm).2.2 rfl))).keep (hcg.block mb (by omega) hmF.2), ⟨.inl hgF.1, hgF.2⟩, hv2, ⟨.inl hmF.1, hmF.2⟩, fun k hk => ?_⟩, hc.setCell (p := ⟨g, 0, none⟩) (Or.inl hgF.1) _, fun k hk => hk.imp id (·.1)⟩
  have hz : (w2.setCell ⟨g, 0, none⟩ v2).heap.size = w2.heap.size := by simp
  rw [hz]
  rcases hk with hk | hk
  · exact ⟨(hF k hk).1, by have := (hF k hk).2; omega⟩
  · exact ⟨by omega, hk.2⟩

set_option maxHeartbeats 400000 in
theorem wnew_any (w : World) : Calls Try.prog 37 #[] w (fun e w' => ∃ g F, e = .returned (.pointer (some ⟨g, 0, none⟩)) ∧ Wtr w' w.heap.size F g Wr.nil ∧ Below w.heap.size w w') := by
  have hmm := @run_makeMap Try.prog
  go_enter Try.func37, Try.ntmps37
  go_wp2
  go_ret
  refine ⟨w.heap.size + 1, fun k => w.heap.size ≤ k ∧ k < w.heap.size + 2, rfl, ⟨Wr.near_nil, .slice none 0 0, w.heap.size, heap_alloc2_new w _ _, OwnB.nil _ _, (MapIs.made w).keep (heap_alloc2_old' w _ _), ⟨⟨by omega, by omega⟩, by omega⟩, fun k hk => by simp [Value.ownBlock] at hk, ⟨⟨by omega, by omega⟩, by omega⟩, fun k hk => ⟨hk.1, by simp; omega⟩⟩, (bl.alloc (Nat.le_refl _) _).alloc (by simp) _⟩

set_option maxHeartbeats 400000 in
theorem wlen_any (w : World) (B g : Nat) (F : Nat → Prop) (x : Wr) (h : Wtr w B F g x) :
    Calls Try.prog 47 #[.pointer (some ⟨g, 0, none⟩)] w (Ret (.int .i64 (x.b.length : Int)) w) := by
  obtain ⟨hn, bv, mb, hg, hb, _⟩ := h
  obtain ⟨A, c, rfl, _⟩ := hb.form
  have c0 : w.cell? ⟨g, 0, none⟩ = some (.slice A x.b.length c) := (cell_of_row _ _ _ _ _ _ hg).trans rfl
  clear hg hb
  go_enter Try.func47, Try.ntmps47
  go_wp2
  go_ret
  exact ⟨rfl, rfl⟩

set_option maxHeartbeats 400000 in
theorem wbytes_any (w : World) (B g : Nat) (F : Nat → Prop) (x : Wr) (h : Wtr w B F g x) (hx : x.b.length ≤ 1000000000) :
    Calls Try.prog 48 #[.pointer (some ⟨g, 0, none⟩)] w (RetP (fun v w' => OwnB w' w.heap.size v x.b) w) := by
  obtain ⟨hn, bv, mb, hg, hb, _⟩ := h
  obtain ⟨A, c, rfl, hr, _⟩ := hb.form
  have c0 : w.cell? ⟨g, 0, none⟩ = some (.slice A x.b.length c) := (cell_of_row _ _ _ _ _ _ hg).trans rfl
  clear hg hb
  go_enter Try.func48, Try.ntmps48
  go_wp2_with (go_at_call 72; refine (sclone_any _ _ _ x.b _ hr (by omega)).mono ?_; rintro e w2 ⟨v2, rfl, hown2, hb2⟩)
  go_ret
  exact ⟨_, rfl, hown2, hb2⟩

set_option maxHeartbeats 400000 in
theorem wraw_any (w : World) (B g : Nat) (F : Nat → Prop) (x : Wr) (A : Option Addr) (n c : Nat) (bs : List UInt8) (h : Wtr w B F g x) (hb : RdB w A n bs) (hx : x.b.length + n ≤ 1000000000) :
    Calls Try.prog 40 #[.pointer (some ⟨g, 0, none⟩), .slice A n c] w (RetX w B F g (x.raw bs) (.tuple #[])) := by
  have hlb := hb.len
  subst hlb
  obtain ⟨hn, bv, mb, hg, hbv, hm, hgF, hbF, hmF, hF⟩ := h
  obtain ⟨A1, c1, rfl, hr1, _⟩ := hbv.form
  have c0 : w.cell? ⟨g, 0, none⟩ = some (.slice A1 x.b.length c1) := (cell_of_row _ _ _ _ _ _ hg).trans rfl
  have HG := Lib.hid hg
  have hgl := (hF g hgF.1).2
  clear hg
  go_enter Try.func40, Try.ntmps40
  go_wp2_with ((with_reducible show wpList _ _ _ (⟨some 12, _, _, _, _, _⟩ :: _) _ _); refine wpL_appB rfl (.tmp 10) (.tmp 11) rfl B (.slice A1 x.b.length c1) x.b rfl hbv A _ c bs rfl hb (by omega) (Nat.le_trans hgF.2 (Nat.le_of_lt hgl)) ?_; intro v2 w2 hown2 hg2 hv2; obtain ⟨A2, c2, rfl, _⟩ := hown2.form; rw [List.length_append] at hown2 hv2 ⊢; have hgw := (hg2.block g hgl (fun e => (hbF g e.symm).2.1 rfl)).trans HG.out; have d0 := (cell_of_row _ _ 0 _ _ _ hgw).trans rfl; have f0 : ∀ k, w2.frozen? ⟨g, k, none⟩ = false := fun k => frozen_of_row _ _ _ _ _ hgw)
  go_end0
  exact put_b hn HG.out hm hgF hbF hmF hF hown2 hg2 hv2

theorem putB_nil_le (n size : Int) : (putB [] n size).length ≤ 7 := by
  unfold putB
  split
  · rename_i h
    obtain ⟨_, h2, _⟩ := fitsB_true h
    simp [length_be]
    omega
  · simp
set_option maxHeartbeats 400000 in
theorem wnum_any (w : World) (B g : Nat) (F : Nat → Prop) (x : Wr) (n size : Int) (h : Wtr w B F g x) (hx : x.b.length ≤ 100000000) :
    Calls Try.prog 42 #[.pointer (some ⟨g, 0, none⟩), .int .i64 n, .int .i64 size] w (RetX w B F g (x.raw (putB [] n size)) (.tuple #[])) := by
  have hl := putB_nil_le n size
  have H := Lib.hid h
  clear h
  go_enter Try.func42, Try.ntmps42
  go_wp2_with (first
    | (go_at_call 68; refine (put_any none 0 0 [] n size _ (Rd.nil _ _ _) (by omega)).mono ?_; rintro e w2 ⟨v2, rfl, hown2, hb2⟩; obtain ⟨A2, c2, rfl, hr2, _⟩ := hown2.form)
    | (go_at_call 40; refine (wraw_any w2 B g F x _ _ _ _ (H.out.below hb2) hr2 (by omega)).mono ?_; rintro e w3 ⟨rfl, F3, h3, hc3, hF3⟩))
  go_end0
  exact ⟨rfl, F3, h3, (Chg.of_below hb2).trans hc3 (fun k hk => .inl hk), fun k hk => (hF3 k hk).imp id (Nat.le_trans hb2.size)⟩
end Go.Proofs.Ytjpkddmdhdmhgaa

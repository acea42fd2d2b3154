/- Parts of a proof, joined: Tel5. -/
import Derived.Test.YtimkdpkhdbiniaaZDX10
/- teller.chain, loosely: its walk (printed by gen/tel5.py). -/
namespace Go.Proofs.Ytimkdpkhdbiniaa
open Go.RowKit
set_option maxRecDepth 100000
set_option linter.unusedVariables false

theorem TRow.cellsM {w : World} {t : Nat} {p : TP} {v : Value} (h : p.row w t v) : w.cell? ⟨t, 0, none⟩ = some (.slice p.sq.A p.q.name.length p.sq.c) ∧ w.cell? ⟨t, 1, none⟩ = some (.int .i64 p.q.type) ∧ w.cell? ⟨t, 12, none⟩ = some (.slice p.sm.A p.m.an.length p.sm.ac) ∧ w.cell? ⟨t, 13, none⟩ = some (.slice p.sm.U p.m.au.length p.sm.uc) ∧ w.cell? ⟨t, 14, none⟩ = some (.slice p.sm.X p.m.ex.length p.sm.xc) ∧ w.cell? ⟨t, 10, none⟩ = some (.int .i64 p.m.rcode) := ⟨(h.cell 0).trans rfl, (h.cell 1).trans rfl, (h.cell 12).trans rfl, (h.cell 13).trans rfl, (h.cell 14).trans rfl, (h.cell 10).trans rfl⟩

theorem elNs : ElT Try.prog 155 23 (slE encS) 24 := ElT.mk Try.underlying155 (.slice none 0 0) 1 (by kernel_rfl) rfl rfl
theorem ChSt.xlt {p : TP} {B : Nat} {Y : Nat → Prop} {t : Nat} {w : World} {v : Value} {out : List Fa} {b3 i : Nat} {wr : World} {A : Option Addr} {c : Nat} {ns : List (List UInt8)} {sv : Value} {ls : List (List (List UInt8))} {v' : Value} {out' : List Fa} (h : ChSt p B Y t w v out b3 i wr A c ns sv ls v' out') : ∀ b, (b = t ∨ v'.ownBlock = some b ∨ b = b3 ∨ sv.ownBlock = some b) → b < wr.heap.size := fun b hb => by
  obtain ⟨S, ho, _⟩ := h.seen
  rcases hb with hb | hb | hb | hb
  · rw [hb]; exact h.T.lt
  · exact (h.T.own b hb).2
  · rw [hb]; exact (Array.getElem?_eq_some_iff.1 h.box).1
  · exact (ho.lt b hb).2
theorem mem0 {α : Type} {l : List α} {k : Nat} (hk : k = l.length) (h0 : k ≠ 0) : ∃ d, l[0]? = some d ∧ d ∈ l := by
  have h : 0 < l.length := by omega
  exact ⟨l[0], List.getElem?_eq_getElem h, List.getElem_mem h⟩

set_option maxHeartbeats 16000000 in
theorem chain_any (p : TP) (B t : Nat) (Y : Nat → Prop) (v : Value) (out : List Fa) (w : World) (h : TSt p B Y w t v out) (hq : p.q.name.length ≤ 1000) (hz : p.nz ≤ 1000000000) (han : p.m.an.length ≤ 100000) (hsm : ∀ r ∈ p.m.an, SmR r) (hol : out.length ≤ 1000) :
    Calls Try.prog 70 #[.pointer (some ⟨t, 0, none⟩)] w (ChRes p B Y t w v out) := by
  have hmf : ∀ (fn : Fn) (first cap : Array Value) (w : World), (Instr.makeFunc fn first cap).run Try.prog w = .ok (.func fn first cap) w := fun _ _ _ _ => rfl
  obtain ⟨w1, hw1⟩ : ∃ w1, w1 = w.alloc (.cells #[.slice p.sq.A p.q.name.length p.sq.c] 23) := ⟨_, rfl⟩
  obtain ⟨w2, hw2⟩ : ∃ w2, w2 = w1.alloc (.cells #[.slice p.sq.A p.q.name.length p.sq.c] 23) := ⟨_, rfl⟩
  obtain ⟨b3, hb3⟩ : ∃ b, b = w.heap.size := ⟨_, rfl⟩
  have hb1 : Below w.heap.size w w1 := by rw [hw1]; exact bl.alloc (Nat.le_refl _) _
  have hb2 : Below w1.heap.size w1 w2 := by rw [hw2]; exact bl.alloc (Nat.le_refl _) _
  have hz1 : w1.heap.size = w.heap.size + 1 := by rw [hw1]; simp
  have hz2 : w2.heap.size = w.heap.size + 2 := by rw [hw2]; simp; omega
  have hbw := nx hb1 hb2
  have hbox : w2.heap[b3]? = some (.cells #[.slice p.sq.A p.q.name.length p.sq.c] 23 (0, 0)) := by
    have h0 : w1.heap[b3]? = some (.cells #[.slice p.sq.A p.q.name.length p.sq.c] 23 (0, 0)) := by rw [hw1, hb3]; exact heap_alloc_new w _
    exact (hb2.block b3 (by omega)).trans h0
  have hTw := h.below hb1
  have hseen : OwnE (slE encS) 23 (fun b => b < B) w2 w1.heap.size (.slice (some ⟨w1.heap.size, 0, none⟩) 1 1) [p.q.name] := by
    rw [hw2]
    exact own_lit1 (r := [.slice p.sq.A p.q.name.length p.sq.c]) ⟨_, _, _, rfl, hTw.G.q.n, hTw.G.q.cn⟩ (fun b hb => Nat.lt_trans hb hTw.size)
  have hYt := h.Yt
  have HYT := Lib.hid hYt
  have HTL : Hid (t < w.heap.size) := h.lt
  have HBW : Hid (B ≤ w.heap.size) := Nat.le_of_lt h.size
  have ST2 : Hid (ChSt p B Y t w v out b3 0 w2 p.sq.A p.sq.c p.q.name (.slice (some ⟨w1.heap.size, 0, none⟩) 1 1) [p.q.name] v out) := by
    have hlt := h.lt
    have hB := h.size
    have hX : ∀ b, (b = t ∨ v.ownBlock = some b ∨ b = b3 ∨ (Value.slice (some ⟨w1.heap.size, 0, none⟩) 1 1).ownBlock = some b) → B ≤ b := fun b hb => by
      rcases hb with hb | hb | hb | hb
      · rw [hb]; exact h.tB
      · exact (h.own b hb).1
      · omega
      · have hb : w1.heap.size = b := by injection hb
        omega
    have hT2 : TSt p B (fun b => Y b ∨ b = b3 ∨ (Value.slice (some ⟨w1.heap.size, 0, none⟩) 1 1).ownBlock = some b) w2 t v out := h.more hbw (fun b hb => by
      rcases hb with hb | hb | hb
      · exact .inl hb
      · exact .inr (by omega)
      · have hb : w1.heap.size = b := by injection hb
        exact .inr (by omega)) (fun b hb => by
      rcases hb with hb | hb | hb
      · have := h.Yl b hb; omega
      · omega
      · have hb : w1.heap.size = b := by injection hb
        omega) (.inl hYt)
    refine ⟨hT2, TX.of_below hbw, hbox, hT2.name hq hX, ⟨fun b => b < B, hseen.base_le (by omega), fun b hb e => ?_⟩, fun e => ?_, by omega, Nat.le_refl _, Nat.le_refl _, fun f hf => .inl hf⟩
    · have hb : b < B := hb
      rcases e with e | e | e
      · have := h.tB; omega
      · have := (h.own b e).1; omega
      · omega
    · have e : w1.heap.size = b3 := by injection e
      omega
  have H := Lib.hid h
  have HQ := Lib.hid hq
  have HZ := Lib.hid hz
  have HAN := Lib.hid han
  have HSM := Lib.hid hsm
  have HOL := Lib.hid hol
  obtain ⟨c0, c1, _⟩ := TRow.cellsM h.T
  obtain ⟨d0, d1, _⟩ := TRow.cellsM ST2.out.T.T
  have x3 : w1.cell? ⟨b3, 0, none⟩ = some (.slice p.sq.A p.q.name.length p.sq.c) := by rw [hw1, hb3]; exact (cell_of_row _ _ _ _ _ _ (heap_alloc_new w _)).trans rfl
  have y3 := ST2.out.cell
  clear h hb1 hb2 hz1 hz2 hbw hbox hTw hseen hYt hq hz han hsm hol
  go_enter Try.func70, Try.ntmps70
  go_upto_region 2 with (fail)
  rw [← hw1]
  clear hw1 c0 c1
  rw [← hb3]
  clear hb3
  go_upto_region 3 with (fail)
  rw [← hw2]
  clear hw2 x3
  by_cases ha : p.q.type = 5
  · rw [ha] at d1
    have d1' : w2.cell? ⟨t, 1, none⟩ = some (.int .i64 5) := d1
    clear d1
    go_wp2
    go_ret
    exact ST2.out.done (by omega) HYT.out
  by_cases hb : p.q.type = 255
  · rw [hb] at d1
    have d1' : w2.cell? ⟨t, 1, none⟩ = some (.int .i64 255) := d1
    clear d1
    go_wp2
    go_ret
    exact ST2.out.done (by omega) HYT.out
  clear d0
  have hae : (p.q.type == 5) = false := by simp [ha]
  have hbe : (p.q.type == 255) = false := by simp [hb]
  go_upto_region 6 with (fail)
  clear d1 ha hb hae hbe y3
  generalize hsv0 : Value.slice (some ⟨w1.heap.size, 0, none⟩) 1 1 = sv0 at ST2 ⊢
  clear hsv0
  obtain ⟨S0, ho0, _⟩ := ST2.out.seen
  obtain ⟨As0, cs0, hs0, _⟩ := OwnE.form ho0
  subst hs0
  clear ho0
  go_loopw [4, 29] (fun sv iv wr => ∃ (i nl : Nat) (A : Option Addr) (c : Nat) (ns : List (List UInt8)) (As : Option Addr) (cs : Nat) (ls : List (List (List UInt8))) (v' : Value) (out' : List Fa), sv = .slice As nl cs ∧ iv = .int .i64 (i : Int) ∧ i ≤ 16 ∧ Hid (nl = ls.length) ∧ Hid (ChSt p B Y t w v out b3 i wr A c ns (.slice As nl cs) ls v' out')) (fun _ iv _ => 16 - (intOf iv).toNat)
  case atStart => exact ⟨0, 1, _, _, _, As0, cs0, [p.q.name], _, _, rfl, rfl, by omega, rfl, ST2⟩
  case round =>
    clear ST2
    obtain ⟨i, nl, A, c, ns, As, cs, ls, v', out', rfl, rfl, hi, HNL, ST⟩ := hrel
    have y0 := ST.out.cell
    by_cases hlt : i < 16
    rotate_left
    · have hlt' : ¬ (i : Int) < 16 := by omega
      go_wp2
      go_ret
      exact ST.out.done hi HYT.out
    have hlt' : (i : Int) < 16 := by omega
    go_upto_region 7 with (fail)
    clear hlt' y0
    have hS7 : p.row wr.drew t v' ∧ wr.drew.cell? ⟨b3, 0, none⟩ = some (.slice A ns.length c) := ⟨ST.out.T.T, ST.out.cell⟩
    obtain ⟨st, hst⟩ : ∃ x, x = setP p.m.an ns 5 := ⟨_, rfl⟩
    have HST := Lib.hid hst
    have HPS := Lib.hid (pset_any p.sm.A A p.m.an.length p.sm.ac ns.length c p.m.an ns 5 wr.drew ((ST.out.T.below bl.drew).G.m.a.mono (fun b hb => Nat.lt_trans hb (ST.out.T.below bl.drew).size) (fun b hb => Nat.lt_trans hb (ST.out.T.below bl.drew).size)) (ST.out.below bl.drew).nm.rd (by have := HAN.out; omega) (Nat.le_trans ST.out.nm.c.1 ST.out.nm.c.2) (fun r hr => (HSM.out r hr).light))
    rw [← hst] at HPS
    obtain ⟨sl, ttl⟩ := st
    clear hst
    refine wp_region_any (by kernel_rfl) ?_
    change wpAny _ _ _ _ _ _ _ (World.drew wr)
    refine wpAny_of_P (S := fun W => p.row W t v' ∧ W.cell? ⟨b3, 0, none⟩ = some (.slice A ns.length c)) (dem := fun _ => true) _ _ _ _ ?_
    refine wpAnyP_take (i := 0) (v := .pointer (some ⟨t, 0, none⟩)) rfl (by kernel_rfl) (by kernel_rfl) (by kernel_rfl) (by kernel_rfl) (by kernel_rfl) (fun _ _ _ h => h) (Or.inl ⟨by kernel_rfl, by (intro W hW; go_simp)⟩) hS7 ?_
    refine wpAnyP_take (i := 1) (v := .pointer (some ⟨t, 0, none⟩)) rfl (by kernel_rfl) (by kernel_rfl) (by kernel_rfl) (by kernel_rfl) (by kernel_rfl) (fun _ _ _ h => h) (Or.inl ⟨by kernel_rfl, by (intro W hW; go_simp)⟩) hS7 ?_
    refine wpAnyP_take (i := 2) (v := .pointer (some ⟨t, 3, none⟩)) rfl (by kernel_rfl) (by kernel_rfl) (by kernel_rfl) (by kernel_rfl) (by kernel_rfl) (fun _ _ _ h => h) (Or.inl ⟨by kernel_rfl, by (intro W hW; go_simp)⟩) hS7 ?_
    refine wpAnyP_take (i := 3) (v := .pointer (some ⟨t, 12, none⟩)) rfl (by kernel_rfl) (by kernel_rfl) (by kernel_rfl) (by kernel_rfl) (by kernel_rfl) (fun _ _ _ h => h) (Or.inl ⟨by kernel_rfl, by (intro W hW; go_simp)⟩) hS7 ?_
    refine wpAnyP_take (i := 4) (v := .slice p.sm.A p.m.an.length p.sm.ac) rfl (by kernel_rfl) (by kernel_rfl) (by kernel_rfl) (by kernel_rfl) (by kernel_rfl) (fun _ _ _ h => h) (Or.inl ⟨by kernel_rfl, by (intro W hW; have c0 := (TRow.cellsM hW.1).2.2.1; go_simp)⟩) hS7 ?_
    refine wpAnyP_take (i := 5) (v := .slice A ns.length c) rfl (by kernel_rfl) (by kernel_rfl) (by kernel_rfl) (by kernel_rfl) (by kernel_rfl) (fun _ _ _ h => h) (Or.inl ⟨by kernel_rfl, by (intro W hW; have c0 := hW.2; go_simp)⟩) hS7 ?_
    refine wpAnyP_one (i := 6) rfl (by kernel_rfl) fun K hK => ?_
    go_simp
    refine HPS.out.mono ?_
    rintro e w2 ⟨r2, rfl, ⟨sv2, rfl, hsv2⟩, hb2⟩
    obtain ⟨SA, sc, hsve, hsr, hsc1, hsc2⟩ := hsv2.rd
    have HSR := Lib.hid hsr
    have HSC : Hid (sl.length ≤ sc ∧ sc ≤ maxLen) := ⟨hsc1, hsc2⟩
    obtain ⟨k, hk⟩ : ∃ k, k = sl.length := ⟨_, rfl⟩
    have HK := Lib.hid hk
    rw [← hk] at hsve
    subst hsve
    clear hk hsr hsc1 hsc2 hsv2
    have HB2 : Hid (Below wr.heap.size wr w2) := bl.drew.trans hb2
    clear hb2
    have hS2 : p.row w2 t v' ∧ w2.cell? ⟨b3, 0, none⟩ = some (.slice A ns.length c) := ⟨(ST.out.below HB2.out).T.T, (ST.out.below HB2.out).cell⟩
    refine hK _ _ (fun _ => hS2) ?_
    clear hK
    refine wpAnyP_take (i := 7) (v := .tuple #[.slice SA k sc, .int .i64 ttl]) rfl (by kernel_rfl) (by kernel_rfl) (by kernel_rfl) (by kernel_rfl) (by kernel_rfl) (fun _ _ _ h => h) (Or.inl ⟨by kernel_rfl, by (intro W hW; go_simp)⟩) hS2 ?_
    refine wpAnyP_take (i := 8) (v := .slice SA k sc) rfl (by kernel_rfl) (by kernel_rfl) (by kernel_rfl) (by kernel_rfl) (by kernel_rfl) (fun _ _ _ h => h) (Or.inl ⟨by kernel_rfl, by (intro W hW; go_simp)⟩) hS2 ?_
    refine wpAnyP_take (i := 9) (v := .int .i64 ttl) rfl (by kernel_rfl) (by kernel_rfl) (by kernel_rfl) (by kernel_rfl) (by kernel_rfl) (fun _ _ _ h => h) (Or.inl ⟨by kernel_rfl, by (intro W hW; go_simp)⟩) hS2 ?_
    refine wpAnyP_take (i := 10) (v := .slice SA k sc) rfl (by kernel_rfl) (by kernel_rfl) (by kernel_rfl) (by kernel_rfl) (by kernel_rfl) (fun _ _ _ h => h) (Or.inl ⟨by kernel_rfl, by (intro W hW; go_simp)⟩) hS2 ?_
    refine wpAnyP_one (i := 11) rfl (by kernel_rfl) fun K hK => ?_
    go_simp
    refine hK _ _ (fun _ => hS2) ?_
    clear hK hS7
    refine wpAnyP_done (by kernel_rfl) ?_ _
    by_cases h0 : k = 0
    · subst h0
      go_wp2
      have hS3 : p.row w2.drew t v' ∧ w2.drew.cell? ⟨b3, 0, none⟩ = some (.slice A ns.length c) := hS2
      refine wp_region_any (by kernel_rfl) ?_
      change wpAny _ _ _ _ _ _ _ (World.drew w2)
      refine wpAny_of_P (S := fun W => p.row W t v' ∧ W.cell? ⟨b3, 0, none⟩ = some (.slice A ns.length c)) (dem := fun _ => true) _ _ _ _ ?_
      refine wpAnyP_take (i := 0) (v := .slice SA 0 sc) rfl (by kernel_rfl) (by kernel_rfl) (by kernel_rfl) (by kernel_rfl) (by kernel_rfl) (fun _ _ _ h => h) (Or.inl ⟨by kernel_rfl, by (intro W hW; go_simp)⟩) hS3 ?_
      refine wpAnyP_take (i := 1) (v := .int .i64 0) rfl (by kernel_rfl) (by kernel_rfl) (by kernel_rfl) (by kernel_rfl) (by kernel_rfl) (fun _ _ _ h => h) (Or.inl ⟨by kernel_rfl, by (intro W hW; go_simp)⟩) hS3 ?_
      refine wpAnyP_take (i := 2) (v := .bool true) rfl (by kernel_rfl) (by kernel_rfl) (by kernel_rfl) (by kernel_rfl) (by kernel_rfl) (fun _ _ _ h => h) (Or.inl ⟨by kernel_rfl, by (intro W hW; go_simp)⟩) hS3 ?_
      refine wpAnyP_take (i := 3) (v := .bool true) rfl (by kernel_rfl) (by kernel_rfl) (by kernel_rfl) (by kernel_rfl) (by kernel_rfl) (fun _ _ _ h => h) (Or.inl ⟨by kernel_rfl, by (intro W hW; go_simp)⟩) hS3 ?_
      refine wpAnyP_take (i := 4) (v := undef) rfl (by kernel_rfl) (by kernel_rfl) (by kernel_rfl) (by kernel_rfl) (by kernel_rfl) (fun _ _ _ h => h) (Or.inr ⟨by kernel_rfl, rfl⟩) hS3 ?_
      refine wpAnyP_take (i := 5) (v := undef) rfl (by kernel_rfl) (by kernel_rfl) (by kernel_rfl) (by kernel_rfl) (by kernel_rfl) (fun _ _ _ h => h) (Or.inr ⟨by kernel_rfl, rfl⟩) hS3 ?_
      refine wpAnyP_take (i := 6) (v := undef) rfl (by kernel_rfl) (by kernel_rfl) (by kernel_rfl) (by kernel_rfl) (by kernel_rfl) (fun _ _ _ h => h) (Or.inr ⟨by kernel_rfl, rfl⟩) hS3 ?_
      refine wpAnyP_take (i := 7) (v := undef) rfl (by kernel_rfl) (by kernel_rfl) (by kernel_rfl) (by kernel_rfl) (by kernel_rfl) (fun _ _ _ h => h) (Or.inr ⟨by kernel_rfl, rfl⟩) hS3 ?_
      refine wpAnyP_take (i := 8) (v := undef) rfl (by kernel_rfl) (by kernel_rfl) (by kernel_rfl) (by kernel_rfl) (by kernel_rfl) (fun _ _ _ h => h) (Or.inr ⟨by kernel_rfl, rfl⟩) hS3 ?_
      refine wpAnyP_take (i := 9) (v := undef) rfl (by kernel_rfl) (by kernel_rfl) (by kernel_rfl) (by kernel_rfl) (by kernel_rfl) (fun _ _ _ h => h) (Or.inr ⟨by kernel_rfl, rfl⟩) hS3 ?_
      refine wpAnyP_take (i := 10) (v := undef) rfl (by kernel_rfl) (by kernel_rfl) (by kernel_rfl) (by kernel_rfl) (by kernel_rfl) (fun _ _ _ h => h) (Or.inr ⟨by kernel_rfl, rfl⟩) hS3 ?_
      refine wpAnyP_one (i := 11) rfl (by kernel_rfl) fun K hK => ?_
      go_simp
      refine hK _ _ (fun _ => hS3) ?_
      clear hK
      refine wpAnyP_done (by kernel_rfl) ?_ _
      have y0 := hS3.2
      go_wp2
      go_ret
      exact ((ST.out.below HB2.out).below bl.drew).done (Nat.le_of_lt hlt) HYT.out
    have h0' : ¬ (k : Int) = 0 := by omega
    have h0b : ((k : Int) == 0) = false := by simp [h0]
    go_wp2
    have hS3 : p.row w2.drew t v' ∧ w2.drew.cell? ⟨b3, 0, none⟩ = some (.slice A ns.length c) := hS2
    have ST3 : Hid (ChSt p B Y t w v out b3 i w2.drew A c ns (.slice As nl cs) ls v' out') := (ST.out.below HB2.out).below bl.drew
    have HUN := Lib.hid (nunder_any A p.Z ns.length c p.nz p.cz ns p.zs w2.drew ST3.out.nm.rd (ST3.out.T.G.z.mono (fun b hb => Nat.lt_trans hb ST3.out.T.size) (fun b hb => Nat.lt_trans hb ST3.out.T.size)) (by have := ST3.out.nm.l; omega) HZ.out ST3.out.nm.c.1)
    obtain ⟨un, hun⟩ : ∃ b, b = underB ns p.zs := ⟨_, rfl⟩
    rw [← hun] at HUN
    clear hun
    refine wp_region_any (by kernel_rfl) ?_
    change wpAny _ _ _ _ _ _ _ (World.drew w2)
    refine wpAny_of_P (S := fun W => p.row W t v' ∧ W.cell? ⟨b3, 0, none⟩ = some (.slice A ns.length c)) (dem := fun _ => true) _ _ _ _ ?_
    refine wpAnyP_take (i := 0) (v := .slice SA k sc) rfl (by kernel_rfl) (by kernel_rfl) (by kernel_rfl) (by kernel_rfl) (by kernel_rfl) (fun _ _ _ h => h) (Or.inl ⟨by kernel_rfl, by (intro W hW; go_simp)⟩) hS3 ?_
    refine wpAnyP_take (i := 1) (v := .int .i64 (k : Int)) rfl (by kernel_rfl) (by kernel_rfl) (by kernel_rfl) (by kernel_rfl) (by kernel_rfl) (fun _ _ _ h => h) (Or.inl ⟨by kernel_rfl, by (intro W hW; go_simp)⟩) hS3 ?_
    refine wpAnyP_take (i := 2) (v := .bool false) rfl (by kernel_rfl) (by kernel_rfl) (by kernel_rfl) (by kernel_rfl) (by kernel_rfl) (fun _ _ _ h => h) (Or.inl ⟨by kernel_rfl, by (intro W hW; go_simp)⟩) hS3 ?_
    refine wpAnyP_take (i := 3) (v := .bool false) rfl (by kernel_rfl) (by kernel_rfl) (by kernel_rfl) (by kernel_rfl) (by kernel_rfl) (fun _ _ _ h => h) (Or.inl ⟨by kernel_rfl, by (intro W hW; go_simp)⟩) hS3 ?_
    refine wpAnyP_take (i := 4) (v := .slice A ns.length c) rfl (by kernel_rfl) (by kernel_rfl) (by kernel_rfl) (by kernel_rfl) (by kernel_rfl) (fun _ _ _ h => h) (Or.inl ⟨by kernel_rfl, by (intro W hW; have c0 := hW.2; go_simp)⟩) hS3 ?_
    refine wpAnyP_take (i := 5) (v := .pointer (some ⟨t, 0, none⟩)) rfl (by kernel_rfl) (by kernel_rfl) (by kernel_rfl) (by kernel_rfl) (by kernel_rfl) (fun _ _ _ h => h) (Or.inl ⟨by kernel_rfl, by (intro W hW; go_simp)⟩) hS3 ?_
    refine wpAnyP_take (i := 6) (v := .pointer (some ⟨t, 0, none⟩)) rfl (by kernel_rfl) (by kernel_rfl) (by kernel_rfl) (by kernel_rfl) (by kernel_rfl) (fun _ _ _ h => h) (Or.inl ⟨by kernel_rfl, by (intro W hW; go_simp)⟩) hS3 ?_
    refine wpAnyP_take (i := 7) (v := .pointer (some ⟨t, 17, none⟩)) rfl (by kernel_rfl) (by kernel_rfl) (by kernel_rfl) (by kernel_rfl) (by kernel_rfl) (fun _ _ _ h => h) (Or.inl ⟨by kernel_rfl, by (intro W hW; go_simp)⟩) hS3 ?_
    refine wpAnyP_take (i := 8) (v := .slice p.Z p.nz p.cz) rfl (by kernel_rfl) (by kernel_rfl) (by kernel_rfl) (by kernel_rfl) (by kernel_rfl) (fun _ _ _ h => h) (Or.inl ⟨by kernel_rfl, by (intro W hW; have c0 := (TRow.cells20 hW.1).1; go_simp)⟩) hS3 ?_
    cases un with
    | false =>
      refine wpAnyP_one (i := 9) rfl (by kernel_rfl) fun K hK => ?_
      go_simp
      refine HUN.out.mono ?_
      rintro e w3 ⟨v3, rfl, rfl, hb3'⟩
      have HB3 : Hid (Below w2.drew.heap.size w2.drew w3) := hb3'
      clear hb3'
      have ST4 : Hid (ChSt p B Y t w v out b3 i w3 A c ns (.slice As nl cs) ls v' out') := ST3.out.below HB3.out
      have hS4 : p.row w3 t v' ∧ w3.cell? ⟨b3, 0, none⟩ = some (.slice A ns.length c) := ⟨ST4.out.T.T, ST4.out.cell⟩
      refine hK _ _ (fun _ => hS4) ?_
      clear hK
      refine wpAnyP_take (i := 10) (v := .bool true) rfl (by kernel_rfl) (by kernel_rfl) (by kernel_rfl) (by kernel_rfl) (by kernel_rfl) (fun _ _ _ h => h) (Or.inl ⟨by kernel_rfl, by (intro W hW; go_simp)⟩) hS4 ?_
      refine wpAnyP_one (i := 11) rfl (by kernel_rfl) fun K hK => ?_
      go_simp
      refine hK _ _ (fun _ => hS4) ?_
      clear hK
      refine wpAnyP_done (by kernel_rfl) ?_ _
      have y0 := hS4.2
      go_wp2
      go_ret
      exact ST4.out.done (Nat.le_of_lt hlt) HYT.out
    | true =>
    refine wpAnyP_one (i := 9) rfl (by kernel_rfl) fun K hK => ?_
    go_simp
    refine HUN.out.mono ?_
    rintro e w3 ⟨v3, rfl, rfl, hb3'⟩
    have HB3 : Hid (Below w2.drew.heap.size w2.drew w3) := hb3'
    clear hb3'
    have ST4 : Hid (ChSt p B Y t w v out b3 i w3 A c ns (.slice As nl cs) ls v' out') := ST3.out.below HB3.out
    have hS4 : p.row w3 t v' ∧ w3.cell? ⟨b3, 0, none⟩ = some (.slice A ns.length c) := ⟨ST4.out.T.T, ST4.out.cell⟩
    refine hK _ _ (fun _ => hS4) ?_
    clear hK
    refine wpAnyP_take (i := 10) (v := .bool false) rfl (by kernel_rfl) (by kernel_rfl) (by kernel_rfl) (by kernel_rfl) (by kernel_rfl) (fun _ _ _ h => h) (Or.inl ⟨by kernel_rfl, by (intro W hW; go_simp)⟩) hS4 ?_
    refine wpAnyP_one (i := 11) rfl (by kernel_rfl) fun K hK => ?_
    go_simp
    refine hK _ _ (fun _ => hS4) ?_
    clear hK
    refine wpAnyP_done (by kernel_rfl) ?_ _
    clear hS3
    obtain ⟨d, hd, hdm⟩ := mem0 HK.out h0
    obtain ⟨bs, off, ds, hSA, hbs, hdi, hdc⟩ := da_at HSR.out hd
    have HDC := Lib.hid (below_cell (nx bl.drew HB3.out) hdc.2.1)
    have HBS := Lib.hid hbs
    have HNM2 : Hid (NmIn w3 (fun b => b = t ∨ v'.ownBlock = some b ∨ b = b3 ∨ (Value.slice As nl cs).ownBlock = some b) ds.A1 ds.c1 d.host) := by
      have hh : d.host.length ≤ 1000 := by
        obtain ⟨r, hr, _, hrd⟩ := setP_mem p.m.an ns 5 d (by rw [← HST.out]; exact hdm)
        have := (HSM.out r hr).2.1
        rw [hrd] at this
        omega
      have hn : NmIn w2 (fun b => b = t ∨ v'.ownBlock = some b ∨ b = b3 ∨ (Value.slice As nl cs).ownBlock = some b) ds.A1 ds.c1 d.host := ⟨⟨_, hdi.h, fun b hb => ⟨hb.2, fun e => by have h1 := ST.out.xlt b e; have h2 : wr.heap.size ≤ b := hb.1; omega⟩⟩, hdi.ch, hh⟩
      exact hn.below (nx bl.drew HB3.out)
    clear hd hdm hbs hdi hdc
    subst hSA
    go_upto_region 10 with (fail)
    have hS5 : p.row w3.drew t v' ∧ w3.drew.cell? ⟨b3, 0, none⟩ = some (.slice A ns.length c) := hS4
    have ST5 : Hid (ChSt p B Y t w v out b3 i w3.drew A c ns (.slice As nl cs) ls v' out') := ST4.out.below bl.drew
    have HRK := Lib.hid (rank_any p t v' w3.drew ST5.out.T.T 4 3)
    obtain ⟨rk, hrk⟩ : ∃ r : Int, r = if p.m.aa = true then 4 else 3 := ⟨_, rfl⟩
    rw [← hrk] at HRK
    have HRI : Hid (i64S rk) := by show i64S _; rw [hrk]; unfold i64S; split <;> omega
    clear hrk
    have HHS : Hid (Calls Try.prog 121 #[.pointer (some ⟨t, 0, none⟩), .slice p.sm.A p.m.an.length p.sm.ac, .slice A ns.length c, .int .i64 5, .int .i64 rk, .int .i64 1] w3.drew (TCall p B (fun b => Y b ∨ b = b3 ∨ (Value.slice As nl cs).ownBlock = some b) t w3.drew v' (fun r out2 => ∃ b : Bool, r = .bool b ∧ out2.length ≤ out'.length + 1 ∧ ∀ f ∈ out2, f ∈ out' ∨ HasF p p.m.an ns 5 f))) :=
      has_any p B t _ v' out' w3.drew ST5.out.T p.sm.A A p.m.an.length p.sm.ac ns.length c p.m.an ns 5 rk 1 ST5.out.T.G.m.a ST5.out.nm.rd ST5.out.nm.c ST5.out.nm.l HAN.out HSM.out ⟨by omega, by omega⟩ HRI.out (by omega) (by omega) HZ.out (by have h1 := ST5.out.ol; have h2 := HOL.out; omega)
    refine wp_region_any (by kernel_rfl) ?_
    change wpAny _ _ _ _ _ _ _ (World.drew w3)
    refine wpAny_of_P (S := fun W => p.row W t v' ∧ W.cell? ⟨b3, 0, none⟩ = some (.slice A ns.length c)) (dem := fun _ => true) _ _ _ _ ?_
    refine wpAnyP_take (i := 0) (v := .pointer (some ⟨t, 0, none⟩)) rfl (by kernel_rfl) (by kernel_rfl) (by kernel_rfl) (by kernel_rfl) (by kernel_rfl) (fun _ _ _ h => h) (Or.inl ⟨by kernel_rfl, by (intro W hW; go_simp)⟩) hS5 ?_
    refine wpAnyP_take (i := 1) (v := .pointer (some ⟨t, 0, none⟩)) rfl (by kernel_rfl) (by kernel_rfl) (by kernel_rfl) (by kernel_rfl) (by kernel_rfl) (fun _ _ _ h => h) (Or.inl ⟨by kernel_rfl, by (intro W hW; go_simp)⟩) hS5 ?_
    refine wpAnyP_take (i := 2) (v := .pointer (some ⟨t, 0, none⟩)) rfl (by kernel_rfl) (by kernel_rfl) (by kernel_rfl) (by kernel_rfl) (by kernel_rfl) (fun _ _ _ h => h) (Or.inl ⟨by kernel_rfl, by (intro W hW; go_simp)⟩) hS5 ?_
    refine wpAnyP_take (i := 3) (v := .pointer (some ⟨t, 3, none⟩)) rfl (by kernel_rfl) (by kernel_rfl) (by kernel_rfl) (by kernel_rfl) (by kernel_rfl) (fun _ _ _ h => h) (Or.inl ⟨by kernel_rfl, by (intro W hW; go_simp)⟩) hS5 ?_
    refine wpAnyP_take (i := 4) (v := .pointer (some ⟨t, 12, none⟩)) rfl (by kernel_rfl) (by kernel_rfl) (by kernel_rfl) (by kernel_rfl) (by kernel_rfl) (fun _ _ _ h => h) (Or.inl ⟨by kernel_rfl, by (intro W hW; go_simp)⟩) hS5 ?_
    refine wpAnyP_take (i := 5) (v := .slice p.sm.A p.m.an.length p.sm.ac) rfl (by kernel_rfl) (by kernel_rfl) (by kernel_rfl) (by kernel_rfl) (by kernel_rfl) (fun _ _ _ h => h) (Or.inl ⟨by kernel_rfl, by (intro W hW; have c0 := (TRow.cellsM hW.1).2.2.1; go_simp)⟩) hS5 ?_
    refine wpAnyP_take (i := 6) (v := .slice A ns.length c) rfl (by kernel_rfl) (by kernel_rfl) (by kernel_rfl) (by kernel_rfl) (by kernel_rfl) (fun _ _ _ h => h) (Or.inl ⟨by kernel_rfl, by (intro W hW; have c0 := hW.2; go_simp)⟩) hS5 ?_
    refine wpAnyP_take (i := 7) (v := .pointer (some ⟨t, 0, none⟩)) rfl (by kernel_rfl) (by kernel_rfl) (by kernel_rfl) (by kernel_rfl) (by kernel_rfl) (fun _ _ _ h => h) (Or.inl ⟨by kernel_rfl, by (intro W hW; go_simp)⟩) hS5 ?_
    refine wpAnyP_one (i := 8) rfl (by kernel_rfl) fun K hK => ?_
    go_simp
    refine HRK.out.mono ?_
    rintro e w4 ⟨rfl, rfl⟩
    refine hK _ _ (fun _ => hS5) ?_
    clear hK
    refine wpAnyP_one (i := 9) rfl (by kernel_rfl) fun K hK => ?_
    go_simp
    refine HHS.out.mono ?_
    rintro e w5 ⟨r5, v5, out5, rfl, hT5, hX5, b5, rfl, hol5, hg5⟩
    refine hK _ _ (fun h => absurd h (by rw [show needS _ _ _ = false from by kernel_rfl]; decide)) ?_
    clear hK
    refine wpAnyP_done (by kernel_rfl) ?_ _
    have HLL : Hid (ls.length ≤ i + 1) := ST5.out.ll
    have HX5 := Lib.hid hX5
    have ST6 : Hid (ChSt p B Y t w v out b3 (i + 1) w5 A c ns (.slice As nl cs) ls v5 out5) := ST5.out.found HTL.out hT5 hX5 hol5 (fun f hf => (hg5 f hf).imp id (fun h => ⟨ns, 5, h⟩))
    have hxl := ST5.out.xlt
    have hNM5 : NmIn w5 (fun b => b = t ∨ v5.ownBlock = some b ∨ b = b3 ∨ (Value.slice As nl cs).ownBlock = some b) ds.A1 ds.c1 d.host := (HNM2.out.below bl.drew).chg HX5.out.C (fun b hb => hb.elim .inl (fun e => .inr (.inl e))) (fun b hb => by
      rcases hb with hb | hb | hb | hb
      · exact .inl (.inl hb)
      · exact (HX5.out.N b hb).elim (fun e => .inl (.inr (.inl e))) .inr
      · exact .inl (.inr (.inr (.inl hb)))
      · exact .inl (.inr (.inr (.inr hb))))
    have hx0 : w5.cell? ⟨bs, off + 0 * 5 + 1, none⟩ = some (.slice ds.A1 d.host.length ds.c1) := by
      refine HX5.out.C.cell (show w3.drew.cell? _ = _ from HDC.out) (fun e => ?_)
      have h2 : wr.heap.size ≤ bs := HBS.out.1
      rcases e with e | e
      · have h1 := ST.out.xlt bs (.inl e); omega
      · have h1 := ST.out.xlt bs (.inr (.inl e)); omega
    have x0 : w5.cell? ⟨bs, off + 1, none⟩ = some (.slice ds.A1 d.host.length ds.c1) := by rw [Nat.zero_mul, Nat.add_zero] at hx0; exact hx0
    obtain ⟨w6, hw6⟩ : ∃ u, u = w5.setCell ⟨b3, 0, none⟩ (.slice ds.A1 d.host.length ds.c1) := ⟨_, rfl⟩
    have ST7 : Hid (ChSt p B Y t w v out b3 (i + 1) w6 ds.A1 ds.c1 d.host (.slice As nl cs) ls v5 out5) := by show ChSt _ _ _ _ _ _ _ _ _ _ _ _ _ _ _ _ _; rw [hw6]; exact ST6.out.put HTL.out HBW.out hNM5
    have x1 := ST6.out.cell
    have kb : w5.frozen? ⟨b3, 0, none⟩ = false := frozen_of_row _ _ _ _ _ ST6.out.box
    have hkc : k ≤ sc := by have := HSC.out.1; rw [HK.out]; exact this
    have hk0 : 0 < k := by omega
    have HCH := Lib.hid (hasCh_any b3 (fun x => decide (lowN x = lowN d.host)) As nl cs ls w6 (by
        obtain ⟨S7, ho7, _⟩ := ST7.out.seen
        obtain ⟨A7, c7, h7, hr7, _⟩ := OwnE.rdE ho7
        have e7 : As = A7 := by injection h7
        rw [e7, HNL.out]
        exact hr7) (by have := HLL.out; have := HNL.out; omega) (fun A' c' x W hW hx hxl => eqCh_any b3 A' ds.A1 x.length d.host.length c' ds.c1 x d.host W (below_cell hW ST7.out.cell) hx (ST7.out.nm.rd.below hW) hxl (Nat.le_trans ST7.out.nm.c.1 ST7.out.nm.c.2)))
    obtain ⟨fd, hfd⟩ : ∃ b, b = ls.any (fun x => decide (lowN x = lowN d.host)) := ⟨_, rfl⟩
    rw [← hfd] at HCH
    clear hfd hxl hNM5 hx0 hX5 hT5 hg5 hS2 hS4 hS5 h0b
    go_upto_region 12 with (fail)
    rw [← hw6]
    clear hw6 x0 x1 kb hkc hk0
    have y0 := ST7.out.cell
    cases fd with
    | true =>
      go_wp2_with (go_at_call 123; refine HCH.out.mono ?_; rintro e w8 ⟨v8, rfl, rfl, hb8⟩; have y1 := (ST7.out.below hb8).cell)
      go_ret
      exact (ST7.out.below hb8).done (by omega) HYT.out
    | false =>
    go_upto_region 14 with (go_at_call 123; refine HCH.out.mono ?_; rintro e w8 ⟨v8, rfl, rfl, hb8⟩; have y1 := (ST7.out.below hb8).cell)
    have ST8 : Hid (ChSt p B Y t w v out b3 (i + 1) w8 ds.A1 ds.c1 d.host (.slice As nl cs) ls v5 out5) := ST7.out.below hb8
    clear hb8 y0
    obtain ⟨SO, ho8, hSO⟩ := ST8.out.seen
    have HSO := Lib.hid hSO
    obtain ⟨SN, hn8, hSN⟩ := ST8.out.nm.e
    have HSN := Lib.hid hSN
    have hwz : w.heap.size ≤ w8.heap.size := Nat.le_of_lt (Nat.lt_of_le_of_lt ST8.out.b3 (ST8.out.xlt b3 (.inr (.inr (.inl rfl)))))
    clear hSO hSN
    go_wp2_with ((with_reducible show wpList _ _ _ (⟨some 75, _, _, _, _, _⟩ :: _) _ _); refine wpL_pushE elNs rfl (.tmp 72) (.tmp 74) rfl w.heap.size (.slice As nl cs) ls rfl ho8 [.slice ds.A1 d.host.length ds.c1] d.host (S' := SN) ⟨_, _, _, rfl, hn8, ST8.out.nm.c⟩ ?hS rfl ?hb ?hl ?hbase ?_; rotate_right; intro v9 w9 hown9 hg9 hat9; obtain ⟨A9, c9, hv9, _⟩ := OwnE.form hown9; have ST9 : Hid (ChSt p B Y t w v out b3 (i + 1) w9 ds.A1 ds.c1 d.host v9 (ls ++ [d.host]) v5 out5) := ST8.out.push HTL.out HBW.out bl (fun b hb => HSO.out b hb) (fun b hb e => (HSN.out b hb).2 (by rcases e with e | e | e; exact .inl e; exact .inr (.inl e); exact .inr (.inr (.inl e)))) hown9 hg9 hat9 HLL.out; subst hv9; rw [List.length_append, List.length_singleton] at ST9)
    · refine ⟨?_, ?measure⟩
      · (repeat apply Exists.intro)
        refine ⟨?rel, rfl⟩
        exact ⟨i + 1, _, _, _, _, A9, c9, _, _, _, rfl, by go_num, by omega, by show _ = _; rw [List.length_append, List.length_singleton], ST9⟩
      simp [intOf]; omega
    case hS => exact fun b hb => ⟨(HSN.out b hb).1, fun e => (HSN.out b hb).2 (.inr (.inr (.inr e.symm)))⟩
    case hb => have := HLL.out; omega
    case hl => have := HLL.out; unfold maxLen; omega
    case hbase => exact hwz
end Go.Proofs.Ytimkdpkhdbiniaa

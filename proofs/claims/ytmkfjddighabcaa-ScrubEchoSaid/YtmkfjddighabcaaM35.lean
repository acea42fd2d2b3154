/- Parts of a proof, joined: Law18E. -/
import Derived.StillTailTactics
import Derived.Test.YtmkfjddighabcaaM33
import Derived.Test.YtmkfjddighabcaaM34
/- ScrubEcho: the law's walk. -/
namespace Go.Proofs.Ytmkfjddighabcaa
open Go.RowKit
set_option maxRecDepth 100000
set_option linter.unusedVariables false

theorem ownB_blt18 {w : World} {B : Nat} {A : Option Addr} {n c : Nat} {bs : List UInt8} (h : OwnB w B (.slice A n c) bs) : ∀ b off, A = some ⟨b, off, none⟩ → b < w.heap.size := by
  intro b off e
  subst e
  have hl := World.ownsRow.lt h
  rcases h.2 with ⟨e0, _⟩ | ⟨g, cap, cur, e0, h3, _⟩
  · injection e0 with e0
    cases e0
  · injection e0 with e0
    injection e0 with e0
    injection e0 with e0
    subst e0
    exact (hl _ rfl).2

/-- A message that was accepted, or none, in a block of its own. -/
structure AccSt (W wc : World) (g : Nat) (c : Array Value) : Prop where
  ge : W.heap.size ≤ g
  R : wc.heap[g]? = some (.cells c 25 (0, 0))
  bw : Below W.heap.size W wc
theorem AccSt.after {W w : World} (hb : Below W.heap.size W w) (c : Array Value) : AccSt W (w.alloc (.cells c 25)) w.heap.size c := ⟨hb.size, heap_alloc_new _ _, nx hb (bl.alloc (Nat.le_refl _) _)⟩
theorem AccSt.ahead {W w : World} {g : Nat} {c : Array Value} (h : AccSt W w g c) {a0 a1 a2 a3 a4 a5 a6 a7 a8 a9 a10 a11 a12 a13 : Value} (e : c = #[a0, a1, a2, a3, a4, a5, a6, a7, a8, a9, a10, a11, a12, a13]) (v0 v1 v2 v3 v4 v5 v6 v7 v8 v9 v10 v11 v12 v13 : Value) :
    AccSt W (put14 w g v0 v1 v2 v3 v4 v5 v6 v7 v8 v9 v10 v11 v12 v13) g #[v0, v1, v2, v3, v4, v5, v6, v7, v8, v9, v10, v11, v12, v13] := by
  subst e
  exact ⟨h.ge, set14 h.R v0 v1 v2 v3 v4 v5 v6 v7 v8 v9 v10 v11 v12 v13, h.bw.trans ((chg14 w g v0 v1 v2 v3 v4 v5 v6 v7 v8 v9 v10 v11 v12 v13).below (fun x hx => by have := h.ge; omega) h.bw.size)⟩
theorem AccSt.below {W w w' : World} {g : Nat} {c : Array Value} (h : AccSt W w g c) (hb : Below w.heap.size w w') : AccSt W w' g c := ⟨h.ge, (hb.block g (Array.getElem?_eq_some_iff.1 h.R).1).trans h.R, nx h.bw hb⟩
theorem AccSt.cell {W w : World} {g : Nat} {c : Array Value} (h : AccSt W w g c) (j : Nat) : w.cell? ⟨g, j, none⟩ = c[j]? := cell_of_row _ _ _ _ _ _ h.R
theorem AccSt.free {W w : World} {g : Nat} {c : Array Value} (h : AccSt W w g c) (j : Nat) : w.frozen? ⟨g, j, none⟩ = false := frozen_of_row _ _ _ _ _ h.R

set_option maxHeartbeats 8000000 in
theorem scrubEcho_bad (s : OuS) (o : Ou) (w : World) (h : OIn (ltS w) w s o) (hn : o.q.name.length ≤ 200) (ha : o.addr.length ≤ 100) (hok : ¬ OkO o) :
    Calls Try.prog 8 #[ouV s o] w (LawT w) := by
  obtain ⟨w1, hw1⟩ : ∃ w1, w1 = w.alloc (.cells (ouCells s o) 52) := ⟨_, rfl⟩
  have hb1 : Below w.heap.size w w1 := by rw [hw1]; exact bl.alloc (Nat.le_refl _) _
  have HR1 : Hid (ORow w1 w.heap.size s o) := by show ORow _ _ _ _; rw [hw1]; exact ORow.made w s o
  have HB1 := Lib.hid hb1
  have HIW : Hid (∀ w', Below w1.heap.size w1 w' → OIn (ltS w) w' s o) := fun w' hw => (h.below hb1 (fun b hb => hb)).below hw (fun b hb => Nat.lt_of_lt_of_le hb hb1.size)
  have HSW : Hid (∀ w', Below w1.heap.size w1 w' → ∀ b, ltS w b → b < w'.heap.size) := fun w' hw b hb => Nat.lt_of_lt_of_le (Nat.lt_of_lt_of_le hb hb1.size) hw.size
  have HOK := Lib.hid hok
  have HN := Lib.hid hn
  have hn' : ¬ (200 : Int) < (o.q.name.length : Int) := by omega
  have ha' : ¬ (100 : Int) < (o.addr.length : Int) := by omega
  have HA := Lib.hid ha
  unfold ouV
  unfold ouCells at hw1 ⊢
  clear h hb1 hok hn ha
  go_enter Try.func8, Try.ntmps8
  go_upto_region 1 with (fail)
  rw [← hw1]
  clear hw1
  generalize w.heap.size = q at HR1 ⊢
  go_upto_region 3 with (first
    | (go_at_call 24; refine (answers18_any w1).mono ?_; rintro e w2 ⟨rfl, hb2⟩; have HB2 := Lib.hid hb2; obtain ⟨z0, z1, z2, z3, z4, z5⟩ := (HR1.out.below hb2).cells; clear hb2)
    | fail)
  clear hn' ha'
  go_wp2_with (first
    | (go_at_call 28; refine (squery_bad s4 o w4 HI4.out (fun b hb => hb.2) (by have := HN.out; omega) HOK.out).mono ?_; unfold dgZ; rintro e w5 ⟨v5, rfl, rfl, hb5⟩; have HB5 := Lib.hid (nx HB4.out hb5); clear hb5)
    | (go_at_call 27; refine (own18_any s o w2 (HIW.out w2 HB2.out) (HSW.out w2 HB2.out) HN.out HA.out).mono ?_; rintro e w4 ⟨v4, rfl, ⟨s4, rfl, hi4⟩, hb4⟩; have HI4 := Lib.hid hi4; have HB4 := Lib.hid (nx HB2.out hb4); clear hi4 hb4)
    | fail)
  go_ret
  exact ⟨rfl, nx HB1.out (nx HB5.out (bl.alloc (Nat.le_refl _) _))⟩

set_option maxHeartbeats 16000000 in
theorem scrubEcho_ok (s : OuS) (o : Ou) (w : World) (h : OIn (ltS w) w s o) (hn : o.q.name.length ≤ 200) (ha : o.addr.length ≤ 100) (hok : OkO o) :
    Calls Try.prog 8 #[ouV s o] w (LawT w) := by
  obtain ⟨w1, hw1⟩ : ∃ w1, w1 = w.alloc (.cells (ouCells s o) 52) := ⟨_, rfl⟩
  have hb1 : Below w.heap.size w w1 := by rw [hw1]; exact bl.alloc (Nat.le_refl _) _
  have HR1 : Hid (ORow w1 w.heap.size s o) := by show ORow _ _ _ _; rw [hw1]; exact ORow.made w s o
  have HB1 := Lib.hid hb1
  have HIW : Hid (∀ w', Below w1.heap.size w1 w' → OIn (ltS w) w' s o) := fun w' hw => (h.below hb1 (fun b hb => hb)).below hw (fun b hb => Nat.lt_of_lt_of_le hb hb1.size)
  have HSW : Hid (∀ w', Below w1.heap.size w1 w' → ∀ b, ltS w b → b < w'.heap.size) := fun w' hw b hb => Nat.lt_of_lt_of_le (Nat.lt_of_lt_of_le hb hb1.size) hw.size
  have HOK := Lib.hid hok
  have HN := Lib.hid hn
  have hn' : ¬ (200 : Int) < (o.q.name.length : Int) := by omega
  have ha' : ¬ (100 : Int) < (o.addr.length : Int) := by omega
  have HA := Lib.hid ha
  unfold ouV
  unfold ouCells at hw1 ⊢
  clear h hb1 hok hn ha
  go_enter Try.func8, Try.ntmps8
  go_upto_region 1 with (fail)
  rw [← hw1]
  clear hw1
  generalize w.heap.size = q at HR1 ⊢
  go_upto_region 3 with (first
    | (go_at_call 24; refine (answers18_any w1).mono ?_; rintro e w2 ⟨rfl, hb2⟩; have HB2 := Lib.hid hb2; obtain ⟨z0, z1, z2, z3, z4, z5⟩ := (HR1.out.below hb2).cells; clear hb2)
    | fail)
  clear hn' ha'
  go_upto_region 4 with (first
    | (go_at_call 28; refine (squery_ok s4 o w4 HI4.out (fun b hb => hb.2) (by have := HN.out; omega) HOK.out).mono ?_; rintro e w5 ⟨v5, rfl, ⟨dv, rfl, A5, c5, A6, c6, rfl, ho5, ho6, hap⟩, hb5⟩; have HAP := Lib.hid hap; clear hap; have HO5 := Lib.hid ho5; have HO6 := Lib.hid ho6; have HB5 := Lib.hid (nx HB4.out hb5); have HB45 := Lib.hid hb5; clear hb5 ho5 ho6)
    | (go_at_call 27; refine (own18_any s o w2 (HIW.out w2 HB2.out) (HSW.out w2 HB2.out) HN.out HA.out).mono ?_; rintro e w4 ⟨v4, rfl, ⟨s4, rfl, hi4⟩, hb4⟩; have HI4 := Lib.hid hi4; have HB4 := Lib.hid (nx HB2.out hb4); clear hi4 hb4)
    | fail)
  clear z0 z1 z2 z3 z4 z5 HI4
  obtain ⟨hd1, hd2, hd3⟩ := echo_dec HOK.out.e
  have hel := encP_len (qryM o)
  obtain ⟨bs, hbs⟩ : ∃ bs, bs = (encP (qryM o)).1 := ⟨_, rfl⟩
  rw [← hbs] at hd1 hd2 hd3 hel HO6 ⊢
  have hlt2 : 2 < bs.length := (List.getElem?_eq_some_iff.1 hd3).1
  obtain ⟨n, hnn⟩ : ∃ n, n = bs.length := ⟨_, rfl⟩
  rw [← hnn] at hel HO6 hlt2 ⊢
  obtain ⟨g6, cc, hv6, hg6, hg6', hcl, hcm⟩ := OwnB.flat HO6.out (by omega)
  injection hv6 with e1 e2 e3
  clear e2
  subst e1
  subst e3
  have HN2 : Hid (n = bs.length ∧ n ≤ 65535 ∧ 2 < n ∧ n ≤ c6 ∧ c6 ≤ maxLen) := ⟨hnn, hel, hlt2, by omega, hcm.1⟩
  have HG6 : Hid (w4.heap.size ≤ g6 ∧ g6 < w5.heap.size) := ⟨hg6, hg6'⟩
  have HD1 := Lib.hid hd1
  have HD2 := Lib.hid hd2
  have HD3 := Lib.hid hd3
  clear hd1 hd2 hd3 hel hlt2 hnn hbs hg6 hg6' hcl hcm
  obtain ⟨w6, hw6⟩ : ∃ w6, w6 = w5.alloc (.cells #[.slice A5 o.addr.length c5, .int .i64 o.port, .slice (some ⟨g6, 0, none⟩) n c6] 54) := ⟨_, rfl⟩
  have hb6 : Below w5.heap.size w5 w6 := by rw [hw6]; exact bl.alloc (Nat.le_refl _) _
  have HD6 : Hid (w6.heap[w5.heap.size]? = some (.cells #[.slice A5 o.addr.length c5, .int .i64 o.port, .slice (some ⟨g6, 0, none⟩) n c6] 54 (0, 0))) := by show _ = _; rw [hw6]; exact heap_alloc_new w5 _
  have HB6 := Lib.hid (nx HB5.out hb6)
  have HB56 := Lib.hid hb6
  rw [← hw6]
  clear hw6 hb6
  have HGD : Hid (g6 < w5.heap.size ∧ w5.heap.size < w6.heap.size) := ⟨HG6.out.2, (Array.getElem?_eq_some_iff.1 HD6.out).1⟩
  generalize w5.heap.size = d at HD6 HGD ⊢
  have hd : ∀ w', Below w6.heap.size w6 w' → (w'.cell? ⟨q, 0, none⟩ = some (.slice s.A o.addr.length s.c) ∧ w'.cell? ⟨q, 1, none⟩ = some (.int .i64 o.port) ∧ w'.cell? ⟨q, 2, none⟩ = some (.int .i64 o.id) ∧ w'.cell? ⟨q, 3, none⟩ = some (.slice s.q.A o.q.name.length s.q.c) ∧ w'.cell? ⟨q, 4, none⟩ = some (.int .i64 o.q.type) ∧ w'.cell? ⟨q, 5, none⟩ = some (.int .i64 o.q.cls) ∧ w'.cell? ⟨d, 0, none⟩ = some (.slice A5 o.addr.length c5) ∧ w'.cell? ⟨d, 1, none⟩ = some (.int .i64 o.port) ∧ w'.cell? ⟨d, 2, none⟩ = some (.slice (some ⟨g6, 0, none⟩) n c6)) := fun w' hw => by
    have g := (hw.block d (Array.getElem?_eq_some_iff.1 HD6.out).1).trans HD6.out
    obtain ⟨z0, z1, z2, z3, z4, z5⟩ := (HR1.out.below (nx HB6.out hw)).cells
    exact ⟨z0, z1, z2, z3, z4, z5, (cell_of_row _ _ _ _ _ _ g).trans rfl, (cell_of_row _ _ _ _ _ _ g).trans rfl, (cell_of_row _ _ _ _ _ _ g).trans rfl⟩
  have HDD := Lib.hid hd
  clear hd
  have HOI : Hid (∀ w', Below w6.heap.size w6 w' → Calls Try.prog 27 #[.agg #[.slice s.A o.addr.length s.c, .int .i64 o.port, .int .i64 o.id, .slice s.q.A o.q.name.length s.q.c, .int .i64 o.q.type, .int .i64 o.q.cls]] w' (RetP (fun v w'' => ∃ s', v = ouV s' o ∧ OIn (geS w'.heap.size w'') w'' s' o) w')) := fun w' hw => own18_any s o w' (HIW.out w' (nx HB6.out hw)) (HSW.out w' (nx HB6.out hw)) HN.out HA.out
  have HAC : Hid (∀ (w7 : World) (s7 : OuS) (S : Nat → Prop), Below w6.heap.size w6 w7 → OIn S w7 s7 o → (∀ b, S b → b < w7.heap.size) → Calls Try.prog 26 #[.agg #[.slice s7.A o.addr.length s7.c, .int .i64 o.port, .int .i64 o.id, .slice s7.q.A o.q.name.length s7.q.c, .int .i64 o.q.type, .int .i64 o.q.cls], .agg #[.slice A5 o.addr.length c5, .int .i64 o.port, .slice (some ⟨g6, 0, none⟩) n c6]] w7 (RetP (fun v _ => ∃ sm : MS, v = .tuple #[.agg #[.int .i64 0, .bool false, .int .i64 0, .bool false, .bool false, .bool false, .bool false, .int .i64 0, .slice none 0 0, .slice none 0 0, .slice none 0 0, .slice none 0 0, .bool false, .int .i64 0], .bool false]) w7)) := fun w7 s7 S hb hi hs => by
    refine Calls.mono (accept_resp s7 o A5 o.addr.length c5 o.addr 0 (some ⟨g6, 0, none⟩) n c6 bs w7 hi hs (((OwnB.rd HO5.out).1.below HB56.out).below hb) (((OwnB.rd HO6.out).1.below HB56.out).below hb) (fun b off e => Nat.lt_of_lt_of_le (Nat.lt_of_lt_of_le (ownB_blt18 HO6.out b off e) HB56.out.size) hb.size) ⟨HN2.out.2.2.2.1, Nat.le_trans HN2.out.2.2.2.2 (by unfold maxLen; omega)⟩ (Nat.le_trans HN2.out.2.1 (by omega)) HOK.out.a rfl (qryM o) HD1.out rfl) ?_
    rintro e w8 ⟨v8, rfl, rfl, hb8⟩
    exact ⟨_, rfl, ⟨MS.nil, rfl⟩, hb8⟩
  have HOIw6 := HOI
  have HACw6 := HAC
  have HDDw6 := HDD
  go_upto_region 6 with (fail)
  go_cut [5, 6] (fun pv bv wc => ∃ (g : Nat) (sm : MS), pv = .pointer (some ⟨g, 0, none⟩) ∧ bv = .bool false ∧ Hid (AccSt w6 wc g #[.int .i64 0, .bool false, .int .i64 0, .bool false, .bool false, .bool false, .bool false, .int .i64 0, .slice none 0 0, .slice none 0 0, .slice none 0 0, .slice none 0 0, .bool false, .int .i64 0]))
  case first =>
    have HZ0 : Hid (AccSt w6 (w6.alloc (.cells #[.int .i64 0, .bool false, .int .i64 0, .bool false, .bool false, .bool false, .bool false, .int .i64 0, .slice none 0 0, .slice none 0 0, .slice none 0 0, .slice none 0 0, .bool false, .int .i64 0] 25)) w6.heap.size #[.int .i64 0, .bool false, .int .i64 0, .bool false, .bool false, .bool false, .bool false, .int .i64 0, .slice none 0 0, .slice none 0 0, .slice none 0 0, .slice none 0 0, .bool false, .int .i64 0]) := AccSt.after bl _
    have HZ1 : Hid (AccSt w6 (w6.alloc (.cells #[.int .i64 0, .bool false, .int .i64 0, .bool false, .bool false, .bool false, .bool false, .int .i64 0, .slice none 0 0, .slice none 0 0, .slice none 0 0, .slice none 0 0, .bool false, .int .i64 0] 25)).drew w6.heap.size #[.int .i64 0, .bool false, .int .i64 0, .bool false, .bool false, .bool false, .bool false, .int .i64 0, .slice none 0 0, .slice none 0 0, .slice none 0 0, .slice none 0 0, .bool false, .int .i64 0]) := AccSt.below HZ0.out bl.drew
    have q1 := HDDw6.out w6 bl
    have q2 := HDDw6.out w6.drew bl.drew
    have q3 := HDDw6.out (w6.alloc (.cells #[.int .i64 0, .bool false, .int .i64 0, .bool false, .bool false, .bool false, .bool false, .int .i64 0, .slice none 0 0, .slice none 0 0, .slice none 0 0, .slice none 0 0, .bool false, .int .i64 0] 25)) HZ0.out.bw
    have q4 := HDDw6.out (w6.alloc (.cells #[.int .i64 0, .bool false, .int .i64 0, .bool false, .bool false, .bool false, .bool false, .int .i64 0, .slice none 0 0, .slice none 0 0, .slice none 0 0, .slice none 0 0, .bool false, .int .i64 0] 25)).drew HZ1.out.bw
    go_region_held3 (fun w' => w'.cell? ⟨q, 0, none⟩ = some (.slice s.A o.addr.length s.c) ∧ w'.cell? ⟨q, 1, none⟩ = some (.int .i64 o.port) ∧ w'.cell? ⟨q, 2, none⟩ = some (.int .i64 o.id) ∧ w'.cell? ⟨q, 3, none⟩ = some (.slice s.q.A o.q.name.length s.q.c) ∧ w'.cell? ⟨q, 4, none⟩ = some (.int .i64 o.q.type) ∧ w'.cell? ⟨q, 5, none⟩ = some (.int .i64 o.q.cls) ∧ w'.cell? ⟨d, 0, none⟩ = some (.slice A5 o.addr.length c5) ∧ w'.cell? ⟨d, 1, none⟩ = some (.int .i64 o.port) ∧ w'.cell? ⟨d, 2, none⟩ = some (.slice (some ⟨g6, 0, none⟩) n c6))
      (first
        | with_reducible exact q1
        | with_reducible exact q2
        | with_reducible exact q3
        | with_reducible exact q4
        | with_reducible exact q5
        | with_reducible exact q6
        | with_reducible exact q7
        | with_reducible exact q8
        | with_reducible exact q9
        | with_reducible exact q10
        | fail)
      (first
        | (go_at_call 26; (with_reducible refine (HACw6.out (w7.alloc (.cells #[.int .i64 0, .bool false, .int .i64 0, .bool false, .bool false, .bool false, .bool false, .int .i64 0, .slice none 0 0, .slice none 0 0, .slice none 0 0, .slice none 0 0, .bool false, .int .i64 0] 25)) s7 _ HZ5.out.bw HI5.out HS5.out).mono ?_); rintro e w8 ⟨v8, rfl, ⟨sm, rfl⟩, hb8⟩; have HZ3 := Lib.hid (AccSt.below HZ5.out hb8); have q8 := HDDw6.out w8 HZ3.out.bw; have m0 : w8.cell? ⟨w7.heap.size, 0, none⟩ = some (.int .i64 0) := (AccSt.cell HZ3.out 0).trans rfl; have m1 : w8.cell? ⟨w7.heap.size, 1, none⟩ = some (.bool false) := (AccSt.cell HZ3.out 1).trans rfl; have m2 : w8.cell? ⟨w7.heap.size, 2, none⟩ = some (.int .i64 0) := (AccSt.cell HZ3.out 2).trans rfl; have m3 : w8.cell? ⟨w7.heap.size, 3, none⟩ = some (.bool false) := (AccSt.cell HZ3.out 3).trans rfl; have m4 : w8.cell? ⟨w7.heap.size, 4, none⟩ = some (.bool false) := (AccSt.cell HZ3.out 4).trans rfl; have m5 : w8.cell? ⟨w7.heap.size, 5, none⟩ = some (.bool false) := (AccSt.cell HZ3.out 5).trans rfl; have m6 : w8.cell? ⟨w7.heap.size, 6, none⟩ = some (.bool false) := (AccSt.cell HZ3.out 6).trans rfl; have m7 : w8.cell? ⟨w7.heap.size, 7, none⟩ = some (.int .i64 0) := (AccSt.cell HZ3.out 7).trans rfl; have m8 : w8.cell? ⟨w7.heap.size, 8, none⟩ = some (.slice none 0 0) := (AccSt.cell HZ3.out 8).trans rfl; have m9 : w8.cell? ⟨w7.heap.size, 9, none⟩ = some (.slice none 0 0) := (AccSt.cell HZ3.out 9).trans rfl; have m10 : w8.cell? ⟨w7.heap.size, 10, none⟩ = some (.slice none 0 0) := (AccSt.cell HZ3.out 10).trans rfl; have m11 : w8.cell? ⟨w7.heap.size, 11, none⟩ = some (.slice none 0 0) := (AccSt.cell HZ3.out 11).trans rfl; have m12 : w8.cell? ⟨w7.heap.size, 12, none⟩ = some (.bool false) := (AccSt.cell HZ3.out 12).trans rfl; have m13 : w8.cell? ⟨w7.heap.size, 13, none⟩ = some (.int .i64 0) := (AccSt.cell HZ3.out 13).trans rfl; have fz := AccSt.free HZ3.out; have HF := Lib.hid (AccSt.ahead HZ3.out rfl (.int .i64 0) (.bool false) (.int .i64 0) (.bool false) (.bool false) (.bool false) (.bool false) (.int .i64 0) (.slice none 0 0) (.slice none 0 0) (.slice none 0 0) (.slice none 0 0) (.bool false) (.int .i64 0)); have q9 := HDDw6.out _ HF.out.bw; unfold put14 at HF q9)
        | (go_at_call 26; (with_reducible refine (HACw6.out w7 s7 _ HB7.out HI7.out HS7.out).mono ?_); rintro e w8 ⟨v8, rfl, ⟨sm, rfl⟩, hb8⟩; have HB8 := Lib.hid (nx HB7.out hb8); have q8 := HDDw6.out w8 HB8.out; have HF := Lib.hid (AccSt.after HB8.out #[.int .i64 0, .bool false, .int .i64 0, .bool false, .bool false, .bool false, .bool false, .int .i64 0, .slice none 0 0, .slice none 0 0, .slice none 0 0, .slice none 0 0, .bool false, .int .i64 0]); have q9 := HDDw6.out _ HF.out.bw; have HY := Lib.hid (AccSt.after HB8.out #[.int .i64 0, .bool false, .int .i64 0, .bool false, .bool false, .bool false, .bool false, .int .i64 0, .slice none 0 0, .slice none 0 0, .slice none 0 0, .slice none 0 0, .bool false, .int .i64 0]); have q10 := HDDw6.out _ HY.out.bw)
        | (go_at_call 26; (with_reducible refine (HACw6.out w6a s7 _ HZ2.out.bw HI7.out HS7.out).mono ?_); rintro e w8 ⟨v8, rfl, ⟨sm, rfl⟩, hb8⟩; have HZ3 := Lib.hid (AccSt.below HZ2.out hb8); have q8 := HDDw6.out w8 HZ3.out.bw; have m0 : w8.cell? ⟨w6.heap.size, 0, none⟩ = some (.int .i64 0) := (AccSt.cell HZ3.out 0).trans rfl; have m1 : w8.cell? ⟨w6.heap.size, 1, none⟩ = some (.bool false) := (AccSt.cell HZ3.out 1).trans rfl; have m2 : w8.cell? ⟨w6.heap.size, 2, none⟩ = some (.int .i64 0) := (AccSt.cell HZ3.out 2).trans rfl; have m3 : w8.cell? ⟨w6.heap.size, 3, none⟩ = some (.bool false) := (AccSt.cell HZ3.out 3).trans rfl; have m4 : w8.cell? ⟨w6.heap.size, 4, none⟩ = some (.bool false) := (AccSt.cell HZ3.out 4).trans rfl; have m5 : w8.cell? ⟨w6.heap.size, 5, none⟩ = some (.bool false) := (AccSt.cell HZ3.out 5).trans rfl; have m6 : w8.cell? ⟨w6.heap.size, 6, none⟩ = some (.bool false) := (AccSt.cell HZ3.out 6).trans rfl; have m7 : w8.cell? ⟨w6.heap.size, 7, none⟩ = some (.int .i64 0) := (AccSt.cell HZ3.out 7).trans rfl; have m8 : w8.cell? ⟨w6.heap.size, 8, none⟩ = some (.slice none 0 0) := (AccSt.cell HZ3.out 8).trans rfl; have m9 : w8.cell? ⟨w6.heap.size, 9, none⟩ = some (.slice none 0 0) := (AccSt.cell HZ3.out 9).trans rfl; have m10 : w8.cell? ⟨w6.heap.size, 10, none⟩ = some (.slice none 0 0) := (AccSt.cell HZ3.out 10).trans rfl; have m11 : w8.cell? ⟨w6.heap.size, 11, none⟩ = some (.slice none 0 0) := (AccSt.cell HZ3.out 11).trans rfl; have m12 : w8.cell? ⟨w6.heap.size, 12, none⟩ = some (.bool false) := (AccSt.cell HZ3.out 12).trans rfl; have m13 : w8.cell? ⟨w6.heap.size, 13, none⟩ = some (.int .i64 0) := (AccSt.cell HZ3.out 13).trans rfl; have fz := AccSt.free HZ3.out; have HF := Lib.hid (AccSt.ahead HZ3.out rfl (.int .i64 0) (.bool false) (.int .i64 0) (.bool false) (.bool false) (.bool false) (.bool false) (.int .i64 0) (.slice none 0 0) (.slice none 0 0) (.slice none 0 0) (.slice none 0 0) (.bool false) (.int .i64 0)); have q9 := HDDw6.out _ HF.out.bw; unfold put14 at HF q9)
        | (go_at_call 27; (with_reducible refine (HOIw6.out w6.drew bl.drew).mono ?_); rintro e w7 ⟨v7, rfl, ⟨s7, rfl, hi7⟩, hb7⟩; unfold ouV ouCells; have HI7 := Lib.hid hi7; have HS7 : Hid (∀ b, geS w6.drew.heap.size w7 b → b < w7.heap.size) := (fun b hb => hb.2); have HB7 : Hid (Below w6.heap.size w6 w7) := bl.drew.trans hb7; have q5 := HDDw6.out w7 HB7.out; have HZ5 : Hid (AccSt w6 (w7.alloc (.cells #[.int .i64 0, .bool false, .int .i64 0, .bool false, .bool false, .bool false, .bool false, .int .i64 0, .slice none 0 0, .slice none 0 0, .slice none 0 0, .slice none 0 0, .bool false, .int .i64 0] 25)) w7.heap.size #[.int .i64 0, .bool false, .int .i64 0, .bool false, .bool false, .bool false, .bool false, .int .i64 0, .slice none 0 0, .slice none 0 0, .slice none 0 0, .slice none 0 0, .bool false, .int .i64 0]) := AccSt.after HB7.out _; have HI5 := Lib.hid (hi7.below (bl.alloc (Nat.le_refl _) (.cells #[.int .i64 0, .bool false, .int .i64 0, .bool false, .bool false, .bool false, .bool false, .int .i64 0, .slice none 0 0, .slice none 0 0, .slice none 0 0, .slice none 0 0, .bool false, .int .i64 0] 25)) (fun b hb => hb.2)); have HS5 : Hid (∀ b, geS w6.drew.heap.size w7 b → b < (w7.alloc (.cells #[.int .i64 0, .bool false, .int .i64 0, .bool false, .bool false, .bool false, .bool false, .int .i64 0, .slice none 0 0, .slice none 0 0, .slice none 0 0, .slice none 0 0, .bool false, .int .i64 0] 25)).heap.size) := (fun b hb => Nat.lt_of_lt_of_le hb.2 (bl.alloc (Nat.le_refl _) (.cells #[.int .i64 0, .bool false, .int .i64 0, .bool false, .bool false, .bool false, .bool false, .int .i64 0, .slice none 0 0, .slice none 0 0, .slice none 0 0, .slice none 0 0, .bool false, .int .i64 0] 25)).size); have q6 := HDDw6.out _ HZ5.out.bw)
        | (go_at_call 27; (with_reducible refine (HOIw6.out (w6.alloc (.cells #[.int .i64 0, .bool false, .int .i64 0, .bool false, .bool false, .bool false, .bool false, .int .i64 0, .slice none 0 0, .slice none 0 0, .slice none 0 0, .slice none 0 0, .bool false, .int .i64 0] 25)).drew HZ1.out.bw).mono ?_); rintro e w6a ⟨v7, rfl, ⟨s7, rfl, hi7⟩, hb7⟩; unfold ouV ouCells; have HI7 := Lib.hid hi7; have HS7 : Hid (∀ b, geS (w6.alloc (.cells #[.int .i64 0, .bool false, .int .i64 0, .bool false, .bool false, .bool false, .bool false, .int .i64 0, .slice none 0 0, .slice none 0 0, .slice none 0 0, .slice none 0 0, .bool false, .int .i64 0] 25)).drew.heap.size w6a b → b < w6a.heap.size) := (fun b hb => hb.2); have HZ2 := Lib.hid (AccSt.below HZ1.out hb7); have q5 := HDDw6.out w6a HZ2.out.bw)
        | fail)
    all_goals
      go_wp2
      go_meet
      case rel => exact ⟨_, sm, rfl, rfl, HF⟩
  case rest =>
    obtain ⟨gm, sm, rfl, rfl, HAS⟩ := hcut
    have HOW : Hid (OwnB wc w4.heap.size (.slice (some ⟨g6, 0, none⟩) n c6) bs) := (HO6.out.below HB56.out).below HAS.out.bw
    have h2n : 2 < bs.length := by have := HN2.out; omega
    have hb2 : bs[2]'h2n = 0 := (List.getElem?_eq_some_iff.1 HD3.out).2
    have x2 : wc.cell? ⟨g6, 2, none⟩ = some (.int .u8 0) := (OwnB.cell HOW.out (k := 2) h2n).trans (by rw [hb2]; rfl)
    have f2 := OwnB.free HOW.out 2
    have k2 := (HDD.out wc HAS.out.bw).2.2.2.2.2.2.2.2
    have h2i : (2 : Int) < (n : Int) := by have := HN2.out; omega
    have h2m : 2 < n := by have := HN2.out; omega
    clear hb2 h2n
    go_upto_region 7 with (fail)
    go_still_tail 8, (by kernel_rfl)
    change wpList _ _ _ _ _ wc.drew
    go_upto_region 8 with (fail)
    obtain ⟨wD, hwD⟩ : ∃ u, u = (wc.setCell ⟨g6, 2, none⟩ (.int .u8 128)).drew := ⟨_, rfl⟩
    have hcD : Chg (fun k => k = g6) wc wD := by rw [hwD]; exact ((Chg.refl (fun k => k = g6) wc).setCell (p := ⟨g6, 2, none⟩) (Or.inl rfl) _).drew
    have HOD : Hid (OwnB wD w4.heap.size (.slice (some ⟨g6, 0, none⟩) n c6) (bs.set 2 128)) := by
      show OwnB _ _ _ _
      rw [hwD]
      exact (OwnB.set HOW.out 2 128).drew
    have hs14 := HB4.out.size
    have hs1c := (nx HB6.out HAS.out.bw).size
    have HBD : Hid (Below w1.heap.size w1 wD) := (nx HB6.out HAS.out.bw).trans (hcD.below (fun x hx => by have := HG6.out.1; omega) hs1c)
    have HRD : Hid (ORow wD q s o) := hcD.heap (HR1.out.below (nx HB6.out HAS.out.bw)) (by have h1 := HR1.out.lt; have h2 := HG6.out.1; omega)
    have HDW : Hid (wD.heap[d]? = some (.cells #[.slice A5 o.addr.length c5, .int .i64 o.port, .slice (some ⟨g6, 0, none⟩) n c6] 54 (0, 0))) := hcD.heap ((HAS.out.bw.block d (Array.getElem?_eq_some_iff.1 HD6.out).1).trans HD6.out) (by have := HGD.out.1; omega)
    have HAD : Hid (RdB wD A5 o.addr.length o.addr) := RdB.chgP (((OwnB.rd HO5.out).1.below HB56.out).below HAS.out.bw) hcD (fun b off e => HAP.out b off g6 0 e rfl)
    rw [← hwD]
    clear hwD hcD hs14 hs1c x2 f2 k2 h2i h2m HDD HAC HOI HDDw6 HACw6 HOIw6
    have HDDwD : Hid (∀ w', Below wD.heap.size wD w' → (w'.cell? ⟨q, 0, none⟩ = some (.slice s.A o.addr.length s.c) ∧ w'.cell? ⟨q, 1, none⟩ = some (.int .i64 o.port) ∧ w'.cell? ⟨q, 2, none⟩ = some (.int .i64 o.id) ∧ w'.cell? ⟨q, 3, none⟩ = some (.slice s.q.A o.q.name.length s.q.c) ∧ w'.cell? ⟨q, 4, none⟩ = some (.int .i64 o.q.type) ∧ w'.cell? ⟨q, 5, none⟩ = some (.int .i64 o.q.cls) ∧ w'.cell? ⟨d, 0, none⟩ = some (.slice A5 o.addr.length c5) ∧ w'.cell? ⟨d, 1, none⟩ = some (.int .i64 o.port) ∧ w'.cell? ⟨d, 2, none⟩ = some (.slice (some ⟨g6, 0, none⟩) n c6))) := fun w' hw => by
      have g := (hw.block d (Array.getElem?_eq_some_iff.1 HDW.out).1).trans HDW.out
      obtain ⟨z0, z1, z2, z3, z4, z5⟩ := (HRD.out.below hw).cells
      exact ⟨z0, z1, z2, z3, z4, z5, (cell_of_row _ _ _ _ _ _ g).trans rfl, (cell_of_row _ _ _ _ _ _ g).trans rfl, (cell_of_row _ _ _ _ _ _ g).trans rfl⟩
    have HOIwD : Hid (∀ w', Below wD.heap.size wD w' → Calls Try.prog 27 #[.agg #[.slice s.A o.addr.length s.c, .int .i64 o.port, .int .i64 o.id, .slice s.q.A o.q.name.length s.q.c, .int .i64 o.q.type, .int .i64 o.q.cls]] w' (RetP (fun v w'' => ∃ s', v = ouV s' o ∧ OIn (geS w'.heap.size w'') w'' s' o) w')) := fun w' hw => own18_any s o w' (HIW.out w' (nx HBD.out hw)) (HSW.out w' (nx HBD.out hw)) HN.out HA.out
    have HACwD : Hid (∀ (w7 : World) (s7 : OuS) (S : Nat → Prop), Below wD.heap.size wD w7 → OIn S w7 s7 o → (∀ b, S b → b < w7.heap.size) → Calls Try.prog 26 #[.agg #[.slice s7.A o.addr.length s7.c, .int .i64 o.port, .int .i64 o.id, .slice s7.q.A o.q.name.length s7.q.c, .int .i64 o.q.type, .int .i64 o.q.cls], .agg #[.slice A5 o.addr.length c5, .int .i64 o.port, .slice (some ⟨g6, 0, none⟩) n c6]] w7 (RetP (fun v _ => ∃ sm : MS, v = .tuple #[.agg #[.int .i64 o.id, .bool true, .int .i64 0, .bool false, .bool false, .bool false, .bool false, .int .i64 0, .slice sm.Q 1 sm.qc, .slice sm.A 0 sm.ac, .slice sm.U 0 sm.uc, .slice sm.X 0 sm.xc, .bool true, .int .i64 1232], .bool true]) w7)) := fun w7 s7 S hb hi hs => by
      refine Calls.mono (accept_yes s7 o A5 o.addr.length c5 o.addr 0 (some ⟨g6, 0, none⟩) n c6 (bs.set 2 128) w7 hi hs (HAD.out.below hb) ((OwnB.rd HOD.out).1.below hb) (fun b off e => Nat.lt_of_lt_of_le (ownB_blt18 HOD.out b off e) hb.size) ⟨HN2.out.2.2.2.1, Nat.le_trans HN2.out.2.2.2.2 (by unfold maxLen; omega)⟩ (Nat.le_trans HN2.out.2.1 (by omega)) HOK.out.a rfl (qryR o) HD2.out rfl rfl rfl rfl rfl) ?_
      rintro e w8 ⟨v8, rfl, ⟨s2, rfl⟩, hb8⟩
      exact ⟨_, rfl, ⟨s2, rfl⟩, hb8⟩
    go_upto_region 8 with (fail)
    go_cut [7, 8] (fun pv bv wc => ∃ (g : Nat) (sm : MS), pv = .pointer (some ⟨g, 0, none⟩) ∧ bv = .bool true ∧ Hid (AccSt wD wc g #[.int .i64 o.id, .bool true, .int .i64 0, .bool false, .bool false, .bool false, .bool false, .int .i64 0, .slice sm.Q 1 sm.qc, .slice sm.A 0 sm.ac, .slice sm.U 0 sm.uc, .slice sm.X 0 sm.xc, .bool true, .int .i64 1232]))
    case first =>
      have HZ0 : Hid (AccSt wD (wD.alloc (.cells #[.int .i64 0, .bool false, .int .i64 0, .bool false, .bool false, .bool false, .bool false, .int .i64 0, .slice none 0 0, .slice none 0 0, .slice none 0 0, .slice none 0 0, .bool false, .int .i64 0] 25)) wD.heap.size #[.int .i64 0, .bool false, .int .i64 0, .bool false, .bool false, .bool false, .bool false, .int .i64 0, .slice none 0 0, .slice none 0 0, .slice none 0 0, .slice none 0 0, .bool false, .int .i64 0]) := AccSt.after bl _
      have HZ1 : Hid (AccSt wD (wD.alloc (.cells #[.int .i64 0, .bool false, .int .i64 0, .bool false, .bool false, .bool false, .bool false, .int .i64 0, .slice none 0 0, .slice none 0 0, .slice none 0 0, .slice none 0 0, .bool false, .int .i64 0] 25)).drew wD.heap.size #[.int .i64 0, .bool false, .int .i64 0, .bool false, .bool false, .bool false, .bool false, .int .i64 0, .slice none 0 0, .slice none 0 0, .slice none 0 0, .slice none 0 0, .bool false, .int .i64 0]) := AccSt.below HZ0.out bl.drew
      have q1 := HDDwD.out wD bl
      have q2 := HDDwD.out wD.drew bl.drew
      have q3 := HDDwD.out (wD.alloc (.cells #[.int .i64 0, .bool false, .int .i64 0, .bool false, .bool false, .bool false, .bool false, .int .i64 0, .slice none 0 0, .slice none 0 0, .slice none 0 0, .slice none 0 0, .bool false, .int .i64 0] 25)) HZ0.out.bw
      have q4 := HDDwD.out (wD.alloc (.cells #[.int .i64 0, .bool false, .int .i64 0, .bool false, .bool false, .bool false, .bool false, .int .i64 0, .slice none 0 0, .slice none 0 0, .slice none 0 0, .slice none 0 0, .bool false, .int .i64 0] 25)).drew HZ1.out.bw
      go_region_held3 (fun w' => w'.cell? ⟨q, 0, none⟩ = some (.slice s.A o.addr.length s.c) ∧ w'.cell? ⟨q, 1, none⟩ = some (.int .i64 o.port) ∧ w'.cell? ⟨q, 2, none⟩ = some (.int .i64 o.id) ∧ w'.cell? ⟨q, 3, none⟩ = some (.slice s.q.A o.q.name.length s.q.c) ∧ w'.cell? ⟨q, 4, none⟩ = some (.int .i64 o.q.type) ∧ w'.cell? ⟨q, 5, none⟩ = some (.int .i64 o.q.cls) ∧ w'.cell? ⟨d, 0, none⟩ = some (.slice A5 o.addr.length c5) ∧ w'.cell? ⟨d, 1, none⟩ = some (.int .i64 o.port) ∧ w'.cell? ⟨d, 2, none⟩ = some (.slice (some ⟨g6, 0, none⟩) n c6))
        (first
          | with_reducible exact q1
          | with_reducible exact q2
          | with_reducible exact q3
          | with_reducible exact q4
          | with_reducible exact q5
          | with_reducible exact q6
          | with_reducible exact q7
          | with_reducible exact q8
          | with_reducible exact q9
          | with_reducible exact q10
          | fail)
        (first
          | (go_at_call 26; (with_reducible refine (HACwD.out (w7.alloc (.cells #[.int .i64 0, .bool false, .int .i64 0, .bool false, .bool false, .bool false, .bool false, .int .i64 0, .slice none 0 0, .slice none 0 0, .slice none 0 0, .slice none 0 0, .bool false, .int .i64 0] 25)) s7 _ HZ5.out.bw HI5.out HS5.out).mono ?_); rintro e w8 ⟨v8, rfl, ⟨sm, rfl⟩, hb8⟩; have HZ3 := Lib.hid (AccSt.below HZ5.out hb8); have q8 := HDDwD.out w8 HZ3.out.bw; have m0 : w8.cell? ⟨w7.heap.size, 0, none⟩ = some (.int .i64 0) := (AccSt.cell HZ3.out 0).trans rfl; have m1 : w8.cell? ⟨w7.heap.size, 1, none⟩ = some (.bool false) := (AccSt.cell HZ3.out 1).trans rfl; have m2 : w8.cell? ⟨w7.heap.size, 2, none⟩ = some (.int .i64 0) := (AccSt.cell HZ3.out 2).trans rfl; have m3 : w8.cell? ⟨w7.heap.size, 3, none⟩ = some (.bool false) := (AccSt.cell HZ3.out 3).trans rfl; have m4 : w8.cell? ⟨w7.heap.size, 4, none⟩ = some (.bool false) := (AccSt.cell HZ3.out 4).trans rfl; have m5 : w8.cell? ⟨w7.heap.size, 5, none⟩ = some (.bool false) := (AccSt.cell HZ3.out 5).trans rfl; have m6 : w8.cell? ⟨w7.heap.size, 6, none⟩ = some (.bool false) := (AccSt.cell HZ3.out 6).trans rfl; have m7 : w8.cell? ⟨w7.heap.size, 7, none⟩ = some (.int .i64 0) := (AccSt.cell HZ3.out 7).trans rfl; have m8 : w8.cell? ⟨w7.heap.size, 8, none⟩ = some (.slice none 0 0) := (AccSt.cell HZ3.out 8).trans rfl; have m9 : w8.cell? ⟨w7.heap.size, 9, none⟩ = some (.slice none 0 0) := (AccSt.cell HZ3.out 9).trans rfl; have m10 : w8.cell? ⟨w7.heap.size, 10, none⟩ = some (.slice none 0 0) := (AccSt.cell HZ3.out 10).trans rfl; have m11 : w8.cell? ⟨w7.heap.size, 11, none⟩ = some (.slice none 0 0) := (AccSt.cell HZ3.out 11).trans rfl; have m12 : w8.cell? ⟨w7.heap.size, 12, none⟩ = some (.bool false) := (AccSt.cell HZ3.out 12).trans rfl; have m13 : w8.cell? ⟨w7.heap.size, 13, none⟩ = some (.int .i64 0) := (AccSt.cell HZ3.out 13).trans rfl; have fz := AccSt.free HZ3.out; have HF := Lib.hid (AccSt.ahead HZ3.out rfl (.int .i64 o.id) (.bool true) (.int .i64 0) (.bool false) (.bool false) (.bool false) (.bool false) (.int .i64 0) (.slice sm.Q 1 sm.qc) (.slice sm.A 0 sm.ac) (.slice sm.U 0 sm.uc) (.slice sm.X 0 sm.xc) (.bool true) (.int .i64 1232)); have q9 := HDDwD.out _ HF.out.bw; unfold put14 at HF q9)
          | (go_at_call 26; (with_reducible refine (HACwD.out w7 s7 _ HB7.out HI7.out HS7.out).mono ?_); rintro e w8 ⟨v8, rfl, ⟨sm, rfl⟩, hb8⟩; have HB8 := Lib.hid (nx HB7.out hb8); have q8 := HDDwD.out w8 HB8.out; have HF := Lib.hid (AccSt.after HB8.out #[.int .i64 o.id, .bool true, .int .i64 0, .bool false, .bool false, .bool false, .bool false, .int .i64 0, .slice sm.Q 1 sm.qc, .slice sm.A 0 sm.ac, .slice sm.U 0 sm.uc, .slice sm.X 0 sm.xc, .bool true, .int .i64 1232]); have q9 := HDDwD.out _ HF.out.bw; have HY := Lib.hid (AccSt.after HB8.out #[.int .i64 0, .bool false, .int .i64 0, .bool false, .bool false, .bool false, .bool false, .int .i64 0, .slice none 0 0, .slice none 0 0, .slice none 0 0, .slice none 0 0, .bool false, .int .i64 0]); have q10 := HDDwD.out _ HY.out.bw)
          | (go_at_call 26; (with_reducible refine (HACwD.out w6a s7 _ HZ2.out.bw HI7.out HS7.out).mono ?_); rintro e w8 ⟨v8, rfl, ⟨sm, rfl⟩, hb8⟩; have HZ3 := Lib.hid (AccSt.below HZ2.out hb8); have q8 := HDDwD.out w8 HZ3.out.bw; have m0 : w8.cell? ⟨wD.heap.size, 0, none⟩ = some (.int .i64 0) := (AccSt.cell HZ3.out 0).trans rfl; have m1 : w8.cell? ⟨wD.heap.size, 1, none⟩ = some (.bool false) := (AccSt.cell HZ3.out 1).trans rfl; have m2 : w8.cell? ⟨wD.heap.size, 2, none⟩ = some (.int .i64 0) := (AccSt.cell HZ3.out 2).trans rfl; have m3 : w8.cell? ⟨wD.heap.size, 3, none⟩ = some (.bool false) := (AccSt.cell HZ3.out 3).trans rfl; have m4 : w8.cell? ⟨wD.heap.size, 4, none⟩ = some (.bool false) := (AccSt.cell HZ3.out 4).trans rfl; have m5 : w8.cell? ⟨wD.heap.size, 5, none⟩ = some (.bool false) := (AccSt.cell HZ3.out 5).trans rfl; have m6 : w8.cell? ⟨wD.heap.size, 6, none⟩ = some (.bool false) := (AccSt.cell HZ3.out 6).trans rfl; have m7 : w8.cell? ⟨wD.heap.size, 7, none⟩ = some (.int .i64 0) := (AccSt.cell HZ3.out 7).trans rfl; have m8 : w8.cell? ⟨wD.heap.size, 8, none⟩ = some (.slice none 0 0) := (AccSt.cell HZ3.out 8).trans rfl; have m9 : w8.cell? ⟨wD.heap.size, 9, none⟩ = some (.slice none 0 0) := (AccSt.cell HZ3.out 9).trans rfl; have m10 : w8.cell? ⟨wD.heap.size, 10, none⟩ = some (.slice none 0 0) := (AccSt.cell HZ3.out 10).trans rfl; have m11 : w8.cell? ⟨wD.heap.size, 11, none⟩ = some (.slice none 0 0) := (AccSt.cell HZ3.out 11).trans rfl; have m12 : w8.cell? ⟨wD.heap.size, 12, none⟩ = some (.bool false) := (AccSt.cell HZ3.out 12).trans rfl; have m13 : w8.cell? ⟨wD.heap.size, 13, none⟩ = some (.int .i64 0) := (AccSt.cell HZ3.out 13).trans rfl; have fz := AccSt.free HZ3.out; have HF := Lib.hid (AccSt.ahead HZ3.out rfl (.int .i64 o.id) (.bool true) (.int .i64 0) (.bool false) (.bool false) (.bool false) (.bool false) (.int .i64 0) (.slice sm.Q 1 sm.qc) (.slice sm.A 0 sm.ac) (.slice sm.U 0 sm.uc) (.slice sm.X 0 sm.xc) (.bool true) (.int .i64 1232)); have q9 := HDDwD.out _ HF.out.bw; unfold put14 at HF q9)
          | (go_at_call 27; (with_reducible refine (HOIwD.out wD.drew bl.drew).mono ?_); rintro e w7 ⟨v7, rfl, ⟨s7, rfl, hi7⟩, hb7⟩; unfold ouV ouCells; have HI7 := Lib.hid hi7; have HS7 : Hid (∀ b, geS wD.drew.heap.size w7 b → b < w7.heap.size) := (fun b hb => hb.2); have HB7 : Hid (Below wD.heap.size wD w7) := bl.drew.trans hb7; have q5 := HDDwD.out w7 HB7.out; have HZ5 : Hid (AccSt wD (w7.alloc (.cells #[.int .i64 0, .bool false, .int .i64 0, .bool false, .bool false, .bool false, .bool false, .int .i64 0, .slice none 0 0, .slice none 0 0, .slice none 0 0, .slice none 0 0, .bool false, .int .i64 0] 25)) w7.heap.size #[.int .i64 0, .bool false, .int .i64 0, .bool false, .bool false, .bool false, .bool false, .int .i64 0, .slice none 0 0, .slice none 0 0, .slice none 0 0, .slice none 0 0, .bool false, .int .i64 0]) := AccSt.after HB7.out _; have HI5 := Lib.hid (hi7.below (bl.alloc (Nat.le_refl _) (.cells #[.int .i64 0, .bool false, .int .i64 0, .bool false, .bool false, .bool false, .bool false, .int .i64 0, .slice none 0 0, .slice none 0 0, .slice none 0 0, .slice none 0 0, .bool false, .int .i64 0] 25)) (fun b hb => hb.2)); have HS5 : Hid (∀ b, geS wD.drew.heap.size w7 b → b < (w7.alloc (.cells #[.int .i64 0, .bool false, .int .i64 0, .bool false, .bool false, .bool false, .bool false, .int .i64 0, .slice none 0 0, .slice none 0 0, .slice none 0 0, .slice none 0 0, .bool false, .int .i64 0] 25)).heap.size) := (fun b hb => Nat.lt_of_lt_of_le hb.2 (bl.alloc (Nat.le_refl _) (.cells #[.int .i64 0, .bool false, .int .i64 0, .bool false, .bool false, .bool false, .bool false, .int .i64 0, .slice none 0 0, .slice none 0 0, .slice none 0 0, .slice none 0 0, .bool false, .int .i64 0] 25)).size); have q6 := HDDwD.out _ HZ5.out.bw)
          | (go_at_call 27; (with_reducible refine (HOIwD.out (wD.alloc (.cells #[.int .i64 0, .bool false, .int .i64 0, .bool false, .bool false, .bool false, .bool false, .int .i64 0, .slice none 0 0, .slice none 0 0, .slice none 0 0, .slice none 0 0, .bool false, .int .i64 0] 25)).drew HZ1.out.bw).mono ?_); rintro e w6a ⟨v7, rfl, ⟨s7, rfl, hi7⟩, hb7⟩; unfold ouV ouCells; have HI7 := Lib.hid hi7; have HS7 : Hid (∀ b, geS (wD.alloc (.cells #[.int .i64 0, .bool false, .int .i64 0, .bool false, .bool false, .bool false, .bool false, .int .i64 0, .slice none 0 0, .slice none 0 0, .slice none 0 0, .slice none 0 0, .bool false, .int .i64 0] 25)).drew.heap.size w6a b → b < w6a.heap.size) := (fun b hb => hb.2); have HZ2 := Lib.hid (AccSt.below HZ1.out hb7); have q5 := HDDwD.out w6a HZ2.out.bw)
          | fail)
      all_goals
        go_wp2
        go_meet
        case rel => exact ⟨_, sm, rfl, rfl, HF⟩
    case rest =>
      obtain ⟨gy, sy, rfl, rfl, HYS⟩ := hcut
      have y0 : wc.cell? ⟨gy, 0, none⟩ = some (.int .i64 o.id) := (AccSt.cell HYS.out 0).trans rfl
      have y5 : wc.cell? ⟨gy, 5, none⟩ = some (.bool false) := (AccSt.cell HYS.out 5).trans rfl
      have y9 : wc.cell? ⟨gy, 9, none⟩ = some (.slice sy.A 0 sy.ac) := (AccSt.cell HYS.out 9).trans rfl
      have y10 : wc.cell? ⟨gy, 10, none⟩ = some (.slice sy.U 0 sy.uc) := (AccSt.cell HYS.out 10).trans rfl
      have y11 : wc.cell? ⟨gy, 11, none⟩ = some (.slice sy.X 0 sy.xc) := (AccSt.cell HYS.out 11).trans rfl
      have y12 : wc.cell? ⟨gy, 12, none⟩ = some (.bool true) := (AccSt.cell HYS.out 12).trans rfl
      have y13 : wc.cell? ⟨gy, 13, none⟩ = some (.int .i64 1232) := (AccSt.cell HYS.out 13).trans rfl
      have yq := (HDDwD.out wc HYS.out.bw).2.2.1
      go_wp2
      go_ret
      exact ⟨rfl, nx HB1.out (nx HBD.out HYS.out.bw)⟩
set_option maxHeartbeats 4000000 in
theorem scrubEcho_long (s : OuS) (o : Ou) (w : World) (hl : 200 < o.q.name.length ∨ 100 < o.addr.length) :
    Calls Try.prog 8 #[ouV s o] w (LawT w) := by
  obtain ⟨w1, hw1⟩ : ∃ w1, w1 = w.alloc (.cells (ouCells s o) 52) := ⟨_, rfl⟩
  have hb1 : Below w.heap.size w w1 := by rw [hw1]; exact bl.alloc (Nat.le_refl _) _
  have HR1 : Hid (ORow w1 w.heap.size s o) := by show ORow _ _ _ _; rw [hw1]; exact ORow.made w s o
  have HB1 := Lib.hid hb1
  unfold ouV
  unfold ouCells at hw1 ⊢
  clear hb1
  by_cases h2 : (200 : Int) < (o.q.name.length : Int)
  · go_enter Try.func8, Try.ntmps8
    go_upto_region 1 with (fail)
    rw [← hw1]
    clear hw1
    go_wp2_with (first
      | (go_at_call 24; refine (answers18_any w2).mono ?_; rintro e w3 ⟨rfl, hb3⟩)
      | (go_at_call 24; refine (answers18_any w1).mono ?_; rintro e w2 ⟨rfl, hb2⟩; obtain ⟨z0, z1, z2, z3, z4, z5⟩ := (HR1.out.below hb2).cells)
      | fail)
    go_ret
    exact ⟨rfl, nx (nx HB1.out hb2) hb3⟩
  · have h1 : (100 : Int) < (o.addr.length : Int) := by omega
    go_enter Try.func8, Try.ntmps8
    go_upto_region 1 with (fail)
    rw [← hw1]
    clear hw1
    go_wp2_with (first
      | (go_at_call 24; refine (answers18_any w2).mono ?_; rintro e w3 ⟨rfl, hb3⟩)
      | (go_at_call 24; refine (answers18_any w1).mono ?_; rintro e w2 ⟨rfl, hb2⟩; obtain ⟨z0, z1, z2, z3, z4, z5⟩ := (HR1.out.below hb2).cells)
      | fail)
    go_ret
    exact ⟨rfl, nx (nx HB1.out hb2) hb3⟩
theorem scrubEcho_walk (s : OuS) (o : Ou) (w : World) (h : OIn (ltS w) w s o) : Calls Try.prog 8 #[ouV s o] w (LawT w) := by
  by_cases hl : 200 < o.q.name.length ∨ 100 < o.addr.length
  · exact scrubEcho_long s o w hl
  · by_cases hok : OkO o
    · exact scrubEcho_ok s o w h (by omega) (by omega) hok
    · exact scrubEcho_bad s o w h (by omega) (by omega) hok
end Go.Proofs.Ytmkfjddighabcaa

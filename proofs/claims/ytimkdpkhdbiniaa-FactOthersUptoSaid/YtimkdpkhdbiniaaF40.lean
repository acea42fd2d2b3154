/- Parts of a proof, joined: Law13O. -/
import Derived.Test.YtimkdpkhdbiniaaF03
import Derived.Test.YtimkdpkhdbiniaaF05
import Derived.Test.YtimkdpkhdbiniaaM03
import Derived.Test.YtimkdpkhdbiniaaF00
/- FactOthers: the law's walk (printed by gen/law13o.py). -/
namespace Go.Proofs.Ytimkdpkhdbiniaa
open Go.RowKit
set_option maxRecDepth 100000
set_option linter.unusedVariables false

set_option maxHeartbeats 8000000 in
theorem factOthers_heavy (sq : QS) (q : Qu) (s : MS) (m : Ms) (Z : Option Addr) (nz cz : Nat) (zs : List (List UInt8)) (d : Nat) (w : World) (hq : QIn (ltS w) w sq q) (hm : MIn (ltS w) w s m) (hz : Els encS (ltS w) (ltS w) w Z nz zs) (hzc : nz ≤ cz ∧ cz ≤ maxLen) (hd : d < 256) (hqs : m.qs.length ≤ 1048576) (hlen : (m.an.length + m.au.length + m.ex.length) * 168 ≤ 140737488355328) (hL : ltM13 m = false) :
    Calls Try.prog 8 #[quV sq q, msV s m, .slice Z nz cz, .int .u8 (d : Int)] w (LawT w) := by
  obtain ⟨w1, hw1⟩ : ∃ w1, w1 = w.alloc (.cells (qCells sq q) 25) := ⟨_, rfl⟩
  obtain ⟨w2, hw2⟩ : ∃ w2, w2 = w1.alloc (.cells (mCells s m) 31) := ⟨_, rfl⟩
  have hb1 : Below w.heap.size w w1 := by rw [hw1]; exact bl.alloc (Nat.le_refl _) _
  have hb2 : Below w1.heap.size w1 w2 := by rw [hw2]; exact bl.alloc (Nat.le_refl _) _
  have hz1 : w1.heap.size = w.heap.size + 1 := by rw [hw1]; simp
  have hz2 : w2.heap.size = w.heap.size + 2 := by rw [hw2]; simp; omega
  have HQ1 : Hid (QRow w2 w.heap.size sq q) := by
    have h : QRow w1 w.heap.size sq q := by rw [hw1]; exact QRow.made w sq q
    exact h.below hb2
  have HM1 : Hid (MRow w2 (w.heap.size + 1) s m) := by show MRow _ _ _ _; rw [hw2, ← hz1]; exact MRow.made w1 s m
  have HB2 : Hid (Below w.heap.size w w2) := nx hb1 hb2
  have HZ2 := Lib.hid hz2
  have HMI := Lib.hid hm
  have HQW : Hid (∀ w', Below w.heap.size w w' → QIn (ltS w) w' sq q) := fun w' hw => hq.below hw (fun b hb => hb)
  have HMW : Hid (∀ w', Below w.heap.size w w' → MIn (ltS w) w' s m) := fun w' hw => hm.below hw (fun b hb => hb)
  have HZW : Hid (∀ w', Below w.heap.size w w' → Els encS (ltS w) (ltS w) w' Z nz zs) := fun w' hw => hz.below hw (fun b hb => hb) (fun b hb => hb)
  have HLI : Hid (∀ w', Below w.heap.size w w' → Calls Try.prog 31 #[msV s m] w' (RetP (fun v _ => v = .bool (ltM13 m)) w')) := fun w' hw => light13_any s m w' (hm.below hw (fun b hb => hb)) (fun b hb => Nat.lt_of_lt_of_le hb hw.size) (by omega) hlen
  rw [hL] at HLI
  unfold msV mCells at HLI
  unfold quV msV
  unfold qCells at hw1
  unfold mCells at hw2 ⊢
  clear hm hq hz hb1 hb2 hz1 hz2 hlen hqs hd hzc hL
  go_enter Try.func8, Try.ntmps8
  go_upto_region 1 with (fail)
  rw [← hw1, ← hw2]
  clear hw1 hw2
  go_wp2_with (first
    | (go_at_call 30; (with_reducible refine (answers13_any w4).mono ?_); rintro e w5 ⟨rfl, hb5⟩)
    | (go_at_call 31; (with_reducible refine (HLI.out w3 (nx HB2.out hb3)).mono ?_); rintro e w4 ⟨v4, rfl, rfl, hb4⟩; obtain ⟨y0, y1, y2⟩ := (HQ1.out.below (nx hb3 hb4)).cells)
    | (go_at_call 30; (with_reducible refine (answers13_any w2).mono ?_); rintro e w3 ⟨rfl, hb3⟩; obtain ⟨z0, z1, z2, z3, z4, z5, z6, z7, z8, z9, z10, z11, z12, z13⟩ := (HM1.out.below hb3).cells)
    | fail)
  go_ret
  exact ⟨rfl, nx (nx HB2.out (nx hb3 hb4)) hb5⟩

set_option maxHeartbeats 8000000 in
theorem factOthers_zone (sq : QS) (q : Qu) (s : MS) (m : Ms) (Z : Option Addr) (nz cz : Nat) (zs : List (List UInt8)) (d : Nat) (w : World) (hq : QIn (ltS w) w sq q) (hm : MIn (ltS w) w s m) (hz : Els encS (ltS w) (ltS w) w Z nz zs) (hzc : nz ≤ cz ∧ cz ≤ maxLen) (hd : d < 256) (hqs : m.qs.length ≤ 1048576) (hlen : (m.an.length + m.au.length + m.ex.length) * 168 ≤ 140737488355328) (hL : ltM13 m = true) (h1 : 200 < nz) :
    Calls Try.prog 8 #[quV sq q, msV s m, .slice Z nz cz, .int .u8 (d : Int)] w (LawT w) := by
  obtain ⟨w1, hw1⟩ : ∃ w1, w1 = w.alloc (.cells (qCells sq q) 25) := ⟨_, rfl⟩
  obtain ⟨w2, hw2⟩ : ∃ w2, w2 = w1.alloc (.cells (mCells s m) 31) := ⟨_, rfl⟩
  have hb1 : Below w.heap.size w w1 := by rw [hw1]; exact bl.alloc (Nat.le_refl _) _
  have hb2 : Below w1.heap.size w1 w2 := by rw [hw2]; exact bl.alloc (Nat.le_refl _) _
  have hz1 : w1.heap.size = w.heap.size + 1 := by rw [hw1]; simp
  have hz2 : w2.heap.size = w.heap.size + 2 := by rw [hw2]; simp; omega
  have HQ1 : Hid (QRow w2 w.heap.size sq q) := by
    have h : QRow w1 w.heap.size sq q := by rw [hw1]; exact QRow.made w sq q
    exact h.below hb2
  have HM1 : Hid (MRow w2 (w.heap.size + 1) s m) := by show MRow _ _ _ _; rw [hw2, ← hz1]; exact MRow.made w1 s m
  have HB2 : Hid (Below w.heap.size w w2) := nx hb1 hb2
  have HZ2 := Lib.hid hz2
  have HMI := Lib.hid hm
  have HQW : Hid (∀ w', Below w.heap.size w w' → QIn (ltS w) w' sq q) := fun w' hw => hq.below hw (fun b hb => hb)
  have HMW : Hid (∀ w', Below w.heap.size w w' → MIn (ltS w) w' s m) := fun w' hw => hm.below hw (fun b hb => hb)
  have HZW : Hid (∀ w', Below w.heap.size w w' → Els encS (ltS w) (ltS w) w' Z nz zs) := fun w' hw => hz.below hw (fun b hb => hb) (fun b hb => hb)
  have HLI : Hid (∀ w', Below w.heap.size w w' → Calls Try.prog 31 #[msV s m] w' (RetP (fun v _ => v = .bool (ltM13 m)) w')) := fun w' hw => light13_any s m w' (hm.below hw (fun b hb => hb)) (fun b hb => Nat.lt_of_lt_of_le hb hw.size) (by omega) hlen
  rw [hL] at HLI
  have h1d : decide ((200 : Int) < (nz : Int)) = true := decide_eq_true (by omega)
  unfold msV mCells at HLI
  unfold quV msV
  unfold qCells at hw1
  unfold mCells at hw2 ⊢
  clear hm hq hz hb1 hb2 hz1 hz2 hlen hqs hd hzc hL h1
  go_enter Try.func8, Try.ntmps8
  go_upto_region 1 with (fail)
  rw [← hw1, ← hw2]
  clear hw1 hw2
  go_wp2_with (first
    | (go_at_call 30; (with_reducible refine (answers13_any w4).mono ?_); rintro e w5 ⟨rfl, hb5⟩)
    | (go_at_call 31; (with_reducible refine (HLI.out w3 (nx HB2.out hb3)).mono ?_); rintro e w4 ⟨v4, rfl, rfl, hb4⟩; obtain ⟨y0, y1, y2⟩ := (HQ1.out.below (nx hb3 hb4)).cells)
    | (go_at_call 30; (with_reducible refine (answers13_any w2).mono ?_); rintro e w3 ⟨rfl, hb3⟩; obtain ⟨z0, z1, z2, z3, z4, z5, z6, z7, z8, z9, z10, z11, z12, z13⟩ := (HM1.out.below hb3).cells)
    | fail)
  go_ret
  exact ⟨rfl, nx (nx HB2.out (nx hb3 hb4)) hb5⟩

set_option maxHeartbeats 8000000 in
theorem factOthers_name (sq : QS) (q : Qu) (s : MS) (m : Ms) (Z : Option Addr) (nz cz : Nat) (zs : List (List UInt8)) (d : Nat) (w : World) (hq : QIn (ltS w) w sq q) (hm : MIn (ltS w) w s m) (hz : Els encS (ltS w) (ltS w) w Z nz zs) (hzc : nz ≤ cz ∧ cz ≤ maxLen) (hd : d < 256) (hqs : m.qs.length ≤ 1048576) (hlen : (m.an.length + m.au.length + m.ex.length) * 168 ≤ 140737488355328) (hL : ltM13 m = true) (h1 : ¬ 200 < nz) (h2 : 200 < q.name.length) :
    Calls Try.prog 8 #[quV sq q, msV s m, .slice Z nz cz, .int .u8 (d : Int)] w (LawT w) := by
  obtain ⟨w1, hw1⟩ : ∃ w1, w1 = w.alloc (.cells (qCells sq q) 25) := ⟨_, rfl⟩
  obtain ⟨w2, hw2⟩ : ∃ w2, w2 = w1.alloc (.cells (mCells s m) 31) := ⟨_, rfl⟩
  have hb1 : Below w.heap.size w w1 := by rw [hw1]; exact bl.alloc (Nat.le_refl _) _
  have hb2 : Below w1.heap.size w1 w2 := by rw [hw2]; exact bl.alloc (Nat.le_refl _) _
  have hz1 : w1.heap.size = w.heap.size + 1 := by rw [hw1]; simp
  have hz2 : w2.heap.size = w.heap.size + 2 := by rw [hw2]; simp; omega
  have HQ1 : Hid (QRow w2 w.heap.size sq q) := by
    have h : QRow w1 w.heap.size sq q := by rw [hw1]; exact QRow.made w sq q
    exact h.below hb2
  have HM1 : Hid (MRow w2 (w.heap.size + 1) s m) := by show MRow _ _ _ _; rw [hw2, ← hz1]; exact MRow.made w1 s m
  have HB2 : Hid (Below w.heap.size w w2) := nx hb1 hb2
  have HZ2 := Lib.hid hz2
  have HMI := Lib.hid hm
  have HQW : Hid (∀ w', Below w.heap.size w w' → QIn (ltS w) w' sq q) := fun w' hw => hq.below hw (fun b hb => hb)
  have HMW : Hid (∀ w', Below w.heap.size w w' → MIn (ltS w) w' s m) := fun w' hw => hm.below hw (fun b hb => hb)
  have HZW : Hid (∀ w', Below w.heap.size w w' → Els encS (ltS w) (ltS w) w' Z nz zs) := fun w' hw => hz.below hw (fun b hb => hb) (fun b hb => hb)
  have HLI : Hid (∀ w', Below w.heap.size w w' → Calls Try.prog 31 #[msV s m] w' (RetP (fun v _ => v = .bool (ltM13 m)) w')) := fun w' hw => light13_any s m w' (hm.below hw (fun b hb => hb)) (fun b hb => Nat.lt_of_lt_of_le hb hw.size) (by omega) hlen
  rw [hL] at HLI
  have h1d : decide ((200 : Int) < (nz : Int)) = false := decide_eq_false (by omega)
  have h2d : decide ((200 : Int) < (q.name.length : Int)) = true := decide_eq_true (by omega)
  unfold msV mCells at HLI
  unfold quV msV
  unfold qCells at hw1
  unfold mCells at hw2 ⊢
  clear hm hq hz hb1 hb2 hz1 hz2 hlen hqs hd hzc hL h1 h2
  go_enter Try.func8, Try.ntmps8
  go_upto_region 1 with (fail)
  rw [← hw1, ← hw2]
  clear hw1 hw2
  go_wp2_with (first
    | (go_at_call 30; (with_reducible refine (answers13_any w4).mono ?_); rintro e w5 ⟨rfl, hb5⟩)
    | (go_at_call 31; (with_reducible refine (HLI.out w3 (nx HB2.out hb3)).mono ?_); rintro e w4 ⟨v4, rfl, rfl, hb4⟩; obtain ⟨y0, y1, y2⟩ := (HQ1.out.below (nx hb3 hb4)).cells)
    | (go_at_call 30; (with_reducible refine (answers13_any w2).mono ?_); rintro e w3 ⟨rfl, hb3⟩; obtain ⟨z0, z1, z2, z3, z4, z5, z6, z7, z8, z9, z10, z11, z12, z13⟩ := (HM1.out.below hb3).cells)
    | fail)
  go_ret
  exact ⟨rfl, nx (nx HB2.out (nx hb3 hb4)) hb5⟩

/-- What the law makes of the message. -/
def othM (q : Qu) (m : Ms) : Ms := { m with resp := true, op := 0, rcode := 0, qs := [q] }
def othS (s : MS) (g : Nat) : MS := { s with Q := some ⟨g, 0, none⟩, qc := 1 }
structure OthSt (w wc : World) (q0 : Nat) (sq : QS) (q : Qu) : Prop where
  B : Below w.heap.size w wc
  Q : QRow wc q0 sq q
  M : ∃ s m, MRow wc (q0 + 1) s m ∧ MIn (ltS wc) wc s m ∧ LtM m ∧ askB q m = false
theorem qs_here {S : Nat → Prop} {w : World} {g : Nat} {sq : QS} {x : Qu} (h : QIn S w sq x) (hr : QRow w g sq x) (hg : S g) : Els encQu S S w (some ⟨g, 0, none⟩) 1 [x] := by
  refine ⟨rfl, fun _ => ⟨g, 0, rfl, hg, fun i y hy => ?_⟩⟩
  match i, hy with
  | 0, hy =>
    injection hy with hy
    subst hy
    refine ⟨(qCells sq x).toList, ⟨sq.A, sq.c, rfl, h.n, h.cn, h.it, h.ic⟩, fun j u hu => ?_⟩
    have hc := QRow.cell hr j
    rw [Nat.zero_mul, Nat.zero_add, Nat.zero_add]
    rw [hc]
    simpa using hu
theorem oth_ok {w wc : World} {q0 : Nat} {sq : QS} {q : Qu} {s : MS} {m : Ms} (r : Bool) (o k : Int) (l : List Qu) (A : Option Addr) (c : Nat) (hB : Below w.heap.size w wc) (hQ : QRow wc q0 sq q) (hM : MRow wc (q0 + 1) { s with Q := A, qc := c } { m with resp := r, op := o, rcode := k, qs := l }) (hel : Els encQu (ltS wc) (ltS wc) wc A l.length l) (hc : l.length ≤ c ∧ c ≤ maxLen) (ho : i64S o) (hk : i64S k) (hl : l.length ≤ 2) (hn : ∀ x ∈ l, x.name.length ≤ 1000) (ha : askB q { m with resp := r, op := o, rcode := k, qs := l } = false) (hI : MIn (ltS w) w s m) (hL : LtMsg13 m) : OthSt w wc q0 sq q := by
  have h2 : MIn (ltS wc) wc s m := (hI.below hB (fun b hb => hb)).mono (fun b hb => Nat.lt_of_lt_of_le hb hB.size)
  refine ⟨hB, hQ, _, _, hM, ⟨hel, h2.a, h2.u, h2.x, hc, h2.ca, h2.cu, h2.cx, h2.ii, ho, hk, h2.is⟩, ?_, ha⟩
  have hall := hL.all
  rw [List.length_append, List.length_append] at hall
  refine ⟨by show l.length ≤ _; omega, fun j => ?_, fun x hx => by have := hn x hx; omega, fun j x hx => ?_⟩
  · match j with
    | 0 => show m.an.length ≤ _; omega
    | 1 => show m.au.length ≤ _; omega
    | n + 2 => show m.ex.length ≤ _; omega
  · have hx' : x ∈ m.an ++ m.au ++ m.ex := by
      match j, hx with
      | 0, hx => exact List.mem_append_left _ (List.mem_append_left _ hx)
      | 1, hx => exact List.mem_append_left _ (List.mem_append_right _ hx)
      | n + 2, hx => exact List.mem_append_right _ hx
    obtain ⟨h1, h2, h3, h4, h5, h6⟩ := hL.r x hx'
    exact ⟨⟨by omega, by omega, by omega, by omega, by omega⟩, by omega⟩
/-- A store into the message's box. -/
theorem oth_put {w w6 : World} {q0 g : Nat} {sq sg : QS} {q qg : Qu} (hB : Below w.heap.size w w6) (hQ : QRow w6 q0 sq q) (hG : QRow w6 g sg qg) (hq : w.heap.size = q0) (hg : q0 + 1 < g) (hl : q0 + 1 < w6.heap.size) (j : Nat) (v : Value) : Below w.heap.size w (w6.setCell ⟨q0 + 1, j, none⟩ v) ∧ QRow (w6.setCell ⟨q0 + 1, j, none⟩ v) q0 sq q ∧ QRow (w6.setCell ⟨q0 + 1, j, none⟩ v) g sg qg := by
  have hC : Chg (fun k => k = q0 + 1) w6 (w6.setCell ⟨q0 + 1, j, none⟩ v) := chg_g1 _ _ _ _
  exact ⟨hB.trans (hC.below (fun x hx => by omega) hB.size), hC.heap hQ (by omega), hC.heap hG (by omega)⟩
def anoL : List UInt8 := [97, 110, 111, 116, 104, 101, 114]
/-- What the operations of the last region leave. -/
def psiO (sq : QS) (q : Qu) (s : MS) (m : Ms) (Z : Option Addr) (nz cz : Nat) (zs : List (List UInt8)) (B0 : Nat) : Nat → Value → World → Prop
  | 0, v, _ => v = quV sq q
  | 1, v, _ => v = msV s m
  | 2, v, w => ∃ s', v = msV s' m ∧ MIn (ltS w) w s' m
  | 3, v, w => ∃ b, v = .slice (some ⟨b, 0, none⟩) 0 0 ∧ B0 ≤ b ∧ w.heap[b]? = some (.cells #[] 9 (0, 0))
  | 4, v, _ => v = .slice Z nz cz
  | 5, v, w => ∃ A c, v = .slice A nz c ∧ Els encS (ltS w) (ltS w) w A nz zs
  | 6, v, _ => v = .slice none 0 0
  | 7, v, _ => v = .int .i64 0
  | _, v, _ => v = .bool true
theorem psiO_below {sq : QS} {q : Qu} {s : MS} {m : Ms} {Z : Option Addr} {nz cz : Nat} {zs : List (List UInt8)} {B0 : Nat} (j : Nat) (v : Value) (w w' : World) (hb : Below w.heap.size w w') (h : psiO sq q s m Z nz cz zs B0 j v w) : psiO sq q s m Z nz cz zs B0 j v w' := by
  match j, h with
  | 0, h => exact h
  | 1, h => exact h
  | 2, ⟨s', h1, h2⟩ => exact ⟨s', h1, (h2.below hb (fun _ h => h)).mono (fun b h => Nat.lt_of_lt_of_le h hb.size)⟩
  | 3, ⟨b, h1, h2, h3⟩ => exact ⟨b, h1, h2, (hb.block b (Array.getElem?_eq_some_iff.1 h3).1).trans h3⟩
  | 4, h => exact h
  | 5, ⟨A, c, h1, h2⟩ => exact ⟨A, c, h1, RdE.below h2 hb⟩
  | 6, h => exact h
  | 7, h => exact h
  | n + 8, h => exact h
theorem askB_resp {q : Qu} {m : Ms} (h : m.resp = false) : askB q m = false := by unfold askB; rw [h]; simp
theorem askB_op {q : Qu} {m : Ms} (h : ¬ m.op = 0) : askB q m = false := by unfold askB; simp [h]
theorem askB_rc {q : Qu} {m : Ms} (h : ¬ m.rcode = 0) (h3 : ¬ m.rcode = 3) : askB q m = false := by unfold askB; simp [h, h3]
theorem askB_q {q : Qu} {m : Ms} (h : qsB q m.qs = false) : askB q m = false := by unfold askB; rw [h, Bool.and_false]

set_option maxHeartbeats 16000000 in
theorem factOthers_main (sq : QS) (q : Qu) (s : MS) (m : Ms) (Z : Option Addr) (nz cz : Nat) (zs : List (List UInt8)) (d : Nat) (w : World) (hq : QIn (ltS w) w sq q) (hm : MIn (ltS w) w s m) (hz : Els encS (ltS w) (ltS w) w Z nz zs) (hzc : nz ≤ cz ∧ cz ≤ maxLen) (hd : d < 256) (hqs : m.qs.length ≤ 1048576) (hlen : (m.an.length + m.au.length + m.ex.length) * 168 ≤ 140737488355328) (hL : LtMsg13 m) (h1 : ¬ 200 < nz) (h2 : ¬ 200 < q.name.length) :
    Calls Try.prog 8 #[quV sq q, msV s m, .slice Z nz cz, .int .u8 (d : Int)] w (LawT w) := by
  obtain ⟨w1, hw1⟩ : ∃ w1, w1 = w.alloc (.cells (qCells sq q) 25) := ⟨_, rfl⟩
  obtain ⟨w2, hw2⟩ : ∃ w2, w2 = w1.alloc (.cells (mCells s m) 31) := ⟨_, rfl⟩
  have hb1 : Below w.heap.size w w1 := by rw [hw1]; exact bl.alloc (Nat.le_refl _) _
  have hb2 : Below w1.heap.size w1 w2 := by rw [hw2]; exact bl.alloc (Nat.le_refl _) _
  have hz1 : w1.heap.size = w.heap.size + 1 := by rw [hw1]; simp
  have hz2 : w2.heap.size = w.heap.size + 2 := by rw [hw2]; simp; omega
  have HQ1 : Hid (QRow w2 w.heap.size sq q) := by
    have h : QRow w1 w.heap.size sq q := by rw [hw1]; exact QRow.made w sq q
    exact h.below hb2
  have HM1 : Hid (MRow w2 (w.heap.size + 1) s m) := by show MRow _ _ _ _; rw [hw2, ← hz1]; exact MRow.made w1 s m
  have HB2 : Hid (Below w.heap.size w w2) := nx hb1 hb2
  have HZ2 := Lib.hid hz2
  have HMI := Lib.hid hm
  have HQW : Hid (∀ w', Below w.heap.size w w' → QIn (ltS w) w' sq q) := fun w' hw => hq.below hw (fun b hb => hb)
  have HMW : Hid (∀ w', Below w.heap.size w w' → MIn (ltS w) w' s m) := fun w' hw => hm.below hw (fun b hb => hb)
  have HZW : Hid (∀ w', Below w.heap.size w w' → Els encS (ltS w) (ltS w) w' Z nz zs) := fun w' hw => hz.below hw (fun b hb => hb) (fun b hb => hb)
  have HLI : Hid (∀ w', Below w.heap.size w w' → Calls Try.prog 31 #[msV s m] w' (RetP (fun v _ => v = .bool (ltM13 m)) w')) := fun w' hw => light13_any s m w' (hm.below hw (fun b hb => hb)) (fun b hb => Nat.lt_of_lt_of_le hb hw.size) (by omega) hlen
  rw [ltM13_yes hL] at HLI
  have h1d : decide ((200 : Int) < (nz : Int)) = false := decide_eq_false (by omega)
  have h2d : decide ((200 : Int) < (q.name.length : Int)) = false := decide_eq_false (by omega)
  have HN : Hid (nz ≤ 200 ∧ q.name.length ≤ 200) := ⟨by omega, by omega⟩
  have HL := Lib.hid hL
  have HZC := Lib.hid hzc
  have HD := Lib.hid hd
  unfold msV mCells at HLI
  unfold quV msV
  unfold qCells at hw1
  unfold mCells at hw2 ⊢
  clear hm hq hz hb1 hb2 hz1 hz2 hlen hqs hd hzc hL h1 h2
  go_enter Try.func8, Try.ntmps8
  go_upto_region 1 with (fail)
  rw [← hw1, ← hw2]
  clear hw1 hw2
  generalize hqe : w.heap.size = q0 at HQ1 HM1 HZ2 ⊢
  have HQE := Lib.hid hqe
  clear hqe
  go_upto_region 3 with (first
    | (go_at_call 31; (with_reducible refine (HLI.out w3 (nx HB2.out hb3)).mono ?_); rintro e w4 ⟨v4, rfl, rfl, hb4⟩; obtain ⟨y0, y1, y2⟩ := (HQ1.out.below (nx hb3 hb4)).cells)
    | (go_at_call 30; (with_reducible refine (answers13_any w2).mono ?_); rintro e w3 ⟨rfl, hb3⟩; obtain ⟨z0, z1, z2, z3, z4, z5, z6, z7, z8, z9, z10, z11, z12, z13⟩ := (HM1.out.below hb3).cells)
    | fail)
  have HB4 : Hid (Below w.heap.size w w4) := nx HB2.out (nx hb3 hb4)
  have HM4 := Lib.hid (HM1.out.below (nx hb3 hb4))
  have HQ4 := Lib.hid (HQ1.out.below (nx hb3 hb4))
  clear hb3 hb4 z0 z1 z2 z3 z4 z5 z6 z7 z8 z9 z10 z11 z12 z13 h1d h2d
  have f1 : w4.frozen? ⟨q0 + 1, 1, none⟩ = false := HM4.out.free 1
  have f2 : w4.frozen? ⟨q0 + 1, 2, none⟩ = false := HM4.out.free 2
  have f7 : w4.frozen? ⟨q0 + 1, 7, none⟩ = false := HM4.out.free 7
  obtain ⟨z0, z1, z2, z3, z4, z5, z6, z7, z8, z9, z10, z11, z12, z13⟩ := HM4.out.cells
  go_upto_region 4 with (fail)
  obtain ⟨w5, hw5⟩ : ∃ u, u = ((w4.setCell ⟨q0 + 1, 1, none⟩ (.bool true)).setCell ⟨q0 + 1, 2, none⟩ (.int .i64 0)).setCell ⟨q0 + 1, 7, none⟩ (.int .i64 0) := ⟨_, rfl⟩
  have hM5 : MRow w5 (q0 + 1) s { m with resp := true, op := 0, rcode := 0 } := by
    rw [hw5]
    exact MRow.put (MRow.put (MRow.put HM4.out 1 (.bool true) s { m with resp := true } rfl) 2 (.int .i64 0) s { m with resp := true, op := 0 } rfl) 7 (.int .i64 0) s _ rfl
  have hk5 : ∀ {u : World} (j : Nat) (v : Value), Chg (fun k => k = q0 + 1) w4 u → Chg (fun k => k = q0 + 1) w4 (u.setCell ⟨q0 + 1, j, none⟩ v) := fun j v h => h.setCell (p := ⟨q0 + 1, j, none⟩) (Or.inl rfl) v
  have hC5 : Chg (fun k => k = q0 + 1) w4 w5 := by rw [hw5]; exact hk5 7 _ (hk5 2 _ (hk5 1 _ (Chg.refl _ w4)))
  have HM5 := Lib.hid hM5
  have HQ5 : Hid (QRow w5 q0 sq q) := hC5.heap HQ4.out (by omega)
  have HB5 : Hid (Below w.heap.size w w5) := HB4.out.trans (hC5.below (fun x hx => by have := HQE.out; omega) (by have := HB4.out.size; exact this))
  rw [← hw5]
  clear hw5 hk5 hC5 hM5 f1 f2 f7 z0 z1 z2 z3 z4 z5 z6 z7 z8 z9 z10 z11 z12 z13 y0 y1 y2
  obtain ⟨y0, y1, y2⟩ := HQ5.out.cells
  have c8 : (w5.alloc (.cells #[.slice sq.A q.name.length sq.c, .int .i64 q.type, .int .i64 q.cls] 25)).cell? ⟨q0 + 1, 8, none⟩ = some (.slice s.Q m.qs.length s.qc) := ((HM5.out.below (bl.alloc (Nat.le_refl _) _)).cell 8).trans rfl
  have f8 : (w5.alloc (.cells #[.slice sq.A q.name.length sq.c, .int .i64 q.type, .int .i64 q.cls] 25)).frozen? ⟨q0 + 1, 8, none⟩ = false := (HM5.out.below (bl.alloc (Nat.le_refl _) _)).free 8
  have c8' : w5.cell? ⟨q0 + 1, 8, none⟩ = some (.slice s.Q m.qs.length s.qc) := (HM5.out.cell 8).trans rfl
  have f8' : w5.frozen? ⟨q0 + 1, 8, none⟩ = false := HM5.out.free 8
  have hlt5 : q0 + 1 < w5.heap.size := HM5.out.lt
  go_upto_region 5 with (fail)
  obtain ⟨u5, hu5⟩ : ∃ u, u = w5.setCell ⟨q0 + 1, 8, none⟩ (.slice (some ⟨w5.heap.size, 0, none⟩) 1 1) := ⟨_, rfl⟩
  obtain ⟨g, hg⟩ : ∃ g, g = w5.heap.size := ⟨_, rfl⟩
  have hMu : MRow u5 (q0 + 1) (othS s g) (othM q m) := by rw [hu5, hg]; exact MRow.put HM5.out 8 _ _ _ rfl
  have hCu : Chg (fun k => k = q0 + 1) w5 u5 := by rw [hu5]; exact chg_g1 _ _ _ _
  have hzu : u5.heap.size = g := by rw [hu5, hg]; simp
  have hQu : QRow u5 q0 sq q := hCu.heap HQ5.out (by omega)
  have hBu : Below w.heap.size w u5 := HB5.out.trans (hCu.below (fun x hx => by have := HQE.out; omega) (by have := HB5.out.size; exact this))
  obtain ⟨w6, hw6⟩ : ∃ u, u = u5.alloc (.cells (qCells sq q) 25) := ⟨_, rfl⟩
  have hb6 : Below u5.heap.size u5 w6 := by rw [hw6]; exact bl.alloc (Nat.le_refl _) _
  have hI6 : MIn (ltS w6) w6 (othS s g) (othM q m) := by
    have h1 := one_qu (HQW.out u5 hBu) (fun b hb => Nat.lt_of_lt_of_le hb hBu.size)
    rw [← hw6, hzu] at h1
    have h2 : MIn (ltS w6) w6 s m := ((HMW.out u5 hBu).below hb6 (fun b hb => Nat.lt_of_lt_of_le hb hBu.size)).mono (fun b hb => Nat.lt_of_lt_of_le (Nat.lt_of_lt_of_le hb hBu.size) hb6.size)
    have z : i64S 0 := ⟨by omega, by omega⟩
    exact ⟨h1, h2.a, h2.u, h2.x, ⟨Nat.le_refl _, show (1 : Nat) ≤ maxLen by decide⟩, h2.ca, h2.cu, h2.cx, h2.ii, z, z, h2.is⟩
  have HI6 := Lib.hid hI6
  have HM6 : Hid (MRow w6 (q0 + 1) (othS s g) (othM q m)) := hMu.below hb6
  have HQ6 : Hid (QRow w6 q0 sq q) := hQu.below hb6
  have HG6 : Hid (QRow w6 g sq q) := by show QRow _ _ _ _; rw [hw6, ← hzu]; exact QRow.made u5 sq q
  have HGL : Hid (q0 + 1 < g) := by show _ < _; omega
  have HB6 : Hid (Below w.heap.size w w6) := nx hBu hb6
  unfold qCells at hw6
  rw [← hg]
  rw [← hg] at hu5
  rw [← hu5, ← hw6]
  clear hu5 hw6 hg hMu hCu hzu hQu hBu hb6 hI6 c8 f8 c8' f8' hlt5 y0 y1 y2 HM5 HQ5 HB5 HM4 HQ4 HB4 HM1 HQ1 HLI HMW
  have hd6 : (d : Int) % 6 = 0 ∨ (d : Int) % 6 = 1 ∨ (d : Int) % 6 = 2 ∨ (d : Int) % 6 = 3 ∨ (d : Int) % 6 = 4 ∨ (d : Int) % 6 = 5 := by omega
  have HD6 := Lib.hid hd6
  clear hd6
  go_upto_block 0 with (fail)
  generalize (d : Int) % 6 = k6 at HD6 ⊢
  go_cut [] (fun wc => Hid (OthSt w wc q0 sq q))
  case first =>
    have z0 : i64S 0 := ⟨by omega, by omega⟩
    have HZ0 := Lib.hid z0
    have HLT6 : Hid (q0 + 1 < w6.heap.size) := HM6.out.lt
    have HEL : Hid (∀ u, Below w.heap.size w u → g < u.heap.size → QRow u g sq q → Els encQu (ltS u) (ltS u) u (some ⟨g, 0, none⟩) 1 [q]) := fun u hu hgu hr => qs_here ((HQW.out u hu).mono (fun b hb => Nat.lt_of_lt_of_le hb hu.size)) hr hgu
    have HN1 : Hid (∀ x ∈ [q], x.name.length ≤ 1000) := fun x hx => by rw [List.mem_singleton.1 hx]; have := HN.out.2; omega
    have z8 : w6.cell? ⟨q0 + 1, 8, none⟩ = some (.slice (some ⟨g, 0, none⟩) 1 1) := (HM6.out.cell 8).trans rfl
    have z1 : w6.cell? ⟨q0 + 1, 1, none⟩ = some (.bool true) := (HM6.out.cell 1).trans rfl
    have z2 : w6.cell? ⟨q0 + 1, 2, none⟩ = some (.int .i64 0) := (HM6.out.cell 2).trans rfl
    have z7 : w6.cell? ⟨q0 + 1, 7, none⟩ = some (.int .i64 0) := (HM6.out.cell 7).trans rfl
    have f1 : w6.frozen? ⟨q0 + 1, 1, none⟩ = false := HM6.out.free 1
    have f2 : w6.frozen? ⟨q0 + 1, 2, none⟩ = false := HM6.out.free 2
    have f7 : w6.frozen? ⟨q0 + 1, 7, none⟩ = false := HM6.out.free 7
    have f8 : w6.frozen? ⟨q0 + 1, 8, none⟩ = false := HM6.out.free 8
    obtain ⟨y0, y1, y2⟩ := HQ6.out.cells
    clear z0
    rcases HD6.out with rfl | rfl | rfl | rfl | rfl | rfl
    · clear HD6
      go_wp2
      go_meet
      case rel =>
        obtain ⟨a1, a2, a3⟩ := oth_put HB6.out HQ6.out HG6.out HQE.out HGL.out HLT6.out 1 (.bool false)
        exact oth_ok (s := s) (m := m) false 0 0 [q] (some ⟨g, 0, none⟩) 1 a1 a2 (MRow.put HM6.out 1 (.bool false) _ _ rfl) (HEL.out _ a1 a3.lt a3) ⟨Nat.le_refl _, by decide⟩ HZ0.out HZ0.out (by show 1 ≤ 2; decide) HN1.out (askB_resp rfl) (HMI.out) HL.out
    · clear HD6
      go_wp2
      go_meet
      case rel =>
        obtain ⟨a1, a2, a3⟩ := oth_put HB6.out HQ6.out HG6.out HQE.out HGL.out HLT6.out 2 (.int .i64 1)
        exact oth_ok (s := s) (m := m) true 1 0 [q] (some ⟨g, 0, none⟩) 1 a1 a2 (MRow.put HM6.out 2 (.int .i64 1) _ _ rfl) (HEL.out _ a1 a3.lt a3) ⟨Nat.le_refl _, by decide⟩ ⟨by omega, by omega⟩ HZ0.out (by show 1 ≤ 2; decide) HN1.out (askB_op (by show ¬ (1 : Int) = 0; decide)) (HMI.out) HL.out
    · clear HD6
      go_wp2
      go_meet
      case rel =>
        obtain ⟨a1, a2, a3⟩ := oth_put HB6.out HQ6.out HG6.out HQE.out HGL.out HLT6.out 7 (.int .i64 2)
        exact oth_ok (s := s) (m := m) true 0 2 [q] (some ⟨g, 0, none⟩) 1 a1 a2 (MRow.put HM6.out 7 (.int .i64 2) _ _ rfl) (HEL.out _ a1 a3.lt a3) ⟨Nat.le_refl _, by decide⟩ HZ0.out ⟨by omega, by omega⟩ (by show 1 ≤ 2; decide) HN1.out (askB_rc (by show ¬ (2 : Int) = 0; decide) (by show ¬ (2 : Int) = 3; decide)) (HMI.out) HL.out
    · clear HD6
      have hown : OwnE encQu 25 (ltS w) w6 g (.slice (some ⟨g, 0, none⟩) 1 1) [q] := by
        refine ⟨(qCells sq q).toList, ⟨rfl, .inr ⟨g, 1, qCells sq q, rfl, Nat.le_refl _, HG6.out, Nat.le_refl _, by decide, rfl, rfl⟩⟩, fun i y hy => ?_, fun b hb => ?_⟩
        · match i, hy with
          | 0, hy =>
            injection hy with hy
            subst hy
            have hqi := HQW.out w6 HB6.out
            exact ⟨sq.A, sq.c, rfl, hqi.n, hqi.cn, hqi.it, hqi.ic⟩
        · have hb' : b < q0 := by rw [← HQE.out]; exact hb
          have h1 := HGL.out
          have h2 := HLT6.out
          exact ⟨by omega, fun e => by have e2 : some b = some g := e; injection e2 with e3; omega⟩
      have HOW := Lib.hid hown
      have HQI : Hid (encQu.R (ltS w) w6 [.slice sq.A q.name.length sq.c, .int .i64 q.type, .int .i64 q.cls] q) := by
        have hqi := HQW.out w6 HB6.out
        exact ⟨sq.A, sq.c, rfl, hqi.n, hqi.cn, hqi.it, hqi.ic⟩
      have HSW : Hid (∀ b, ltS w b → b < w6.heap.size ∧ some b ≠ (Value.slice (some ⟨g, 0, none⟩) 1 1).ownBlock) := hown.choose_spec.2.2
      have HGZ : Hid (g < w6.heap.size) := HG6.out.lt
      clear hown
      go_upto_region 14 with (fail)
      have hGL0 := HGL.out
      have hgz0 := HGZ.out
      go_wp2_with (first
        | ((with_reducible show wpList _ _ _ (⟨some 59, _, _, _, _, _⟩ :: _) _ _); refine wpL_pushE (w := w6) elQu rfl (.tmp 56) (.tmp 58) rfl g _ [q] rfl HOW.out [.slice sq.A q.name.length sq.c, .int .i64 q.type, .int .i64 q.cls] q HQI.out HSW.out rfl (by show (1 + 1) * 40 ≤ 140737488355328; decide) (by show 1 + 1 ≤ maxLen; decide) (Nat.le_of_lt HGZ.out) ?_; intro v7 w7 hown7 hg7 hv7; obtain ⟨A7, c7, hv, he7, hl7, hm7⟩ := OwnE.form hown7; have hv' : v7 = .slice A7 2 c7 := hv; subst hv'; clear hv; have HE7 := Lib.hid he7; have HL7 : Hid (2 ≤ c7 ∧ c7 ≤ maxLen) := ⟨hl7, hm7⟩; clear he7 hl7 hm7; have HG7 := Lib.hid hg7; have HO7 := Lib.hid hown7; have HV7 := Lib.hid hv7; have hk7 : ∀ k, k < w6.heap.size → k ≠ g → w7.heap[k]? = w6.heap[k]? := (fun k h1 h2 => HG7.out.block k h1 (fun e => by have e2 : some k = some g := e; injection e2 with e3; exact h2 e3)); have HM7 : Hid (MRow w7 (q0 + 1) (othS s g) (othM q m)) := (hk7 _ HLT6.out (by have := HGL.out; omega)).trans HM6.out; have HQ7 : Hid (QRow w7 q0 sq q) := (hk7 _ HQ6.out.lt (by have := HGL.out; omega)).trans HQ6.out; have HZ7 : Hid (w6.heap.size ≤ w7.heap.size) := HG7.out.size; have z8 : w7.cell? ⟨q0 + 1, 8, none⟩ = some (.slice (some ⟨g, 0, none⟩) 1 1) := (HM7.out.cell 8).trans rfl; have f8 : w7.frozen? ⟨q0 + 1, 8, none⟩ = false := HM7.out.free 8; clear hown7 hg7 hv7 hk7)
        | fail)
      go_meet
      case rel =>
        have hB7 : Below w.heap.size w w7 := ((Chg.of_below (F := fun k => k = g) HB6.out).grown HG7.out (fun k hk => .inl (by have e2 : some g = some k := hk; injection e2 with e3; exact e3.symm))).below (fun x hx => by have := HGL.out; have := HQE.out; omega) (Nat.le_refl _)
        have hC8 : Chg (fun k => k = q0 + 1) w7 (w7.setCell ⟨q0 + 1, 8, none⟩ (.slice A7 2 c7)) := chg_g1 _ _ _ _
        have hB8 : Below w.heap.size w (w7.setCell ⟨q0 + 1, 8, none⟩ (.slice A7 2 c7)) := hB7.trans (hC8.below (fun x hx => by have := HQE.out; omega) hB7.size)
        have hown := HO7.out
        have hel : Els encQu (ltS (w7.setCell ⟨q0 + 1, 8, none⟩ (.slice A7 2 c7))) (ltS (w7.setCell ⟨q0 + 1, 8, none⟩ (.slice A7 2 c7))) (w7.setCell ⟨q0 + 1, 8, none⟩ (.slice A7 2 c7)) A7 2 [q, q] := by
          have hlt := OwnE.lt hown
          have hq := HQE.out
          have hg := HGL.out
          have h1 : Els encQu (fun b => (Value.slice A7 2 c7).ownBlock = some b) (orS (ltS w) (ltS w)) w7 A7 2 [q, q] := HE7.out
          have hz := hB7.size
          have hw : ∀ b, orS (ltS w) (ltS w) b → b < w.heap.size := fun b hb => hb.elim (fun h => h) (fun h => h)
          refine Els.mono (fun b hb => Nat.lt_of_lt_of_le (hlt b hb).2 hC8.size) (fun b hb => Nat.lt_of_lt_of_le (Nat.lt_of_lt_of_le (hw b hb) hz) hC8.size) (Els.keep (fun b hb => hC8.block b (hlt b hb).2 (by have := (hlt b hb).1; omega)) (fun b hb => hC8.block b (Nat.lt_of_lt_of_le (hw b hb) hz) (by have := hw b hb; omega)) h1)
        exact oth_ok (s := s) (m := m) true 0 0 [q, q] A7 c7 hB8 (hC8.heap HQ7.out (by omega)) (MRow.put HM7.out 8 (.slice A7 2 c7) _ _ rfl) hel HL7.out HZ0.out HZ0.out (Nat.le_refl _) (fun x hx => HN1.out x (by rcases List.mem_cons.1 hx with h | h; exact List.mem_singleton.2 h; exact h)) (askB_q rfl) HMI.out HL.out
    · clear HD6
      have HC2 : Hid (∃ u : World, u = w6) := ⟨_, rfl⟩
      have f2g : w6.frozen? ⟨g, 2, none⟩ = false := HG6.out.free 2
      obtain ⟨e0, e1, e2⟩ := HG6.out.cells
      go_upto_region 17 with (fail)
      obtain ⟨X, hX⟩ : ∃ X, X = wrap64 (q.cls + 1) := ⟨_, rfl⟩
      have hXn : q.cls ≤ 60000 → ¬ X = q.cls := fun h => by rw [hX]; have h1 := (HQW.out w6 HB6.out).ic; unfold wrap64; omega
      have HXN := Lib.hid hXn
      have HXI : Hid (-9223372036854775808 ≤ X ∧ X ≤ 9223372036854775807) := by show _ ∧ _; rw [hX]; unfold wrap64; omega
      rw [← hX]
      clear hX hXn e0 e1 e2 f2g
      obtain ⟨u1, hu1⟩ : ∃ u, u = w6.setCell ⟨g, 2, none⟩ (.int .i64 X) := ⟨_, rfl⟩
      have hC1 : Chg (fun k => k = g) w6 u1 := by rw [hu1]; exact chg_g1 _ _ _ _
      have hG1 : QRow u1 g sq { q with cls := X } := by rw [hu1]; exact QRow.put HG6.out 2 _ _ _ rfl
      have hgl := HGL.out
      have hq1 : QRow u1 q0 sq q := hC1.heap HQ6.out (by omega)
      have HM1' : Hid (MRow u1 (q0 + 1) (othS s g) (othM q m)) := hC1.heap HM6.out (by omega)
      have HB1' : Hid (Below w.heap.size w u1) := HB6.out.trans (hC1.below (fun x hx => by have := HQE.out; omega) HB6.out.size)
      have HQ1' := Lib.hid hq1
      have HG1' := Lib.hid hG1
      rw [← hu1]
      clear hu1 hC1 z1 z2 z7 z8 f1 f2 f7 f8 y0 y1 y2
      have y2 := hq1.cells.2.2
      have z8 : u1.cell? ⟨q0 + 1, 8, none⟩ = some (.slice (some ⟨g, 0, none⟩) 1 1) := (HM1'.out.cell 8).trans rfl
      have f2g : u1.frozen? ⟨g, 2, none⟩ = false := hG1.free 2
      have e2 := hG1.cells.2.2
      clear hq1 hG1 hgl
      by_cases h60 : 60000 < q.cls
      · have h60d : decide ((60000 : Int) < q.cls) = true := decide_eq_true h60
        have HNE : Hid (¬ (0 : Int) = q.cls) := by show ¬ _; omega
        clear h60
        go_wp2
        go_meet
        case rel =>
          have hC2 : Chg (fun k => k = g) u1 (u1.setCell ⟨g, 2, none⟩ (.int .i64 0)) := chg_g1 _ _ _ _
          have hgl := HGL.out
          have hB2 : Below w.heap.size w (u1.setCell ⟨g, 2, none⟩ (.int .i64 0)) := HB1'.out.trans (hC2.below (fun x hx => by have := HQE.out; omega) HB1'.out.size)
          have hG2 : QRow (u1.setCell ⟨g, 2, none⟩ (.int .i64 0)) g sq { q with cls := 0 } := QRow.put HG1'.out 2 _ _ _ rfl
          have hqi := HQW.out _ hB2
          have hqi2 : QIn (ltS (u1.setCell ⟨g, 2, none⟩ (.int .i64 0))) (u1.setCell ⟨g, 2, none⟩ (.int .i64 0)) sq { q with cls := 0 } := QIn.mono (fun b hb => Nat.lt_of_lt_of_le hb hB2.size) ⟨hqi.n, hqi.cn, hqi.it, ⟨show (-9223372036854775808 : Int) ≤ 0 by decide, show (0 : Int) ≤ 9223372036854775807 by decide⟩⟩
          exact oth_ok (s := s) (m := m) true 0 0 [{ q with cls := 0 }] (some ⟨g, 0, none⟩) 1 hB2 (hC2.heap HQ1'.out (by omega)) (hC2.heap HM1'.out (by omega)) (qs_here hqi2 hG2 hG2.lt) ⟨Nat.le_refl _, by decide⟩ HZ0.out HZ0.out (by show 1 ≤ 2; decide) (fun x hx => by rw [List.mem_singleton.1 hx]; have := HN.out.2; show q.name.length ≤ 1000; omega) (askB_q (by show (decide (lowN q.name = lowN q.name) && decide (q.type = q.type) && decide ((0 : Int) = q.cls)) = false; rw [decide_eq_false HNE.out, Bool.and_false])) HMI.out HL.out
      · have h60d : decide ((60000 : Int) < q.cls) = false := decide_eq_false h60
        have HNE : Hid (¬ X = q.cls) := HXN.out (by omega)
        clear h60
        go_wp2
        go_meet
        case rel =>
          have hgl := HGL.out
          have hqi := HQW.out _ HB1'.out
          have hqi2 : QIn (ltS u1) u1 sq { q with cls := X } := QIn.mono (fun b hb => Nat.lt_of_lt_of_le hb HB1'.out.size) ⟨hqi.n, hqi.cn, hqi.it, HXI.out⟩
          exact oth_ok (s := s) (m := m) true 0 0 [{ q with cls := X }] (some ⟨g, 0, none⟩) 1 HB1'.out HQ1'.out HM1'.out (qs_here hqi2 HG1'.out HG1'.out.lt) ⟨Nat.le_refl _, by decide⟩ HZ0.out HZ0.out (by show 1 ≤ 2; decide) (fun x hx => by rw [List.mem_singleton.1 hx]; have := HN.out.2; show q.name.length ≤ 1000; omega) (askB_q (by show (decide (lowN q.name = lowN q.name) && decide (q.type = q.type) && decide (X = q.cls)) = false; rw [decide_eq_false HNE.out, Bool.and_false])) HMI.out HL.out
    · clear HD6
      have hk : ∀ u, Below w6.heap.size w6 u → (u.cell? ⟨q0 + 1, 8, none⟩ = some (.slice (some ⟨g, 0, none⟩) 1 1) ∧ u.cell? ⟨q0, 0, none⟩ = some (.slice sq.A q.name.length sq.c)) := fun u hu => ⟨((HM6.out.below hu).cell 8).trans rfl, ((HQ6.out.below hu).cell 0).trans rfl⟩
      clear z1 z2 z7 z8 f1 f2 f7 f8 y0 y1 y2
      have z0 := hk w6 bl
      have z1 := hk w6.drew bl.drew
      have z2 := hk (w6.alloc (.cells #[.string ⟨#[97, 110, 111, 116, 104, 101, 114]⟩] 9)) (bl.alloc (Nat.le_refl _) _)
      have z3 := hk (w6.alloc (.cells #[.string ⟨#[97, 110, 111, 116, 104, 101, 114]⟩] 9)).drew (bl.alloc (Nat.le_refl _) _).drew
      have KK := Lib.hid hk
      have hho : OwnE encS 9 noS (w6.alloc (.cells #[.string ⟨#[97, 110, 111, 116, 104, 101, 114]⟩] 9)).drew w6.heap.size (.slice (some ⟨w6.heap.size, 0, none⟩) 1 1) [anoL] := by
        have h : OwnE encS 9 noS (w6.alloc (.cells #[.string ⟨#[97, 110, 111, 116, 104, 101, 114]⟩] 9)) w6.heap.size (.slice (some ⟨w6.heap.size, 0, none⟩) 1 1) [anoL] := by
          refine ⟨[.string ⟨#[97, 110, 111, 116, 104, 101, 114]⟩], ⟨rfl, .inr ⟨w6.heap.size, 1, #[.string ⟨#[97, 110, 111, 116, 104, 101, 114]⟩], rfl, Nat.le_refl _, heap_alloc_new w6 _, Nat.le_refl _, by decide, rfl, rfl⟩⟩, fun i y hy => ?_, fun b hb => hb.elim⟩
          match i, hy with
          | 0, hy =>
            injection hy with hy
            subst hy
            exact ⟨rfl, by decide⟩
        exact h.below bl.drew
      have HHO := Lib.hid hho
      have HBX : Hid (Below w6.heap.size w6 (w6.alloc (.cells #[.string ⟨#[97, 110, 111, 116, 104, 101, 114]⟩] 9)).drew) := (bl.alloc (Nat.le_refl _) _).drew
      have HQN : Hid (Els encS (ltS w) (ltS w) (w6.alloc (.cells #[.string ⟨#[97, 110, 111, 116, 104, 101, 114]⟩] 9)).drew sq.A q.name.length q.name) := (HQW.out _ (nx HB6.out HBX.out)).n
      have HSW : Hid (∀ b, ltS w b → b < (w6.alloc (.cells #[.string ⟨#[97, 110, 111, 116, 104, 101, 114]⟩] 9)).drew.heap.size ∧ some b ≠ (Value.slice (some ⟨w6.heap.size, 0, none⟩) 1 1).ownBlock) := fun b hb => ⟨Nat.lt_of_lt_of_le (Nat.lt_of_lt_of_le hb HB6.out.size) HBX.out.size, fun e => by have e2 : some b = some w6.heap.size := e; injection e2 with e3; have := Nat.lt_of_lt_of_le hb HB6.out.size; omega⟩
      have HNB : Hid ((1 + q.name.length) * 16 ≤ 140737488355328) := by show _ ≤ _; have := HN.out.2; omega
      have HNM : Hid (1 + q.name.length ≤ maxLen) := by show _ ≤ _; have := HN.out.2; unfold maxLen; omega
      clear hk hho
      go_upto_region 6 with (fail)
      go_region_held3 (fun w' => w'.cell? ⟨q0 + 1, 8, none⟩ = some (.slice (some ⟨g, 0, none⟩) 1 1) ∧ w'.cell? ⟨q0, 0, none⟩ = some (.slice sq.A q.name.length sq.c))
        (first | with_reducible exact z0 | with_reducible exact z1 | with_reducible exact z2 | with_reducible exact z3 | with_reducible exact z4 | with_reducible exact z5 | fail)
        (first
          | (refine step_appE (w := (w6.alloc (.cells #[.string ⟨#[97, 110, 111, 116, 104, 101, 114]⟩] 9)).drew) elS (by rfl) (.tmp 38) (.tmp 40) (by rfl) w6.heap.size (.slice (some ⟨w6.heap.size, 0, none⟩) 1 1) [anoL] (by rfl) HHO.out sq.A q.name.length sq.c q.name HQN.out HSW.out (by rfl) HNB.out HNM.out HBX.out.size ?_; intro v1 u1 hown1 hg1 hat1; have HB1' : Hid (Below w6.heap.size w6 u1) := (Below.grown HBX.out hg1 HBX.out.size (fun k hk => (OwnE.lt HHO.out k hk).1)); have z4 := KK.out u1 HB1'.out; have HO1 := Lib.hid hown1; obtain ⟨A1, c1, hv1, he1, hl1, hm1⟩ := OwnE.form hown1; obtain ⟨n1, hn1⟩ : ∃ n1, n1 = ([anoL] ++ q.name).length := ⟨_, rfl⟩; rw [← hn1] at hv1 he1 hl1; subst hv1; have HE1 := Lib.hid he1; have HL1 : Hid (n1 ≤ c1 ∧ c1 ≤ maxLen) := ⟨hl1, hm1⟩; have HN1' := Lib.hid hn1; have e0 := (HG6.out.below HB1'.out).cells.1; have f0g : u1.frozen? ⟨g, 0, none⟩ = false := (HG6.out.below HB1'.out).free 0; have hCg : Chg (fun k => k = g) u1 (u1.setCell ⟨g, 0, none⟩ (.slice A1 n1 c1)) := chg_g1 _ _ _ _; have hgl := HGL.out; have HMg : Hid (MRow (u1.setCell ⟨g, 0, none⟩ (.slice A1 n1 c1)) (q0 + 1) (othS s g) (othM q m)) := hCg.heap (HM6.out.below HB1'.out) (by omega); have HQg : Hid (QRow (u1.setCell ⟨g, 0, none⟩ (.slice A1 n1 c1)) q0 sq q) := hCg.heap (HQ6.out.below HB1'.out) (by omega); have HCg := Lib.hid hCg; have z5 : (u1.setCell ⟨g, 0, none⟩ (.slice A1 n1 c1)).cell? ⟨q0 + 1, 8, none⟩ = some (.slice (some ⟨g, 0, none⟩) 1 1) ∧ (u1.setCell ⟨g, 0, none⟩ (.slice A1 n1 c1)).cell? ⟨q0, 0, none⟩ = some (.slice sq.A q.name.length sq.c) := ⟨(HMg.out.cell 8).trans rfl, (HQg.out.cell 0).trans rfl⟩; clear hCg hgl; clear hat1 hg1 he1 hl1 hm1 hn1 hown1)
          | fail)
      go_wp2
      go_meet
      case rel =>
        have hC2 := HCg.out
        have hgl := HGL.out
        have hqe := HQE.out
        have hlt := OwnE.lt HO1.out
        have hB1 : Below w.heap.size w u1 := nx HB6.out HB1'.out
        have hz := hB1.size
        have hB2 : Below w.heap.size w (u1.setCell ⟨g, 0, none⟩ (.slice A1 n1 c1)) := hB1.trans (hC2.below (fun x hx => by omega) hz)
        have hG2 : QRow (u1.setCell ⟨g, 0, none⟩ (.slice A1 n1 c1)) g ⟨A1, c1⟩ { q with name := anoL :: q.name } := QRow.put (HG6.out.below HB1'.out) 0 _ _ _ (by rw [HN1'.out]; rfl)
        have hqi := HQW.out _ hB2
        have hwo : ∀ b, orS noS (ltS w) b → b < w.heap.size := fun b hb => hb.elim (fun h => h.elim) (fun h => h)
        have he : Els encS (ltS (u1.setCell ⟨g, 0, none⟩ (.slice A1 n1 c1))) (ltS (u1.setCell ⟨g, 0, none⟩ (.slice A1 n1 c1))) (u1.setCell ⟨g, 0, none⟩ (.slice A1 n1 c1)) A1 n1 (anoL :: q.name) :=
          Els.mono (fun b hb => Nat.lt_of_lt_of_le (hlt b hb).2 hC2.size) (fun b hb => Nat.lt_of_lt_of_le (Nat.lt_of_lt_of_le (hwo b hb) hz) hC2.size) (Els.keep (fun b hb => hC2.block b (hlt b hb).2 (by have := (hlt b hb).1; have := HG6.out.lt; omega)) (fun b hb => hC2.block b (Nat.lt_of_lt_of_le (hwo b hb) hz) (by have := hwo b hb; omega)) HE1.out)
        have hlen : n1 = (anoL :: q.name).length := HN1'.out
        have hqi2 : QIn (ltS (u1.setCell ⟨g, 0, none⟩ (.slice A1 n1 c1))) (u1.setCell ⟨g, 0, none⟩ (.slice A1 n1 c1)) ⟨A1, c1⟩ { q with name := anoL :: q.name } := ⟨hlen ▸ he, hlen ▸ HL1.out, hqi.it, hqi.ic⟩
        have hne : ¬ lowN (anoL :: q.name) = lowN q.name := fun e => by have h := congrArg List.length e; rw [low_len, low_len, List.length_cons] at h; omega
        exact oth_ok (s := s) (m := m) true 0 0 [{ q with name := anoL :: q.name }] (some ⟨g, 0, none⟩) 1 hB2 HQg.out HMg.out (qs_here hqi2 hG2 hG2.lt) ⟨Nat.le_refl _, by decide⟩ HZ0.out HZ0.out (by show 1 ≤ 2; decide) (fun x hx => by rw [List.mem_singleton.1 hx]; have := HN.out.2; show (anoL :: q.name).length ≤ 1000; rw [List.length_cons]; omega) (askB_q (by show (decide (lowN (anoL :: q.name) = lowN q.name) && decide (q.type = q.type) && decide (q.cls = q.cls)) = false; rw [decide_eq_false hne]; rfl)) HMI.out HL.out
  case rest =>
    have HST : Hid (OthSt w wc q0 sq q) := hcut
    clear hcut
    go_upto_region 19 with (fail)
    obtain ⟨hB, hQ, s2, m2, hM, hI, hL2, hA⟩ := HST.out
    refine wp_region_inv (n := 9) (by kernel_rfl) (by kernel_rfl) (by kernel_rfl) rfl (by kernel_rfl) (fun i => i + 77) (fun i hi => by show i + 77 < 86; omega) (fun i j _ _ e => by have e2 : i + 77 = j + 77 := e; omega) (psiO sq q s2 m2 Z nz cz zs wc.heap.size) (fun _ _ _ _ => True) (fun j v w1 w2 _ hb h => psiO_below j v w1 w2 hb h) ?_ ?_
    · intro i hi a w4 hbw hsm hdep _
      have hcases : i = 0 ∨ i = 1 ∨ i = 2 ∨ i = 3 ∨ i = 4 ∨ i = 5 ∨ i = 6 ∨ i = 7 ∨ i = 8 := by omega
      rcases hcases with rfl | rfl | rfl | rfl | rfl | rfl | rfl | rfl | rfl
      · have e4 : a.tmps[4]? = some (.pointer (some ⟨q0, 0, none⟩)) := (hsm.other 4 (fun j hj e => by have e2 : j + 77 = 4 := e; omega)).trans rfl
        refine wpOp_plain rfl rfl ?_
        obtain ⟨y0, y1, y2⟩ := (hQ.below hbw).cells
        exact wp_val (v := quV sq q) (by simp [e4, go_sem, y0, y1, y2, quV]) ⟨_, rfl, bl, rfl, fun _ _ _ _ => trivial⟩
      · have e5 : a.tmps[5]? = some (.pointer (some ⟨q0 + 1, 0, none⟩)) := (hsm.other 5 (fun j hj e => by have e2 : j + 77 = 5 := e; omega)).trans rfl
        refine wpOp_plain rfl rfl ?_
        obtain ⟨z0, z1, z2, z3, z4, z5, z6, z7, z8, z9, z10, z11, z12, z13⟩ := (hM.below hbw).cells
        exact wp_val (v := msV s2 m2) (by simp [e5, go_sem, z0, z1, z2, z3, z4, z5, z6, z7, z8, z9, z10, z11, z12, z13, msV, mCells]) ⟨_, rfl, bl, rfl, fun _ _ _ _ => trivial⟩
      · obtain ⟨v1, hv1, hp1⟩ := hdep 1 (by kernel_rfl)
        have hp1' : v1 = msV s2 m2 := hp1
        subst hp1'
        refine wpOp_plain rfl rfl ?_
        generalize hK : (fun (a2 : Act) (w2 : World) => _) = K
        have v78 := eval_tmp hv1
        go_simp
        refine (ownMsg_any s2 m2 w4 (hI.below hbw (fun b hb => hb)) (fun b hb => Nat.lt_of_lt_of_le hb hbw.size) hL2.light).mono ?_
        rintro e w5 ⟨v5, rfl, ⟨s5, rfl, hi5⟩, hb5⟩
        rw [← hK]
        exact ⟨_, rfl, hb5, ⟨s5, rfl, hi5.mono (fun b hb => hb.2)⟩, fun _ _ _ _ => trivial⟩
      · refine wpOp_plain rfl rfl ?_
        generalize hK : (fun (a2 : Act) (w2 : World) => _) = K
        go_simp
        rw [← hK]
        exact ⟨_, rfl, bl.alloc (Nat.le_refl _) _, ⟨w4.heap.size, rfl, hbw.size, heap_alloc_new _ _⟩, fun _ _ _ _ => trivial⟩
      · have e2t : a.tmps[2]? = some (.slice Z nz cz) := (hsm.other 2 (fun j hj e => by have e2 : j + 77 = 2 := e; omega)).trans rfl
        refine wpOp_plain rfl rfl ?_
        exact wp_val (v := .slice Z nz cz) (by simp [e2t, go_sem]) ⟨_, rfl, bl, rfl, fun _ _ _ _ => trivial⟩
      · obtain ⟨v3, hv3, hp3⟩ := hdep 3 (by kernel_rfl)
        obtain ⟨v4, hv4, hp4⟩ := hdep 4 (by kernel_rfl)
        obtain ⟨b, rfl, hb1, hb2⟩ := (show psiO sq q s2 m2 Z nz cz zs wc.heap.size 3 v3 w4 from hp3)
        have hp4' : v4 = .slice Z nz cz := hp4
        subst hp4'
        refine wpOp_plain rfl rfl ?_
        generalize hK : (fun (a2 : Act) (w2 : World) => _) = K
        have e1 := eval_tmp hv3
        have e2 := eval_tmp hv4
        have hzw := HZW.out w4 (nx hB hbw)
        have hzl := hzw.len
        obtain ⟨i0, hi0, hzz0, hs0, hy0⟩ := info_parts infoS
        obtain ⟨v', w', hrun, h1, h2, hfr⟩ := run_clone (P := Try.prog) (w := w4) 23 Try.underlying23 hi0 hzz0 hs0 hy0 rfl hb1 hb2 Z nz cz (zs.map strV) (strs_rd hzw) (fun u hu => by obtain ⟨y, _, rfl⟩ := List.mem_map.1 hu; rfl) (by have := HN.out.1; unfold maxLen; omega) (by have := HN.out.1; omega)
        rw [← hzl] at h1
        obtain ⟨A3, c3, hv', he, _, _⟩ := (own_strs h1 (strs_max hzw)).form
        rw [hzl] at hv' he
        subst hv'
        unfold Oper.wp execOp
        simp only [List.getElem_toArray, List.getElem_cons_succ, List.getElem_cons_zero, resolve, invoke, builtin, Sem.run_bind, Sem.run_pure, Result.andThen_ok, List.map_toArray, List.map_cons, List.map_nil, e1, e2, hrun]
        show K _ _
        rw [← hK]
        refine ⟨_, rfl, h2, ⟨A3, c3, rfl, he.mono (fun b hb => (World.ownsRow.lt h1 b hb).2) (fun b hb => hb.elim)⟩, fun _ _ _ _ => trivial⟩
      · obtain ⟨v0, hv0, hp0⟩ := hdep 0 (by kernel_rfl)
        obtain ⟨v2, hv2, hp2⟩ := hdep 2 (by kernel_rfl)
        obtain ⟨v5, hv5, hp5⟩ := hdep 5 (by kernel_rfl)
        have hp0' : v0 = quV sq q := hp0
        subst hp0'
        obtain ⟨s5, rfl, hi5⟩ := (show psiO sq q s2 m2 Z nz cz zs wc.heap.size 2 v2 w4 from hp2)
        obtain ⟨A5, c5, rfl, he5⟩ := (show psiO sq q s2 m2 Z nz cz zs wc.heap.size 5 v5 w4 from hp5)
        refine wpOp_plain rfl rfl ?_
        generalize hK : (fun (a2 : Act) (w2 : World) => _) = K
        have x0 := eval_tmp hv0
        have x2 := eval_tmp hv2
        have x5 := eval_tmp hv5
        go_simp
        refine (from_none sq q s5 m2 A5 nz c5 zs 5 w4 hi5 ((HQW.out w4 (nx hB hbw)).mono (fun b hb => Nat.lt_of_lt_of_le hb (nx hB hbw).size)) he5 (fun b hb => hb) hL2 (by have := HN.out.2; omega) (by have := HN.out.1; omega) (.inr (.inr (.inr hA)))).mono ?_
        rintro e w5 ⟨v6, rfl, rfl, hb5⟩
        rw [← hK]
        exact ⟨_, rfl, hb5, rfl, fun _ _ _ _ => trivial⟩
      · obtain ⟨v6, hv6, hp6⟩ := hdep 6 (by kernel_rfl)
        have hp6' : v6 = .slice none 0 0 := hp6
        subst hp6'
        refine wpOp_plain rfl rfl ?_
        exact wp_val (v := .int .i64 0) (by simp [hv6, go_sem]) ⟨_, rfl, bl, rfl, fun _ _ _ _ => trivial⟩
      · obtain ⟨v7, hv7, hp7⟩ := hdep 7 (by kernel_rfl)
        have hp7' : v7 = .int .i64 0 := hp7
        subst hp7'
        refine wpOp_plain rfl rfl ?_
        exact wp_val (v := .bool true) (by simp [hv7, go_sem]) ⟨_, rfl, bl, rfl, fun _ _ _ _ => trivial⟩
    · intro a w4 hbw hsm hdep _
      obtain ⟨v8, hv8, hp8⟩ := hdep 8 (by decide)
      have hp8' : v8 = .bool true := hp8
      subst hp8'
      have hsz : a.tmps.size = 86 := hsm.size.trans rfl
      refine wpOp_plain rfl rfl ?_
      unfold Oper.wp execOp
      simp [hv8, go_sem]
      go_wp2
      refine bodyPost_ret (v := .bool true) ?_ hsm.defers ⟨rfl, nx hB hbw⟩
      simp [results, Try.results8, hsz]

theorem factOthers_walk (sq : QS) (q : Qu) (s : MS) (m : Ms) (Z : Option Addr) (nz cz : Nat) (zs : List (List UInt8)) (d : Nat) (w : World) (hq : QIn (ltS w) w sq q) (hm : MIn (ltS w) w s m) (hz : Els encS (ltS w) (ltS w) w Z nz zs) (hzc : nz ≤ cz ∧ cz ≤ maxLen) (hd : d < 256) (hqs : m.qs.length ≤ 1048576) (hlen : (m.an.length + m.au.length + m.ex.length) * 168 ≤ 140737488355328) :
    Calls Try.prog 8 #[quV sq q, msV s m, .slice Z nz cz, .int .u8 (d : Int)] w (LawT w) := by
  by_cases hL : LtMsg13 m
  · by_cases h1 : 200 < nz
    · exact factOthers_zone sq q s m Z nz cz zs d w hq hm hz hzc hd hqs hlen (ltM13_yes hL) h1
    · by_cases h2 : 200 < q.name.length
      · exact factOthers_name sq q s m Z nz cz zs d w hq hm hz hzc hd hqs hlen (ltM13_yes hL) h1 h2
      · exact factOthers_main sq q s m Z nz cz zs d w hq hm hz hzc hd hqs hlen hL h1 h2
  · exact factOthers_heavy sq q s m Z nz cz zs d w hq hm hz hzc hd hqs hlen (ltM13_no hL)
end Go.Proofs.Ytimkdpkhdbiniaa

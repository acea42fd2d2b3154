/- Parts of a proof, joined: OpenM2, Law13K. -/
import Derived.Test.YtimkdpkhdbiniaaKDM05
import Derived.Test.YtimkdpkhdbiniaaKDX16
import Derived.Test.YtimkdpkhdbiniaaKDF03r
import Derived.Test.YtimkdpkhdbiniaaKDM03
import Derived.Test.YtimkdpkhdbiniaaKDM23r
/- A message that came in, with how long its questions' names are (printed by gen/openm2.py). -/
namespace Go.Proofs.Ytimkdpkhdbiniaa
open Go.ChangeShapes Go.WideShapes Go.ChangeAt Go.RowKit
set_option maxRecDepth 100000
def wtQu (x : Qu) : Nat := x.name.length + 1
theorem opens_Qu2 : Opens 25 encQu any wtQu := by
  intro H enc W base sp hd fuel cs x h
  obtain ⟨xs, n, hx, hc, hl, hfd, hw⟩ := trod_fields Try.underlying25 h
  rw [show Try.prog.cellsOf 25 = 3 by kernel_rfl] at hc
  obtain ⟨c0, c1, c2, rfl⟩ := len3 hc
  obtain ⟨y0, e0, h0⟩ := hfd 0 _ rfl
  obtain ⟨y1, e1, h1⟩ := hfd 1 _ rfl
  obtain ⟨y2, e2, h2⟩ := hfd 2 _ rfl
  have g0 : DataW.trod enc Try.prog W base sp hd n 23 (([c0, c1, c2].drop 0).take (Try.prog.cellsOf 23)) = some y0 := h0
  have g1 : DataW.trod enc Try.prog W base sp hd n 3 (([c0, c1, c2].drop 1).take (Try.prog.cellsOf 3)) = some y1 := h1
  have g2 : DataW.trod enc Try.prog W base sp hd n 3 (([c0, c1, c2].drop 2).take (Try.prog.cellsOf 3)) = some y2 := h2
  rw [show Try.prog.cellsOf 3 = 1 by kernel_rfl] at g1 g2
  rw [show Try.prog.cellsOf 23 = 1 by kernel_rfl] at g0
  obtain ⟨a0, ⟨A0, n0, k0, r0, q0, l0, m0⟩, f0, w0⟩ := opens_sl (t := 23) Try.underlying23 (by kernel_rfl) (opens_str Try.underlying9) H enc W base sp hd n _ _ g0
  obtain ⟨a1, ⟨r1, b1⟩, f1, w1⟩ := opens_int Try.underlying3 H enc W base sp hd n _ _ g1
  obtain ⟨a2, ⟨r2, b2⟩, f2, w2⟩ := opens_int Try.underlying3 H enc W base sp hd n _ _ g2
  have u0 := field_bulk hx e0
  have v0 := wtL_length (wt := fun l : List UInt8 => l.length + 1) (fun l => Nat.le_add_left 1 l.length) a0
  simp at r0 r1 r2
  have e0 := q0.1
  subst r0 r1 r2 e0
  exact ⟨⟨a0, a1, a2⟩, ⟨A0, k0, rfl, q0, ⟨l0, m0⟩, b1, b2⟩, fun _ => trivial, by show a0.length + 1 ≤ _; omega⟩
/-- How large a message is that came in. -/
structure MBig2 (m : Ms) (B : Nat) : Prop where
  q : m.qs.length ≤ B
  a : m.an.length ≤ B
  u : m.au.length ≤ B
  x : m.ex.length ≤ B
  b : ∀ r ∈ m.an ++ m.au ++ m.ex, r.data.bytes.length ≤ B
  qn : ∀ x ∈ m.qs, x.name.length ≤ B
theorem open_ms2 {H : Type} {enc : TypeId × Value → H} {W : World} {base b0 : Nat} {sp : Nat → Bool} {hd : Bool} {r : Reach} {v : Value} {d : DataW H} {p : List MemPlace}
    (hv : Value.okWide Try.prog W r b0 31 v) (h : DataW.Trod enc Try.prog W base sp hd 31 v d p) : ∃ s m, v = msV s m ∧ MIn (ltS W) W s m ∧ MBig2 m (Rows.uptoBulk d) := by
  obtain ⟨cs, rfl, hsz⟩ := okWide_struct Try.underlying31 hv
  rw [show Try.prog.cellsOf 31 = 14 by kernel_rfl] at hsz
  obtain ⟨l⟩ := cs
  obtain ⟨c0, c1, c2, c3, c4, c5, c6, c7, c8, c9, c10, c11, c12, c13, rfl⟩ := len14 (l := l) (by simpa using hsz)
  obtain ⟨fuel, hf⟩ := h
  have hf' : DataW.trod enc Try.prog W base sp hd fuel 31 [c0, c1, c2, c3, c4, c5, c6, c7, c8, c9, c10, c11, c12, c13] = some (d, p) := by simpa [Value.cells] using hf
  obtain ⟨xs, n, hx, hc, hl, hfd, hw⟩ := trod_fields Try.underlying31 hf'
  obtain ⟨y0, e0, h0⟩ := hfd 0 _ rfl
  obtain ⟨y1, e1, h1⟩ := hfd 1 _ rfl
  obtain ⟨y2, e2, h2⟩ := hfd 2 _ rfl
  obtain ⟨y3, e3, h3⟩ := hfd 3 _ rfl
  obtain ⟨y4, e4, h4⟩ := hfd 4 _ rfl
  obtain ⟨y5, e5, h5⟩ := hfd 5 _ rfl
  obtain ⟨y6, e6, h6⟩ := hfd 6 _ rfl
  obtain ⟨y7, e7, h7⟩ := hfd 7 _ rfl
  obtain ⟨y8, e8, h8⟩ := hfd 8 _ rfl
  obtain ⟨y9, e9, h9⟩ := hfd 9 _ rfl
  obtain ⟨y10, e10, h10⟩ := hfd 10 _ rfl
  obtain ⟨y11, e11, h11⟩ := hfd 11 _ rfl
  obtain ⟨y12, e12, h12⟩ := hfd 12 _ rfl
  obtain ⟨y13, e13, h13⟩ := hfd 13 _ rfl
  have g0 : DataW.trod enc Try.prog W base sp hd n 3 (([c0, c1, c2, c3, c4, c5, c6, c7, c8, c9, c10, c11, c12, c13].drop 0).take (Try.prog.cellsOf 3)) = some y0 := h0
  have g1 : DataW.trod enc Try.prog W base sp hd n 4 (([c0, c1, c2, c3, c4, c5, c6, c7, c8, c9, c10, c11, c12, c13].drop 1).take (Try.prog.cellsOf 4)) = some y1 := h1
  have g2 : DataW.trod enc Try.prog W base sp hd n 3 (([c0, c1, c2, c3, c4, c5, c6, c7, c8, c9, c10, c11, c12, c13].drop 2).take (Try.prog.cellsOf 3)) = some y2 := h2
  have g3 : DataW.trod enc Try.prog W base sp hd n 4 (([c0, c1, c2, c3, c4, c5, c6, c7, c8, c9, c10, c11, c12, c13].drop 3).take (Try.prog.cellsOf 4)) = some y3 := h3
  have g4 : DataW.trod enc Try.prog W base sp hd n 4 (([c0, c1, c2, c3, c4, c5, c6, c7, c8, c9, c10, c11, c12, c13].drop 4).take (Try.prog.cellsOf 4)) = some y4 := h4
  have g5 : DataW.trod enc Try.prog W base sp hd n 4 (([c0, c1, c2, c3, c4, c5, c6, c7, c8, c9, c10, c11, c12, c13].drop 5).take (Try.prog.cellsOf 4)) = some y5 := h5
  have g6 : DataW.trod enc Try.prog W base sp hd n 4 (([c0, c1, c2, c3, c4, c5, c6, c7, c8, c9, c10, c11, c12, c13].drop 6).take (Try.prog.cellsOf 4)) = some y6 := h6
  have g7 : DataW.trod enc Try.prog W base sp hd n 3 (([c0, c1, c2, c3, c4, c5, c6, c7, c8, c9, c10, c11, c12, c13].drop 7).take (Try.prog.cellsOf 3)) = some y7 := h7
  have g8 : DataW.trod enc Try.prog W base sp hd n 28 (([c0, c1, c2, c3, c4, c5, c6, c7, c8, c9, c10, c11, c12, c13].drop 8).take (Try.prog.cellsOf 28)) = some y8 := h8
  have g9 : DataW.trod enc Try.prog W base sp hd n 29 (([c0, c1, c2, c3, c4, c5, c6, c7, c8, c9, c10, c11, c12, c13].drop 9).take (Try.prog.cellsOf 29)) = some y9 := h9
  have g10 : DataW.trod enc Try.prog W base sp hd n 29 (([c0, c1, c2, c3, c4, c5, c6, c7, c8, c9, c10, c11, c12, c13].drop 10).take (Try.prog.cellsOf 29)) = some y10 := h10
  have g11 : DataW.trod enc Try.prog W base sp hd n 29 (([c0, c1, c2, c3, c4, c5, c6, c7, c8, c9, c10, c11, c12, c13].drop 11).take (Try.prog.cellsOf 29)) = some y11 := h11
  have g12 : DataW.trod enc Try.prog W base sp hd n 4 (([c0, c1, c2, c3, c4, c5, c6, c7, c8, c9, c10, c11, c12, c13].drop 12).take (Try.prog.cellsOf 4)) = some y12 := h12
  have g13 : DataW.trod enc Try.prog W base sp hd n 3 (([c0, c1, c2, c3, c4, c5, c6, c7, c8, c9, c10, c11, c12, c13].drop 13).take (Try.prog.cellsOf 3)) = some y13 := h13
  rw [show Try.prog.cellsOf 4 = 1 by kernel_rfl] at g1 g3 g4 g5 g6 g12
  rw [show Try.prog.cellsOf 3 = 1 by kernel_rfl] at g0 g2 g7 g13
  rw [show Try.prog.cellsOf 28 = 1 by kernel_rfl] at g8
  rw [show Try.prog.cellsOf 29 = 1 by kernel_rfl] at g9 g10 g11
  obtain ⟨a0, ⟨r0, b0⟩, f0, w0⟩ := opens_int Try.underlying3 H enc W base sp hd n _ _ g0
  obtain ⟨a1, ⟨r1, b1⟩, f1, w1⟩ := opens_bool Try.underlying4 H enc W base sp hd n _ _ g1
  obtain ⟨a2, ⟨r2, b2⟩, f2, w2⟩ := opens_int Try.underlying3 H enc W base sp hd n _ _ g2
  obtain ⟨a3, ⟨r3, b3⟩, f3, w3⟩ := opens_bool Try.underlying4 H enc W base sp hd n _ _ g3
  obtain ⟨a4, ⟨r4, b4⟩, f4, w4⟩ := opens_bool Try.underlying4 H enc W base sp hd n _ _ g4
  obtain ⟨a5, ⟨r5, b5⟩, f5, w5⟩ := opens_bool Try.underlying4 H enc W base sp hd n _ _ g5
  obtain ⟨a6, ⟨r6, b6⟩, f6, w6⟩ := opens_bool Try.underlying4 H enc W base sp hd n _ _ g6
  obtain ⟨a7, ⟨r7, b7⟩, f7, w7⟩ := opens_int Try.underlying3 H enc W base sp hd n _ _ g7
  obtain ⟨a8, ⟨A8, n8, k8, r8, q8, l8, m8⟩, f8, w8⟩ := opens_sl (t := 28) Try.underlying28 (by kernel_rfl) opens_Qu2 H enc W base sp hd n _ _ g8
  obtain ⟨a9, ⟨A9, n9, k9, r9, q9, l9, m9⟩, f9, w9⟩ := opens_sl (t := 29) Try.underlying29 (by kernel_rfl) opens_RR2 H enc W base sp hd n _ _ g9
  obtain ⟨a10, ⟨A10, n10, k10, r10, q10, l10, m10⟩, f10, w10⟩ := opens_sl (t := 29) Try.underlying29 (by kernel_rfl) opens_RR2 H enc W base sp hd n _ _ g10
  obtain ⟨a11, ⟨A11, n11, k11, r11, q11, l11, m11⟩, f11, w11⟩ := opens_sl (t := 29) Try.underlying29 (by kernel_rfl) opens_RR2 H enc W base sp hd n _ _ g11
  obtain ⟨a12, ⟨r12, b12⟩, f12, w12⟩ := opens_bool Try.underlying4 H enc W base sp hd n _ _ g12
  obtain ⟨a13, ⟨r13, b13⟩, f13, w13⟩ := opens_int Try.underlying3 H enc W base sp hd n _ _ g13
  have u8 := field_bulk hx e8
  have u9 := field_bulk hx e9
  have u10 := field_bulk hx e10
  have u11 := field_bulk hx e11
  change _ ≤ Rows.uptoBulk d at u8 u9 u10 u11
  have v8 := wtL_length (wt := wtQu) (fun _ => Nat.le_add_left _ _) a8
  obtain ⟨v9, x9⟩ := rr_sized w9
  obtain ⟨v10, x10⟩ := rr_sized w10
  obtain ⟨v11, x11⟩ := rr_sized w11
  simp at r0 r1 r2 r3 r4 r5 r6 r7 r8 r9 r10 r11 r12 r13
  have e8 := q8.1
  have e9 := q9.1
  have e10 := q10.1
  have e11 := q11.1
  subst r0 r1 r2 r3 r4 r5 r6 r7 r8 r9 r10 r11 r12 r13 e8 e9 e10 e11
  refine ⟨⟨A8, k8, A9, k9, A10, k10, A11, k11⟩, ⟨a0, a1, a2, a3, a4, a5, a6, a7, a8, a9, a10, a11, a12, a13⟩, rfl, ⟨q8, q9, q10, q11, ⟨l8, m8⟩, ⟨l9, m9⟩, ⟨l10, m10⟩, ⟨l11, m11⟩, b0, b2, b7, b13⟩, ⟨?_, ?_, ?_, ?_, fun z hz => ?_, fun z hz => ?_⟩⟩
  · show a8.length ≤ Rows.uptoBulk d; omega
  · show a9.length ≤ Rows.uptoBulk d; omega
  · show a10.length ≤ Rows.uptoBulk d; omega
  · show a11.length ≤ Rows.uptoBulk d; omega
  · rcases List.mem_append.1 hz with hz | hz
    · rcases List.mem_append.1 hz with hz | hz
      · have := x9 z hz; omega
      · have := x10 z hz; omega
    · have := x11 z hz; omega
  · have h2 : z.name.length + 1 + 1 ≤ wtL wtQu a8 := wtL_mem (wt := wtQu) hz
    show z.name.length ≤ Rows.uptoBulk d
    omega
end Go.Proofs.Ytimkdpkhdbiniaa

/- FactKeeps: the law's walk (printed by gen/law13k.py). -/
namespace Go.Proofs.Ytimkdpkhdbiniaa
open Go.RowKit
set_option maxRecDepth 100000
set_option linter.unusedVariables false

/-- A cell that holds what it held, or another text, or another byte. -/
def AsCell (x y : Option Value) : Prop := y = x ∨ (∃ a b, x = some (.string a) ∧ y = some (.string b)) ∨ ∃ a b, x = some (.int .u8 a) ∧ y = some (.int .u8 b)
/-- Behind writes into texts and bytes, in blocks from B on. -/
structure Sim (B : Nat) (w w' : World) : Prop where
  low : Below B w w'
  cell : ∀ a, AsCell (w.cell? a) (w'.cell? a)
  free : ∀ a, w'.frozen? a = w.frozen? a
section
variable {B : Nat} {w w' : World}
theorem Sim.refl (h : B ≤ w.heap.size) : Sim B w w := ⟨(bl : Below w.heap.size w w).mono h, fun _ => .inl rfl, fun _ => rfl⟩
theorem Sim.drew (h : Sim B w w') : Sim B w w'.drew := ⟨h.low.drew, h.cell, h.free⟩
theorem Sim.slice (h : Sim B w w') {a : Addr} {A : Option Addr} {n c : Nat} (k : w.cell? a = some (.slice A n c)) : w'.cell? a = some (.slice A n c) := by
  rcases h.cell a with e | ⟨x, y, e, _⟩ | ⟨x, y, e, _⟩
  · rw [e, k]
  · rw [k] at e; cases e
  · rw [k] at e; cases e
theorem Sim.str (h : Sim B w w') {a : Addr} {x : ByteArray} (k : w.cell? a = some (.string x)) : ∃ y, w'.cell? a = some (.string y) := by
  rcases h.cell a with e | ⟨x, y, _, e⟩ | ⟨x, y, e, _⟩
  · exact ⟨_, e.trans k⟩
  · exact ⟨_, e⟩
  · rw [k] at e; cases e
theorem Sim.u8 (h : Sim B w w') {a : Addr} {x : Int} (k : w.cell? a = some (.int .u8 x)) : ∃ y, w'.cell? a = some (.int .u8 y) := by
  rcases h.cell a with e | ⟨x, y, e, _⟩ | ⟨x, y, _, e⟩
  · exact ⟨_, e.trans k⟩
  · rw [k] at e; cases e
  · exact ⟨_, e⟩
theorem Sim.put (h : Sim B w w') {b o : Nat} {v : Value} (hb : B ≤ b) (hB : B ≤ w'.heap.size) (k : AsCell (w.cell? ⟨b, o, none⟩) (some v)) (hv : ∃ u, w'.cell? ⟨b, o, none⟩ = some u) : Sim B w (w'.setCell ⟨b, o, none⟩ v) := by
  obtain ⟨u, hu⟩ := hv
  have hc : Chg (fun k => k = b) w' (w'.setCell ⟨b, o, none⟩ v) := chg_g1 _ _ _ _
  refine ⟨h.low.trans (hc.below (fun x hx => by omega) hB), fun a => ?_, fun a => (World.frozen?_setCell _ _ _ _).trans (h.free a)⟩
  by_cases e : a = ⟨b, o, none⟩
  · subst e
    rw [World.cell?_setCell_same _ _ _ hu]
    exact k
  · rw [World.cell?_setCell_other _ _ _ _ (by intro h; exact e (by rw [h]))]
    exact h.cell a
end
/-- A fact in a row of facts that may be written into. -/
theorem fa_at {B : Nat} {So Si : Nat → Prop} {w : World} {A : Option Addr} {n : Nat} {xs : List Fa} (h : Els (encFaL B) So Si w A n xs) {k : Nat} {f : Fa} (hx : xs[k]? = some f) :
    ∃ b off s, A = some ⟨b, off, none⟩ ∧ So b ∧ FaIn (fun b => Si b ∧ B ≤ b ∧ Loose w b) w s f ∧ ∀ j u, (faCells s f).toList[j]? = some u → w.cell? ⟨b, off + k * 13 + j, none⟩ = some u := by
  obtain ⟨b, off, rfl, hb, hat⟩ := Els.flat h (by rw [← h.len]; exact Nat.lt_of_le_of_lt (Nat.zero_le k) (List.getElem?_eq_some_iff.1 hx).1)
  obtain ⟨r, ⟨s, rfl, hf⟩, hc⟩ := hat k f hx
  exact ⟨b, off, s, rfl, hb, hf, fun j u hu => by rw [Nat.add_assoc]; exact hc j u hu⟩
theorem str_at {So Si : Nat → Prop} {w : World} {A : Option Addr} {n : Nat} {ns : List (List UInt8)} (h : Els encS So Si w A n ns) {k : Nat} {x : List UInt8} (hx : ns[k]? = some x) : ∃ b off, A = some ⟨b, off, none⟩ ∧ So b ∧ w.cell? ⟨b, off + k, none⟩ = some (.string (bstr x)) := by
  obtain ⟨b, off, rfl, hb, hat⟩ := Els.flat h (by rw [← h.len]; exact Nat.lt_of_le_of_lt (Nat.zero_le k) (List.getElem?_eq_some_iff.1 hx).1)
  obtain ⟨r, ⟨rfl, _⟩, hc⟩ := hat k x hx
  have h0 := hc 0 _ rfl
  have e : off + (k * encS.size + 0) = off + k := by show off + (k * 1 + 0) = _; omega
  rw [e] at h0
  exact ⟨b, off, rfl, hb, h0⟩
theorem byte_at {So Si : Nat → Prop} {w : World} {A : Option Addr} {n : Nat} {ns : List UInt8} (h : Els encB So Si w A n ns) {k : Nat} {x : UInt8} (hx : ns[k]? = some x) : ∃ b off, A = some ⟨b, off, none⟩ ∧ So b ∧ w.cell? ⟨b, off + k, none⟩ = some (.int .u8 (x.toNat : Int)) := by
  obtain ⟨b, off, rfl, hb, hat⟩ := Els.flat h (by rw [← h.len]; exact Nat.lt_of_le_of_lt (Nat.zero_le k) (List.getElem?_eq_some_iff.1 hx).1)
  obtain ⟨r, ⟨rfl, _⟩, hc⟩ := hat k x hx
  have h0 := hc 0 _ rfl
  have e : off + (k * encB.size + 0) = off + k := by show off + (k * 1 + 0) = _; omega
  rw [e] at h0
  exact ⟨b, off, rfl, hb, h0⟩
theorem lt13_ltM {m : Ms} (h : LtMsg13 m) (hq : ∀ x ∈ m.qs, x.name.length ≤ 1048576) : LtM m := by
  have hl : m.an.length + m.au.length + m.ex.length ≤ 150 := by have := h.all; rw [List.length_append, List.length_append] at this; exact this
  have hsub : ∀ j, ∀ x ∈ secL m j, x ∈ m.an ++ m.au ++ m.ex := fun j x hx => by
    match j, hx with
    | 0, hx => exact List.mem_append_left _ (List.mem_append_left _ hx)
    | 1, hx => exact List.mem_append_left _ (List.mem_append_right _ hx)
    | n + 2, hx => exact List.mem_append_right _ hx
  refine ⟨by have := h.qs; omega, fun j => ?_, fun x hx => by have := hq x hx; omega, fun j x hx => ?_⟩
  · match j with
    | 0 => show m.an.length ≤ _; omega
    | 1 => show m.au.length ≤ _; omega
    | n + 2 => show m.ex.length ≤ _; omega
  · obtain ⟨h1, h2, h3, h4, h5, h6⟩ := h.r x (hsub j x hx)
    exact ⟨⟨by omega, by omega, by omega, by omega, by omega⟩, by omega⟩
theorem rowMs : RowT Try.prog 31 14 := ⟨_, Try.underlying31, by kernel_rfl⟩

set_option maxHeartbeats 8000000 in
theorem factKeeps_heavy (sq : QS) (q : Qu) (s : MS) (m : Ms) (Z : Option Addr) (nz cz : Nat) (zs : List (List UInt8)) (w : World) (hq : QIn (ltS w) w sq q) (hm : MIn (ltS w) w s m) (hz : Els encS (ltS w) (ltS w) w Z nz zs) (hzc : nz ≤ cz ∧ cz ≤ maxLen) (hqn : ∀ x ∈ m.qs, x.name.length ≤ 1048576) (hqs : m.qs.length ≤ 1048576) (hlen : (m.an.length + m.au.length + m.ex.length) * 168 ≤ 140737488355328) (hL : ltM13 m = false) :
    Calls Try.prog 9 #[quV sq q, msV s m, .slice Z nz cz] w (LawT w) := by
  obtain ⟨w1, hw1⟩ : ∃ w1, w1 = w.alloc (.cells (qCells sq q) 25) := ⟨_, rfl⟩
  obtain ⟨w2, hw2⟩ : ∃ w2, w2 = w1.alloc (.cells (mCells s m) 31) := ⟨_, rfl⟩
  have hb1 : Below w.heap.size w w1 := by rw [hw1]; exact bl.alloc (Nat.le_refl _) _
  have hb2 : Below w1.heap.size w1 w2 := by rw [hw2]; exact bl.alloc (Nat.le_refl _) _
  have hz1 : w1.heap.size = w.heap.size + 1 := by rw [hw1]; simp
  have hz2 : w2.heap.size = w.heap.size + 2 := by rw [hw2]; simp; omega
  have HQ1 : Hid (QRow w2 w.heap.size sq q) := by
    have h : QRow w1 w.heap.size sq q := by rw [hw1]; exact QRow.made w sq q
    exact h.below hb2
  have HM1 : Hid (MRow w2 (w.heap.size + 1) s m) := by show MRow _ _ _ _; rw [hw2, ← hz1]; exact MRow.made w1 s m
  have HB2 : Hid (Below w.heap.size w w2) := nx hb1 hb2
  have HZ2 := Lib.hid hz2
  have HMI := Lib.hid hm
  have HQW : Hid (∀ w', Below w.heap.size w w' → QIn (ltS w) w' sq q) := fun w' hw => hq.below hw (fun b hb => hb)
  have HMW : Hid (∀ w', Below w.heap.size w w' → MIn (ltS w) w' s m) := fun w' hw => hm.below hw (fun b hb => hb)
  have HZW : Hid (∀ w', Below w.heap.size w w' → Els encS (ltS w) (ltS w) w' Z nz zs) := fun w' hw => hz.below hw (fun b hb => hb) (fun b hb => hb)
  have HLI : Hid (∀ w', Below w.heap.size w w' → Calls Try.prog 31 #[msV s m] w' (RetP (fun v _ => v = .bool (ltM13 m)) w')) := fun w' hw => light13_any s m w' (hm.below hw (fun b hb => hb)) (fun b hb => Nat.lt_of_lt_of_le hb hw.size) (by omega) hlen
  rw [hL] at HLI
  unfold msV mCells at HLI
  unfold quV msV
  unfold qCells at hw1
  unfold mCells at hw2 ⊢
  clear hm hq hz hb1 hb2 hz1 hz2 hlen hqs hqn hzc hL
  go_enter Try.func9, Try.ntmps9
  go_upto_region 1 with (fail)
  rw [← hw1, ← hw2]
  clear hw1 hw2
  go_wp2_with (first
    | (go_at_call 30; (with_reducible refine (answers13_any w4).mono ?_); rintro e w5 ⟨rfl, hb5⟩)
    | (go_at_call 31; (with_reducible refine (HLI.out w3 (nx HB2.out hb3)).mono ?_); rintro e w4 ⟨v4, rfl, rfl, hb4⟩; obtain ⟨y0, y1, y2⟩ := (HQ1.out.below (nx hb3 hb4)).cells)
    | (go_at_call 30; (with_reducible refine (answers13_any w2).mono ?_); rintro e w3 ⟨rfl, hb3⟩; obtain ⟨z0, z1, z2, z3, z4, z5, z6, z7, z8, z9, z10, z11, z12, z13⟩ := (HM1.out.below hb3).cells)
    | fail)
  go_ret
  exact ⟨rfl, nx (nx HB2.out (nx hb3 hb4)) hb5⟩

set_option maxHeartbeats 8000000 in
theorem factKeeps_zone (sq : QS) (q : Qu) (s : MS) (m : Ms) (Z : Option Addr) (nz cz : Nat) (zs : List (List UInt8)) (w : World) (hq : QIn (ltS w) w sq q) (hm : MIn (ltS w) w s m) (hz : Els encS (ltS w) (ltS w) w Z nz zs) (hzc : nz ≤ cz ∧ cz ≤ maxLen) (hqn : ∀ x ∈ m.qs, x.name.length ≤ 1048576) (hqs : m.qs.length ≤ 1048576) (hlen : (m.an.length + m.au.length + m.ex.length) * 168 ≤ 140737488355328) (hL : ltM13 m = true) (h1 : 200 < nz) :
    Calls Try.prog 9 #[quV sq q, msV s m, .slice Z nz cz] w (LawT w) := by
  obtain ⟨w1, hw1⟩ : ∃ w1, w1 = w.alloc (.cells (qCells sq q) 25) := ⟨_, rfl⟩
  obtain ⟨w2, hw2⟩ : ∃ w2, w2 = w1.alloc (.cells (mCells s m) 31) := ⟨_, rfl⟩
  have hb1 : Below w.heap.size w w1 := by rw [hw1]; exact bl.alloc (Nat.le_refl _) _
  have hb2 : Below w1.heap.size w1 w2 := by rw [hw2]; exact bl.alloc (Nat.le_refl _) _
  have hz1 : w1.heap.size = w.heap.size + 1 := by rw [hw1]; simp
  have hz2 : w2.heap.size = w.heap.size + 2 := by rw [hw2]; simp; omega
  have HQ1 : Hid (QRow w2 w.heap.size sq q) := by
    have h : QRow w1 w.heap.size sq q := by rw [hw1]; exact QRow.made w sq q
    exact h.below hb2
  have HM1 : Hid (MRow w2 (w.heap.size + 1) s m) := by show MRow _ _ _ _; rw [hw2, ← hz1]; exact MRow.made w1 s m
  have HB2 : Hid (Below w.heap.size w w2) := nx hb1 hb2
  have HZ2 := Lib.hid hz2
  have HMI := Lib.hid hm
  have HQW : Hid (∀ w', Below w.heap.size w w' → QIn (ltS w) w' sq q) := fun w' hw => hq.below hw (fun b hb => hb)
  have HMW : Hid (∀ w', Below w.heap.size w w' → MIn (ltS w) w' s m) := fun w' hw => hm.below hw (fun b hb => hb)
  have HZW : Hid (∀ w', Below w.heap.size w w' → Els encS (ltS w) (ltS w) w' Z nz zs) := fun w' hw => hz.below hw (fun b hb => hb) (fun b hb => hb)
  have HLI : Hid (∀ w', Below w.heap.size w w' → Calls Try.prog 31 #[msV s m] w' (RetP (fun v _ => v = .bool (ltM13 m)) w')) := fun w' hw => light13_any s m w' (hm.below hw (fun b hb => hb)) (fun b hb => Nat.lt_of_lt_of_le hb hw.size) (by omega) hlen
  rw [hL] at HLI
  have h1d : decide ((200 : Int) < (nz : Int)) = true := decide_eq_true (by omega)
  unfold msV mCells at HLI
  unfold quV msV
  unfold qCells at hw1
  unfold mCells at hw2 ⊢
  clear hm hq hz hb1 hb2 hz1 hz2 hlen hqs hqn hzc hL h1
  go_enter Try.func9, Try.ntmps9
  go_upto_region 1 with (fail)
  rw [← hw1, ← hw2]
  clear hw1 hw2
  go_wp2_with (first
    | (go_at_call 30; (with_reducible refine (answers13_any w4).mono ?_); rintro e w5 ⟨rfl, hb5⟩)
    | (go_at_call 31; (with_reducible refine (HLI.out w3 (nx HB2.out hb3)).mono ?_); rintro e w4 ⟨v4, rfl, rfl, hb4⟩; obtain ⟨y0, y1, y2⟩ := (HQ1.out.below (nx hb3 hb4)).cells)
    | (go_at_call 30; (with_reducible refine (answers13_any w2).mono ?_); rintro e w3 ⟨rfl, hb3⟩; obtain ⟨z0, z1, z2, z3, z4, z5, z6, z7, z8, z9, z10, z11, z12, z13⟩ := (HM1.out.below hb3).cells)
    | fail)
  go_ret
  exact ⟨rfl, nx (nx HB2.out (nx hb3 hb4)) hb5⟩

set_option maxHeartbeats 8000000 in
theorem factKeeps_name (sq : QS) (q : Qu) (s : MS) (m : Ms) (Z : Option Addr) (nz cz : Nat) (zs : List (List UInt8)) (w : World) (hq : QIn (ltS w) w sq q) (hm : MIn (ltS w) w s m) (hz : Els encS (ltS w) (ltS w) w Z nz zs) (hzc : nz ≤ cz ∧ cz ≤ maxLen) (hqn : ∀ x ∈ m.qs, x.name.length ≤ 1048576) (hqs : m.qs.length ≤ 1048576) (hlen : (m.an.length + m.au.length + m.ex.length) * 168 ≤ 140737488355328) (hL : ltM13 m = true) (h1 : ¬ 200 < nz) (h2 : 200 < q.name.length) :
    Calls Try.prog 9 #[quV sq q, msV s m, .slice Z nz cz] w (LawT w) := by
  obtain ⟨w1, hw1⟩ : ∃ w1, w1 = w.alloc (.cells (qCells sq q) 25) := ⟨_, rfl⟩
  obtain ⟨w2, hw2⟩ : ∃ w2, w2 = w1.alloc (.cells (mCells s m) 31) := ⟨_, rfl⟩
  have hb1 : Below w.heap.size w w1 := by rw [hw1]; exact bl.alloc (Nat.le_refl _) _
  have hb2 : Below w1.heap.size w1 w2 := by rw [hw2]; exact bl.alloc (Nat.le_refl _) _
  have hz1 : w1.heap.size = w.heap.size + 1 := by rw [hw1]; simp
  have hz2 : w2.heap.size = w.heap.size + 2 := by rw [hw2]; simp; omega
  have HQ1 : Hid (QRow w2 w.heap.size sq q) := by
    have h : QRow w1 w.heap.size sq q := by rw [hw1]; exact QRow.made w sq q
    exact h.below hb2
  have HM1 : Hid (MRow w2 (w.heap.size + 1) s m) := by show MRow _ _ _ _; rw [hw2, ← hz1]; exact MRow.made w1 s m
  have HB2 : Hid (Below w.heap.size w w2) := nx hb1 hb2
  have HZ2 := Lib.hid hz2
  have HMI := Lib.hid hm
  have HQW : Hid (∀ w', Below w.heap.size w w' → QIn (ltS w) w' sq q) := fun w' hw => hq.below hw (fun b hb => hb)
  have HMW : Hid (∀ w', Below w.heap.size w w' → MIn (ltS w) w' s m) := fun w' hw => hm.below hw (fun b hb => hb)
  have HZW : Hid (∀ w', Below w.heap.size w w' → Els encS (ltS w) (ltS w) w' Z nz zs) := fun w' hw => hz.below hw (fun b hb => hb) (fun b hb => hb)
  have HLI : Hid (∀ w', Below w.heap.size w w' → Calls Try.prog 31 #[msV s m] w' (RetP (fun v _ => v = .bool (ltM13 m)) w')) := fun w' hw => light13_any s m w' (hm.below hw (fun b hb => hb)) (fun b hb => Nat.lt_of_lt_of_le hb hw.size) (by omega) hlen
  rw [hL] at HLI
  have h1d : decide ((200 : Int) < (nz : Int)) = false := decide_eq_false (by omega)
  have h2d : decide ((200 : Int) < (q.name.length : Int)) = true := decide_eq_true (by omega)
  unfold msV mCells at HLI
  unfold quV msV
  unfold qCells at hw1
  unfold mCells at hw2 ⊢
  clear hm hq hz hb1 hb2 hz1 hz2 hlen hqs hqn hzc hL h1 h2
  go_enter Try.func9, Try.ntmps9
  go_upto_region 1 with (fail)
  rw [← hw1, ← hw2]
  clear hw1 hw2
  go_wp2_with (first
    | (go_at_call 30; (with_reducible refine (answers13_any w4).mono ?_); rintro e w5 ⟨rfl, hb5⟩)
    | (go_at_call 31; (with_reducible refine (HLI.out w3 (nx HB2.out hb3)).mono ?_); rintro e w4 ⟨v4, rfl, rfl, hb4⟩; obtain ⟨y0, y1, y2⟩ := (HQ1.out.below (nx hb3 hb4)).cells)
    | (go_at_call 30; (with_reducible refine (answers13_any w2).mono ?_); rintro e w3 ⟨rfl, hb3⟩; obtain ⟨z0, z1, z2, z3, z4, z5, z6, z7, z8, z9, z10, z11, z12, z13⟩ := (HM1.out.below hb3).cells)
    | fail)
  go_ret
  exact ⟨rfl, nx (nx HB2.out (nx hb3 hb4)) hb5⟩

set_option maxHeartbeats 16000000 in
theorem factKeeps_main (sq : QS) (q : Qu) (s : MS) (m : Ms) (Z : Option Addr) (nz cz : Nat) (zs : List (List UInt8)) (w : World) (hq : QIn (ltS w) w sq q) (hm : MIn (ltS w) w s m) (hz : Els encS (ltS w) (ltS w) w Z nz zs) (hzc : nz ≤ cz ∧ cz ≤ maxLen) (hqn : ∀ x ∈ m.qs, x.name.length ≤ 1048576) (hqs : m.qs.length ≤ 1048576) (hlen : (m.an.length + m.au.length + m.ex.length) * 168 ≤ 140737488355328) (hL : LtMsg13 m) (h1 : ¬ 200 < nz) (h2 : ¬ 200 < q.name.length) :
    Calls Try.prog 9 #[quV sq q, msV s m, .slice Z nz cz] w (LawT w) := by
  obtain ⟨w1, hw1⟩ : ∃ w1, w1 = w.alloc (.cells (qCells sq q) 25) := ⟨_, rfl⟩
  obtain ⟨w2, hw2⟩ : ∃ w2, w2 = w1.alloc (.cells (mCells s m) 31) := ⟨_, rfl⟩
  have hb1 : Below w.heap.size w w1 := by rw [hw1]; exact bl.alloc (Nat.le_refl _) _
  have hb2 : Below w1.heap.size w1 w2 := by rw [hw2]; exact bl.alloc (Nat.le_refl _) _
  have hz1 : w1.heap.size = w.heap.size + 1 := by rw [hw1]; simp
  have hz2 : w2.heap.size = w.heap.size + 2 := by rw [hw2]; simp; omega
  have HQ1 : Hid (QRow w2 w.heap.size sq q) := by
    have h : QRow w1 w.heap.size sq q := by rw [hw1]; exact QRow.made w sq q
    exact h.below hb2
  have HM1 : Hid (MRow w2 (w.heap.size + 1) s m) := by show MRow _ _ _ _; rw [hw2, ← hz1]; exact MRow.made w1 s m
  have HB2 : Hid (Below w.heap.size w w2) := nx hb1 hb2
  have HZ2 := Lib.hid hz2
  have HMI := Lib.hid hm
  have HQW : Hid (∀ w', Below w.heap.size w w' → QIn (ltS w) w' sq q) := fun w' hw => hq.below hw (fun b hb => hb)
  have HMW : Hid (∀ w', Below w.heap.size w w' → MIn (ltS w) w' s m) := fun w' hw => hm.below hw (fun b hb => hb)
  have HZW : Hid (∀ w', Below w.heap.size w w' → Els encS (ltS w) (ltS w) w' Z nz zs) := fun w' hw => hz.below hw (fun b hb => hb) (fun b hb => hb)
  have HLI : Hid (∀ w', Below w.heap.size w w' → Calls Try.prog 31 #[msV s m] w' (RetP (fun v _ => v = .bool (ltM13 m)) w')) := fun w' hw => light13_any s m w' (hm.below hw (fun b hb => hb)) (fun b hb => Nat.lt_of_lt_of_le hb hw.size) (by omega) hlen
  rw [ltM13_yes hL] at HLI
  have h1d : decide ((200 : Int) < (nz : Int)) = false := decide_eq_false (by omega)
  have h2d : decide ((200 : Int) < (q.name.length : Int)) = false := decide_eq_false (by omega)
  have HN : Hid (nz ≤ 200 ∧ q.name.length ≤ 200) := ⟨by omega, by omega⟩
  have HLM := Lib.hid (lt13_ltM hL hqn)
  have HOM : Hid (∀ w', Below w.heap.size w w' → Calls Try.prog 33 #[msV s m] w' (RetP (fun v w' => ∃ s', v = msV s' m ∧ MIn (ltS w') w' s' m) w')) := fun w' hw => (ownMsg_any s m w' (hm.below hw (fun b hb => hb)) (fun b hb => Nat.lt_of_lt_of_le hb hw.size) HLM.out.light).mono (by rintro e w5 ⟨v5, rfl, ⟨s5, rfl, hi5⟩, hb5⟩; exact ⟨_, rfl, ⟨s5, rfl, hi5.mono (fun b hb => hb.2)⟩, hb5⟩)
  unfold msV mCells at HLI HOM
  unfold quV msV
  unfold qCells at hw1
  unfold mCells at hw2 ⊢
  clear hm hq hz hb1 hb2 hz1 hz2 hlen hqs hqn hzc hL h1 h2
  go_enter Try.func9, Try.ntmps9
  go_upto_region 1 with (fail)
  rw [← hw1, ← hw2]
  clear hw1 hw2
  generalize hqe : w.heap.size = q0 at HQ1 HM1 HZ2 ⊢
  have HQE := Lib.hid hqe
  clear hqe
  go_upto_region 3 with (first
    | (go_at_call 31; (with_reducible refine (HLI.out w3 (nx HB2.out hb3)).mono ?_); rintro e w4 ⟨v4, rfl, rfl, hb4⟩; obtain ⟨y0, y1, y2⟩ := (HQ1.out.below (nx hb3 hb4)).cells)
    | (go_at_call 30; (with_reducible refine (answers13_any w2).mono ?_); rintro e w3 ⟨rfl, hb3⟩; obtain ⟨z0, z1, z2, z3, z4, z5, z6, z7, z8, z9, z10, z11, z12, z13⟩ := (HM1.out.below hb3).cells)
    | fail)
  have HB4 : Hid (Below w.heap.size w w4) := nx HB2.out (nx hb3 hb4)
  have HM4 := Lib.hid (HM1.out.below (nx hb3 hb4))
  have HQ4 := Lib.hid (HQ1.out.below (nx hb3 hb4))
  clear hb3 hb4 z0 z1 z2 z3 z4 z5 z6 z7 z8 z9 z10 z11 z12 z13 h1d h2d y0 y1 y2
  obtain ⟨z0, z1, z2, z3, z4, z5, z6, z7, z8, z9, z10, z11, z12, z13⟩ := HM4.out.cells
  go_upto_region 4 with (go_at_call 33; (with_reducible refine (HOM.out w4 HB4.out).mono ?_); rintro e w5 ⟨v5, rfl, ⟨s5, rfl, hi5⟩, hb5⟩; have HI5 := Lib.hid hi5; have HB5 := Lib.hid hb5; clear hi5 hb5)
  clear z0 z1 z2 z3 z4 z5 z6 z7 z8 z9 z10 z11 z12 z13
  obtain ⟨w6, hw6⟩ : ∃ w6, w6 = w5.alloc (.cells (mCells s5 m) 31) := ⟨_, rfl⟩
  obtain ⟨b6, hb6⟩ : ∃ b, b = w5.heap.size := ⟨_, rfl⟩
  have HB6' : Hid (Below w5.heap.size w5 w6) := by show Below _ _ _; rw [hw6]; exact bl.alloc (Nat.le_refl _) _
  have HR6 : Hid (MRow w6 b6 s5 m) := by show MRow _ _ _ _; rw [hw6, hb6]; exact MRow.made w5 s5 m
  have HI6 : Hid (MIn (ltS w6) w6 s5 m) := (HI5.out.below HB6'.out (fun b hb => hb)).mono (fun b hb => Nat.lt_of_lt_of_le hb HB6'.out.size)
  have HB6 : Hid (Below w.heap.size w w6) := nx (nx HB4.out HB5.out) HB6'.out
  have HQ6 : Hid (QRow w6 q0 sq q) := HQ4.out.below (nx HB5.out HB6'.out)
  have HM6 : Hid (MRow w6 (q0 + 1) s m) := HM4.out.below (nx HB5.out HB6'.out)
  unfold mCells at hw6
  rw [← hw6]
  clear hw6
  rw [← hb6]
  clear hb6
  have hbd : Below w6.heap.size w6 w6.drew := bl.drew
  have hS6 : QRow w6.drew q0 sq q ∧ MRow w6.drew b6 s5 m := ⟨HQ6.out.below hbd, HR6.out.below hbd⟩
  obtain ⟨b7, hb7⟩ : ∃ b, b = w6.drew.heap.size := ⟨_, rfl⟩
  obtain ⟨w7, hw7⟩ : ∃ w7, w7 = w6.drew.alloc (.cells #[] 9) := ⟨_, rfl⟩
  have HB7' : Hid (Below w6.drew.heap.size w6.drew w7) := by show Below _ _ _; rw [hw7]; exact bl.alloc (Nat.le_refl _) _
  have HO7 : Hid (OwnE encS 9 noS w7 b7 (.slice (some ⟨b7, 0, none⟩) 0 0) []) := by show OwnE _ _ _ _ _ _ _; rw [hw7, hb7]; exact ownE_lit0 (fun _ h => h.elim) (Nat.le_refl _)
  have HB7 : Hid (Below w.heap.size w w7) := nx (nx HB6.out hbd) HB7'.out
  have HZ7 : Hid (Els encS (ltS w) (ltS w) w7 Z nz zs) := HZW.out w7 HB7.out
  have HS7 : Hid (∀ b, ltS w b → b < w7.heap.size ∧ some b ≠ (Value.slice (some ⟨b7, 0, none⟩) 0 0).ownBlock) := fun b hb => ⟨Nat.lt_of_lt_of_le hb HB7.out.size, fun e => by
    have e2 : some b = some b7 := e
    injection e2 with e3
    have h1 : w.heap.size ≤ w6.drew.heap.size := HB6.out.size
    have h2 : b < w.heap.size := hb
    omega⟩
  have HBZ : Hid (w6.drew.heap.size ≤ w7.heap.size) := HB7'.out.size
  have HNB : Hid ((([] : List (List UInt8)).length + nz) * 16 ≤ 140737488355328) := by show _ ≤ _; have := HN.out.1; simp; omega
  have HNM : Hid (([] : List (List UInt8)).length + nz ≤ maxLen) := by show _ ≤ _; have := HN.out.1; unfold maxLen; simp; omega
  have HW7 := Lib.hid hw7
  have HB7E := Lib.hid hb7
  clear hw7 hb7 hbd
  refine wp_region_any (by kernel_rfl) ?_
  change wpAny _ _ _ _ _ _ _ (World.drew w6)
  refine wpAny_of_P (S := fun W => QRow W q0 sq q ∧ MRow W b6 s5 m) (dem := fun _ => true) _ _ _ _ ?_
  refine wpAnyP_take (i := 0) (v := .agg #[.slice sq.A q.name.length sq.c, .int .i64 q.type, .int .i64 q.cls]) rfl (by kernel_rfl) (by kernel_rfl) (by kernel_rfl) (by kernel_rfl) (by kernel_rfl) (fun _ _ _ h => h) (Or.inl ⟨by kernel_rfl, by (intro W hW; have c0 := hW.1.cells; obtain ⟨y0, y1, y2⟩ := c0; go_simp)⟩) hS6 ?_
  refine wpAnyP_take (i := 1) (v := .agg (mCells s5 m)) rfl (by kernel_rfl) (by kernel_rfl) (by kernel_rfl) (by kernel_rfl) (by kernel_rfl) (fun _ _ _ h => h) (yields_row rowMs (by rfl) (.tmp 7) rfl b6 rfl (mCells s5 m) (fun W hW => hW.2) rfl) hS6 ?_
  refine wpAnyP_take (i := 3) (v := .slice Z nz cz) rfl (by kernel_rfl) (by kernel_rfl) (by kernel_rfl) (by kernel_rfl) (by kernel_rfl) (fun _ _ _ h => h) (Or.inl ⟨by kernel_rfl, by (intro W hW; go_simp)⟩) hS6 ?_
  refine wpAnyP_one (i := 2) rfl (by kernel_rfl) fun K hK => ?_
  go_simp
  refine hK _ (w6.drew.alloc (.cells #[] 9)) (fun _ => by rw [← HW7.out]; exact ⟨hS6.1.below HB7'.out, hS6.2.below HB7'.out⟩) ?_
  clear hK
  rw [← HW7.out]
  refine wpAnyP_one (i := 4) rfl (by kernel_rfl) fun K hK => ?_
  refine step_appE (w := w7) elS (by kernel_rfl) (.tmp 37) (.tmp 38) rfl b7 (.slice (some ⟨b7, 0, none⟩) 0 0) [] (by rw [HB7E.out]; rfl) HO7.out Z nz cz zs HZ7.out HS7.out rfl HNB.out HNM.out (by rw [HB7E.out]; exact HBZ.out) ?_
  intro v8 w8 hown8 hg8 hat8
  have HB8' : Hid (Below w6.drew.heap.size w6.drew w8) := Below.grown HB7'.out hg8 HB7'.out.size (fun k hk => by have := (OwnE.lt HO7.out k hk).1; rw [HB7E.out] at this; exact this)
  obtain ⟨A8, c8, hv8, he8, hl8, hm8⟩ := OwnE.form hown8
  have hlt8 := OwnE.lt hown8
  rw [List.nil_append] at hv8 he8 hl8
  rw [HZ7.out.len] at hv8 he8 hl8
  subst hv8
  have HB8 : Hid (Below w.heap.size w w8) := HB6.out.trans (((bl.drew : Below w6.heap.size w6 w6.drew).trans HB8'.out).mono HB6.out.size)
  have HE8 : Hid (Els encS (ltS w8) (ltS w8) w8 A8 nz zs) := he8.mono (fun b hb => (hlt8 b hb).2) (fun b hb => hb.elim (fun h => h.elim) (fun h => Nat.lt_of_lt_of_le h HB8.out.size))
  have HLM8 : Hid (nz ≤ c8 ∧ c8 ≤ maxLen) := ⟨hl8, hm8⟩
  clear hown8 hg8 hat8 he8 hl8 hm8 hlt8
  refine hK _ _ (fun _ => ⟨QRow.below hS6.1 HB8'.out, MRow.below hS6.2 HB8'.out⟩) ?_
  clear hK
  refine wpAnyP_one (i := 5) rfl (by kernel_rfl) fun K hK => ?_
  go_simp
  refine (from_any ⟨sq, q, s5, m, A8, nz, c8, zs, 5⟩ w8 (S := ltS w8) ((HI6.out.below ((bl.drew : Below w6.heap.size w6 w6.drew).trans HB8'.out) (fun b hb => hb)).mono (fun b hb => Nat.lt_of_lt_of_le hb HB8'.out.size)) ((HQW.out w8 HB8.out).mono (fun b hb => Nat.lt_of_lt_of_le hb HB8.out.size)) HE8.out HLM8.out (fun b hb => hb) HLM.out (by have := HN.out.2; show q.name.length ≤ 1000; omega) (by have := HN.out.1; show nz ≤ 1000000000; omega) ⟨show (-9223372036854775808 : Int) ≤ 5 by decide, show (5 : Int) ≤ 9223372036854775807 by decide⟩).mono ?_
  rintro e w9 ⟨v9, rfl, ⟨SF, out, hown, hol, _⟩, hb9⟩
  obtain ⟨A9, c9, hv9, he9, hl9, hm9⟩ := OwnE.form hown
  obtain ⟨B0, hB0⟩ : ∃ b, b = w8.heap.size := ⟨_, rfl⟩
  rw [← hB0] at he9
  obtain ⟨n, hn⟩ : ∃ n, n = out.length := ⟨_, rfl⟩
  rw [← hn] at hv9 he9 hl9 hol
  subst hv9
  have HE9 := Lib.hid he9
  have HNE := Lib.hid hn
  have hnb : n ≤ 5000 := hol
  have HL9 : Hid (n ≤ c9) := hl9
  have HB9 := Lib.hid hb9
  have HB0 := Lib.hid hB0
  have hS9 : QRow w9 q0 sq q ∧ MRow w9 b6 s5 m := ⟨(QRow.below hS6.1 HB8'.out).below hb9, (MRow.below hS6.2 HB8'.out).below hb9⟩
  refine hK _ _ (fun _ => hS9) ?_
  clear hK hown hol he9 hn hl9 hm9 hb9 hB0
  refine wpAnyP_one (i := 6) rfl (by kernel_rfl) fun K hK => ?_
  go_simp
  refine hK _ _ (fun h => absurd h (by rw [show needS _ _ _ = false from by kernel_rfl]; decide)) ?_
  clear hK
  refine wpAnyP_done (by kernel_rfl) ?_ _
  have H06 : Hid (Below w6.heap.size w6 w9) := (bl.drew : Below w6.heap.size w6 w6.drew).trans (nx (w1 := w8) (w := w6.drew) HB8'.out HB9.out)
  have HM9 : Hid (MRow w9 b6 s5 m) := hS9.2
  have HN9 : Hid (MRow w9 (q0 + 1) s m) := HM6.out.below H06.out
  have HI9 : Hid (MIn (ltS w6) w9 s5 m) := HI6.out.below H06.out (fun b hb => hb)
  have HJ9 : Hid (MIn (ltS w) w9 s m) := HMW.out w9 (nx HB6.out H06.out)
  have HLO : Hid (w.heap.size ≤ B0 ∧ w6.heap.size ≤ B0 ∧ B0 ≤ w9.heap.size) := by
    have h1 := HB6.out.size
    have h2 := HB8'.out.size
    have h3 := HB9.out.size
    have h4 := HB0.out
    have h5 : w6.drew.heap.size = w6.heap.size := rfl
    exact ⟨by omega, by omega, by omega⟩
  have HRL : Hid (b6 < w6.heap.size ∧ q0 + 1 < w6.heap.size) := ⟨HR6.out.lt, HM6.out.lt⟩
  clear hS6 hS9
  go_upto_region 6 with (fail)
  go_loopw [9] (fun iv wr => ∃ i : Nat, iv = .int .i64 (i : Int) ∧ i ≤ n ∧ Hid (Sim B0 w9 wr)) (fun iv _ => n - (intOf iv).toNat)
  case atStart => exact ⟨0, rfl, Nat.zero_le _, Sim.refl HLO.out.2.2⟩
  case round =>
    obtain ⟨i, rfl, hi, HS⟩ := hrel
    by_cases hin : i < n
    rotate_left
    · have hin' : ¬ (i : Int) < (n : Int) := by omega
      have HBk : Hid (∀ b, b < B0 → wr.heap[b]? = w9.heap[b]?) := fun b hb => HS.out.low.block b hb
      have R1 : MRow wr b6 s5 m := (HBk.out b6 (by have := HRL.out.1; have := HLO.out.2.1; omega)).trans HM9.out
      have R2 : MRow wr (q0 + 1) s m := (HBk.out (q0 + 1) (by have := HRL.out.2; have := HLO.out.2.1; omega)).trans HN9.out
      have hsz : B0 ≤ wr.heap.size := Nat.le_trans HLO.out.2.2 HS.out.low.size
      have HSAME := Lib.hid (rsameMsg_eq s5 s m wr (HI9.out.keep (fun b hb => HBk.out b (Nat.lt_of_lt_of_le hb HLO.out.2.1))) (HJ9.out.keep (fun b hb => HBk.out b (Nat.lt_of_lt_of_le hb HLO.out.1))) (fun b hb => Nat.lt_of_lt_of_le (Nat.lt_of_lt_of_le hb HLO.out.2.1) hsz) (fun b hb => Nat.lt_of_lt_of_le (Nat.lt_of_lt_of_le hb HLO.out.1) hsz) HLM.out.light)
      unfold msV mCells at HSAME
      obtain ⟨z0, z1, z2, z3, z4, z5, z6, z7, z8, z9, z10, z11, z12, z13⟩ := R1.cells
      obtain ⟨u0, u1, u2, u3, u4, u5, u6, u7, u8, u9, u10, u11, u12, u13⟩ := R2.cells
      clear R1 R2 hsz
      go_wp2_with (go_at_call 37; refine HSAME.out.mono ?_; rintro e w10 ⟨v10, rfl, rfl, hb10⟩)
      go_ret
      exact ⟨rfl, (nx HB6.out H06.out).trans ((HS.out.low.mono HLO.out.1).trans (hb10.mono (Nat.le_trans (Nat.le_trans HLO.out.1 HLO.out.2.2) HS.out.low.size)))⟩
    have hin' : (i : Int) < (n : Int) := by omega
    obtain ⟨f, hf⟩ : ∃ f, out[i]? = some f := ⟨_, List.getElem?_eq_getElem (by rw [← HNE.out]; exact hin)⟩
    obtain ⟨bf, of, sf, hA, hbf, hfi, hfc⟩ := fa_at HE9.out hf
    have HFI := Lib.hid hfi
    have HC0 : Hid (w9.cell? ⟨bf, of + i * 13, none⟩ = some (.slice sf.A f.name.length sf.ac)) := hfc 0 _ rfl
    have HC6 : Hid (w9.cell? ⟨bf, of + i * 13 + 6, none⟩ = some (.slice sf.S f.set.length sf.sc)) := hfc 6 _ rfl
    rw [hA]
    obtain ⟨nl, hnl⟩ : ∃ k, k = f.name.length := ⟨_, rfl⟩
    obtain ⟨ns, hns⟩ : ∃ k, k = f.set.length := ⟨_, rfl⟩
    rw [← hnl] at HC0
    rw [← hns] at HC6
    have HNL := Lib.hid hnl
    have HNS := Lib.hid hns
    have hnlb : nl ≤ 9223372036854775807 := by rw [hnl]; exact Nat.le_trans hfi.cn.1 hfi.cn.2
    have hnsb : ns ≤ 9223372036854775807 := by rw [hns]; exact Nat.le_trans hfi.cl.1 hfi.cl.2
    have HAC : Hid (nl ≤ sf.ac ∧ ns ≤ sf.sc) := by constructor; (rw [hnl]; exact hfi.cn.1); (rw [hns]; exact hfi.cl.1)
    have HBB : Hid (B0 ≤ w9.heap.size) := HLO.out.2.2
    clear hf hA hbf hfi hfc hnl hns
    go_upto_region 9 with (fail)
    go_loopw [10] (fun kv wr => ∃ k : Nat, kv = .int .i64 (k : Int) ∧ k ≤ nl ∧ Hid (Sim B0 w9 wr)) (fun kv _ => nl - (intOf kv).toNat)
    case atStart => exact ⟨0, rfl, Nat.zero_le _, HS⟩
    case round =>
      clear HS
      obtain ⟨k, rfl, hk, HS⟩ := hrel
      have d0 : wr.cell? ⟨bf, of + i * 13, none⟩ = some (.slice sf.A nl sf.ac) := HS.out.slice HC0.out
      by_cases hkn : k < nl
      · have hkn' : (k : Int) < (nl : Int) := by omega
        obtain ⟨x, hx⟩ : ∃ x, f.name[k]? = some x := ⟨_, List.getElem?_eq_getElem (by rw [← HNL.out]; exact hkn)⟩
        obtain ⟨b1, o1, hA1, hb1, hc1⟩ := str_at HFI.out.n hx
        rw [hA1] at d0
        obtain ⟨y, hy⟩ := HS.out.str hc1
        have fz : wr.frozen? ⟨b1, o1 + k, none⟩ = false := (HS.out.free _).trans (hb1.2.2.free _)
        have HC1 := Lib.hid hc1
        have HY := Lib.hid hy
        have HB1 := Lib.hid hb1.2.1
        clear hx hA1 hb1 hc1
        go_wp2
        go_roundw
        case rel => exact ⟨k + 1, by go_num, by omega, HS.out.put HB1.out (Nat.le_trans HBB.out HS.out.low.size) (.inr (.inl ⟨_, _, HC1.out, rfl⟩)) ⟨_, HY.out⟩⟩
        case measure => simp [intOf]; omega
      have hkn' : ¬ (k : Int) < (nl : Int) := by omega
      go_upto_region 13 with (fail)
      clear d0 hkn hkn' hk
      go_loopw [11] (fun jv wr => ∃ j : Nat, jv = .int .i64 (j : Int) ∧ j ≤ ns ∧ Hid (Sim B0 w9 wr)) (fun jv _ => ns - (intOf jv).toNat)
      case atStart => exact ⟨0, rfl, Nat.zero_le _, HS⟩
      case round =>
        clear HS
        obtain ⟨j, rfl, hj, HS⟩ := hrel
        have d6 : wr.cell? ⟨bf, of + i * 13 + 6, none⟩ = some (.slice sf.S ns sf.sc) := HS.out.slice HC6.out
        by_cases hjn : j < ns
        rotate_left
        · have hjn' : ¬ (j : Int) < (ns : Int) := by omega
          go_wp2
          go_roundw
          case rel => exact ⟨i + 1, by go_num, by omega, HS⟩
          case measure => simp [intOf]; omega
        have hjn' : (j : Int) < (ns : Int) := by omega
        obtain ⟨d, hd⟩ : ∃ d, f.set[j]? = some d := ⟨_, List.getElem?_eq_getElem (by rw [← HNS.out]; exact hjn)⟩
        obtain ⟨b2, o2, s2, hS2, hb2, hdi, hdc⟩ := da_at HFI.out.l hd
        have HG6 : Hid (w9.cell? ⟨bf, of + i * 13 + 6, none⟩ = some (.slice (some ⟨b2, o2, none⟩) ns sf.sc)) := by show _ = _; rw [← hS2]; exact HC6.out
        obtain ⟨nb, hnb2⟩ : ∃ k, k = d.bytes.length := ⟨_, rfl⟩
        obtain ⟨nh, hnh2⟩ : ∃ k, k = d.host.length := ⟨_, rfl⟩
        have HE0 : Hid (w9.cell? ⟨b2, o2 + j * 5, none⟩ = some (.slice s2.A0 nb s2.c0)) := by show _ = _; rw [hnb2]; exact hdc.1
        have HE1 : Hid (w9.cell? ⟨b2, o2 + j * 5 + 1, none⟩ = some (.slice s2.A1 nh s2.c1)) := by show _ = _; rw [hnh2]; exact hdc.2.1
        have HNB2 := Lib.hid hnb2
        have HNH2 := Lib.hid hnh2
        have HDI := Lib.hid hdi
        have hnbb : nb ≤ 9223372036854775807 := by rw [hnb2]; exact Nat.le_trans hdi.cb.1 hdi.cb.2
        have hnhb : nh ≤ 9223372036854775807 := by rw [hnh2]; exact Nat.le_trans hdi.ch.1 hdi.ch.2
        clear hd hS2 hb2 hdi hdc hnb2 hnh2
        go_upto_region 16 with (fail)
        clear d6
        go_loopw [12] (fun kv wr => ∃ k : Nat, kv = .int .i64 (k : Int) ∧ k ≤ nb ∧ Hid (Sim B0 w9 wr)) (fun kv _ => nb - (intOf kv).toNat)
        case atStart => exact ⟨0, rfl, Nat.zero_le _, HS⟩
        case round =>
          clear HS
          obtain ⟨k, rfl, hk, HS⟩ := hrel
          have g6 : wr.cell? ⟨bf, of + i * 13 + 6, none⟩ = some (.slice (some ⟨b2, o2, none⟩) ns sf.sc) := HS.out.slice HG6.out
          have g0 : wr.cell? ⟨b2, o2 + j * 5, none⟩ = some (.slice s2.A0 nb s2.c0) := HS.out.slice HE0.out
          by_cases hkn : k < nb
          · have hkn' : (k : Int) < (nb : Int) := by omega
            obtain ⟨x, hx⟩ : ∃ x, d.bytes[k]? = some x := ⟨_, List.getElem?_eq_getElem (by rw [← HNB2.out]; exact hkn)⟩
            obtain ⟨b1, o1, hA1, hb1, hc1⟩ := byte_at HDI.out.b hx
            rw [hA1] at g0
            obtain ⟨y, hy⟩ := HS.out.u8 hc1
            have fz : wr.frozen? ⟨b1, o1 + k, none⟩ = false := (HS.out.free _).trans (hb1.2.2.free _)
            have HC1 := Lib.hid hc1
            have HY := Lib.hid hy
            have HB1 := Lib.hid hb1.2.1
            clear hx hA1 hb1 hc1
            go_wp2
            go_roundw
            case rel => exact ⟨k + 1, by go_num, by omega, HS.out.put HB1.out (Nat.le_trans HBB.out HS.out.low.size) (.inr (.inr ⟨_, _, HC1.out, rfl⟩)) ⟨_, HY.out⟩⟩
            case measure => simp [intOf]; omega
          have hkn' : ¬ (k : Int) < (nb : Int) := by omega
          go_upto_region 20 with (fail)
          clear g6 g0 hkn hkn' hk
          go_loopw [13] (fun kv wr => ∃ k : Nat, kv = .int .i64 (k : Int) ∧ k ≤ nh ∧ Hid (Sim B0 w9 wr)) (fun kv _ => nh - (intOf kv).toNat)
          case atStart => exact ⟨0, rfl, Nat.zero_le _, HS⟩
          case round =>
            clear HS
            obtain ⟨k, rfl, hk, HS⟩ := hrel
            have g6 : wr.cell? ⟨bf, of + i * 13 + 6, none⟩ = some (.slice (some ⟨b2, o2, none⟩) ns sf.sc) := HS.out.slice HG6.out
            have g0 : wr.cell? ⟨b2, o2 + j * 5 + 1, none⟩ = some (.slice s2.A1 nh s2.c1) := HS.out.slice HE1.out
            by_cases hkn : k < nh
            · have hkn' : (k : Int) < (nh : Int) := by omega
              obtain ⟨x, hx⟩ : ∃ x, d.host[k]? = some x := ⟨_, List.getElem?_eq_getElem (by rw [← HNH2.out]; exact hkn)⟩
              obtain ⟨b1, o1, hA1, hb1, hc1⟩ := str_at HDI.out.h hx
              rw [hA1] at g0
              obtain ⟨y, hy⟩ := HS.out.str hc1
              have fz : wr.frozen? ⟨b1, o1 + k, none⟩ = false := (HS.out.free _).trans (hb1.2.2.free _)
              have HC1 := Lib.hid hc1
              have HY := Lib.hid hy
              have HB1 := Lib.hid hb1.2.1
              clear hx hA1 hb1 hc1
              go_wp2
              go_roundw
              case rel => exact ⟨k + 1, by go_num, by omega, HS.out.put HB1.out (Nat.le_trans HBB.out HS.out.low.size) (.inr (.inl ⟨_, _, HC1.out, rfl⟩)) ⟨_, HY.out⟩⟩
              case measure => simp [intOf]; omega
            have hkn' : ¬ (k : Int) < (nh : Int) := by omega
            go_wp2
            go_roundw
            case rel => exact ⟨j + 1, by go_num, by omega, HS⟩
            case measure => simp [intOf]; omega
theorem factKeeps_walk (sq : QS) (q : Qu) (s : MS) (m : Ms) (Z : Option Addr) (nz cz : Nat) (zs : List (List UInt8)) (w : World) (hq : QIn (ltS w) w sq q) (hm : MIn (ltS w) w s m) (hz : Els encS (ltS w) (ltS w) w Z nz zs) (hzc : nz ≤ cz ∧ cz ≤ maxLen) (hqn : ∀ x ∈ m.qs, x.name.length ≤ 1048576) (hqs : m.qs.length ≤ 1048576) (hlen : (m.an.length + m.au.length + m.ex.length) * 168 ≤ 140737488355328) :
    Calls Try.prog 9 #[quV sq q, msV s m, .slice Z nz cz] w (LawT w) := by
  by_cases hL : LtMsg13 m
  · by_cases h1 : 200 < nz
    · exact factKeeps_zone sq q s m Z nz cz zs w hq hm hz hzc hqn hqs hlen (ltM13_yes hL) h1
    · by_cases h2 : 200 < q.name.length
      · exact factKeeps_name sq q s m Z nz cz zs w hq hm hz hzc hqn hqs hlen (ltM13_yes hL) h1 h2
      · exact factKeeps_main sq q s m Z nz cz zs w hq hm hz hzc hqn hqs hlen hL h1 h2
  · exact factKeeps_heavy sq q s m Z nz cz zs w hq hm hz hzc hqn hqs hlen (ltM13_no hL)
end Go.Proofs.Ytimkdpkhdbiniaa

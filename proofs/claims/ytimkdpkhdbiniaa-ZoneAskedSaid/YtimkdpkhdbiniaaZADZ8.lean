/- Parts of a proof, joined: Zn11, Zn12. -/
import Derived.Test.YtimkdpkhdbiniaaZADZ7
import Derived.Test.YtimkdpkhdbiniaaZADZ4
import Derived.Test.YtimkdpkhdbiniaaZADM03r
/- Where Zone.fill stands, in memory (no program in it). -/
namespace Go.Proofs.Ytimkdpkhdbiniaa
open Go.RowKit
set_option maxRecDepth 100000
set_option linter.unusedVariables false

/-- A name that is read from blocks that are not among X. -/
structure NmZ (w : World) (X : Nat → Prop) (A : Option Addr) (c : Nat) (ns : List (List UInt8)) : Prop where
  e : ∃ S, Els encS S S w A ns.length ns ∧ ∀ b, S b → b < w.heap.size ∧ ¬ X b
  c : ns.length ≤ c ∧ c ≤ maxLen
  l : ns.length ≤ 1000
section
variable {w w' : World} {X X' F : Nat → Prop} {A : Option Addr} {c : Nat} {ns : List (List UInt8)}
theorem NmZ.rd (h : NmZ w X A c ns) : RdE encS w A ns.length ns := by
  obtain ⟨S, he, hS⟩ := h.e
  exact he.mono (fun b hb => (hS b hb).1) (fun b hb => (hS b hb).1)
theorem NmZ.chg (h : NmZ w X A c ns) (hc : Chg F w w') (hF : ∀ b, F b → X b) (hX : ∀ b, X' b → X b ∨ w.heap.size ≤ b) : NmZ w' X' A c ns := by
  obtain ⟨S, he, hS⟩ := h.e
  have k : ∀ b, S b → w'.heap[b]? = w.heap[b]? := fun b hb => hc.block b (hS b hb).1 (fun e => (hS b hb).2 (hF b e))
  exact ⟨⟨S, he.keep k k, fun b hb => ⟨Nat.lt_of_lt_of_le (hS b hb).1 hc.size, fun e => (hX b e).elim (hS b hb).2 (fun h => by have := (hS b hb).1; omega)⟩⟩, h.c, h.l⟩
theorem NmZ.below (h : NmZ w X A c ns) (hb : Below w.heap.size w w') : NmZ w' X A c ns := h.chg (F := fun _ => False) (Chg.of_below hb) (fun _ h => h.elim) (fun _ h => .inl h)
end
/-- A message's answers, as a slice. -/
def anV (s : MS) (m : Ms) : Value := .slice s.A m.an.length s.ac
theorem RB.nil (B : Nat) (w : World) : RB B w (.slice none 0 0) [] noS := ⟨OwnE.nil _ _ _ _, fun b h => h.elim⟩
theorem RB.base_le {B B' : Nat} {w : World} {v : Value} {xs : List RR} {S : Nat → Prop} (h : RB B w v xs S) (hB : B' ≤ B) : RB B' w v xs S := by
  obtain ⟨cells, ho, hr, hS⟩ := OwnE.base_le h.o hB
  exact ⟨⟨cells, ho, fun i x hx => by obtain ⟨s, hc, hi⟩ := hr i x hx; exact ⟨s, hc, hi.mono (fun b hb => ⟨hb.1, Nat.le_trans hB hb.2.1, hb.2.2⟩)⟩, hS⟩, fun b hb => Nat.le_trans hB (h.ge b hb)⟩
theorem ZM.base_le {B B' pm : Nat} {w : World} {s : MS} {m : Ms} (h : ZM B w pm s m) (hB : B' ≤ B) (hp : pm < B') : ZM B' w pm s m := by
  obtain ⟨Sa, Su, Sx, h1, h2, h3, h4⟩ := h.L
  exact ⟨h.row, hp, Sa, Su, Sx, h1.base_le hB, h2.base_le hB, h3.base_le hB, h4⟩
theorem not_blk_nil {b : Nat} : ¬ Blk (.slice none 0 0) noS b := fun h => h.elim (fun e => by cases e) (fun e => e)
/-- The answers are written: so many more. -/
theorem ZM.answers {B pm : Nat} {w4 w5 : World} {s : MS} {m : Ms} {A : Option Addr} {c N : Nat} {ys : List RR} {Sa S' Su Sx : Nat → Prop} (h : MRow w4 pm s m) (hp : pm < B) (hu : RB B w4 (.slice s.U m.au.length s.uc) m.au Su) (hx : RB B w4 (.slice s.X m.ex.length s.xc) m.ex Sx) (hau : Apart (.slice s.A m.an.length s.ac) Sa (.slice s.U m.au.length s.uc) Su) (hax : Apart (.slice s.A m.an.length s.ac) Sa (.slice s.X m.ex.length s.xc) Sx) (hux : Apart (.slice s.U m.au.length s.uc) Su (.slice s.X m.ex.length s.xc) Sx)
    (hga : ∀ b, Sa b → B ≤ b) (hS' : ∀ b, S' b → B ≤ b ∧ ¬ Blk (.slice s.U m.au.length s.uc) Su b ∧ ¬ Blk (.slice s.X m.ex.length s.xc) Sx b)
    (ho : OwnE (encRRL B) 84 (orS Sa S') w5 B (.slice A (m.an ++ ys).length c) (m.an ++ ys)) (hg : w4.grownBy w5 (Value.slice s.A m.an.length s.ac).ownBlock) (hN : w4.heap.size ≤ N) (hat : (Value.slice A (m.an ++ ys).length c).ownBlock = (Value.slice s.A m.an.length s.ac).ownBlock ∨ (Value.slice A (m.an ++ ys).length c).ownBlock = some N) (hla : ∀ k, (Value.slice s.A m.an.length s.ac).ownBlock = some k → B ≤ k) : ZM B (w5.setCell ⟨pm, 9, none⟩ (.slice A (m.an ++ ys).length c)) pm { s with A := A, ac := c } { m with an := m.an ++ ys } := by
  have hc5 : Chg (fun b => (Value.slice s.A m.an.length s.ac).ownBlock = some b) w4 w5 := (Chg.refl _ _).grown hg (fun k hk => .inl hk)
  have hc : Chg (fun k => k = pm) w5 (w5.setCell ⟨pm, 9, none⟩ (.slice A (m.an ++ ys).length c)) := chg_g1 _ _ _ _
  have n1 : ∀ {v : Value} {xs : List RR} {S : Nat → Prop} {u : World}, RB B u v xs S → ∀ b, Blk v S b → ¬ b = pm := fun h b hb e => by have := h.geB hb; omega
  have hu5 := hu.chg hc5 (fun b hb e => hau b (.inl e) hb)
  have hx5 := hx.chg hc5 (fun b hb e => hax b (.inl e) hb)
  have ha5 : RB B w5 (.slice A (m.an ++ ys).length c) (m.an ++ ys) (orS Sa S') := ⟨ho, fun b hb => hb.elim (hga b) (fun h => (hS' b h).1)⟩
  have hr5 : MRow w5 pm s m := hc5.heap h (fun e => by have := hla pm e; omega)
  refine ⟨MRow.put hr5 9 _ _ _ rfl, hp, orS Sa S', Su, Sx, ha5.chg hc (n1 ha5), hu5.chg hc (n1 hu5), hx5.chg hc (n1 hx5), fun b e h1 => ?_, fun b e h1 => ?_, hux⟩
  · rcases e with e | e | e
    · rcases hat with h2 | h2
      · exact hau b (.inl (by rw [← h2]; exact e)) h1
      · have h3 : some b = some N := e.symm.trans h2
        have h4 := hu.lt h1
        injection h3 with h3
        omega
    · exact hau b (.inr e) h1
    · exact (hS' b e).2.1 h1
  · rcases e with e | e | e
    · rcases hat with h2 | h2
      · exact hax b (.inl (by rw [← h2]; exact e)) h1
      · have h3 : some b = some N := e.symm.trans h2
        have h4 := hx.lt h1
        injection h3 with h3
        omega
    · exact hax b (.inr e) h1
    · exact (hS' b e).2.2 h1

/-- Where Zone.fill stands: the message, the name's box, the names that were seen. -/
structure FI (B pm nb : Nat) (w1 wr : World) (s0 s : MS) (m : Ms) (A : Option Addr) (c : Nat) (n : List (List UInt8)) (sv : Value) (l : List (List (List UInt8))) : Prop where
  row : MRow wr pm s m
  pB : pm < B ∧ nb < B ∧ pm ≠ nb
  an : ∃ S, RB B wr (anV s m) m.an S ∧ ∀ b, sv.ownBlock = some b → ¬ Blk (anV s m) S b
  emp : m.au = [] ∧ m.ex = [] ∧ s.U = none ∧ s.uc = 0 ∧ s.X = none ∧ s.xc = 0
  C : Chg (fun z => z = pm ∨ z = nb ∨ B ≤ z) w1 wr
  Q : s.Q = s0.Q ∧ s.qc = s0.qc
  box : wr.heap[nb]? = some (.cells #[.slice A n.length c] 23 (0, 0))
  nm : NmZ wr (fun b => b = pm ∨ b = nb ∨ (anV s m).ownBlock = some b ∨ sv.ownBlock = some b) A c n
  seen : ∃ S, OwnE (slE encS) 23 S wr B sv l ∧ ∀ b, S b → ¬ (b = pm ∨ b = nb ∨ (anV s m).ownBlock = some b)
section
variable {B pm nb : Nat} {w1 wr w' : World} {s0 s : MS} {m : Ms} {A : Option Addr} {c : Nat} {n : List (List UInt8)} {sv : Value} {l : List (List (List UInt8))}
theorem FI.below (h : FI B pm nb w1 wr s0 s m A c n sv l) (hb : Below wr.heap.size wr w') : FI B pm nb w1 w' s0 s m A c n sv l := by
  obtain ⟨Sa, ha, hsa⟩ := h.an
  obtain ⟨S, ho, hS⟩ := h.seen
  exact ⟨h.row.below hb, h.pB, ⟨Sa, ha.below hb, hsa⟩, h.emp, h.C.trans (Chg.of_below (F := fun _ => False) hb) (fun _ h => h.elim), h.Q, (hb.block nb (Array.getElem?_eq_some_iff.1 h.box).1).trans h.box, h.nm.below hb, ⟨S, ho.below hb, hS⟩⟩
theorem FI.cell (h : FI B pm nb w1 wr s0 s m A c n sv l) : wr.cell? ⟨nb, 0, none⟩ = some (.slice A n.length c) := (cell_of_row _ _ _ _ _ _ h.box).trans rfl
theorem FI.free (h : FI B pm nb w1 wr s0 s m A c n sv l) : wr.frozen? ⟨nb, 0, none⟩ = false := frozen_of_row _ _ _ _ _ h.box
theorem FI.size (h : FI B pm nb w1 wr s0 s m A c n sv l) (hB : B ≤ w1.heap.size) : B ≤ wr.heap.size := Nat.le_trans hB h.C.size
theorem FI.zm (h : FI B pm nb w1 wr s0 s m A c n sv l) : ZM B wr pm s m := by
  obtain ⟨Sa, ha, _⟩ := h.an
  obtain ⟨e1, e2, e3, e4, e5, e6⟩ := h.emp
  refine ⟨h.row, h.pB.1, Sa, noS, noS, ha, ?_, ?_, ?_, ?_, ?_⟩
  · rw [e1, e3, e4]; exact RB.nil B wr
  · rw [e2, e5, e6]; exact RB.nil B wr
  · rw [e1, e3, e4]; exact fun b _ => not_blk_nil
  · rw [e2, e5, e6]; exact fun b _ => not_blk_nil
  · rw [e2, e5, e6]; exact fun b _ => not_blk_nil
/-- What fill leaves, from what one of its last steps leaves. -/
theorem FI.done {w0 : World} {s' : MS} {M : Ms} {F : Nat → Prop} (h : FI B pm nb w1 wr s0 s m A c n sv l) (h01 : Below w0.heap.size w0 w1) (hp : pm < w0.heap.size) (hnb : w0.heap.size ≤ nb) (hB : w0.heap.size ≤ B) (hz : ZM B w' pm s' M) (hc : Chg F wr w') (hF : ∀ z, F z → z = pm ∨ B ≤ z) (hq : s'.Q = s.Q ∧ s'.qc = s.qc) : ZCall w0.heap.size pm w0 s0 M (.returned (.tuple #[])) w' := by
  refine ⟨s', rfl, hz.base_le hB hp, ?_, hq.1.trans h.Q.1, hq.2.trans h.Q.2⟩
  have h1 : Chg (fun z => z = pm ∨ w0.heap.size ≤ z) w0 wr := (Chg.of_below h01).trans h.C (fun z hz => by
    rcases hz with e | e | e
    · exact .inl (.inl e)
    · exact .inl (.inr (by omega))
    · exact .inl (.inr (by omega)))
  exact h1.trans hc (fun z hz => .inl ((hF z hz).imp id (fun e => Nat.le_trans hB e)))
/-- A record more is answered, whose row was made behind Bl. -/
theorem FI.push {w5 w6 : World} {A' : Option Addr} {c' N Bl : Nat} {x : RR} {Sa S' : Nat → Prop} (h : FI B pm nb w1 w5 s0 s m A c n sv l) (hsa : ∀ b, sv.ownBlock = some b → ¬ Blk (anV s m) Sa b) (hga : ∀ b, Sa b → B ≤ b) (hBl : ∀ b, S' b → Bl ≤ b) (hB : B ≤ Bl) (hlo : ∀ b, (anV s m).ownBlock = some b ∨ sv.ownBlock = some b → b < Bl) (hw : w5.heap.size ≤ N)
    (ho : OwnE (encRRL B) 84 (orS Sa S') w6 B (.slice A' (m.an ++ [x]).length c') (m.an ++ [x])) (hg : w5.grownBy w6 (anV s m).ownBlock) (hat : (Value.slice A' (m.an ++ [x]).length c').ownBlock = (anV s m).ownBlock ∨ (Value.slice A' (m.an ++ [x]).length c').ownBlock = some N) :
    FI B pm nb w1 (w6.setCell ⟨pm, 9, none⟩ (.slice A' (m.an ++ [x]).length c')) s0 { s with A := A', ac := c' } { m with an := m.an ++ [x] } A c n sv l := by
  have hc5 : Chg (fun b => (anV s m).ownBlock = some b) w5 w6 := (Chg.refl _ _).grown hg (fun k hk => .inl hk)
  have hc : Chg (fun k => k = pm) w6 (w6.setCell ⟨pm, 9, none⟩ (.slice A' (m.an ++ [x]).length c')) := chg_g1 _ _ _ _
  obtain ⟨S, ho5, hS⟩ := h.seen
  obtain ⟨Sa0, ha0, _⟩ := h.an
  have hla : ∀ k, (anV s m).ownBlock = some k → B ≤ k := fun k hk => (OwnE.lt ha0.o k hk).1
  have hls := ho5.lt
  have hss := OwnE.S_lt ho5
  obtain ⟨hp1, hp2, hp3⟩ := h.pB
  have hat2 : ∀ b, (Value.slice A' (m.an ++ [x]).length c').ownBlock = some b → (anV s m).ownBlock = some b ∨ w5.heap.size ≤ b := fun b hb => by
    rcases hat with e | e
    · exact .inl (by rw [← e]; exact hb)
    · rw [e] at hb; injection hb with hb; exact .inr (by omega)
  have ha6 : RB B w6 (.slice A' (m.an ++ [x]).length c') (m.an ++ [x]) (orS Sa S') := ⟨ho, fun b hb => hb.elim (hga b) (fun h => Nat.le_trans hB (hBl b h))⟩
  have n1 : ∀ b, Blk (.slice A' (m.an ++ [x]).length c') (orS Sa S') b → ¬ b = pm := fun b hb e => by have := ha6.geB hb; omega
  have hr5 : MRow w6 pm s m := hc5.heap h.row (fun e => by have := hla pm e; omega)
  have hcs : Chg (fun z => z = pm ∨ (anV s m).ownBlock = some z) w5 (w6.setCell ⟨pm, 9, none⟩ (.slice A' (m.an ++ [x]).length c')) := (hc5.mono (fun z hz => .inl (.inr hz))).trans hc (fun z hz => .inl (.inl hz))
  refine ⟨MRow.put hr5 9 _ _ _ rfl, h.pB, ⟨orS Sa S', ha6.chg hc n1, fun b hb e => ?_⟩, h.emp, ?_, h.Q, hcs.heap h.box (fun e => ?_), h.nm.chg hcs (fun b hb => hb.elim .inl (fun e => .inr (.inr (.inl e)))) (fun b hb => ?_), ⟨S, ho5.chg hcs (fun k hk e => ?_) (fun b hb e => hS b hb (e.elim .inl (fun e => .inr (.inr e)))), fun b hb e => ?_⟩⟩
  · rcases e with e | e | e
    · rcases hat2 b e with e | e
      · exact hsa b hb (.inl e)
      · have := (hls b hb).2; omega
    · exact hsa b hb (.inr e)
    · have h1 := hBl b e
      have h2 := hlo b (.inr hb)
      omega
  · exact h.C.trans hcs (fun z hz => .inl (hz.elim .inl (fun e => .inr (.inr (hla z e)))))
  · rcases e with e | e
    · exact hp3 e.symm
    · have := hla nb e; omega
  · rcases hb with e | e | e | e
    · exact .inl (.inl e)
    · exact .inl (.inr (.inl e))
    · exact (hat2 b e).imp (fun e => .inr (.inr (.inl e))) id
    · exact .inl (.inr (.inr (.inr e)))
  · rcases e with e | e
    · have := (hls k hk).1; omega
    · exact hsa k hk (.inl e)
  · rcases e with e | e | e
    · exact hS b hb (.inl e)
    · exact hS b hb (.inr (.inl e))
    · rcases hat2 b e with e | e
      · exact hS b hb (.inr (.inr e))
      · have := (hss b hb).1; omega
/-- Another name in the box. -/
theorem FI.put {A' : Option Addr} {c' : Nat} {n' : List (List UInt8)} (h : FI B pm nb w1 wr s0 s m A c n sv l) (hn : NmZ wr (fun b => b = pm ∨ b = nb ∨ (anV s m).ownBlock = some b ∨ sv.ownBlock = some b) A' c' n') : FI B pm nb w1 (wr.setCell ⟨nb, 0, none⟩ (.slice A' n'.length c')) s0 s m A' c' n' sv l := by
  have hc : Chg (fun k => k = nb) wr (wr.setCell ⟨nb, 0, none⟩ (.slice A' n'.length c')) := chg_g1 _ _ _ _
  obtain ⟨Sa, ha, hsa⟩ := h.an
  obtain ⟨S, ho, hS⟩ := h.seen
  have hls := ho.lt
  obtain ⟨hp1, hp2, hp3⟩ := h.pB
  exact ⟨hc.heap h.row hp3, h.pB, ⟨Sa, ha.chg hc (fun b hb e => by have := ha.geB hb; omega), hsa⟩, h.emp, h.C.trans hc (fun z hz => .inl (.inr (.inl hz))), h.Q, (heap_setCell_same _ _ _ _ _ _ h.box).trans rfl, hn.chg hc (fun b hb => .inr (.inl hb)) (fun b hb => .inl hb), ⟨S, ho.chg hc (fun k hk e => by have := (hls k hk).1; omega) (fun b hb e => hS b hb (.inr (.inl e))), hS⟩⟩
/-- One more that was seen. -/
theorem FI.see {SO S' : Nat → Prop} {w6 w8 : World} {v8 : Value} {N : Nat} (h : FI B pm nb w1 w6 s0 s m A c n sv l) (hS : ∀ b, SO b → ¬ (b = pm ∨ b = nb ∨ (anV s m).ownBlock = some b)) (hS' : ∀ b, S' b → ¬ (b = pm ∨ b = nb ∨ (anV s m).ownBlock = some b)) (hown : OwnE (slE encS) 23 (orS SO S') w8 B v8 (l ++ [n])) (hg : w6.grownBy w8 sv.ownBlock) (hN : w6.heap.size ≤ N) (hv : v8.ownBlock = sv.ownBlock ∨ v8.ownBlock = some N) : FI B pm nb w1 w8 s0 s m A c n v8 (l ++ [n]) := by
  have hch : Chg (fun z => sv.ownBlock = some z) w6 w8 := (Chg.refl _ _).grown hg (fun k hk => .inl hk)
  obtain ⟨Sa, ha, hsa⟩ := h.an
  obtain ⟨S0, ho0, hS0⟩ := h.seen
  have hls := ho0.lt
  obtain ⟨hp1, hp2, hp3⟩ := h.pB
  have hv8 : ∀ b, v8.ownBlock = some b → sv.ownBlock = some b ∨ w6.heap.size ≤ b := fun b hb => by
    rcases hv with e | e
    · exact .inl (by rw [← e]; exact hb)
    · rw [e] at hb; injection hb with hb; exact .inr (by omega)
  refine ⟨hch.heap h.row (fun e => by have := (hls pm e).1; omega), h.pB, ⟨Sa, ha.chg hch (fun b hb e => hsa b e hb), fun b hb e => ?_⟩, h.emp, h.C.trans hch (fun z hz => .inl (.inr (.inr (hls z hz).1))), h.Q, hch.heap h.box (fun e => by have := (hls nb e).1; omega), h.nm.chg hch (fun b hb => .inr (.inr (.inr hb))) (fun b hb => ?_), ⟨orS SO S', hown, fun b hb => hb.elim (hS b) (hS' b)⟩⟩
  · rcases hv8 b hb with e2 | e2
    · exact hsa b e2 e
    · have := ha.lt e; omega
  · rcases hb with e | e | e | e
    · exact .inl (.inl e)
    · exact .inl (.inr (.inl e))
    · exact .inl (.inr (.inr (.inl e)))
    · exact (hv8 b e).imp (fun e => .inr (.inr (.inr e))) id
end
/-- append(s, x...), in a plain region. -/
theorem wpL_appE {α : Type} {P : Program} {T e : TypeId} {E : Enc α} {bytes : Nat} {w : World} (ht : ElT P T e E bytes) {ops : Array Oper} {rest : List Oper} {o : Oper} {a : Act} {Q : Exit → Act → World → Prop} (hgd : Region.wanted o (yielded ops a.tmps) = true) (s x : Operand)
    (ho : o.op = .call { callee := .builtin .append, args := #[s, x], argTypes := #[T, T] })
    (base : Nat) (v : Value) (xs : List α) {S : Nat → Prop} (hs : a.eval s = v) (hown : OwnE E e S w base v xs) (A : Option Addr) (n c : Nat) (ys : List α) {So S' : Nat → Prop} (hr : Els E So S' w A n ys) (hS' : ∀ b, S' b → b < w.heap.size ∧ some b ≠ v.ownBlock)
    (hx : a.eval x = .slice A n c) (hb : (xs.length + n) * bytes ≤ 140737488355328) (hl : xs.length + n ≤ maxLen) (hbase : base ≤ w.heap.size)
    (h : ∀ v' w', OwnE E e (orS S S') w' base v' (xs ++ ys) → w.grownBy w' v.ownBlock → (v'.ownBlock = v.ownBlock ∨ v'.ownBlock = some w.heap.size) → wpList P ops Q rest (a.put o.dst v') w') : wpList P ops Q (o :: rest) a w := by
  refine wpList_want hgd fun K hK => ?_
  have h1 := step_appE (K := K) (Q := Q) (X := True) ht hgd s x ho base v xs hs hown A n c ys hr hS' hx hb hl hbase (fun v' w' h1 h2 h3 => hK _ _ (h v' w' h1 h2 h3))
  rwa [if_pos hgd] at h1
theorem own_litZ {α : Type} {E : Enc α} {e : TypeId} {w : World} {S : Nat → Prop} {r : List Value} {x : α} (hr : E.R S w r x) (hS : ∀ b, S b → b < w.heap.size) : OwnE E e S (w.alloc (.cells r.toArray e)) w.heap.size (.slice (some ⟨w.heap.size, 0, none⟩) 1 1) [x] := by
  have hl := E.len hr
  refine ⟨r, ?_, fun i y hy => ?_, fun b hb => ⟨by have := hS b hb; simp; omega, fun e => by have h1 := hS b hb; injection e with e; rw [e] at h1; exact Nat.lt_irrefl _ h1⟩⟩
  · have h := World.ownsRow_lit (e := e) (size := E.size) (base := w.heap.size) w r.toArray 1 (Nat.le_refl _) (by unfold maxLen; omega) (by simpa using hl)
    simpa using h
  · rcases i with _ | i
    · have hy' : y = x := by simpa using hy.symm
      subst hy'
      rw [Nat.zero_mul, List.drop_zero, List.take_of_length_le (by omega)]
      exact E.keep (fun b hb => (bl.alloc (Nat.le_refl _) _).block b (hS b hb)) hr
    · simp at hy
/-- How many a slice has. -/
def slN : Value → Nat
  | .slice _ n _ => n
  | _ => 0
/-- The first of a row of records of the call's own. -/
theorem RB.at0 {B : Nat} {w : World} {v : Value} {x : RR} {xs : List RR} {S : Nat → Prop} (h : RB B w v (x :: xs) S) : ∃ g c s, v = .slice (some ⟨g, 0, none⟩) (x :: xs).length c ∧ v.ownBlock = some g ∧ g < w.heap.size ∧ (x :: xs).length ≤ c ∧ c ≤ maxLen ∧ (∀ b, S b → b ≠ g) ∧ RIn (fun k => S k ∧ B ≤ k ∧ Loose w k) w s x ∧ RCells w g 0 s x := by
  obtain ⟨g, c, rfl, _, h2, h3, h4, h5, h6⟩ := OwnE.flat h.o (by rw [List.length_cons]; omega)
  obtain ⟨r, ⟨s, rfl, hi⟩, hc⟩ := h6 0 x rfl
  have hc' : ∀ j u, (rrCells s x).toList[j]? = some u → w.cell? ⟨g, 0 + j, none⟩ = some u := fun j u hu => by
    have := hc j u hu
    rwa [Nat.zero_mul] at this
  exact ⟨g, c, s, rfl, rfl, h2, h3, h4, h5, hi, hc' 0 _ rfl, hc' 1 _ rfl, hc' 2 _ rfl, hc' 3 _ rfl, hc' 4 _ rfl, hc' 5 _ rfl, hc' 6 _ rfl, hc' 7 _ rfl, hc' 8 _ rfl⟩
/-- Where it stands, in plain Lean. -/
structure FP (zs : List (List UInt8)) (rs : List RR) (ty : Int) (M m : Ms) (l0 : List (List (List UInt8))) (n : List (List UInt8)) : Prop where
  nd : ((l0 ++ [n]).map lowN).Nodup
  rc : ∀ x ∈ l0, ∃ r ∈ rs, lowN r.name = lowN x
  an : m.an.length ≤ l0.length
  eq : M = fillP zs rs ty (rs.length + 1 - l0.length) n (l0 ++ [n]) m
section
variable {zs : List (List UInt8)} {rs : List RR} {ty : Int} {M m : Ms} {l0 : List (List (List UInt8))} {n : List (List UInt8)}
theorem FP.few (h : FP zs rs ty M m l0 n) : l0.length ≤ rs.length := by
  refine names_few l0 ?_ h.rc
  have := h.nd
  rw [List.map_append] at this
  exact (List.nodup_append.1 this).1
theorem FP.turn (h : FP zs rs ty M m l0 n) : M = fillP zs rs ty ((rs.length - l0.length) + 1) n (l0 ++ [n]) m := by
  have h1 := h.few
  have h2 := h.eq
  rw [show rs.length + 1 - l0.length = rs.length - l0.length + 1 by omega] at h2
  exact h2
theorem FP.refer (h : FP zs rs ty M m l0 n) {i : Nat} (hc : cutP rs zs.length n = some i) : M = referP rs (n.drop i) m := by
  rw [h.turn]
  simp only [fillP, hc]
theorem FP.found (h : FP zs rs ty M m l0 n) (hc : cutP rs zs.length n = none) (hf : ofP rs n ty ≠ []) : M = { m with an := m.an ++ ofP rs n ty } := by
  rw [h.turn]
  simp only [fillP, hc]
  rw [if_pos hf]
theorem FP.nocn (h : FP zs rs ty M m l0 n) (hc : cutP rs zs.length n = none) (hf : ofP rs n ty = []) (h5 : ofP rs n 5 = []) : M = { m with au := ofP rs zs 6, rcode := if (rs.any fun r => underB r.name n) = true then m.rcode else 3 } := by
  rw [h.turn]
  simp only [fillP, hc, h5]
  rw [if_neg (by rw [hf]; exact fun e => e rfl)]
theorem FP.stop (h : FP zs rs ty M m l0 n) (hc : cutP rs zs.length n = none) (hf : ofP rs n ty = []) {x : RR} {xs : List RR} (h5 : ofP rs n 5 = x :: xs) (hs : underB x.data.host zs = false ∨ seenB (l0 ++ [n]) x.data.host = true) : M = { m with an := m.an ++ [x] } := by
  rw [h.turn]
  simp only [fillP, hc, h5]
  rw [if_neg (by rw [hf]; exact fun e => e rfl), if_pos hs]
theorem FP.next (h : FP zs rs ty M m l0 n) (hc : cutP rs zs.length n = none) (hf : ofP rs n ty = []) {x : RR} {xs : List RR} (h5 : ofP rs n 5 = x :: xs) (hu : underB x.data.host zs = true) (hs : seenB (l0 ++ [n]) x.data.host = false) : FP zs rs ty M { m with an := m.an ++ [x] } (l0 ++ [n]) x.data.host := by
  have h0 := h.few
  have hx : x ∈ ofP rs n 5 := by rw [h5]; exact List.mem_cons_self
  have hxm := List.mem_filter.1 hx
  have hxn : lowN x.name = lowN n := by
    have h1 := hxm.2
    unfold selB at h1
    rw [Bool.and_eq_true] at h1
    exact of_decide_eq_true h1.2
  have hrc : ∀ y ∈ l0 ++ [n], ∃ r ∈ rs, lowN r.name = lowN y := fun y hy => by
    rcases List.mem_append.1 hy with e | e
    · exact h.rc y e
    · rw [List.mem_singleton.1 e]; exact ⟨x, hxm.1, hxn⟩
  have hlen := names_few (l0 ++ [n]) h.nd hrc
  rw [List.length_append, List.length_singleton] at hlen
  refine ⟨?_, hrc, ?_, ?_⟩
  · rw [List.map_append, List.nodup_append]
    refine ⟨h.nd, by simp, fun a ha b hb e => ?_⟩
    have hb' : b = lowN x.data.host := by simpa using hb
    obtain ⟨y, hy, hya⟩ := List.mem_map.1 ha
    have : seenB (l0 ++ [n]) x.data.host = true := List.any_eq_true.2 ⟨y, hy, decide_eq_true (by rw [hya, e, hb'])⟩
    rw [hs] at this
    cases this
  · rw [List.length_append, List.length_append, List.length_singleton, List.length_singleton]
    exact Nat.succ_le_succ h.an
  · rw [h.turn]
    simp only [fillP, hc, h5]
    rw [if_neg (by rw [hf]; exact fun e => e rfl), if_neg (by rw [hu, hs]; simp), List.length_append, List.length_singleton, show rs.length + 1 - (l0.length + 1) = rs.length - l0.length by omega]
end
end Go.Proofs.Ytimkdpkhdbiniaa

/- Zone.fill: the walk (printed by gen/zn12.py). -/
namespace Go.Proofs.Ytimkdpkhdbiniaa
open Go.RowKit
set_option maxRecDepth 100000
set_option linter.unusedVariables false

theorem elNz : ElT Try.prog 155 23 (slE encS) 24 := ElT.mk Try.underlying155 (.slice none 0 0) 1 (by kernel_rfl) rfl rfl

set_option maxHeartbeats 16000000 in
theorem fill_any (zA RA qA : Option Addr) (zn zc rn rc qn qc : Nat) (zs qs : List (List UInt8)) (rs : List RR) (ty cl : Int) (pm : Nat) (s : MS) (m : Ms) (w : World)
    (h : Els encRR (fun b => b < w.heap.size ∧ b ≠ pm) (fun b => b < w.heap.size ∧ b ≠ pm) w RA rn rs) (hz : Els encS (fun b => b < w.heap.size ∧ b ≠ pm) (fun b => b < w.heap.size ∧ b ≠ pm) w zA zn zs) (hq : Els encS (fun b => b < w.heap.size ∧ b ≠ pm) (fun b => b < w.heap.size ∧ b ≠ pm) w qA qn qs)
    (hm : MRow w pm s m) (hs : s.A = none ∧ s.ac = 0 ∧ s.U = none ∧ s.uc = 0 ∧ s.X = none ∧ s.xc = 0) (hme : m.an = [] ∧ m.au = [] ∧ m.ex = []) (hzc : zn ≤ zc ∧ zc ≤ maxLen) (hqc : qn ≤ qc ∧ qc ≤ maxLen) (hn : rn ≤ 1000) (hzl : zn ≤ 1000) (hql : qn ≤ 1000) (hL : ∀ r ∈ rs, LightR r) (hH : ∀ r ∈ rs, r.data.host.length ≤ 1000 ∧ r.name.length ≤ 1000) :
    Calls Try.prog 84 #[.agg #[.slice zA zn zc, .slice RA rn rc], .pointer (some ⟨pm, 0, none⟩), .agg #[.slice qA qn qc, .int .i64 ty, .int .i64 cl]] w (ZCall w.heap.size pm w s (fillP zs rs ty (rs.length + 1) qs [qs] m)) := by
  have ez := hz.len
  have er := h.len
  have eq := hq.len
  subst er
  obtain ⟨M, hM⟩ : ∃ M, M = fillP zs rs ty (rs.length + 1) qs [qs] m := ⟨_, rfl⟩
  rw [← hM]
  have HM := Lib.hid hM
  obtain ⟨w1, hw1⟩ : ∃ w1, w1 = w.alloc (.cells #[.slice zA zn zc, .slice RA rs.length rc] 75) := ⟨_, rfl⟩
  obtain ⟨w2, hw2⟩ : ∃ w2, w2 = w1.alloc (.cells #[.slice qA qn qc, .int .i64 ty, .int .i64 cl] 25) := ⟨_, rfl⟩
  obtain ⟨w3, hw3⟩ : ∃ w3, w3 = w2.alloc (.cells #[.slice qA qn qc] 23) := ⟨_, rfl⟩
  obtain ⟨w4, hw4⟩ : ∃ w4, w4 = w3.alloc (.cells #[.slice qA qn qc] 23) := ⟨_, rfl⟩
  obtain ⟨zb, hzb⟩ : ∃ g, g = w.heap.size := ⟨_, rfl⟩
  obtain ⟨qb, hqb⟩ : ∃ g, g = w1.heap.size := ⟨_, rfl⟩
  obtain ⟨nb, hnb⟩ : ∃ g, g = w2.heap.size := ⟨_, rfl⟩
  obtain ⟨B, hB⟩ : ∃ g, g = w3.heap.size := ⟨_, rfl⟩
  have hb1 : Below w.heap.size w w1 := by rw [hw1]; exact bl.alloc (Nat.le_refl _) _
  have hb2 : Below w1.heap.size w1 w2 := by rw [hw2]; exact bl.alloc (Nat.le_refl _) _
  have hb3 : Below w2.heap.size w2 w3 := by rw [hw3]; exact bl.alloc (Nat.le_refl _) _
  have hb4 : Below w3.heap.size w3 w4 := by rw [hw4]; exact bl.alloc (Nat.le_refl _) _
  have hs1 : qb = zb + 1 := by rw [hqb, hzb, hw1]; simp
  have hs2 : nb = zb + 2 := by rw [hnb, hzb, hw2, hw1]; simp
  have hs3 : B = zb + 3 := by rw [hB, hzb, hw3, hw2, hw1]; simp
  have hpm : pm < w.heap.size := hm.lt
  have z0 : w4.cell? ⟨zb, 0, none⟩ = some (.slice zA zn zc) := below_cell (nx hb2 (nx hb3 hb4)) (by rw [hw1, hzb]; exact new_cell w _ _ 0)
  have z1 : w4.cell? ⟨zb, 1, none⟩ = some (.slice RA rs.length rc) := below_cell (nx hb2 (nx hb3 hb4)) (by rw [hw1, hzb]; exact new_cell w _ _ 1)
  have q0 : w2.cell? ⟨qb, 0, none⟩ = some (.slice qA qn qc) := by rw [hw2, hqb]; exact new_cell w1 _ _ 0
  have q1 : w4.cell? ⟨qb, 1, none⟩ = some (.int .i64 ty) := below_cell (nx hb3 hb4) (by rw [hw2, hqb]; exact new_cell w1 _ _ 1)
  have n0 : w3.cell? ⟨nb, 0, none⟩ = some (.slice qA qn qc) := by rw [hw3, hnb]; exact new_cell w2 _ _ 0
  have HB4 : Hid (Below w.heap.size w w4) := nx hb1 (nx hb2 (nx hb3 hb4))
  have HS : Hid (zb = w.heap.size ∧ qb = zb + 1 ∧ nb = zb + 2 ∧ B = zb + 3 ∧ pm < zb ∧ B ≤ w4.heap.size) := ⟨hzb, hs1, hs2, hs3, by omega, by rw [hB]; exact hb4.size⟩
  have HC0 : Hid (∀ wr, Chg (fun z => z = pm ∨ z = nb ∨ B ≤ z) w4 wr → wr.cell? ⟨zb, 0, none⟩ = some (.slice zA zn zc) ∧ wr.cell? ⟨zb, 1, none⟩ = some (.slice RA rs.length rc) ∧ wr.cell? ⟨qb, 1, none⟩ = some (.int .i64 ty)) := fun wr hc => ⟨hc.cell z0 (show ¬ (zb = pm ∨ zb = nb ∨ B ≤ zb) by omega), hc.cell z1 (show ¬ (zb = pm ∨ zb = nb ∨ B ≤ zb) by omega), hc.cell q1 (show ¬ (qb = pm ∨ qb = nb ∨ B ≤ qb) by omega)⟩
  have HK : Hid (∀ wr, Chg (fun z => z = pm ∨ z = nb ∨ B ≤ z) w4 wr → (Els encRR (fun b => b < B ∧ b ≠ pm) (fun b => b < B ∧ b ≠ pm) wr RA rs.length rs) ∧ (Els encS (fun b => b < B ∧ b ≠ pm) (fun b => b < B ∧ b ≠ pm) wr zA zn zs)) := fun wr hc => by
    have k : ∀ b, (b < w.heap.size ∧ b ≠ pm) → wr.heap[b]? = w.heap[b]? := fun b hb => (hc.block b (Nat.lt_of_lt_of_le hb.1 HB4.out.size) (fun e => by have := hb.1; have := hb.2; omega)).trans (HB4.out.block b hb.1)
    have k2 : ∀ b, (b < w.heap.size ∧ b ≠ pm) → b < B ∧ b ≠ pm := fun b hb => ⟨by have := hb.1; omega, hb.2⟩
    exact ⟨(h.keep k k).mono k2 k2, (hz.keep k k).mono k2 k2⟩
  have HFI : Hid (FI B pm nb w4 w4 s s m qA qc qs (.slice (some ⟨B, 0, none⟩) 1 1) [qs]) := by
    have hqw : Els encS (fun b => b < w.heap.size ∧ b ≠ pm) (fun b => b < w.heap.size ∧ b ≠ pm) w4 qA qs.length qs := by
      rw [eq]
      exact hq.below HB4.out (fun b hb => hb.1) (fun b hb => hb.1)
    have hqw3 : Els encS (fun b => b < w.heap.size ∧ b ≠ pm) (fun b => b < w.heap.size ∧ b ≠ pm) w3 qA qn qs := hq.below (nx hb1 (nx hb2 hb3)) (fun b hb => hb.1) (fun b hb => hb.1)
    obtain ⟨s1, s2, s3, s4, s5, s6⟩ := hs
    obtain ⟨m1, m2, m3⟩ := hme
    have hav : anV s m = .slice none 0 0 := by unfold anV; rw [s1, s2, m1]; rfl
    have h3z : w.heap.size ≤ w3.heap.size := by omega
    refine ⟨hm.below HB4.out, ⟨by omega, by omega, by omega⟩, ⟨noS, by rw [hav, m1]; exact RB.nil B w4, fun b _ e => by rw [hav] at e; exact not_blk_nil e⟩, ⟨m2, m3, s3, s4, s5, s6⟩, Chg.refl _ _, ⟨rfl, rfl⟩, ?_, ⟨⟨_, hqw, fun b hb => ⟨by have := HB4.out.size; have := hb.1; omega, fun e => ?_⟩⟩, by rw [eq]; exact hqc, by rw [eq]; exact hql⟩, ⟨fun b => b < w.heap.size ∧ b ≠ pm, ?_, fun b hb e => ?_⟩⟩
    · rw [eq, hnb]
      exact (hb4.block w2.heap.size (by rw [hw3]; simp)).trans (by rw [hw3]; exact heap_alloc_new w2 _)
    · rw [hav] at e
      rcases e with e | e | e | e
      · exact hb.2 e
      · have := hb.1; omega
      · cases e
      · have e : B = b := by injection e
        have := hb.1; omega
    · have h0 := own_litZ (E := slE encS) (e := 23) (w := w3) (S := fun b => b < w.heap.size ∧ b ≠ pm) (r := [.slice qA qn qc]) (x := qs) ⟨_, _, _, rfl, hqw3, hqc⟩ (fun b hb => by have := hb.1; omega)
      rw [hw4, hB]
      exact h0
    · rw [hav] at e
      rcases e with e | e | e
      · exact hb.2 e
      · have := hb.1; omega
      · cases e
  have HFP : Hid (FP zs rs ty M m [] qs) := ⟨by simp, fun x hx => by simp at hx, by rw [hme.1]; exact Nat.le_refl _, hM⟩
  have HL := Lib.hid hL
  have HH := Lib.hid hH
  have HN : Hid (rs.length ≤ 1000 ∧ zn ≤ 1000 ∧ zn ≤ zc ∧ zc ≤ maxLen ∧ zs.length = zn) := ⟨hn, hzl, hzc.1, hzc.2, ez⟩
  have hrb : rs.length ≤ 1000 := hn
  clear h hz hq hm hs hme hzc hqc hn hzl hql hL hH ez eq hM hb1 hb2 hb3 hb4 hs2 hs3 hpm z0 z1 q1
  go_enter Try.func84, Try.ntmps84
  go_upto_region 1 with (fail)
  rw [← hw1]
  rw [← hw2]
  clear hw1 hw2
  rw [← hzb, ← hs1]
  clear hzb hqb hs1
  go_upto_region 2 with (fail)
  rw [← hw3, ← hnb]
  clear hw3 hnb q0
  go_upto_region 3 with (fail)
  rw [← hw4, ← hB]
  clear hw4 hB n0
  go_loopw [7] (fun sv wr => ∃ (nl : Nat) (As : Option Addr) (cs : Nat) (s' : MS) (m' : Ms) (A : Option Addr) (c : Nat) (n : List (List UInt8)) (l0 : List (List (List UInt8))), sv = .slice As nl cs ∧ nl ≤ rs.length + 1 ∧ Hid (nl = l0.length + 1) ∧ Hid (FI B pm nb w4 wr s s' m' A c n (.slice As nl cs) (l0 ++ [n])) ∧ Hid (FP zs rs ty M m' l0 n)) (fun sv _ => rs.length + 2 - slN sv)
  case atStart => exact ⟨1, _, _, s, m, qA, qc, qs, [], rfl, by omega, rfl, HFI, HFP⟩
  case round =>
    clear HFI HFP
    obtain ⟨nl, As, cs, s', m', A, c, n, l0, rfl, hnl, HNL, HF, HP⟩ := hrel
    obtain ⟨nn, hnn⟩ : ∃ k, k = n.length := ⟨_, rfl⟩
    have HNN := Lib.hid hnn
    obtain ⟨y0, y1, y2⟩ := HC0.out wr HF.out.C
    have y3 : wr.cell? ⟨nb, 0, none⟩ = some (.slice A nn c) := by rw [hnn]; exact HF.out.cell
    have HBS : Hid (B ≤ wr.heap.size) := HF.out.size HS.out.2.2.2.2.2
    have hlt : ∀ b, (b < B ∧ b ≠ pm) → b < wr.heap.size := fun b hb => Nat.lt_of_lt_of_le hb.1 HBS.out
    have HRD : Hid (∀ u, Below wr.heap.size wr u → RdE encRR u RA rs.length rs) := fun u hu => RdE.below (w := wr) ((HK.out wr HF.out.C).1.mono hlt hlt) hu
    have HNM : Hid (∀ u, Below wr.heap.size wr u → RdE encS u A nn n) := fun u hu => by rw [hnn]; exact HF.out.nm.rd.below hu
    have HNC : Hid (nn ≤ c ∧ c ≤ maxLen ∧ nn ≤ 1000) := by rw [hnn]; exact HF.out.nm.c.elim fun a b => ⟨a, b, HF.out.nm.l⟩
    have HCUT := Lib.hid (cut_any zA RA zn zc rs.length rc rs A nn c n wr (So := ltS wr) (Si := ltS wr) (HRD.out wr bl) (HNM.out wr bl) (fun b hb => hb) (fun b hb => hb) (by omega) (by have := HNC.out.2.2; omega) ⟨HNC.out.1, HNC.out.2.1⟩ (by have := HN.out.2.1; omega) HL.out)
    clear hlt hnn
    obtain ⟨ct, hct⟩ : ∃ x, x = cutP rs zn n := ⟨_, rfl⟩
    rw [← hct] at HCUT
    have HCT : Hid (cutP rs zs.length n = ct) := by show _ = _; rw [HN.out.2.2.2.2]; exact hct.symm
    clear hct
    have HFU : Hid (∀ u, Below wr.heap.size wr u → u.cell? ⟨zb, 0, none⟩ = some (.slice zA zn zc) ∧ u.cell? ⟨zb, 1, none⟩ = some (.slice RA rs.length rc) ∧ u.cell? ⟨qb, 1, none⟩ = some (.int .i64 ty) ∧ u.cell? ⟨nb, 0, none⟩ = some (.slice A nn c)) := fun u hu => ⟨below_cell hu y0, below_cell hu y1, below_cell hu y2, below_cell hu y3⟩
    cases ct with
    | some j =>
      have HMX : Hid (m'.ex.length ≤ 1000000) := by show _ ≤ _; rw [HF.out.emp.2.1]; exact Nat.zero_le _
      go_wp2_with (first
        | (go_at_call 139; refine (refer_any zA RA zn zc rs.length rc rs A2 (nn - j) c2 (n.drop j) B pm s' m' w5 ((HK.out w5 (HF.out.below HB5.out).C).1) (RdE.below (w := wr) HE5.out HB5.out) (by have := HNC.out.2.2; unfold maxLen; omega) (HF.out.below HB5.out).zm (Nat.le_trans HBS.out HB5.out.size) (by omega) HMX.out HL.out).mono ?_; rintro e w6 ⟨s6, rfl, hz6, hc6, hq6⟩; have HZ6 := Lib.hid hz6; have HC6 := Lib.hid hc6; have HQ6 := Lib.hid hq6; clear hz6 hc6 hq6)
        | (go_at_call 138; refine HCUT.out.mono ?_; rintro e w5 ⟨v5, rfl, ⟨A2, c2, rfl, hj, he, hc2⟩, hb5⟩; have HE5 : Hid (Els encS (ltS wr) (ltS wr) wr A2 (nn - j) (n.drop j)) := he; have HB5 := Lib.hid hb5; obtain ⟨u0, u1, u2, u3⟩ := HFU.out w5 hb5; clear he hb5 hc2 hj)
        | fail)
      go_end0
      refine (HF.out.below HB5.out).done HB4.out (by have := HS.out; omega) (by have := HS.out; omega) (by have := HS.out; omega) (s' := s6) (M := M) (F := fun z => z = pm ∨ B ≤ z) ?_ HC6.out (fun z hz => hz) HQ6.out
      rw [HP.out.refer HCT.out]
      exact HZ6.out
    | none =>
    go_upto_region 6 with (go_at_call 138; refine HCUT.out.mono ?_; rintro e w5 ⟨v5, rfl, rfl, hb5⟩; have HB5 := Lib.hid hb5; obtain ⟨u0, u1, u2, u3⟩ := HFU.out w5 hb5; clear hb5)
    clear y0 y1 y2 y3
    obtain ⟨ls, hls⟩ : ∃ l, l = ofP rs n ty := ⟨_, rfl⟩
    have HLS := Lib.hid hls
    have HLL : Hid (ls.length ≤ 1000) := by show _ ≤ _; rw [hls]; exact Nat.le_trans (List.length_filter_le _ _) hrb
    have HOF := Lib.hid (of_any zA RA zn zc rs.length rc rs A nn c n ty w5 (HRD.out w5 HB5.out) (HNM.out w5 HB5.out) (by omega) (by have := HNC.out.2.2; unfold maxLen; omega) HL.out)
    rw [← hls] at HOF
    clear hls
    by_cases hf : ls = []
    rotate_left
    · obtain ⟨L, hL⟩ : ∃ L, L = ls.length := ⟨_, rfl⟩
      have h0 : (0 : Int) < (L : Int) := by
        have := List.length_pos_iff.2 hf
        omega
      have HLE := Lib.hid hL
      have HFN : Hid (M = { m' with an := m'.an ++ ls }) := by show _ = _; rw [HLS.out]; exact HP.out.found HCT.out (by rw [← HLS.out]; exact hf)
      clear hf hL
      go_upto_region 8 with (go_at_call 140; refine HOF.out.mono ?_; rintro e w6 ⟨v6, rfl, ho6, hb6⟩; obtain ⟨A6, c6, hv6, _, _, _⟩ := ho6.rd; rw [← HLE.out] at hv6; subst hv6; have HO6 := Lib.hid ho6; have HB6 := Lib.hid hb6; clear ho6 hb6)
      clear h0 u0 u1 u2 u3
      have HB56 : Hid (Below wr.heap.size wr w6) := nx HB5.out HB6.out
      have HF6 := Lib.hid (HF.out.below HB56.out)
      obtain ⟨S', hS', hge⟩ := lsE_low HO6.out (Nat.le_trans HBS.out HB5.out.size)
      obtain ⟨Sa, ha, _⟩ := HF6.out.an
      have HA := Lib.hid ha
      have HSP := Lib.hid hS'
      have HGE := Lib.hid hge
      clear ha hS' hge
      obtain ⟨An, hAn⟩ : ∃ k, k = m'.an.length := ⟨_, rfl⟩
      have HAN := Lib.hid hAn
      have x9 : w6.cell? ⟨pm, 9, none⟩ = some (.slice s'.A An s'.ac) := by rw [hAn]; exact (HF6.out.row.cell 9).trans rfl
      have HX9 : Hid (∀ u, MRow u pm s' m' → u.cell? ⟨pm, 9, none⟩ = some (.slice s'.A An s'.ac)) := fun u hu => by rw [hAn]; exact (hu.cell 9).trans rfl
      have HOWN : Hid (OwnE (encRRL B) 84 Sa w6 B (.slice s'.A An s'.ac) m'.an) := by show OwnE _ _ _ _ _ _ _; rw [hAn]; exact HA.out.o
      have HANL : Hid (m'.an.length ≤ 1000) := Nat.le_trans HP.out.an (Nat.le_trans HP.out.few hrb)
      obtain ⟨A6', c6', hv6', he6, _, _⟩ := OwnE.form HSP.out.o
      have hv6'' : A6 = A6' := by injection hv6'
      subst hv6''
      rw [← HLE.out] at he6
      have HE6 := Lib.hid he6
      have HS6 : Hid (∀ b, S' b → b < w6.heap.size ∧ some b ≠ (Value.slice s'.A An s'.ac).ownBlock) := fun b hb => ⟨HSP.out.lt (.inr hb), fun e => by
        have h1 := HGE.out b (.inr hb)
        have h2 : (anV s' m').ownBlock = some b := by unfold anV; rw [← HAN.out]; exact e.symm
        obtain ⟨Sb, hb5, _⟩ := (HF.out.below HB5.out).an
        have h3 := hb5.lt (.inl h2)
        omega⟩
      have HBW : Hid (B ≤ w6.heap.size) := Nat.le_trans HBS.out HB56.out.size
      have HNB : Hid ((m'.an.length + L) * 168 ≤ 140737488355328) := by have := HANL.out; have := HLL.out; have := HLE.out; show _ ≤ _; omega
      have HNM2 : Hid (m'.an.length + L ≤ maxLen) := by have := HANL.out; have := HLL.out; have := HLE.out; show _ ≤ _; unfold maxLen; omega
      clear hAn he6 hv6'
      go_wp2_with (first
        | ((with_reducible show wpList _ _ _ (⟨some 41, _, _, _, _, _⟩ :: _) _ _); refine wpL_appE (w := w6) (elRRL B) rfl (.tmp 39) (.tmp 40) rfl B (.slice s'.A An s'.ac) m'.an rfl HOWN.out A6 L c6 ls HE6.out HS6.out rfl HNB.out HNM2.out HBW.out ?_; intro v7 w7 hown7 hg7 hat7; obtain ⟨A7, c7, hv7, _, _, _⟩ := OwnE.form hown7; obtain ⟨L7, hL7⟩ : ∃ L, L = (m'.an ++ ls).length := ⟨_, rfl⟩; have HO7 := Lib.hid hown7; have HG7 := Lib.hid hg7; have HT7 := Lib.hid hat7; have HV7 := Lib.hid hv7; rw [← hL7] at hv7; have HL7 := Lib.hid hL7; clear hown7 hg7 hat7 hL7; subst hv7; have hr7 : MRow w7 pm s' m' := ((Chg.refl (fun b => (Value.slice s'.A An s'.ac).ownBlock = some b) w6).grown HG7.out (fun k hk => .inl hk)).heap HF6.out.row (fun e => by have h1 := (OwnE.lt HOWN.out pm e).1; have h2 := HF.out.pB.1; omega); have x7 := HX9.out w7 hr7; have f7 : w7.frozen? ⟨pm, 9, none⟩ = false := MRow.free hr7 9; clear hr7)
        | fail)
      go_end0
      have hO := HO7.out
      have hT := HT7.out
      rw [HL7.out] at hO hT ⊢
      obtain ⟨e1, e2, e3, e4, e5, e6⟩ := HF.out.emp
      have hzm := ZM.answers (m := m') (Sa := Sa) (S' := S') (Su := noS) (Sx := noS) (N := w6.heap.size) HF6.out.row HF.out.pB.1 (by rw [e1, e3, e4]; exact RB.nil B w6) (by rw [e2, e5, e6]; exact RB.nil B w6) (by rw [e1, e3, e4]; exact fun b _ => not_blk_nil) (by rw [e2, e5, e6]; exact fun b _ => not_blk_nil) (by rw [e2, e5, e6]; exact fun b _ => not_blk_nil) HA.out.ge (fun b hb => ⟨HSP.out.ge b hb, by rw [e1, e3, e4]; exact not_blk_nil, by rw [e2, e5, e6]; exact not_blk_nil⟩) hO (by rw [← HAN.out]; exact HG7.out) (Nat.le_refl _) (by rw [← HAN.out]; exact hT) (fun k hk => (OwnE.lt HA.out.o k hk).1)
      refine HF6.out.done HB4.out (by have := HS.out; omega) (by have := HS.out; omega) (by have := HS.out; omega) (s' := { s' with A := A7, ac := c7 }) (M := M) (F := fun z => z = pm ∨ B ≤ z) ?_ ?_ (fun z hz => hz) ⟨rfl, rfl⟩
      · rw [HFN.out]
        exact hzm
      · exact ((Chg.refl (fun z => z = pm ∨ B ≤ z) w6).grown HG7.out (fun k hk => .inl (.inr (OwnE.lt HOWN.out k hk).1))).trans (chg_g1 w7 pm 9 _) (fun z hz => .inl (.inl hz))
    subst hf
    have HF0 : Hid (ofP rs n ty = []) := HLS.out.symm
    go_upto_region 9 with (go_at_call 140; refine HOF.out.mono ?_; rintro e w6 ⟨v6, rfl, ho6, hb6⟩; obtain ⟨A6, c6, hv6, _, _, _⟩ := ho6.rd; rw [show ([] : List RR).length = 0 from rfl] at hv6; subst hv6; have HB6 : Hid (Below wr.heap.size wr w6) := nx HB5.out hb6; clear ho6 hb6)
    clear u0 u1 u2 u3 HOF HLL
    obtain ⟨u0, u1, u2, u3⟩ := HFU.out w6 HB6.out
    obtain ⟨ls, hls⟩ : ∃ l, l = ofP rs n 5 := ⟨_, rfl⟩
    have HL5 := Lib.hid hls
    have HOF := Lib.hid (of_any zA RA zn zc rs.length rc rs A nn c n 5 w6 (HRD.out w6 HB6.out) (HNM.out w6 HB6.out) (by omega) (by have := HNC.out.2.2; unfold maxLen; omega) HL.out)
    rw [← hls] at HOF
    clear hls
    cases ls with
    | nil =>
      go_upto_region 11 with (go_at_call 140; refine HOF.out.mono ?_; rintro e w7 ⟨v7, rfl, ho7, hb7⟩; obtain ⟨A7, c7, hv7, _, _, _⟩ := ho7.rd; rw [show ([] : List RR).length = 0 from rfl] at hv7; subst hv7; have HB7 : Hid (Below wr.heap.size wr w7) := nx HB6.out hb7; clear ho7 hb7)
      clear u0 u1 u2 u3 HOF
      obtain ⟨u0, u1, u2, u3⟩ := HFU.out w7 HB7.out
      have HF7 := Lib.hid (HF.out.below HB7.out)
      have HZN : Hid (RdE encS w7 zA zn zs) := (HK.out w7 HF7.out.C).2.mono (fun b hb => Nat.lt_of_lt_of_le (Nat.lt_of_lt_of_le hb.1 HBS.out) HB7.out.size) (fun b hb => Nat.lt_of_lt_of_le (Nat.lt_of_lt_of_le hb.1 HBS.out) HB7.out.size)
      obtain ⟨au, hau⟩ : ∃ l, l = ofP rs zs 6 := ⟨_, rfl⟩
      have HAU := Lib.hid hau
      have HOF := Lib.hid (of_any zA RA zn zc rs.length rc rs zA zn zc zs 6 w7 (HRD.out w7 HB7.out) HZN.out (by omega) (by have := HN.out.2.1; unfold maxLen; omega) HL.out)
      rw [← hau] at HOF
      clear hau
      obtain ⟨Un, hUn⟩ : ∃ k, k = m'.au.length := ⟨_, rfl⟩
      have HX10 : Hid (∀ u, MRow u pm s' m' → u.cell? ⟨pm, 10, none⟩ = some (.slice s'.U Un s'.uc)) := fun u hu => by rw [hUn]; exact (hu.cell 10).trans rfl
      clear hUn
      go_upto_region 12 with (go_at_call 140; refine HOF.out.mono ?_; rintro e w8 ⟨v8, rfl, ho8, hb8⟩; obtain ⟨A8, c8, hv8, _, _, _⟩ := ho8.rd; obtain ⟨L, hL⟩ : ∃ L, L = au.length := ⟨_, rfl⟩; have HLE := Lib.hid hL; have HO8 := Lib.hid ho8; have HB8 := Lib.hid hb8; rw [← hL] at hv8; subst hv8; have x10 := HX10.out w8 (HF7.out.row.below hb8); have f10 : w8.frozen? ⟨pm, 10, none⟩ = false := MRow.free (HF7.out.row.below hb8) 10; clear ho8 hb8 hL)
      obtain ⟨w9, hw9⟩ : ∃ w9, w9 = w8.setCell ⟨pm, 10, none⟩ (.slice A8 L c8) := ⟨_, rfl⟩
      have HZ9 : Hid (ZM B w9 pm { s' with U := A8, uc := c8 } { m' with au := au }) := by
        show ZM _ _ _ _ _
        rw [hw9, HLE.out]
        exact HF7.out.zm.auth HB8.out (Nat.le_trans HBS.out HB7.out.size) (by have h0 := HO8.out; rw [HLE.out] at h0; exact h0)
      have HC9 : Hid (Chg (fun z => z = pm ∨ B ≤ z) w7 w9) := by
        show Chg _ _ _
        rw [hw9]
        exact (Chg.of_below HB8.out).trans (chg_g1 w8 pm 10 _) (fun z hz => .inl (.inl hz))
      have HC9' : Hid (Chg (fun z => z = pm ∨ z = nb ∨ B ≤ z) w4 w9) := HF7.out.C.trans HC9.out (fun z hz => .inl (hz.elim .inl (fun e => .inr (.inr e))))
      obtain ⟨v0, v1, v2⟩ := HC0.out w9 HC9'.out
      have v3 : w9.cell? ⟨nb, 0, none⟩ = some (.slice A nn c) := HC9.out.cell u3 (show ¬ (nb = pm ∨ B ≤ nb) by have := HS.out; omega)
      have HR9 : Hid (RdE encRR w9 RA rs.length rs ∧ RdE encS w9 A nn n) := by
        have hl9 : ∀ b, (b < B ∧ b ≠ pm) → b < w9.heap.size := fun b hb => Nat.lt_of_lt_of_le (Nat.lt_of_lt_of_le hb.1 HBS.out) (Nat.le_trans HB7.out.size HC9.out.size)
        refine ⟨(HK.out w9 HC9'.out).1.mono hl9 hl9, ?_⟩
        have hnm := HF7.out.nm.chg (X' := fun b => b = pm) (((Chg.of_below (F := fun z => z = pm) HB8.out)).trans (chg_g1 w8 pm 10 (.slice A8 L c8)) (fun z hz => .inl hz)) (fun b hb => .inl hb) (fun b hb => .inl (.inl hb))
        have := hnm.rd
        rw [← HNN.out] at this
        rw [hw9]
        exact this
      rw [← hw9]
      clear hw9 u0 u1 u2 u3 x10 f10
      have HTH := Lib.hid (zthere_any zA RA zn zc rs.length rc rs A nn c n w9 HR9.out.1 HR9.out.2 (by omega) (by have := HNC.out.2.2; omega) (fun r hr => by have := (HH.out r hr).2; omega))
      obtain ⟨th, hth⟩ : ∃ b, b = rs.any fun r => underB r.name n := ⟨_, rfl⟩
      rw [← hth] at HTH
      have HT := Lib.hid hth
      clear hth
      have HFIN := HP.out.nocn HCT.out HF0.out HL5.out.symm
      rw [← HAU.out, ← HT.out] at HFIN
      have HFN := Lib.hid HFIN
      clear HFIN
      cases th with
      | true =>
        go_wp2_with (go_at_call 141; refine HTH.out.mono ?_; rintro e w10 ⟨v10, rfl, rfl, hb10⟩; have HB10 := Lib.hid hb10; clear hb10)
        go_end0
        refine HF7.out.done HB4.out (by have := HS.out; omega) (by have := HS.out; omega) (by have := HS.out; omega) (s' := { s' with U := A8, uc := c8 }) (M := M) (F := fun z => z = pm ∨ B ≤ z) ?_ (HC9.out.trans (Chg.of_below (F := fun _ => False) HB10.out) (fun _ h => h.elim)) (fun z hz => hz) ⟨rfl, rfl⟩
        rw [HFN.out]
        exact HZ9.out.below HB10.out
      | false =>
        go_upto_region 13 with (go_at_call 141; refine HTH.out.mono ?_; rintro e w10 ⟨v10, rfl, rfl, hb10⟩; have HB10 := Lib.hid hb10; clear hb10)
        have HZ10 := Lib.hid (HZ9.out.below HB10.out)
        have x7 : w10.cell? ⟨pm, 7, none⟩ = some (.int .i64 m'.rcode) := (HZ10.out.row.cell 7).trans rfl
        have f7 : w10.frozen? ⟨pm, 7, none⟩ = false := MRow.free HZ10.out.row 7
        clear v0 v1 v2 v3
        go_wp2
        go_end0
        have h0 := HZ10.out.keepL (j := 7) (v := .int .i64 3) (m' := { m' with au := au, rcode := 3 }) rfl rfl rfl rfl
        refine HF7.out.done HB4.out (by have := HS.out; omega) (by have := HS.out; omega) (by have := HS.out; omega) (s' := { s' with U := A8, uc := c8 }) (M := M) (F := fun z => z = pm ∨ B ≤ z) ?_ ((HC9.out.trans (Chg.of_below (F := fun _ => False) HB10.out) (fun _ h => h.elim)).trans (chg_g1 w10 pm 7 _) (fun z hz => .inl (.inl hz))) (fun z hz => hz) ⟨rfl, rfl⟩
        rw [HFN.out]
        exact h0
    | cons x xs =>
    obtain ⟨L, hL⟩ : ∃ L, L = (x :: xs).length := ⟨_, rfl⟩
    have h0 : ¬ (L : Int) = 0 := by rw [hL, List.length_cons]; omega
    have h0b : ((L : Int) == 0) = false := beq_eq_false_iff_ne.2 h0
    have hL0 : 0 < L := by rw [hL, List.length_cons]; omega
    have HLE := Lib.hid hL
    clear hL
    go_upto_region 14 with (go_at_call 140; refine HOF.out.mono ?_; rintro e w7 ⟨v7, rfl, ho7, hb7⟩; obtain ⟨S', hS', hge⟩ := lsE_low ho7 (Nat.le_trans HBS.out HB6.out.size); obtain ⟨g7, c7, s7, hv7, ho7b, hg7, hc7, _, hS7, hri, hrc⟩ := hS'.at0; rw [← HLE.out] at hv7; have HV7 := Lib.hid hv7; rw [hv7] at ho7b; have HRB := Lib.hid hS'; have HGE : Hid (∀ b, S' b → w6.heap.size ≤ b) := fun b hb => hge b (.inr hb); have HG7 : Hid (w6.heap.size ≤ g7 ∧ g7 < w7.heap.size ∧ ∀ b, S' b → b ≠ g7) := ⟨hge g7 (.inl (by rw [hv7]; rfl)), hg7, hS7⟩; have HRI := Lib.hid hri; have HRC := Lib.hid hrc; have hLc : L ≤ c7 := (by rw [HLE.out]; exact hc7); have HB7 : Hid (Below wr.heap.size wr w7) := nx HB6.out hb7; have HB67 := Lib.hid hb7; clear ho7 hb7 hS' hge hg7 hc7 hS7 hri hrc ho7b; subst hv7)
    clear h0 h0b u0 u1 u2 u3 HOF
    have HF7 : Hid (FI B pm nb w4 w7 s s' m' A c n (.slice As nl cs) (l0 ++ [n])) := HF.out.below HB7.out
    have HFD : Hid (FI B pm nb w4 w7.drew s s' m' A c n (.slice As nl cs) (l0 ++ [n])) := HF7.out.below bl.drew
    obtain ⟨Sa, ha, hsa⟩ := HFD.out.an
    have HA := Lib.hid ha
    have HSA := Lib.hid hsa
    clear ha hsa
    obtain ⟨An, hAn⟩ : ∃ k, k = m'.an.length := ⟨_, rfl⟩
    have HAN := Lib.hid hAn
    have HX9 : Hid (∀ u, MRow u pm s' m' → u.cell? ⟨pm, 9, none⟩ = some (.slice s'.A An s'.ac)) := fun u hu => by rw [hAn]; exact (hu.cell 9).trans rfl
    have HOWN : Hid (OwnE (encRRL B) 84 Sa w7.drew B (.slice s'.A An s'.ac) m'.an) := by show OwnE _ _ _ _ _ _ _; rw [hAn]; exact HA.out.o
    have HANL : Hid (m'.an.length ≤ 1000) := Nat.le_trans HP.out.an (Nat.le_trans HP.out.few hrb)
    clear hAn
    have hS7 : MRow w7.drew pm s' m' ∧ RCells w7.drew g7 0 s7 x := ⟨HFD.out.row, HRC.out⟩
    have HLO : Hid (∀ b, (anV s' m').ownBlock = some b ∨ (Value.slice As nl cs).ownBlock = some b → b < w6.heap.size) := fun b hb => by
      obtain ⟨Sb, hb5, _⟩ := (HF.out.below HB6.out).an
      obtain ⟨Sc, hb6, _⟩ := (HF.out.below HB6.out).seen
      rcases hb with e | e
      · exact hb5.lt (.inl e)
      · exact (hb6.lt b e).2
    have HSB : Hid (∀ b, S' b → b < w7.drew.heap.size ∧ some b ≠ (Value.slice s'.A An s'.ac).ownBlock) := fun b hb => ⟨HRB.out.lt (.inr hb), fun e => by
      have h1 := HGE.out b hb
      have h2 := HLO.out b (.inl (by unfold anV; rw [← HAN.out]; exact e.symm))
      omega⟩
    have HBW : Hid (B ≤ w7.drew.heap.size) := Nat.le_trans HBS.out HB7.out.size
    have HROW : Hid ((encRRL B).R S' w7.drew [.slice s7.A x.name.length s7.c, .int .i64 x.type, .int .i64 x.cls, .int .i64 x.ttl, .slice s7.d.A0 x.data.bytes.length s7.d.c0, .slice s7.d.A1 x.data.host.length s7.d.c1, .slice s7.d.A2 x.data.mail.length s7.d.c2, .slice s7.d.A3 x.data.nums.length s7.d.c3, .slice s7.d.A4 x.data.texts.length s7.d.c4] x) := by
      have h1 : RIn (fun k => S' k ∧ B ≤ k ∧ Loose w7 k) w7.drew s7 x := RIn.keep (w := w7) (fun b _ => rfl) HRI.out
      exact ⟨s7, rfl, h1.mono (fun b hb => ⟨hb.1, hb.2.1, hb.2.2.keep rfl⟩)⟩
    refine wp_region_any (by kernel_rfl) ?_
    change wpAny _ _ _ _ _ _ _ (World.drew w7)
    refine wpAny_of_P (S := (fun W => MRow W pm s' m' ∧ RCells W g7 0 s7 x)) (dem := fun j => decide (1 ≤ j) && decide (j ≤ 9)) _ _ _ _ ?_
    refine wpAnyP_pure (i := 0) (v := .pointer (some ⟨pm, 0, none⟩)) rfl (by kernel_rfl) (by kernel_rfl) (by kernel_rfl) (by kernel_rfl) (fun _ _ _ h => h) (Or.inl ⟨by kernel_rfl, by (intro W hW; go_simp)⟩) (fun _ => hS7) ?_
    refine wpAnyP_take (i := 1) (v := .pointer (some ⟨pm, 0, none⟩)) rfl (by kernel_rfl) (by kernel_rfl) (by kernel_rfl) (by kernel_rfl) (by kernel_rfl) (fun _ _ _ h => h) (Or.inl ⟨by kernel_rfl, by (intro W hW; go_simp)⟩) hS7 ?_
    refine wpAnyP_take (i := 2) (v := .pointer (some ⟨pm, 0, none⟩)) rfl (by kernel_rfl) (by kernel_rfl) (by kernel_rfl) (by kernel_rfl) (by kernel_rfl) (fun _ _ _ h => h) (Or.inl ⟨by kernel_rfl, by (intro W hW; go_simp)⟩) hS7 ?_
    refine wpAnyP_take (i := 3) (v := .pointer (some ⟨pm, 9, none⟩)) rfl (by kernel_rfl) (by kernel_rfl) (by kernel_rfl) (by kernel_rfl) (by kernel_rfl) (fun _ _ _ h => h) (Or.inl ⟨by kernel_rfl, by (intro W hW; go_simp)⟩) hS7 ?_
    refine wpAnyP_take (i := 4) (v := (.slice s'.A An s'.ac)) rfl (by kernel_rfl) (by kernel_rfl) (by kernel_rfl) (by kernel_rfl) (by kernel_rfl) (fun _ _ _ h => h) (Or.inl ⟨by kernel_rfl, by (intro W hW; have c0 := HX9.out W hW.1; go_simp)⟩) hS7 ?_
    refine wpAnyP_take (i := 5) (v := (.slice (some ⟨g7, 0, none⟩) L c7)) rfl (by kernel_rfl) (by kernel_rfl) (by kernel_rfl) (by kernel_rfl) (by kernel_rfl) (fun _ _ _ h => h) (Or.inl ⟨by kernel_rfl, by (intro W hW; go_simp)⟩) hS7 ?_
    refine wpAnyP_take (i := 6) (v := (.pointer (some ⟨g7, 0, none⟩))) rfl (by kernel_rfl) (by kernel_rfl) (by kernel_rfl) (by kernel_rfl) (by kernel_rfl) (fun _ _ _ h => h) (Or.inl ⟨by kernel_rfl, by (intro W hW; go_simp)⟩) hS7 ?_
    refine wpAnyP_take (i := 7) (v := (.agg #[.slice s7.A x.name.length s7.c, .int .i64 x.type, .int .i64 x.cls, .int .i64 x.ttl, .slice s7.d.A0 x.data.bytes.length s7.d.c0, .slice s7.d.A1 x.data.host.length s7.d.c1, .slice s7.d.A2 x.data.mail.length s7.d.c2, .slice s7.d.A3 x.data.nums.length s7.d.c3, .slice s7.d.A4 x.data.texts.length s7.d.c4])) rfl (by kernel_rfl) (by kernel_rfl) (by kernel_rfl) (by kernel_rfl) (by kernel_rfl) (fun _ _ _ h => h) (Or.inl ⟨by kernel_rfl, by (intro W hW; obtain ⟨c0, c1, c2, c3, c4, c5, c6, c8, c9⟩ := hW.2; go_simp)⟩) hS7 ?_
    have HBA : Hid (∀ (o : Obj), Below w7.drew.heap.size w7.drew (w7.drew.alloc o)) := fun o => bl.alloc (Nat.le_refl _) _
    refine wpAnyP_one (i := 8) rfl (by kernel_rfl) fun K hK => ?_
    go_simp
    refine hK _ _ (fun _ => ⟨MRow.below (w := w7.drew) hS7.1 (HBA.out _), RCells.below (w := w7.drew) hS7.2 (HBA.out _)⟩) ?_
    clear hK
    refine wpAnyP_one (i := 9) rfl (by kernel_rfl) fun K hK => ?_
    refine step_pushE (w := w7.drew) (elRRL B) (by kernel_rfl) (.tmp 68) (.tmp 72) (by rfl) B (.slice s'.A An s'.ac) m'.an (by rfl) HOWN.out [.slice s7.A x.name.length s7.c, .int .i64 x.type, .int .i64 x.cls, .int .i64 x.ttl, .slice s7.d.A0 x.data.bytes.length s7.d.c0, .slice s7.d.A1 x.data.host.length s7.d.c1, .slice s7.d.A2 x.data.mail.length s7.d.c2, .slice s7.d.A3 x.data.nums.length s7.d.c3, .slice s7.d.A4 x.data.texts.length s7.d.c4] x HROW.out HSB.out (by rfl) (by have := HANL.out; omega) (by have := HANL.out; unfold maxLen; omega) HBW.out ?_ (by rfl)
    intro v8 w8 hown8 hg8 hat8
    obtain ⟨A8, c8, hv8, _, _, _⟩ := OwnE.form hown8
    rw [hv8] at hown8 hat8
    have hF9 := HFD.out.push (Sa := Sa) (S' := S') (Bl := w6.heap.size) (N := w7.drew.heap.size + 1) HSA.out HA.out.ge HGE.out (Nat.le_trans HBS.out HB6.out.size) HLO.out (Nat.le_succ _) hown8 (by unfold anV; rw [← HAN.out]; exact hg8) (by unfold anV; rw [← HAN.out]; exact hat8)
    have hc8 : Chg (fun b => (Value.slice s'.A An s'.ac).ownBlock = some b) w7.drew w8 := (Chg.refl _ _).grown hg8 (fun k hk => .inl hk)
    have hr8 : MRow w8 pm s' m' := hc8.heap (hS7.1 : MRow w7.drew pm s' m') (fun e => by have h3 := (OwnE.lt HOWN.out pm e).1; have h4 := HF.out.pB.1; omega)
    have hlo8 : ∀ b, (Value.slice s'.A An s'.ac).ownBlock = some b → b < w6.heap.size := fun b hb => HLO.out b (.inl (by unfold anV; rw [← HAN.out]; exact hb))
    have hcell8 : w8.cell? ⟨g7, 0 + 5, none⟩ = some (.slice s7.d.A1 x.data.host.length s7.d.c1) := hc8.cell (show w7.drew.cell? _ = _ from HRC.out.2.2.2.2.2.1) (fun e => by have h1 := hlo8 g7 e; have h2 := HG7.out.1; omega)
    have hcell8' : w8.cell? ⟨g7, 5, none⟩ = some (.slice s7.d.A1 x.data.host.length s7.d.c1) := by rw [Nat.zero_add] at hcell8; exact hcell8
    obtain ⟨hl, hhl⟩ : ∃ k, k = x.data.host.length := ⟨_, rfl⟩
    obtain ⟨L8, hL8⟩ : ∃ L, L = (m'.an ++ [x]).length := ⟨_, rfl⟩
    rw [← hL8] at hv8 hF9
    rw [← hhl] at hcell8'
    obtain ⟨w9, hw9⟩ : ∃ u, u = w8.setCell ⟨pm, 9, none⟩ (.slice A8 L8 c8) := ⟨_, rfl⟩
    rw [← hw9] at hF9
    have HF9 := Lib.hid hF9
    have hHm : x ∈ rs := (List.mem_filter.1 (show x ∈ ofP rs n 5 by rw [← HL5.out]; exact List.mem_cons_self)).1
    have hNM9 : NmZ w9 (fun b => b = pm ∨ b = nb ∨ (anV { s' with A := A8, ac := c8 } { m' with an := m'.an ++ [x] }).ownBlock = some b ∨ (Value.slice As nl cs).ownBlock = some b) s7.d.A1 s7.d.c1 x.data.host := by
      have hc9 : Chg (fun z => z = pm ∨ (Value.slice s'.A An s'.ac).ownBlock = some z) w7.drew w9 := by rw [hw9]; exact (hc8.mono (fun z hz => .inl (.inr hz))).trans (chg_g1 w8 pm 9 _) (fun z hz => .inl (.inl hz))
      have hz9 : w7.heap.size ≤ w9.heap.size := hc9.size
      have hp := HF.out.pB
      have hb6 : B ≤ w6.heap.size := Nat.le_trans HBS.out HB6.out.size
      refine ⟨⟨S', ?_, fun b hb => ⟨Nat.lt_of_lt_of_le (HRB.out.lt (.inr hb)) hz9, fun e => ?_⟩⟩, HRI.out.d.ch, (HH.out x hHm).1⟩
      · have hk : ∀ b, S' b → w9.heap[b]? = w7.heap[b]? := fun b hb => hc9.block b (HRB.out.lt (.inr hb)) (fun e => by
          rcases e with e | e
          · have := HRB.out.ge b hb; omega
          · have h1 := hlo8 b e; have h2 := HGE.out b hb; omega)
        have he := HRI.out.d.h.mono (fun b hb => hb.1) (fun b hb => hb.1)
        exact he.keep hk hk
      · have h1 := HGE.out b hb
        rcases e with e | e | e | e
        · omega
        · omega
        · have e2 : (Value.slice A8 L8 c8).ownBlock = some b := by rw [hL8]; exact e
          rw [← hL8] at hat8
          rw [e2] at hat8
          rcases hat8 with e3 | e3
          · have := hlo8 b e3.symm; omega
          · injection e3 with e3
            have h3 : b < w7.heap.size := HRB.out.lt (.inr hb)
            have h4 : w7.drew.heap.size = w7.heap.size := rfl
            omega
        · have := HLO.out b (.inr e); omega
    have HNM9 := Lib.hid hNM9
    have HCELL : Hid (w9.cell? ⟨g7, 5, none⟩ = some (.slice s7.d.A1 hl s7.d.c1)) := by show _ = _; rw [hw9]; exact (chg_g1 w8 pm 9 (.slice A8 L8 c8)).cell hcell8' (show ¬ g7 = pm by have h1 := HG7.out.1; have h2 := HF.out.pB.1; have h3 : B ≤ w6.heap.size := Nat.le_trans HBS.out HB6.out.size; omega)
    have HHL := Lib.hid hhl
    subst hv8
    have x9 : w8.cell? ⟨pm, 9, none⟩ = some (.slice s'.A An s'.ac) := HX9.out w8 hr8
    have f9 : w8.frozen? ⟨pm, 9, none⟩ = false := MRow.free hr8 9
    refine hK _ _ (fun h => absurd h (by rw [show needS _ _ _ = false from by kernel_rfl]; decide)) ?_
    clear hK hown8 hg8 hat8 hF9 hc8 hr8 hL8 hlo8 hcell8 hcell8' hNM9 hhl hHm
    refine wpAnyP_one (i := 10) rfl (by kernel_rfl) fun K hK => ?_
    go_simp
    refine hK _ _ (fun h => absurd h (by rw [show needS _ _ _ = false from by kernel_rfl]; decide)) ?_
    clear hK
    refine wpAnyP_one (i := 11) rfl (by kernel_rfl) fun K hK => ?_
    go_simp
    refine hK _ _ (fun h => absurd h (by rw [show needS _ _ _ = false from by kernel_rfl]; decide)) ?_
    clear hK
    refine wpAnyP_one (i := 12) rfl (by kernel_rfl) fun K hK => ?_
    go_simp
    refine hK _ (w8.setCell ⟨pm, 9, none⟩ (.slice A8 L8 c8)) (fun h => absurd h (by rw [show needS _ _ _ = false from by kernel_rfl]; decide)) ?_
    clear hK x9 f9
    rw [← hw9]
    clear hw9
    refine wpAnyP_done (by kernel_rfl) ?_ _
    clear hS7
    have d5 := HCELL.out
    have u3 : w9.cell? ⟨nb, 0, none⟩ = some (.slice A nn c) := by rw [HNN.out]; exact HF9.out.cell
    have fb : w9.frozen? ⟨nb, 0, none⟩ = false := HF9.out.free
    obtain ⟨w10, hw10⟩ : ∃ u, u = w9.setCell ⟨nb, 0, none⟩ (.slice s7.d.A1 hl s7.d.c1) := ⟨_, rfl⟩
    have HF10 : Hid (FI B pm nb w4 w10 s { s' with A := A8, ac := c8 } { m' with an := m'.an ++ [x] } s7.d.A1 s7.d.c1 x.data.host (.slice As nl cs) (l0 ++ [n])) := by
      show FI _ _ _ _ _ _ _ _ _ _ _ _ _
      rw [hw10, HHL.out]
      exact HF9.out.put HNM9.out
    go_upto_region 16 with (fail)
    rw [← hw10]
    clear hw10 d5 u3 fb hL0 hLc
    obtain ⟨v0, v1, v2⟩ := HC0.out w10 HF10.out.C
    have v3 : w10.cell? ⟨nb, 0, none⟩ = some (.slice s7.d.A1 hl s7.d.c1) := by rw [HHL.out]; exact HF10.out.cell
    have HHC : Hid (hl ≤ s7.d.c1 ∧ s7.d.c1 ≤ maxLen ∧ hl ≤ 1000) := by rw [HHL.out]; exact ⟨HNM9.out.c.1, HNM9.out.c.2, HNM9.out.l⟩
    have HHR : Hid (∀ u, Below w10.heap.size w10 u → RdE encS u s7.d.A1 hl x.data.host) := fun u hu => by rw [HHL.out]; exact HF10.out.nm.rd.below hu
    have HZR : Hid (RdE encS w10 zA zn zs) := (HK.out w10 HF10.out.C).2.mono (fun b hb => Nat.lt_of_lt_of_le hb.1 (HF10.out.size HS.out.2.2.2.2.2)) (fun b hb => Nat.lt_of_lt_of_le hb.1 (HF10.out.size HS.out.2.2.2.2.2))
    have HUN := Lib.hid (nunder_any s7.d.A1 zA hl s7.d.c1 zn zc x.data.host zs w10 (HHR.out w10 bl) HZR.out (by have := HHC.out.2.2; omega) (by have := HN.out.2.1; omega) HHC.out.1)
    obtain ⟨un, hun⟩ : ∃ b, b = underB x.data.host zs := ⟨_, rfl⟩
    rw [← hun] at HUN
    have HU := Lib.hid hun
    clear hun
    have hmf : ∀ (fn : Fn) (first cap : Array Value) (w : World), (Instr.makeFunc fn first cap).run Try.prog w = .ok (.func fn first cap) w := fun _ _ _ _ => rfl
    cases un with
    | false =>
      have HST := Lib.hid (HP.out.stop HCT.out HF0.out HL5.out.symm (.inl HU.out.symm))
      go_wp2_with (go_at_call 83; refine HUN.out.mono ?_; rintro e w11 ⟨v11, rfl, rfl, hb11⟩; have HB11 := Lib.hid hb11; clear hb11)
      go_end0
      refine (HF10.out.below HB11.out).done HB4.out (by have := HS.out; omega) (by have := HS.out; omega) (by have := HS.out; omega) (s' := { s' with A := A8, ac := c8 }) (M := M) (F := fun z => False) ?_ (Chg.refl _ _) (fun z hz => hz.elim) ⟨rfl, rfl⟩
      rw [HST.out]
      exact (HF10.out.below HB11.out).zm
    | true =>
    have HCH : Hid (∀ u, Below w10.heap.size w10 u → Calls Try.prog 123 #[.slice As nl cs, .func (.func 142) #[] #[.pointer (some ⟨nb, 0, none⟩)]] u (RetP (fun v _ => v = .bool (seenB (l0 ++ [n]) x.data.host)) u)) := fun u hu => by
      have HFu := HF10.out.below hu
      refine hasZf_any nb (fun y => decide (lowN y = lowN x.data.host)) As nl cs (l0 ++ [n]) u ?_ (by omega) (fun A' c' y W hW hy hyl => eqZf_any nb A' s7.d.A1 y.length hl c' s7.d.c1 y x.data.host W (below_cell hW (below_cell hu v3)) hy ((HHR.out u hu).below hW) hyl (Nat.le_trans HHC.out.1 HHC.out.2.1))
      obtain ⟨S7, ho7, _⟩ := HFu.seen
      obtain ⟨A7, c7, h7, hr7, _⟩ := OwnE.rdE ho7
      have e7 : As = A7 := by injection h7
      have e8 : nl = (l0 ++ [n]).length := by injection h7
      rw [← e8] at hr7
      rw [e7]
      exact hr7
    obtain ⟨fd, hfd⟩ : ∃ b, b = seenB (l0 ++ [n]) x.data.host := ⟨_, rfl⟩
    rw [← hfd] at HCH
    have HFD2 := Lib.hid hfd
    clear hfd
    cases fd with
    | true =>
      have HST := Lib.hid (HP.out.stop HCT.out HF0.out HL5.out.symm (.inr HFD2.out.symm))
      go_wp2_with (first
        | (go_at_call 123; refine (HCH.out w11 HB11.out).mono ?_; rintro e w12 ⟨v12, rfl, rfl, hb12⟩; have HB12 := Lib.hid hb12; clear hb12)
        | (go_at_call 83; refine HUN.out.mono ?_; rintro e w11 ⟨v11, rfl, rfl, hb11⟩; have HB11 := Lib.hid hb11; clear hb11)
        | fail)
      go_end0
      refine (HF10.out.below (nx HB11.out HB12.out)).done HB4.out (by have := HS.out; omega) (by have := HS.out; omega) (by have := HS.out; omega) (s' := { s' with A := A8, ac := c8 }) (M := M) (F := fun z => False) ?_ (Chg.refl _ _) (fun z hz => hz.elim) ⟨rfl, rfl⟩
      rw [HST.out]
      exact (HF10.out.below (nx HB11.out HB12.out)).zm
    | false =>
    have HNX := Lib.hid (HP.out.next HCT.out HF0.out HL5.out.symm HU.out.symm HFD2.out.symm)
    go_upto_region 17 with (first
        | (go_at_call 123; refine (HCH.out w11 HB11.out).mono ?_; rintro e w12 ⟨v12, rfl, rfl, hb12⟩; have HB12 := Lib.hid hb12; clear hb12)
        | (go_at_call 83; refine HUN.out.mono ?_; rintro e w11 ⟨v11, rfl, rfl, hb11⟩; have HB11 := Lib.hid hb11; clear hb11)
        | fail)
    have HF12 := Lib.hid (HF10.out.below (nx HB11.out HB12.out))
    have y3 : w12.cell? ⟨nb, 0, none⟩ = some (.slice s7.d.A1 hl s7.d.c1) := below_cell (nx HB11.out HB12.out) v3
    clear v0 v1 v2 v3 hmf
    obtain ⟨SO, ho12, hSO⟩ := HF12.out.seen
    obtain ⟨SN, hn12, hSN⟩ := HF12.out.nm.e
    rw [← HHL.out] at hn12
    have HHL2 := HHL
    have HSO := Lib.hid hSO
    have HSN := Lib.hid hSN
    have HO12 := Lib.hid ho12
    have HN12 := Lib.hid hn12
    have hll : (l0 ++ [n]).length = nl := by rw [List.length_append, List.length_singleton]; exact HNL.out.symm
    have HLB : Hid ((l0 ++ [n]).length ≤ 1001) := by show _ ≤ _; rw [hll]; omega
    have HBW2 : Hid (B ≤ w12.heap.size) := HF12.out.size HS.out.2.2.2.2.2
    have HCC : Hid (hl ≤ s7.d.c1 ∧ s7.d.c1 ≤ maxLen) := ⟨HHC.out.1, HHC.out.2.1⟩
    have HFEW := Lib.hid HNX.out.few
    clear hSO hSN ho12 hn12 hll
    go_wp2_with ((with_reducible show wpList _ _ _ (⟨some 94, _, _, _, _, _⟩ :: _) _ _); refine wpL_pushE (w := w12) elNz rfl (.tmp 91) (.tmp 93) rfl B (.slice As nl cs) (l0 ++ [n]) rfl HO12.out [.slice s7.d.A1 hl s7.d.c1] x.data.host (S' := SN) ⟨_, _, _, rfl, HN12.out, HCC.out⟩ ?hS rfl ?hb ?hl ?hbase ?_; rotate_right; intro v13 w13 hown13 hg13 hat13; obtain ⟨A13, c13, hv13, _⟩ := OwnE.form hown13; have HF13 := Lib.hid (HF12.out.see (N := w12.heap.size + 1) HSO.out (fun b hb e => (HSN.out b hb).2 (e.elim .inl (fun e => .inr (e.elim .inl (fun e => .inr (.inl e)))))) hown13 hg13 (Nat.le_succ _) hat13); obtain ⟨L13, hL13⟩ : ∃ L, L = ((l0 ++ [n]) ++ [x.data.host]).length := ⟨_, rfl⟩; rw [← hL13] at hv13; have HL13 := Lib.hid hL13; clear hL13 hown13 hg13 hat13; subst hv13)
    · have hl13 : L13 = nl + 1 := by rw [HL13.out, List.length_append, List.length_append, List.length_singleton, List.length_singleton, HNL.out]
      have hl14 : L13 = (l0 ++ [n]).length + 1 := by rw [HL13.out, List.length_append, List.length_singleton]
      have hl15 : L13 ≤ rs.length + 1 := by have := HFEW.out; omega
      have HL14 := Lib.hid hl14
      clear hl14
      go_roundw
      case rel => exact ⟨L13, A13, c13, _, _, s7.d.A1, s7.d.c1, x.data.host, l0 ++ [n], rfl, hl15, HL14, HF13, HNX⟩
      case measure => simp [slN]; omega
    case hS => exact fun b hb => ⟨(HSN.out b hb).1, fun e => (HSN.out b hb).2 (.inr (.inr (.inr e.symm)))⟩
    case hb => have := HLB.out; omega
    case hl => have := HLB.out; unfold maxLen; omega
    case hbase => exact HBW2.out
end Go.Proofs.Ytimkdpkhdbiniaa

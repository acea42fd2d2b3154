/- Parts of a proof, joined: Tel8. -/
import Derived.Test.YtimkdpkhdbiniaaZDX13
/- teller.negative, loosely (printed by gen/tel8.py). -/
namespace Go.Proofs.Ytimkdpkhdbiniaa
open Go.RowKit
set_option maxRecDepth 100000
set_option linter.unusedVariables false

/-- A fact that a zone's own record has made. -/
structure NegF (p : TP) (f : Fa) : Prop where
  fine : fineF f = true
  got : f.got = p.now
  under : underB f.name p.zs = true
  kd : f.kind ≠ 1
  zu : underB f.zone p.zs = true
  soa : ∃ r ∈ p.m.au, r.cls = 1 ∧ r.type = 6 ∧ r.name = f.zone ∧ r.data = f.soa
/-- Where the loop over the records beside the answers stands. -/
structure NgSt (p : TP) (B : Nat) (Y : Nat → Prop) (t : Nat) (w : World) (v : Value) (out : List Fa) (A : Option Addr) (c : Nat) (ns : List (List UInt8)) (k : Nat) (wr : World) (v' : Value) (out' : List Fa) : Prop where
  T : TSt p B Y wr t v' out'
  X : TX t w v wr v'
  nm : NmIn wr (fun b => b = t ∨ v'.ownBlock = some b) A c ns
  ol : out'.length ≤ out.length + k
  good : ∀ f ∈ out', f ∈ out ∨ NegF p f
section
variable {p : TP} {B : Nat} {Y : Nat → Prop} {t : Nat} {w : World} {v : Value} {out : List Fa} {A : Option Addr} {c : Nat} {ns : List (List UInt8)} {k : Nat} {wr w' : World} {v' v'' : Value} {out' out'' : List Fa}
theorem NgSt.below (h : NgSt p B Y t w v out A c ns k wr v' out') (hb : Below wr.heap.size wr w') : NgSt p B Y t w v out A c ns k w' v' out' :=
  ⟨h.T.below hb, h.X.nx hb, h.nm.below hb, h.ol, h.good⟩
theorem NgSt.next (h : NgSt p B Y t w v out A c ns k wr v' out') : NgSt p B Y t w v out A c ns (k + 1) wr v' out' := ⟨h.T, h.X, h.nm, by have := h.ol; omega, h.good⟩
theorem NgSt.found (h : NgSt p B Y t w v out A c ns k wr v' out') (hT : TSt p B Y w' t v'' out'') (hX : TX t wr v' w' v'') (hol : out''.length ≤ out'.length + 1) (hg : ∀ f ∈ out'', f ∈ out' ∨ NegF p f) : NgSt p B Y t w v out A c ns (k + 1) w' v'' out'' :=
  ⟨hT, h.X.trans hX, h.nm.tx hX, by have := h.ol; omega, fun f hf => (hg f hf).elim (fun e => h.good f e) .inr⟩
end

/-- A whole number in a row. -/
theorem int_at {So Si : Nat → Prop} {w : World} {A : Option Addr} {n : Nat} {ns : List Int} (h : Els encI So Si w A n ns) {k : Nat} {x : Int} (hx : ns[k]? = some x) : ∃ b off, A = some ⟨b, off, none⟩ ∧ So b ∧ w.cell? ⟨b, off + k, none⟩ = some (.int .i64 x) := by
  obtain ⟨b, off, rfl, hb, hat⟩ := Els.flat h (by rw [← h.len]; exact Nat.lt_of_le_of_lt (Nat.zero_le k) (List.getElem?_eq_some_iff.1 hx).1)
  obtain ⟨r, ⟨rfl, _⟩, hc⟩ := hat k x hx
  have h0 := hc 0 _ rfl
  have e : off + (k * encI.size + 0) = off + k := by show off + (k * 1 + 0) = _; omega
  rw [e] at h0
  exact ⟨b, off, rfl, hb, h0⟩
theorem cutG {G H : Prop} (h : G → H) (g : G) : H := h g
section
variable {P : Program} {ops : Array Oper} {Q : Exit → Act → World → Prop} {md : Region.Mode} {S : World → Prop} {dem : Nat → Bool}
/-- Either of two may come up. -/
theorem wpAnyP_two {i j : Nat} {o o' : Oper} {fuel : Nat} {listed : Array Bool} {a : Act} {w : World} (ho : ops[i]? = some o) (ho' : ops[j]? = some o') (hr : Region.ready md ops listed = [i, j])
    (h : ∀ K : Act → World → Prop, (∀ a w, (needS ops dem (listed.setIfInBounds i true) = true → S w) → wpAnyP P md ops Q S dem fuel (listed.setIfInBounds i true) a w → K a w) → if Region.wanted o (yielded ops a.tmps) = true then Oper.wp P o a w K Q else K (a.put o.dst undef) w)
    (h' : ∀ K : Act → World → Prop, (∀ a w, (needS ops dem (listed.setIfInBounds j true) = true → S w) → wpAnyP P md ops Q S dem fuel (listed.setIfInBounds j true) a w → K a w) → if Region.wanted o' (yielded ops a.tmps) = true then Oper.wp P o' a w K Q else K (a.put o'.dst undef) w) :
    wpAnyP P md ops Q S dem (fuel + 1) listed a w := by
  refine ⟨fun h0 => (by rw [h0] at hr; cases hr), fun k hk => ?_⟩
  rw [hr] at hk
  have hk' : k = i ∨ k = j := by simpa using hk
  rcases hk' with rfl | rfl
  · exact wpOp_step ho fun K' hK' => h K' fun a w h1 h2 => hK' a w ⟨h1, h2⟩
  · exact wpOp_step ho' fun K' hK' => h' K' fun a w h1 h2 => hK' a w ⟨h1, h2⟩
/-- The store of a whole struct. -/
theorem wpAnyP_storeR {T : TypeId} {n i : Nat} {o : Oper} {fuel : Nat} {listed : Array Bool} {a : Act} {w : World} (ho : ops[i]? = some o) (hr : Region.ready md ops listed = [i]) (hT : RowT P T n) (hgd : Region.wanted o (yielded ops a.tmps) = true) (x y : Operand) (hop : o.op = .store T x y) (g : Nat) (hx : a.eval x = .pointer (some ⟨g, 0, none⟩)) (cs : Array Value) (hy : a.eval y = .agg cs) (old : Array Value) {t : TypeId} (hg : w.heap[g]? = some (.cells old t (0, 0))) (hn : cs.size = n) (hold : old.size = n) (h1 : cs.all (·.oneCell') = true)
    (hS : needS ops dem (listed.setIfInBounds i true) = true → S (w.setRow g cs)) (h : wpAnyP P md ops Q S dem fuel (listed.setIfInBounds i true) (a.put o.dst undef) (w.setRow g cs)) : wpAnyP P md ops Q S dem (fuel + 1) listed a w := by
  obtain ⟨fs, hu, hi⟩ := hT
  subst hn
  refine wpAnyP_one ho hr fun K hK => ?_
  rw [if_pos hgd]
  exact wp_store_row T x y hop g cs hx hy t old hg hi hold h1 (hK _ _ hS h)
end

set_option maxHeartbeats 16000000 in
theorem negative_any (p : TP) (B t : Nat) (Y : Nat → Prop) (v : Value) (out : List Fa) (w : World) (A : Option Addr) (c : Nat) (ns : List (List UInt8)) (h : TSt p B Y w t v out) (hnm : NmIn w (fun b => b = t ∨ v.ownBlock = some b) A c ns) (hz : p.nz ≤ 1000000000) (hau : p.m.au.length ≤ 40000) (hsm : ∀ r ∈ p.m.au, SmR r ∧ (r.type = 6 → r.data.nums.length = 5)) (hol : out.length ≤ 60000) :
    Calls Try.prog 72 #[.pointer (some ⟨t, 0, none⟩), .slice A ns.length c] w (TCall p B Y t w v (fun r out' => r = .tuple #[] ∧ out'.length ≤ out.length + p.m.au.length ∧ ∀ f ∈ out', f ∈ out ∨ NegF p f)) := by
  obtain ⟨_, _, _, c13, _⟩ := TRow.cellsM h.T
  have ST0 : Hid (NgSt p B Y t w v out A c ns 0 w v out) := ⟨h, TX.refl, hnm, Nat.le_refl _, fun f hf => .inl hf⟩
  have H := Lib.hid h
  have HZ := Lib.hid hz
  have HSM := Lib.hid hsm
  have HOL := Lib.hid hol
  clear h hnm hz hsm hol
  go_enter Try.func72, Try.ntmps72
  go_upto_region 1 with (fail)
  clear c13
  obtain ⟨L, hL⟩ : ∃ k, k = p.m.au.length := ⟨_, rfl⟩
  have HL := Lib.hid hL
  have hLb : L ≤ 40000 := by rw [hL]; exact hau
  rw [← hL]
  clear hL hau
  go_loopw [13] (fun iv wr => ∃ (k : Nat) (v' : Value) (out' : List Fa), iv = .int .i64 (k : Int) ∧ k ≤ L ∧ Hid (NgSt p B Y t w v out A c ns k wr v' out')) (fun iv _ => L - (intOf iv).toNat)
  case atStart => exact ⟨0, v, out, rfl, Nat.zero_le _, ST0⟩
  case round =>
    clear ST0
    obtain ⟨k, v', out', rfl, hk, ST⟩ := hrel
    by_cases hlt : k < L
    rotate_left
    · have hlt' : ¬ (k : Int) < (L : Int) := by omega
      go_wp2
      go_end0
      exact ⟨_, v', out', rfl, ST.out.T, ST.out.X, rfl, by have h1 := ST.out.ol; have h2 := HL.out; omega, ST.out.good⟩
    obtain ⟨x, hx⟩ : ∃ x, p.m.au[k]? = some x := ⟨_, List.getElem?_eq_getElem (by rw [← HL.out]; exact hlt)⟩
    have HXM := Lib.hid (List.mem_of_getElem? hx)
    obtain ⟨b, off, s, hA, hb0, hri, hrc⟩ := rr_at ST.out.T.G.m.u hx
    obtain ⟨d0, d1, d2, d3, d4, d5, d6, d7, d8⟩ := hrc
    have HRI0 := Lib.hid hri
    have hAA := Lib.hid hA
    rw [hA]
    obtain ⟨w2, hw2⟩ : ∃ w2, w2 = wr.alloc (.cells #[.slice s.A x.name.length s.c, .int .i64 x.type, .int .i64 x.cls, .int .i64 x.ttl, .slice s.d.A0 x.data.bytes.length s.d.c0, .slice s.d.A1 x.data.host.length s.d.c1, .slice s.d.A2 x.data.mail.length s.d.c2, .slice s.d.A3 x.data.nums.length s.d.c3, .slice s.d.A4 x.data.texts.length s.d.c4] 84) := ⟨_, rfl⟩
    obtain ⟨bq, hbq⟩ : ∃ b, b = wr.heap.size := ⟨_, rfl⟩
    have hb2 : Below wr.heap.size wr w2 := by rw [hw2]; exact bl.alloc (Nat.le_refl _) _
    have HR2 : Hid (RRow w2 bq s x) := by show RRow _ _ _ _; rw [hw2, hbq]; exact heap_alloc_new wr _
    have HBQ : Hid (bq = wr.heap.size) := hbq
    have ST2 : Hid (NgSt p B Y t w v out A c ns k w2 v' out') := ST.out.below hb2
    have HRI : Hid (RIn (fun b => b < B) w2 s x) := hri.below hb2 (fun b hb => Nat.lt_trans hb ST.out.T.size)
    clear hx hb0 hri hA hb2
    go_upto_region 3 with (fail)
    rw [← hw2]
    clear hw2 d0 d1 d2 d3 d4 d5 d6 d7 d8
    rw [← hbq]
    clear hbq
    have hS2 : RRow w2.drew bq s x ∧ p.row w2.drew t v' := ⟨HR2.out, ST2.out.T.T⟩
    by_cases ht : x.type = 6
    rotate_left
    · have ht' : (x.type == 6) = false := by simp [ht]
      refine wp_region_any (by kernel_rfl) ?_
      change wpAny _ _ _ _ _ _ _ (World.drew w2)
      refine wpAny_of_P (S := fun W => RRow W bq s x ∧ p.row W t v') (dem := fun _ => true) _ _ _ _ ?_
      refine wpAnyP_take (i := 0) (v := .pointer (some ⟨bq, 1, none⟩)) rfl (by kernel_rfl) (by kernel_rfl) (by kernel_rfl) (by kernel_rfl) (by kernel_rfl) (fun _ _ _ h => h) (Or.inl ⟨by kernel_rfl, by (intro W hW; go_simp)⟩) hS2 ?_
      refine wpAnyP_take (i := 1) (v := .int .i64 x.type) rfl (by kernel_rfl) (by kernel_rfl) (by kernel_rfl) (by kernel_rfl) (by kernel_rfl) (fun _ _ _ h => h) (Or.inl ⟨by kernel_rfl, by (intro W hW; have c0 := hW.1.cells; obtain ⟨x0, x1, x2, x3, x4, x5, x6, x7, x8⟩ := c0; go_simp)⟩) hS2 ?_
      refine wpAnyP_take (i := 2) (v := .bool true) rfl (by kernel_rfl) (by kernel_rfl) (by kernel_rfl) (by kernel_rfl) (by kernel_rfl) (fun _ _ _ h => h) (Or.inl ⟨by kernel_rfl, by (intro W hW; go_simp)⟩) hS2 ?_
      refine wpAnyP_take (i := 3) (v := .bool true) rfl (by kernel_rfl) (by kernel_rfl) (by kernel_rfl) (by kernel_rfl) (by kernel_rfl) (fun _ _ _ h => h) (Or.inl ⟨by kernel_rfl, by (intro W hW; go_simp)⟩) hS2 ?_
      refine wpAnyP_take (i := 4) (v := undef) rfl (by kernel_rfl) (by kernel_rfl) (by kernel_rfl) (by kernel_rfl) (by kernel_rfl) (fun _ _ _ h => h) (Or.inr ⟨by kernel_rfl, rfl⟩) hS2 ?_
      refine wpAnyP_take (i := 5) (v := undef) rfl (by kernel_rfl) (by kernel_rfl) (by kernel_rfl) (by kernel_rfl) (by kernel_rfl) (fun _ _ _ h => h) (Or.inr ⟨by kernel_rfl, rfl⟩) hS2 ?_
      refine wpAnyP_take (i := 6) (v := undef) rfl (by kernel_rfl) (by kernel_rfl) (by kernel_rfl) (by kernel_rfl) (by kernel_rfl) (fun _ _ _ h => h) (Or.inr ⟨by kernel_rfl, rfl⟩) hS2 ?_
      refine wpAnyP_take (i := 7) (v := .bool true) rfl (by kernel_rfl) (by kernel_rfl) (by kernel_rfl) (by kernel_rfl) (by kernel_rfl) (fun _ _ _ h => h) (Or.inl ⟨by kernel_rfl, by (intro W hW; go_simp)⟩) hS2 ?_
      refine wpAnyP_take (i := 8) (v := .bool true) rfl (by kernel_rfl) (by kernel_rfl) (by kernel_rfl) (by kernel_rfl) (by kernel_rfl) (fun _ _ _ h => h) (Or.inl ⟨by kernel_rfl, by (intro W hW; go_simp)⟩) hS2 ?_
      refine wpAnyP_take (i := 9) (v := undef) rfl (by kernel_rfl) (by kernel_rfl) (by kernel_rfl) (by kernel_rfl) (by kernel_rfl) (fun _ _ _ h => h) (Or.inr ⟨by kernel_rfl, rfl⟩) hS2 ?_
      refine wpAnyP_take (i := 10) (v := undef) rfl (by kernel_rfl) (by kernel_rfl) (by kernel_rfl) (by kernel_rfl) (by kernel_rfl) (fun _ _ _ h => h) (Or.inr ⟨by kernel_rfl, rfl⟩) hS2 ?_
      refine wpAnyP_take (i := 11) (v := undef) rfl (by kernel_rfl) (by kernel_rfl) (by kernel_rfl) (by kernel_rfl) (by kernel_rfl) (fun _ _ _ h => h) (Or.inr ⟨by kernel_rfl, rfl⟩) hS2 ?_
      refine wpAnyP_take (i := 12) (v := undef) rfl (by kernel_rfl) (by kernel_rfl) (by kernel_rfl) (by kernel_rfl) (by kernel_rfl) (fun _ _ _ h => h) (Or.inr ⟨by kernel_rfl, rfl⟩) hS2 ?_
      refine wpAnyP_take (i := 13) (v := undef) rfl (by kernel_rfl) (by kernel_rfl) (by kernel_rfl) (by kernel_rfl) (by kernel_rfl) (fun _ _ _ h => h) (Or.inr ⟨by kernel_rfl, rfl⟩) hS2 ?_
      refine wpAnyP_take (i := 14) (v := undef) rfl (by kernel_rfl) (by kernel_rfl) (by kernel_rfl) (by kernel_rfl) (by kernel_rfl) (fun _ _ _ h => h) (Or.inr ⟨by kernel_rfl, rfl⟩) hS2 ?_
      refine wpAnyP_take (i := 15) (v := undef) rfl (by kernel_rfl) (by kernel_rfl) (by kernel_rfl) (by kernel_rfl) (by kernel_rfl) (fun _ _ _ h => h) (Or.inr ⟨by kernel_rfl, rfl⟩) hS2 ?_
      refine wpAnyP_take (i := 16) (v := undef) rfl (by kernel_rfl) (by kernel_rfl) (by kernel_rfl) (by kernel_rfl) (by kernel_rfl) (fun _ _ _ h => h) (Or.inr ⟨by kernel_rfl, rfl⟩) hS2 ?_
      refine wpAnyP_take (i := 17) (v := .bool true) rfl (by kernel_rfl) (by kernel_rfl) (by kernel_rfl) (by kernel_rfl) (by kernel_rfl) (fun _ _ _ h => h) (Or.inl ⟨by kernel_rfl, by (intro W hW; go_simp)⟩) hS2 ?_
      refine wpAnyP_take (i := 18) (v := .bool true) rfl (by kernel_rfl) (by kernel_rfl) (by kernel_rfl) (by kernel_rfl) (by kernel_rfl) (fun _ _ _ h => h) (Or.inl ⟨by kernel_rfl, by (intro W hW; go_simp)⟩) hS2 ?_
      refine wpAnyP_take (i := 19) (v := undef) rfl (by kernel_rfl) (by kernel_rfl) (by kernel_rfl) (by kernel_rfl) (by kernel_rfl) (fun _ _ _ h => h) (Or.inr ⟨by kernel_rfl, rfl⟩) hS2 ?_
      refine wpAnyP_take (i := 20) (v := undef) rfl (by kernel_rfl) (by kernel_rfl) (by kernel_rfl) (by kernel_rfl) (by kernel_rfl) (fun _ _ _ h => h) (Or.inr ⟨by kernel_rfl, rfl⟩) hS2 ?_
      refine wpAnyP_take (i := 21) (v := undef) rfl (by kernel_rfl) (by kernel_rfl) (by kernel_rfl) (by kernel_rfl) (by kernel_rfl) (fun _ _ _ h => h) (Or.inr ⟨by kernel_rfl, rfl⟩) hS2 ?_
      refine wpAnyP_take (i := 22) (v := undef) rfl (by kernel_rfl) (by kernel_rfl) (by kernel_rfl) (by kernel_rfl) (by kernel_rfl) (fun _ _ _ h => h) (Or.inr ⟨by kernel_rfl, rfl⟩) hS2 ?_
      refine wpAnyP_take (i := 23) (v := undef) rfl (by kernel_rfl) (by kernel_rfl) (by kernel_rfl) (by kernel_rfl) (by kernel_rfl) (fun _ _ _ h => h) (Or.inr ⟨by kernel_rfl, rfl⟩) hS2 ?_
      refine wpAnyP_one (i := 24) rfl (by kernel_rfl) fun K hK => ?_
      go_simp
      refine hK _ _ (fun h => absurd h (by rw [show needS _ _ _ = false from by kernel_rfl]; decide)) ?_
      clear hK
      refine wpAnyP_done (by kernel_rfl) ?_ _
      go_wp2
      go_roundw
      case rel => exact ⟨k + 1, v', out', by go_num, by omega, by have h := (ST2.out.below bl.drew).next; exact h⟩
      case measure => simp [intOf]; omega
    have ht' : (x.type == 6) = true := by simp [ht]
    by_cases hc : x.cls = 1
    rotate_left
    · have hc' : (x.cls == 1) = false := by simp [hc]
      refine wp_region_any (by kernel_rfl) ?_
      change wpAny _ _ _ _ _ _ _ (World.drew w2)
      refine wpAny_of_P (S := fun W => RRow W bq s x ∧ p.row W t v') (dem := fun _ => true) _ _ _ _ ?_
      refine wpAnyP_take (i := 0) (v := .pointer (some ⟨bq, 1, none⟩)) rfl (by kernel_rfl) (by kernel_rfl) (by kernel_rfl) (by kernel_rfl) (by kernel_rfl) (fun _ _ _ h => h) (Or.inl ⟨by kernel_rfl, by (intro W hW; go_simp)⟩) hS2 ?_
      refine wpAnyP_take (i := 1) (v := .int .i64 x.type) rfl (by kernel_rfl) (by kernel_rfl) (by kernel_rfl) (by kernel_rfl) (by kernel_rfl) (fun _ _ _ h => h) (Or.inl ⟨by kernel_rfl, by (intro W hW; have c0 := hW.1.cells; obtain ⟨x0, x1, x2, x3, x4, x5, x6, x7, x8⟩ := c0; go_simp)⟩) hS2 ?_
      refine wpAnyP_take (i := 2) (v := .bool false) rfl (by kernel_rfl) (by kernel_rfl) (by kernel_rfl) (by kernel_rfl) (by kernel_rfl) (fun _ _ _ h => h) (Or.inl ⟨by kernel_rfl, by (intro W hW; go_simp)⟩) hS2 ?_
      refine wpAnyP_take (i := 3) (v := .bool false) rfl (by kernel_rfl) (by kernel_rfl) (by kernel_rfl) (by kernel_rfl) (by kernel_rfl) (fun _ _ _ h => h) (Or.inl ⟨by kernel_rfl, by (intro W hW; go_simp)⟩) hS2 ?_
      refine wpAnyP_take (i := 4) (v := .pointer (some ⟨bq, 2, none⟩)) rfl (by kernel_rfl) (by kernel_rfl) (by kernel_rfl) (by kernel_rfl) (by kernel_rfl) (fun _ _ _ h => h) (Or.inl ⟨by kernel_rfl, by (intro W hW; go_simp)⟩) hS2 ?_
      refine wpAnyP_take (i := 5) (v := .int .i64 x.cls) rfl (by kernel_rfl) (by kernel_rfl) (by kernel_rfl) (by kernel_rfl) (by kernel_rfl) (fun _ _ _ h => h) (Or.inl ⟨by kernel_rfl, by (intro W hW; have c0 := hW.1.cells; obtain ⟨x0, x1, x2, x3, x4, x5, x6, x7, x8⟩ := c0; go_simp)⟩) hS2 ?_
      refine wpAnyP_take (i := 6) (v := .bool true) rfl (by kernel_rfl) (by kernel_rfl) (by kernel_rfl) (by kernel_rfl) (by kernel_rfl) (fun _ _ _ h => h) (Or.inl ⟨by kernel_rfl, by (intro W hW; go_simp)⟩) hS2 ?_
      refine wpAnyP_take (i := 7) (v := .bool true) rfl (by kernel_rfl) (by kernel_rfl) (by kernel_rfl) (by kernel_rfl) (by kernel_rfl) (fun _ _ _ h => h) (Or.inl ⟨by kernel_rfl, by (intro W hW; go_simp)⟩) hS2 ?_
      refine wpAnyP_take (i := 8) (v := .bool true) rfl (by kernel_rfl) (by kernel_rfl) (by kernel_rfl) (by kernel_rfl) (by kernel_rfl) (fun _ _ _ h => h) (Or.inl ⟨by kernel_rfl, by (intro W hW; go_simp)⟩) hS2 ?_
      refine wpAnyP_take (i := 9) (v := undef) rfl (by kernel_rfl) (by kernel_rfl) (by kernel_rfl) (by kernel_rfl) (by kernel_rfl) (fun _ _ _ h => h) (Or.inr ⟨by kernel_rfl, rfl⟩) hS2 ?_
      refine wpAnyP_take (i := 10) (v := undef) rfl (by kernel_rfl) (by kernel_rfl) (by kernel_rfl) (by kernel_rfl) (by kernel_rfl) (fun _ _ _ h => h) (Or.inr ⟨by kernel_rfl, rfl⟩) hS2 ?_
      refine wpAnyP_take (i := 11) (v := undef) rfl (by kernel_rfl) (by kernel_rfl) (by kernel_rfl) (by kernel_rfl) (by kernel_rfl) (fun _ _ _ h => h) (Or.inr ⟨by kernel_rfl, rfl⟩) hS2 ?_
      refine wpAnyP_take (i := 12) (v := undef) rfl (by kernel_rfl) (by kernel_rfl) (by kernel_rfl) (by kernel_rfl) (by kernel_rfl) (fun _ _ _ h => h) (Or.inr ⟨by kernel_rfl, rfl⟩) hS2 ?_
      refine wpAnyP_take (i := 13) (v := undef) rfl (by kernel_rfl) (by kernel_rfl) (by kernel_rfl) (by kernel_rfl) (by kernel_rfl) (fun _ _ _ h => h) (Or.inr ⟨by kernel_rfl, rfl⟩) hS2 ?_
      refine wpAnyP_take (i := 14) (v := undef) rfl (by kernel_rfl) (by kernel_rfl) (by kernel_rfl) (by kernel_rfl) (by kernel_rfl) (fun _ _ _ h => h) (Or.inr ⟨by kernel_rfl, rfl⟩) hS2 ?_
      refine wpAnyP_take (i := 15) (v := undef) rfl (by kernel_rfl) (by kernel_rfl) (by kernel_rfl) (by kernel_rfl) (by kernel_rfl) (fun _ _ _ h => h) (Or.inr ⟨by kernel_rfl, rfl⟩) hS2 ?_
      refine wpAnyP_take (i := 16) (v := undef) rfl (by kernel_rfl) (by kernel_rfl) (by kernel_rfl) (by kernel_rfl) (by kernel_rfl) (fun _ _ _ h => h) (Or.inr ⟨by kernel_rfl, rfl⟩) hS2 ?_
      refine wpAnyP_take (i := 17) (v := .bool true) rfl (by kernel_rfl) (by kernel_rfl) (by kernel_rfl) (by kernel_rfl) (by kernel_rfl) (fun _ _ _ h => h) (Or.inl ⟨by kernel_rfl, by (intro W hW; go_simp)⟩) hS2 ?_
      refine wpAnyP_take (i := 18) (v := .bool true) rfl (by kernel_rfl) (by kernel_rfl) (by kernel_rfl) (by kernel_rfl) (by kernel_rfl) (fun _ _ _ h => h) (Or.inl ⟨by kernel_rfl, by (intro W hW; go_simp)⟩) hS2 ?_
      refine wpAnyP_take (i := 19) (v := undef) rfl (by kernel_rfl) (by kernel_rfl) (by kernel_rfl) (by kernel_rfl) (by kernel_rfl) (fun _ _ _ h => h) (Or.inr ⟨by kernel_rfl, rfl⟩) hS2 ?_
      refine wpAnyP_take (i := 20) (v := undef) rfl (by kernel_rfl) (by kernel_rfl) (by kernel_rfl) (by kernel_rfl) (by kernel_rfl) (fun _ _ _ h => h) (Or.inr ⟨by kernel_rfl, rfl⟩) hS2 ?_
      refine wpAnyP_take (i := 21) (v := undef) rfl (by kernel_rfl) (by kernel_rfl) (by kernel_rfl) (by kernel_rfl) (by kernel_rfl) (fun _ _ _ h => h) (Or.inr ⟨by kernel_rfl, rfl⟩) hS2 ?_
      refine wpAnyP_take (i := 22) (v := undef) rfl (by kernel_rfl) (by kernel_rfl) (by kernel_rfl) (by kernel_rfl) (by kernel_rfl) (fun _ _ _ h => h) (Or.inr ⟨by kernel_rfl, rfl⟩) hS2 ?_
      refine wpAnyP_take (i := 23) (v := undef) rfl (by kernel_rfl) (by kernel_rfl) (by kernel_rfl) (by kernel_rfl) (by kernel_rfl) (fun _ _ _ h => h) (Or.inr ⟨by kernel_rfl, rfl⟩) hS2 ?_
      refine wpAnyP_one (i := 24) rfl (by kernel_rfl) fun K hK => ?_
      go_simp
      refine hK _ _ (fun h => absurd h (by rw [show needS _ _ _ = false from by kernel_rfl]; decide)) ?_
      clear hK
      refine wpAnyP_done (by kernel_rfl) ?_ _
      go_wp2
      go_roundw
      case rel => exact ⟨k + 1, v', out', by go_num, by omega, by have h := (ST2.out.below bl.drew).next; exact h⟩
      case measure => simp [intOf]; omega
    have hc' : (x.cls == 1) = true := by simp [hc]
    have ST2d : Hid (NgSt p B Y t w v out A c ns k w2.drew v' out') := ST2.out.below bl.drew
    have HRId : Hid (RIn (fun b => b < B) w2.drew s x) := HRI.out.below bl.drew (fun b hb => Nat.lt_trans hb ST2.out.T.size)
    have HXL : Hid (x.name.length ≤ 255) := (HSM.out x HXM.out).1.1
    have HU1 := Lib.hid (nunder_any s.A p.Z x.name.length s.c p.nz p.cz x.name p.zs w2.drew (HRId.out.n.mono (fun b hb => Nat.lt_trans hb ST2d.out.T.size) (fun b hb => Nat.lt_trans hb ST2d.out.T.size)) (ST2d.out.T.G.z.mono (fun b hb => Nat.lt_trans hb ST2d.out.T.size) (fun b hb => Nat.lt_trans hb ST2d.out.T.size)) (by have := HXL.out; omega) HZ.out HRId.out.cn.1)
    obtain ⟨u1, hu1⟩ : ∃ b, b = underB x.name p.zs := ⟨_, rfl⟩
    rw [← hu1] at HU1
    have HU1E := Lib.hid hu1
    clear hu1
    cases u1 with
    | false =>
      refine wp_region_any (by kernel_rfl) ?_
      change wpAny _ _ _ _ _ _ _ (World.drew w2)
      refine wpAny_of_P (S := fun W => RRow W bq s x ∧ p.row W t v') (dem := fun _ => true) _ _ _ _ ?_
      refine wpAnyP_take (i := 0) (v := .pointer (some ⟨bq, 1, none⟩)) rfl (by kernel_rfl) (by kernel_rfl) (by kernel_rfl) (by kernel_rfl) (by kernel_rfl) (fun _ _ _ h => h) (Or.inl ⟨by kernel_rfl, by (intro W hW; go_simp)⟩) hS2 ?_
      refine wpAnyP_take (i := 1) (v := .int .i64 x.type) rfl (by kernel_rfl) (by kernel_rfl) (by kernel_rfl) (by kernel_rfl) (by kernel_rfl) (fun _ _ _ h => h) (Or.inl ⟨by kernel_rfl, by (intro W hW; have c0 := hW.1.cells; obtain ⟨x0, x1, x2, x3, x4, x5, x6, x7, x8⟩ := c0; go_simp)⟩) hS2 ?_
      refine wpAnyP_take (i := 2) (v := .bool false) rfl (by kernel_rfl) (by kernel_rfl) (by kernel_rfl) (by kernel_rfl) (by kernel_rfl) (fun _ _ _ h => h) (Or.inl ⟨by kernel_rfl, by (intro W hW; go_simp)⟩) hS2 ?_
      refine wpAnyP_take (i := 3) (v := .bool false) rfl (by kernel_rfl) (by kernel_rfl) (by kernel_rfl) (by kernel_rfl) (by kernel_rfl) (fun _ _ _ h => h) (Or.inl ⟨by kernel_rfl, by (intro W hW; go_simp)⟩) hS2 ?_
      refine wpAnyP_take (i := 4) (v := .pointer (some ⟨bq, 2, none⟩)) rfl (by kernel_rfl) (by kernel_rfl) (by kernel_rfl) (by kernel_rfl) (by kernel_rfl) (fun _ _ _ h => h) (Or.inl ⟨by kernel_rfl, by (intro W hW; go_simp)⟩) hS2 ?_
      refine wpAnyP_take (i := 5) (v := .int .i64 x.cls) rfl (by kernel_rfl) (by kernel_rfl) (by kernel_rfl) (by kernel_rfl) (by kernel_rfl) (fun _ _ _ h => h) (Or.inl ⟨by kernel_rfl, by (intro W hW; have c0 := hW.1.cells; obtain ⟨x0, x1, x2, x3, x4, x5, x6, x7, x8⟩ := c0; go_simp)⟩) hS2 ?_
      refine wpAnyP_take (i := 6) (v := .bool false) rfl (by kernel_rfl) (by kernel_rfl) (by kernel_rfl) (by kernel_rfl) (by kernel_rfl) (fun _ _ _ h => h) (Or.inl ⟨by kernel_rfl, by (intro W hW; go_simp)⟩) hS2 ?_
      refine wpAnyP_take (i := 7) (v := .bool false) rfl (by kernel_rfl) (by kernel_rfl) (by kernel_rfl) (by kernel_rfl) (by kernel_rfl) (fun _ _ _ h => h) (Or.inl ⟨by kernel_rfl, by (intro W hW; go_simp)⟩) hS2 ?_
      refine wpAnyP_take (i := 8) (v := .bool false) rfl (by kernel_rfl) (by kernel_rfl) (by kernel_rfl) (by kernel_rfl) (by kernel_rfl) (fun _ _ _ h => h) (Or.inl ⟨by kernel_rfl, by (intro W hW; go_simp)⟩) hS2 ?_
      refine wpAnyP_take (i := 9) (v := .pointer (some ⟨bq, 0, none⟩)) rfl (by kernel_rfl) (by kernel_rfl) (by kernel_rfl) (by kernel_rfl) (by kernel_rfl) (fun _ _ _ h => h) (Or.inl ⟨by kernel_rfl, by (intro W hW; go_simp)⟩) hS2 ?_
      refine wpAnyP_take (i := 10) (v := .slice s.A x.name.length s.c) rfl (by kernel_rfl) (by kernel_rfl) (by kernel_rfl) (by kernel_rfl) (by kernel_rfl) (fun _ _ _ h => h) (Or.inl ⟨by kernel_rfl, by (intro W hW; have c0 := hW.1.cells; obtain ⟨x0, x1, x2, x3, x4, x5, x6, x7, x8⟩ := c0; go_simp)⟩) hS2 ?_
      refine wpAnyP_take (i := 11) (v := .pointer (some ⟨t, 0, none⟩)) rfl (by kernel_rfl) (by kernel_rfl) (by kernel_rfl) (by kernel_rfl) (by kernel_rfl) (fun _ _ _ h => h) (Or.inl ⟨by kernel_rfl, by (intro W hW; go_simp)⟩) hS2 ?_
      refine wpAnyP_take (i := 12) (v := .pointer (some ⟨t, 0, none⟩)) rfl (by kernel_rfl) (by kernel_rfl) (by kernel_rfl) (by kernel_rfl) (by kernel_rfl) (fun _ _ _ h => h) (Or.inl ⟨by kernel_rfl, by (intro W hW; go_simp)⟩) hS2 ?_
      refine wpAnyP_take (i := 13) (v := .pointer (some ⟨t, 17, none⟩)) rfl (by kernel_rfl) (by kernel_rfl) (by kernel_rfl) (by kernel_rfl) (by kernel_rfl) (fun _ _ _ h => h) (Or.inl ⟨by kernel_rfl, by (intro W hW; go_simp)⟩) hS2 ?_
      refine wpAnyP_take (i := 14) (v := .slice p.Z p.nz p.cz) rfl (by kernel_rfl) (by kernel_rfl) (by kernel_rfl) (by kernel_rfl) (by kernel_rfl) (fun _ _ _ h => h) (Or.inl ⟨by kernel_rfl, by (intro W hW; have c0 := (TRow.cells20 hW.2).1; go_simp)⟩) hS2 ?_
      refine wpAnyP_one (i := 15) rfl (by kernel_rfl) fun K hK => ?_
      go_simp
      refine HU1.out.mono ?_
      rintro e w3 ⟨r3, rfl, rfl, hb3'⟩
      have HB3 : Hid (Below w2.drew.heap.size w2.drew w3) := hb3'
      clear hb3'
      have ST3 : Hid (NgSt p B Y t w v out A c ns k w3 v' out') := ST2d.out.below HB3.out
      have hS3 : RRow w3 bq s x ∧ p.row w3 t v' := ⟨RRow.below (w := w2.drew) HR2.out HB3.out, ST3.out.T.T⟩
      refine hK _ _ (fun _ => hS3) ?_
      clear hK
      refine wpAnyP_take (i := 16) (v := .bool true) rfl (by kernel_rfl) (by kernel_rfl) (by kernel_rfl) (by kernel_rfl) (by kernel_rfl) (fun _ _ _ h => h) (Or.inl ⟨by kernel_rfl, by (intro W hW; go_simp)⟩) hS3 ?_
      refine wpAnyP_take (i := 17) (v := .bool true) rfl (by kernel_rfl) (by kernel_rfl) (by kernel_rfl) (by kernel_rfl) (by kernel_rfl) (fun _ _ _ h => h) (Or.inl ⟨by kernel_rfl, by (intro W hW; go_simp)⟩) hS3 ?_
      refine wpAnyP_take (i := 18) (v := .bool true) rfl (by kernel_rfl) (by kernel_rfl) (by kernel_rfl) (by kernel_rfl) (by kernel_rfl) (fun _ _ _ h => h) (Or.inl ⟨by kernel_rfl, by (intro W hW; go_simp)⟩) hS3 ?_
      refine wpAnyP_take (i := 19) (v := undef) rfl (by kernel_rfl) (by kernel_rfl) (by kernel_rfl) (by kernel_rfl) (by kernel_rfl) (fun _ _ _ h => h) (Or.inr ⟨by kernel_rfl, rfl⟩) hS3 ?_
      refine wpAnyP_take (i := 20) (v := undef) rfl (by kernel_rfl) (by kernel_rfl) (by kernel_rfl) (by kernel_rfl) (by kernel_rfl) (fun _ _ _ h => h) (Or.inr ⟨by kernel_rfl, rfl⟩) hS3 ?_
      refine wpAnyP_take (i := 21) (v := undef) rfl (by kernel_rfl) (by kernel_rfl) (by kernel_rfl) (by kernel_rfl) (by kernel_rfl) (fun _ _ _ h => h) (Or.inr ⟨by kernel_rfl, rfl⟩) hS3 ?_
      refine wpAnyP_take (i := 22) (v := undef) rfl (by kernel_rfl) (by kernel_rfl) (by kernel_rfl) (by kernel_rfl) (by kernel_rfl) (fun _ _ _ h => h) (Or.inr ⟨by kernel_rfl, rfl⟩) hS3 ?_
      refine wpAnyP_take (i := 23) (v := undef) rfl (by kernel_rfl) (by kernel_rfl) (by kernel_rfl) (by kernel_rfl) (by kernel_rfl) (fun _ _ _ h => h) (Or.inr ⟨by kernel_rfl, rfl⟩) hS3 ?_
      refine wpAnyP_one (i := 24) rfl (by kernel_rfl) fun K hK => ?_
      go_simp
      refine hK _ _ (fun h => absurd h (by rw [show needS _ _ _ = false from by kernel_rfl]; decide)) ?_
      clear hK
      refine wpAnyP_done (by kernel_rfl) ?_ _
      go_wp2
      go_roundw
      case rel => exact ⟨k + 1, v', out', by go_num, by omega, by have h := (ST3.out).next; exact h⟩
      case measure => simp [intOf]; omega
    | true =>
    refine wp_region_any (by kernel_rfl) ?_
    change wpAny _ _ _ _ _ _ _ (World.drew w2)
    refine wpAny_of_P (S := fun W => RRow W bq s x ∧ p.row W t v') (dem := fun _ => true) _ _ _ _ ?_
    refine wpAnyP_take (i := 0) (v := .pointer (some ⟨bq, 1, none⟩)) rfl (by kernel_rfl) (by kernel_rfl) (by kernel_rfl) (by kernel_rfl) (by kernel_rfl) (fun _ _ _ h => h) (Or.inl ⟨by kernel_rfl, by (intro W hW; go_simp)⟩) hS2 ?_
    refine wpAnyP_take (i := 1) (v := .int .i64 x.type) rfl (by kernel_rfl) (by kernel_rfl) (by kernel_rfl) (by kernel_rfl) (by kernel_rfl) (fun _ _ _ h => h) (Or.inl ⟨by kernel_rfl, by (intro W hW; have c0 := hW.1.cells; obtain ⟨x0, x1, x2, x3, x4, x5, x6, x7, x8⟩ := c0; go_simp)⟩) hS2 ?_
    refine wpAnyP_take (i := 2) (v := .bool false) rfl (by kernel_rfl) (by kernel_rfl) (by kernel_rfl) (by kernel_rfl) (by kernel_rfl) (fun _ _ _ h => h) (Or.inl ⟨by kernel_rfl, by (intro W hW; go_simp)⟩) hS2 ?_
    refine wpAnyP_take (i := 3) (v := .bool false) rfl (by kernel_rfl) (by kernel_rfl) (by kernel_rfl) (by kernel_rfl) (by kernel_rfl) (fun _ _ _ h => h) (Or.inl ⟨by kernel_rfl, by (intro W hW; go_simp)⟩) hS2 ?_
    refine wpAnyP_take (i := 4) (v := .pointer (some ⟨bq, 2, none⟩)) rfl (by kernel_rfl) (by kernel_rfl) (by kernel_rfl) (by kernel_rfl) (by kernel_rfl) (fun _ _ _ h => h) (Or.inl ⟨by kernel_rfl, by (intro W hW; go_simp)⟩) hS2 ?_
    refine wpAnyP_take (i := 5) (v := .int .i64 x.cls) rfl (by kernel_rfl) (by kernel_rfl) (by kernel_rfl) (by kernel_rfl) (by kernel_rfl) (fun _ _ _ h => h) (Or.inl ⟨by kernel_rfl, by (intro W hW; have c0 := hW.1.cells; obtain ⟨x0, x1, x2, x3, x4, x5, x6, x7, x8⟩ := c0; go_simp)⟩) hS2 ?_
    refine wpAnyP_take (i := 6) (v := .bool false) rfl (by kernel_rfl) (by kernel_rfl) (by kernel_rfl) (by kernel_rfl) (by kernel_rfl) (fun _ _ _ h => h) (Or.inl ⟨by kernel_rfl, by (intro W hW; go_simp)⟩) hS2 ?_
    refine wpAnyP_take (i := 7) (v := .bool false) rfl (by kernel_rfl) (by kernel_rfl) (by kernel_rfl) (by kernel_rfl) (by kernel_rfl) (fun _ _ _ h => h) (Or.inl ⟨by kernel_rfl, by (intro W hW; go_simp)⟩) hS2 ?_
    refine wpAnyP_take (i := 8) (v := .bool false) rfl (by kernel_rfl) (by kernel_rfl) (by kernel_rfl) (by kernel_rfl) (by kernel_rfl) (fun _ _ _ h => h) (Or.inl ⟨by kernel_rfl, by (intro W hW; go_simp)⟩) hS2 ?_
    refine wpAnyP_take (i := 9) (v := .pointer (some ⟨bq, 0, none⟩)) rfl (by kernel_rfl) (by kernel_rfl) (by kernel_rfl) (by kernel_rfl) (by kernel_rfl) (fun _ _ _ h => h) (Or.inl ⟨by kernel_rfl, by (intro W hW; go_simp)⟩) hS2 ?_
    refine wpAnyP_take (i := 10) (v := .slice s.A x.name.length s.c) rfl (by kernel_rfl) (by kernel_rfl) (by kernel_rfl) (by kernel_rfl) (by kernel_rfl) (fun _ _ _ h => h) (Or.inl ⟨by kernel_rfl, by (intro W hW; have c0 := hW.1.cells; obtain ⟨x0, x1, x2, x3, x4, x5, x6, x7, x8⟩ := c0; go_simp)⟩) hS2 ?_
    refine wpAnyP_take (i := 11) (v := .pointer (some ⟨t, 0, none⟩)) rfl (by kernel_rfl) (by kernel_rfl) (by kernel_rfl) (by kernel_rfl) (by kernel_rfl) (fun _ _ _ h => h) (Or.inl ⟨by kernel_rfl, by (intro W hW; go_simp)⟩) hS2 ?_
    refine wpAnyP_take (i := 12) (v := .pointer (some ⟨t, 0, none⟩)) rfl (by kernel_rfl) (by kernel_rfl) (by kernel_rfl) (by kernel_rfl) (by kernel_rfl) (fun _ _ _ h => h) (Or.inl ⟨by kernel_rfl, by (intro W hW; go_simp)⟩) hS2 ?_
    refine wpAnyP_take (i := 13) (v := .pointer (some ⟨t, 17, none⟩)) rfl (by kernel_rfl) (by kernel_rfl) (by kernel_rfl) (by kernel_rfl) (by kernel_rfl) (fun _ _ _ h => h) (Or.inl ⟨by kernel_rfl, by (intro W hW; go_simp)⟩) hS2 ?_
    refine wpAnyP_take (i := 14) (v := .slice p.Z p.nz p.cz) rfl (by kernel_rfl) (by kernel_rfl) (by kernel_rfl) (by kernel_rfl) (by kernel_rfl) (fun _ _ _ h => h) (Or.inl ⟨by kernel_rfl, by (intro W hW; have c0 := (TRow.cells20 hW.2).1; go_simp)⟩) hS2 ?_
    refine wpAnyP_one (i := 15) rfl (by kernel_rfl) fun K hK => ?_
    go_simp
    refine HU1.out.mono ?_
    rintro e w3 ⟨r3, rfl, rfl, hb3'⟩
    have HB3 : Hid (Below w2.drew.heap.size w2.drew w3) := hb3'
    clear hb3'
    have ST3 : Hid (NgSt p B Y t w v out A c ns k w3 v' out') := ST2d.out.below HB3.out
    have hS3 : RRow w3 bq s x ∧ p.row w3 t v' := ⟨RRow.below (w := w2.drew) HR2.out HB3.out, ST3.out.T.T⟩
    refine hK _ _ (fun _ => hS3) ?_
    clear hK
    refine wpAnyP_take (i := 16) (v := .bool false) rfl (by kernel_rfl) (by kernel_rfl) (by kernel_rfl) (by kernel_rfl) (by kernel_rfl) (fun _ _ _ h => h) (Or.inl ⟨by kernel_rfl, by (intro W hW; go_simp)⟩) hS3 ?_
    refine wpAnyP_take (i := 17) (v := .bool false) rfl (by kernel_rfl) (by kernel_rfl) (by kernel_rfl) (by kernel_rfl) (by kernel_rfl) (fun _ _ _ h => h) (Or.inl ⟨by kernel_rfl, by (intro W hW; go_simp)⟩) hS3 ?_
    refine wpAnyP_take (i := 18) (v := .bool false) rfl (by kernel_rfl) (by kernel_rfl) (by kernel_rfl) (by kernel_rfl) (by kernel_rfl) (fun _ _ _ h => h) (Or.inl ⟨by kernel_rfl, by (intro W hW; go_simp)⟩) hS3 ?_
    refine wpAnyP_take (i := 19) (v := .slice A ns.length c) rfl (by kernel_rfl) (by kernel_rfl) (by kernel_rfl) (by kernel_rfl) (by kernel_rfl) (fun _ _ _ h => h) (Or.inl ⟨by kernel_rfl, by (intro W hW; go_simp)⟩) hS3 ?_
    refine wpAnyP_take (i := 20) (v := .pointer (some ⟨bq, 0, none⟩)) rfl (by kernel_rfl) (by kernel_rfl) (by kernel_rfl) (by kernel_rfl) (by kernel_rfl) (fun _ _ _ h => h) (Or.inl ⟨by kernel_rfl, by (intro W hW; go_simp)⟩) hS3 ?_
    refine wpAnyP_take (i := 21) (v := .slice s.A x.name.length s.c) rfl (by kernel_rfl) (by kernel_rfl) (by kernel_rfl) (by kernel_rfl) (by kernel_rfl) (fun _ _ _ h => h) (Or.inl ⟨by kernel_rfl, by (intro W hW; have c0 := hW.1.cells; obtain ⟨x0, x1, x2, x3, x4, x5, x6, x7, x8⟩ := c0; go_simp)⟩) hS3 ?_
    have HRI3 : Hid (RIn (fun b => b < B) w3 s x) := HRId.out.below HB3.out (fun b hb => Nat.lt_trans hb ST2d.out.T.size)
    have HU2 := Lib.hid (nunder_any A s.A ns.length c x.name.length s.c ns x.name w3 ST3.out.nm.rd (HRI3.out.n.mono (fun b hb => Nat.lt_trans hb ST3.out.T.size) (fun b hb => Nat.lt_trans hb ST3.out.T.size)) (by have := ST3.out.nm.l; omega) (by have := HXL.out; omega) ST3.out.nm.c.1)
    obtain ⟨u2, hu2⟩ : ∃ b, b = underB ns x.name := ⟨_, rfl⟩
    rw [← hu2] at HU2
    clear hu2
    cases u2 with
    | false =>
      refine wpAnyP_one (i := 22) rfl (by kernel_rfl) fun K hK => ?_
      go_simp
      refine HU2.out.mono ?_
      rintro e w4 ⟨r4, rfl, rfl, hb4⟩
      have HB4 := Lib.hid hb4
      clear hb4
      have ST4 : Hid (NgSt p B Y t w v out A c ns k w4 v' out') := ST3.out.below HB4.out
      have hS4 : RRow w4 bq s x ∧ p.row w4 t v' := ⟨RRow.below hS3.1 HB4.out, ST4.out.T.T⟩
      refine hK _ _ (fun _ => hS4) ?_
      clear hK
      refine wpAnyP_take (i := 23) (v := .bool true) rfl (by kernel_rfl) (by kernel_rfl) (by kernel_rfl) (by kernel_rfl) (by kernel_rfl) (fun _ _ _ h => h) (Or.inl ⟨by kernel_rfl, by (intro W hW; go_simp)⟩) hS4 ?_
      refine wpAnyP_one (i := 24) rfl (by kernel_rfl) fun K hK => ?_
      go_simp
      refine hK _ _ (fun h => absurd h (by rw [show needS _ _ _ = false from by kernel_rfl]; decide)) ?_
      clear hK
      refine wpAnyP_done (by kernel_rfl) ?_ _
      go_wp2
      go_roundw
      case rel => exact ⟨k + 1, v', out', by go_num, by omega, by have h := (ST4.out).next; exact h⟩
      case measure => simp [intOf]; omega
    | true =>
    refine wpAnyP_one (i := 22) rfl (by kernel_rfl) fun K hK => ?_
    go_simp
    refine HU2.out.mono ?_
    rintro e w4 ⟨r4, rfl, rfl, hb4⟩
    have HB4 := Lib.hid hb4
    clear hb4
    have ST4 : Hid (NgSt p B Y t w v out A c ns k w4 v' out') := ST3.out.below HB4.out
    have hS4 : RRow w4 bq s x ∧ p.row w4 t v' := ⟨RRow.below hS3.1 HB4.out, ST4.out.T.T⟩
    refine hK _ _ (fun _ => hS4) ?_
    clear hK
    refine wpAnyP_take (i := 23) (v := .bool false) rfl (by kernel_rfl) (by kernel_rfl) (by kernel_rfl) (by kernel_rfl) (by kernel_rfl) (fun _ _ _ h => h) (Or.inl ⟨by kernel_rfl, by (intro W hW; go_simp)⟩) hS4 ?_
    refine wpAnyP_one (i := 24) rfl (by kernel_rfl) fun K hK => ?_
    go_simp
    refine hK _ _ (fun h => absurd h (by rw [show needS _ _ _ = false from by kernel_rfl]; decide)) ?_
    clear hK
    refine wpAnyP_done (by kernel_rfl) ?_ _
    have HRI4 : Hid (RIn (fun b => b < B) w4 s x) := HRI3.out.below HB4.out (fun b hb => Nat.lt_trans hb ST3.out.T.size)
    clear hS2 hS3
    have ST4d : Hid (NgSt p B Y t w v out A c ns k w4.drew v' out') := ST4.out.below bl.drew
    have h5 : x.data.nums.length = 5 := (HSM.out x HXM.out).2 ht
    obtain ⟨n4, hn4⟩ : ∃ n4, x.data.nums[4]? = some n4 := ⟨_, List.getElem?_eq_getElem (by omega)⟩
    obtain ⟨bN, oN, hA3, hbN, hcN⟩ := int_at HRI4.out.d.n hn4
    have hc7 : ∀ W, RRow W bq s x → W.cell? ⟨bq, 7, none⟩ = some (.slice (some ⟨bN, oN, none⟩) 5 s.d.c3) := fun W hW => by
      have c0 := hW.cells
      obtain ⟨x0, x1, x2, x3, x4, x5, x6, x7, x8⟩ := c0
      rw [hA3, h5] at x7
      exact x7
    have HC7 := Lib.hid hc7
    have hS5 : RRow w4.drew bq s x ∧ p.row w4.drew t v' ∧ w4.drew.cell? ⟨bN, oN + 4, none⟩ = some (.int .i64 n4) := ⟨hS4.1, ST4d.out.T.T, below_cell bl.drew hcN⟩
    have HXC := Lib.hid hc
    have HXT := Lib.hid ht
    clear hS4 h5 hn4 hA3 hbN hcN hc7 ht' hc'
    obtain ⟨rk, hrk⟩ : ∃ r : Int, r = if p.m.aa = true then 4 else 2 := ⟨_, rfl⟩
    have HRK : Hid (∀ W, p.row W t v' → Calls Try.prog 122 #[.pointer (some ⟨t, 0, none⟩), .int .i64 4, .int .i64 2] W (Ret (.int .i64 rk) W)) := fun W hW => by rw [hrk]; exact rank_any p t v' W hW 4 2
    have HRI : Hid (i64S rk) := by show i64S _; rw [hrk]; unfold i64S; split <;> omega
    clear hrk
    obtain ⟨mn, hmn⟩ : ∃ mn : Int, (if n4 < x.ttl then n4 else x.ttl) = mn := ⟨_, rfl⟩
    have HMI := Lib.hid hmn
    clear hmn
    have HCL : Hid (∀ W, Calls Try.prog 126 #[.int .i64 mn, .bool true] W (Ret (.int .i64 (clampP mn true)) W)) := fun W => clamp_any _ _ W
    obtain ⟨g, hg⟩ : ∃ b, b = w4.drew.heap.size := ⟨_, rfl⟩
    obtain ⟨wz, hwz⟩ : ∃ wz, wz = w4.drew.alloc (.cells (faCells FS.nil Fa.zero) 48) := ⟨_, rfl⟩
    have hbz : Below w4.drew.heap.size w4.drew wz := by rw [hwz]; exact bl.alloc (Nat.le_refl _) _
    have hSz : RRow wz bq s x ∧ p.row wz t v' ∧ wz.cell? ⟨bN, oN + 4, none⟩ = some (.int .i64 n4) := ⟨RRow.below (w := w4.drew) hS5.1 hbz, (ST4d.out.below hbz).T.T, below_cell hbz hS5.2.2⟩
    have HGZ : Hid (wz.heap[g]? = some (.cells (faCells FS.nil Fa.zero) 48 (0, 0))) := by show _ = _; rw [hwz, hg]; exact heap_alloc_new _ _
    obtain ⟨w5, hw5⟩ : ∃ w5, w5 = wz.setRow g #[.slice A ns.length c, .int .i64 0, .int .i64 3, .int .i64 rk, .int .i64 0, .int .i64 (clampP mn true), .slice none 0 0, .slice s.A x.name.length s.c, .slice s.d.A0 x.data.bytes.length s.d.c0, .slice s.d.A1 x.data.host.length s.d.c1, .slice s.d.A2 x.data.mail.length s.d.c2, .slice s.d.A3 x.data.nums.length s.d.c3, .slice s.d.A4 x.data.texts.length s.d.c4] := ⟨_, rfl⟩
    have HR5 : Hid (FaRow w5 g ⟨A, c, none, 0, s.A, s.c, s.d⟩ ⟨ns, 0, 3, rk, 0, clampP mn true, [], x.name, x.data⟩) := by show FaRow _ _ _ _; rw [hw5]; exact setRow_heap wz g _ #[.slice A ns.length c, .int .i64 0, .int .i64 3, .int .i64 rk, .int .i64 0, .int .i64 (clampP mn true), .slice none 0 0, .slice s.A x.name.length s.c, .slice s.d.A0 x.data.bytes.length s.d.c0, .slice s.d.A1 x.data.host.length s.d.c1, .slice s.d.A2 x.data.mail.length s.d.c2, .slice s.d.A3 x.data.nums.length s.d.c3, .slice s.d.A4 x.data.texts.length s.d.c4] _ (0, 0) HGZ.out
    have HB5 : Hid (Below w4.drew.heap.size w4.drew w5) := by
      have hc5 : Chg (fun k => k = g) wz w5 := by rw [hw5]; exact (Chg.refl (fun k => k = g) wz).setRow (.inl rfl) _
      exact hbz.trans (hc5.below (fun b hb => by omega) hbz.size)
    have ST5 : Hid (NgSt p B Y t w v out A c ns k w5 v' out') := ST4d.out.below HB5.out
    have HG := Lib.hid hg
    have HWZ : Hid (wz = w4.drew.alloc (.cells (faCells FS.nil Fa.zero) 48)) := hwz
    have HW5 : Hid (w5 = wz.setRow g #[.slice A ns.length c, .int .i64 0, .int .i64 3, .int .i64 rk, .int .i64 0, .int .i64 (clampP mn true), .slice none 0 0, .slice s.A x.name.length s.c, .slice s.d.A0 x.data.bytes.length s.d.c0, .slice s.d.A1 x.data.host.length s.d.c1, .slice s.d.A2 x.data.mail.length s.d.c2, .slice s.d.A3 x.data.nums.length s.d.c3, .slice s.d.A4 x.data.texts.length s.d.c4]) := hw5
    clear hbz hwz hw5 hg
    go_wp2
    apply cutG
    · intro hfin
      refine wp_region_any (by kernel_rfl) ?_
      change wpAny _ _ _ _ _ _ _ (World.drew w4)
      refine wpAny_of_P (S := fun W => RRow W bq s x ∧ p.row W t v' ∧ W.cell? ⟨bN, oN + 4, none⟩ = some (.int .i64 n4)) (dem := fun _ => true) _ _ _ _ ?_
      refine wpAnyP_take (i := 0) (v := .slice A ns.length c) rfl (by kernel_rfl) (by kernel_rfl) (by kernel_rfl) (by kernel_rfl) (by kernel_rfl) (fun _ _ _ h => h) (Or.inl ⟨by kernel_rfl, by (intro W hW; go_simp)⟩) hS5 ?_
      refine wpAnyP_take (i := 1) (v := .pointer (some ⟨t, 0, none⟩)) rfl (by kernel_rfl) (by kernel_rfl) (by kernel_rfl) (by kernel_rfl) (by kernel_rfl) (fun _ _ _ h => h) (Or.inl ⟨by kernel_rfl, by (intro W hW; go_simp)⟩) hS5 ?_
      refine wpAnyP_take (i := 3) (v := .pointer (some ⟨bq, 3, none⟩)) rfl (by kernel_rfl) (by kernel_rfl) (by kernel_rfl) (by kernel_rfl) (by kernel_rfl) (fun _ _ _ h => h) (Or.inl ⟨by kernel_rfl, by (intro W hW; go_simp)⟩) hS5 ?_
      refine wpAnyP_take (i := 4) (v := .int .i64 x.ttl) rfl (by kernel_rfl) (by kernel_rfl) (by kernel_rfl) (by kernel_rfl) (by kernel_rfl) (fun _ _ _ h => h) (Or.inl ⟨by kernel_rfl, by (intro W hW; have c0 := hW.1.cells; obtain ⟨x0, x1, x2, x3, x4, x5, x6, x7, x8⟩ := c0; go_simp)⟩) hS5 ?_
      refine wpAnyP_take (i := 5) (v := .pointer (some ⟨bq, 4, none⟩)) rfl (by kernel_rfl) (by kernel_rfl) (by kernel_rfl) (by kernel_rfl) (by kernel_rfl) (fun _ _ _ h => h) (Or.inl ⟨by kernel_rfl, by (intro W hW; go_simp)⟩) hS5 ?_
      refine wpAnyP_take (i := 6) (v := .pointer (some ⟨bq, 7, none⟩)) rfl (by kernel_rfl) (by kernel_rfl) (by kernel_rfl) (by kernel_rfl) (by kernel_rfl) (fun _ _ _ h => h) (Or.inl ⟨by kernel_rfl, by (intro W hW; go_simp)⟩) hS5 ?_
      refine wpAnyP_take (i := 7) (v := .slice (some ⟨bN, oN, none⟩) 5 s.d.c3) rfl (by kernel_rfl) (by kernel_rfl) (by kernel_rfl) (by kernel_rfl) (by kernel_rfl) (fun _ _ _ h => h) (Or.inl ⟨by kernel_rfl, by (intro W hW; have c0 := HC7.out W hW.1; go_simp)⟩) hS5 ?_
      refine wpAnyP_take (i := 8) (v := .pointer (some ⟨bN, oN + 4, none⟩)) rfl (by kernel_rfl) (by kernel_rfl) (by kernel_rfl) (by kernel_rfl) (by kernel_rfl) (fun _ _ _ h => h) (Or.inl ⟨by kernel_rfl, by (intro W hW; go_simp)⟩) hS5 ?_
      refine wpAnyP_take (i := 9) (v := .int .i64 n4) rfl (by kernel_rfl) (by kernel_rfl) (by kernel_rfl) (by kernel_rfl) (by kernel_rfl) (fun _ _ _ h => h) (Or.inl ⟨by kernel_rfl, by (intro W hW; have c0 := hW.2.2; go_simp)⟩) hS5 ?_
      refine wpAnyP_take (i := 10) (v := .int .i64 mn) rfl (by kernel_rfl) (by kernel_rfl) (by kernel_rfl) (by kernel_rfl) (by kernel_rfl) (fun _ _ _ h => h) (Or.inl ⟨by kernel_rfl, by (intro W hW; have c0 := HMI.out; go_simp)⟩) hS5 ?_
      refine wpAnyP_take (i := 12) (v := .pointer (some ⟨bq, 0, none⟩)) rfl (by kernel_rfl) (by kernel_rfl) (by kernel_rfl) (by kernel_rfl) (by kernel_rfl) (fun _ _ _ h => h) (Or.inl ⟨by kernel_rfl, by (intro W hW; go_simp)⟩) hS5 ?_
      refine wpAnyP_take (i := 13) (v := .slice s.A x.name.length s.c) rfl (by kernel_rfl) (by kernel_rfl) (by kernel_rfl) (by kernel_rfl) (by kernel_rfl) (fun _ _ _ h => h) (Or.inl ⟨by kernel_rfl, by (intro W hW; have c0 := hW.1.cells; obtain ⟨x0, x1, x2, x3, x4, x5, x6, x7, x8⟩ := c0; go_simp)⟩) hS5 ?_
      refine wpAnyP_take (i := 14) (v := .pointer (some ⟨bq, 4, none⟩)) rfl (by kernel_rfl) (by kernel_rfl) (by kernel_rfl) (by kernel_rfl) (by kernel_rfl) (fun _ _ _ h => h) (Or.inl ⟨by kernel_rfl, by (intro W hW; go_simp)⟩) hS5 ?_
      refine wpAnyP_take (i := 15) (v := .agg #[.slice s.d.A0 x.data.bytes.length s.d.c0, .slice s.d.A1 x.data.host.length s.d.c1, .slice s.d.A2 x.data.mail.length s.d.c2, .slice s.d.A3 x.data.nums.length s.d.c3, .slice s.d.A4 x.data.texts.length s.d.c4]) rfl (by kernel_rfl) (by kernel_rfl) (by kernel_rfl) (by kernel_rfl) (by kernel_rfl) (fun _ _ _ h => h) (Or.inl ⟨by kernel_rfl, by (intro W hW; have c0 := hW.1.cells; obtain ⟨x0, x1, x2, x3, x4, x5, x6, x7, x8⟩ := c0; go_simp)⟩) hS5 ?_
      refine wpAnyP_two (i := 2) (j := 17) rfl rfl (by kernel_rfl) (fun K hK => ?_) (fun K hK => ?_)
      · go_simp
        refine (HRK.out _ hS5.2.1).mono ?_
        rintro e w6 ⟨rfl, rfl⟩
        refine hK _ _ (fun _ => hS5) ?_
        clear hK
        refine wpAnyP_two (i := 11) (j := 17) rfl rfl (by kernel_rfl) (fun K hK => ?_) (fun K hK => ?_)
        · go_simp
          refine (HCL.out _).mono ?_
          rintro e w6 ⟨rfl, rfl⟩
          refine hK _ _ (fun _ => hS5) ?_
          clear hK
          refine wpAnyP_take (i := 16) (v := .agg #[.slice A ns.length c, .int .i64 0, .int .i64 3, .int .i64 rk, .int .i64 0, .int .i64 (clampP mn true), .slice none 0 0, .slice s.A x.name.length s.c, .slice s.d.A0 x.data.bytes.length s.d.c0, .slice s.d.A1 x.data.host.length s.d.c1, .slice s.d.A2 x.data.mail.length s.d.c2, .slice s.d.A3 x.data.nums.length s.d.c3, .slice s.d.A4 x.data.texts.length s.d.c4]) rfl (by kernel_rfl) (by kernel_rfl) (by kernel_rfl) (by kernel_rfl) (by kernel_rfl) (fun _ _ _ h => h) (Or.inl ⟨by kernel_rfl, by (intro W hW; go_simp)⟩) hS5 ?_
          refine wpAnyP_one (i := 17) rfl (by kernel_rfl) fun K hK => ?_
          go_simp
          refine hK _ (w4.drew.alloc (.cells (faCells FS.nil Fa.zero) 48)) (fun _ => by rw [← HWZ.out]; exact hSz) ?_
          clear hK
          rw [← HWZ.out]
          refine wpAnyP_storeR (i := 18) rfl (by kernel_rfl) rowFa (by kernel_rfl) (.tmp 6) (.tmp 58) rfl g (by rw [HG.out]; rfl) (#[.slice A ns.length c, .int .i64 0, .int .i64 3, .int .i64 rk, .int .i64 0, .int .i64 (clampP mn true), .slice none 0 0, .slice s.A x.name.length s.c, .slice s.d.A0 x.data.bytes.length s.d.c0, .slice s.d.A1 x.data.host.length s.d.c1, .slice s.d.A2 x.data.mail.length s.d.c2, .slice s.d.A3 x.data.nums.length s.d.c3, .slice s.d.A4 x.data.texts.length s.d.c4]) rfl _ HGZ.out rfl rfl (fa_one ⟨A, c, none, 0, s.A, s.c, s.d⟩ ⟨ns, 0, 3, rk, 0, clampP mn true, [], x.name, x.data⟩) (fun h => absurd h (by rw [show needS _ _ _ = false from by kernel_rfl]; decide)) ?_
          rw [← HW5.out]
          exact wpAnyP_done (by kernel_rfl) hfin _
        · go_simp
          refine hK _ (w4.drew.alloc (.cells (faCells FS.nil Fa.zero) 48)) (fun _ => by rw [← HWZ.out]; exact hSz) ?_
          clear hK
          rw [← HWZ.out]
          refine wpAnyP_one (i := 11) rfl (by kernel_rfl) fun K hK => ?_
          go_simp
          refine (HCL.out _).mono ?_
          rintro e w6 ⟨rfl, rfl⟩
          refine hK _ _ (fun _ => hSz) ?_
          clear hK
          refine wpAnyP_take (i := 16) (v := .agg #[.slice A ns.length c, .int .i64 0, .int .i64 3, .int .i64 rk, .int .i64 0, .int .i64 (clampP mn true), .slice none 0 0, .slice s.A x.name.length s.c, .slice s.d.A0 x.data.bytes.length s.d.c0, .slice s.d.A1 x.data.host.length s.d.c1, .slice s.d.A2 x.data.mail.length s.d.c2, .slice s.d.A3 x.data.nums.length s.d.c3, .slice s.d.A4 x.data.texts.length s.d.c4]) rfl (by kernel_rfl) (by kernel_rfl) (by kernel_rfl) (by kernel_rfl) (by kernel_rfl) (fun _ _ _ h => h) (Or.inl ⟨by kernel_rfl, by (intro W hW; go_simp)⟩) hSz ?_
          refine wpAnyP_storeR (i := 18) rfl (by kernel_rfl) rowFa (by kernel_rfl) (.tmp 6) (.tmp 58) rfl g (by rw [HG.out]; rfl) (#[.slice A ns.length c, .int .i64 0, .int .i64 3, .int .i64 rk, .int .i64 0, .int .i64 (clampP mn true), .slice none 0 0, .slice s.A x.name.length s.c, .slice s.d.A0 x.data.bytes.length s.d.c0, .slice s.d.A1 x.data.host.length s.d.c1, .slice s.d.A2 x.data.mail.length s.d.c2, .slice s.d.A3 x.data.nums.length s.d.c3, .slice s.d.A4 x.data.texts.length s.d.c4]) rfl _ HGZ.out rfl rfl (fa_one ⟨A, c, none, 0, s.A, s.c, s.d⟩ ⟨ns, 0, 3, rk, 0, clampP mn true, [], x.name, x.data⟩) (fun h => absurd h (by rw [show needS _ _ _ = false from by kernel_rfl]; decide)) ?_
          rw [← HW5.out]
          exact wpAnyP_done (by kernel_rfl) hfin _
      · go_simp
        refine hK _ (w4.drew.alloc (.cells (faCells FS.nil Fa.zero) 48)) (fun _ => by rw [← HWZ.out]; exact hSz) ?_
        clear hK
        rw [← HWZ.out]
        refine wpAnyP_one (i := 2) rfl (by kernel_rfl) fun K hK => ?_
        go_simp
        refine (HRK.out _ hSz.2.1).mono ?_
        rintro e w6 ⟨rfl, rfl⟩
        refine hK _ _ (fun _ => hSz) ?_
        clear hK
        refine wpAnyP_one (i := 11) rfl (by kernel_rfl) fun K hK => ?_
        go_simp
        refine (HCL.out _).mono ?_
        rintro e w6 ⟨rfl, rfl⟩
        refine hK _ _ (fun _ => hSz) ?_
        clear hK
        refine wpAnyP_take (i := 16) (v := .agg #[.slice A ns.length c, .int .i64 0, .int .i64 3, .int .i64 rk, .int .i64 0, .int .i64 (clampP mn true), .slice none 0 0, .slice s.A x.name.length s.c, .slice s.d.A0 x.data.bytes.length s.d.c0, .slice s.d.A1 x.data.host.length s.d.c1, .slice s.d.A2 x.data.mail.length s.d.c2, .slice s.d.A3 x.data.nums.length s.d.c3, .slice s.d.A4 x.data.texts.length s.d.c4]) rfl (by kernel_rfl) (by kernel_rfl) (by kernel_rfl) (by kernel_rfl) (by kernel_rfl) (fun _ _ _ h => h) (Or.inl ⟨by kernel_rfl, by (intro W hW; go_simp)⟩) hSz ?_
        refine wpAnyP_storeR (i := 18) rfl (by kernel_rfl) rowFa (by kernel_rfl) (.tmp 6) (.tmp 58) rfl g (by rw [HG.out]; rfl) (#[.slice A ns.length c, .int .i64 0, .int .i64 3, .int .i64 rk, .int .i64 0, .int .i64 (clampP mn true), .slice none 0 0, .slice s.A x.name.length s.c, .slice s.d.A0 x.data.bytes.length s.d.c0, .slice s.d.A1 x.data.host.length s.d.c1, .slice s.d.A2 x.data.mail.length s.d.c2, .slice s.d.A3 x.data.nums.length s.d.c3, .slice s.d.A4 x.data.texts.length s.d.c4]) rfl _ HGZ.out rfl rfl (fa_one ⟨A, c, none, 0, s.A, s.c, s.d⟩ ⟨ns, 0, 3, rk, 0, clampP mn true, [], x.name, x.data⟩) (fun h => absurd h (by rw [show needS _ _ _ = false from by kernel_rfl]; decide)) ?_
        rw [← HW5.out]
        exact wpAnyP_done (by kernel_rfl) hfin _
    clear hS5 hSz
    rw [show w4.heap.size = g from HG.out.symm]
    have c10 : w5.cell? ⟨t, 10, none⟩ = some (.int .i64 p.m.rcode) := (TRow.cellsM ST5.out.T.T).2.2.2.2.2
    have HI4d : Hid (RIn (fun b => b < B) w4.drew s x) := HRI4.out.below bl.drew (fun b hb => Nat.lt_trans hb ST4.out.T.size)
    have HADD : Hid (∀ (ty kd : Int) (W : World), i64S ty → i64S kd → kd ≠ 1 → Below w4.drew.heap.size w4.drew W → TSt p B Y W t v' out' → Calls Try.prog 128 #[.pointer (some ⟨t, 0, none⟩), .agg (faCells ⟨A, c, none, 0, s.A, s.c, s.d⟩ ⟨ns, ty, kd, rk, 0, clampP mn true, [], x.name, x.data⟩)] W (fun e w' => ∃ v6 out6, e = .returned (.tuple #[]) ∧ TSt p B Y w' t v6 out6 ∧ TX t W v' w' v6 ∧ out6.length ≤ out'.length + 1 ∧ ∀ f ∈ out6, f ∈ out' ∨ NegF p f)) := by
      intro ty kd W hty hkd hk1 hW hT
      have hnr : RdE encS W A ns.length ns := (ST4d.out.nm.below hW).rd
      have hiw : RIn (fun b => b < B) W s x := HI4d.out.below hW (fun b hb => Nat.lt_trans hb ST4d.out.T.size)
      have hlW : ∀ b, b < B → b < W.heap.size := fun b hb => Nat.lt_trans hb hT.size
      have l : (0 : Nat) ≤ 0 ∧ 0 ≤ maxLen := ⟨Nat.le_refl _, Nat.zero_le _⟩
      have i0 : i64S 0 := ⟨by omega, by omega⟩
      have hfi : FaIn (fun b => b < W.heap.size) W ⟨A, c, none, 0, s.A, s.c, s.d⟩ ⟨ns, ty, kd, rk, 0, clampP mn true, [], x.name, x.data⟩ := ⟨hnr, Els.nil _ _ _ _ _, hiw.n.mono hlW hlW, hiw.d.mono hlW, ST5.out.nm.c, l, hiw.cn, hty, hkd, HRI.out, i0, clampP_i64⟩
      obtain ⟨h0, h1, h2, h3, h4, h6⟩ := (HSM.out x HXM.out).1
      have hnl := ST5.out.nm.l
      have hlt : LtF ⟨ns, ty, kd, rk, 0, clampP mn true, [], x.name, x.data⟩ := ⟨by show ns.length ≤ _; omega, by show x.name.length ≤ _; omega, Nat.zero_le _, fun d hd => (List.not_mem_nil hd).elim, ⟨by show x.data.host.length ≤ _; omega, by show x.data.mail.length ≤ _; omega, by show x.data.nums.length ≤ _; omega, by show x.data.texts.length ≤ _; omega, by show x.data.bytes.length ≤ _; omega⟩⟩
      have hlg : LtG ⟨ns, ty, kd, rk, 0, clampP mn true, [], x.name, x.data⟩ := ⟨by show ns.length ≤ _; omega, by show x.name.length ≤ _; omega, Nat.zero_le _, fun d hd => (List.not_mem_nil hd).elim, ⟨by show x.data.bytes.length ≤ _; omega, by show x.data.host.length ≤ _; omega, by show x.data.mail.length ≤ _; omega, by show x.data.nums.length ≤ _; omega, by show x.data.texts.length ≤ _; omega⟩⟩
      have ha := add_any p B t Y v' out' W hT ⟨A, c, none, 0, s.A, s.c, s.d⟩ ⟨ns, ty, kd, rk, 0, clampP mn true, [], x.name, x.data⟩ hfi (fun b hb => hb) hlt hlg HZ.out (by have h1 := ST5.out.ol; have h2 := HOL.out; omega)
      refine ha.mono ?_
      rintro e w' ⟨r6, v6, out6, rfl, hT6, hX6, rfl, hO⟩
      refine ⟨v6, out6, rfl, hT6, hX6, ?_, ?_⟩
      · rcases hO with hO | hO
        · rw [hO]; omega
        · rw [hO.1, List.length_append, List.length_singleton]; omega
      · intro f hf
        rcases hO with hO | ⟨hO, hfine, hun⟩
        · rw [hO] at hf; exact .inl hf
        · rw [hO] at hf
          rcases List.mem_append.1 hf with hf | hf
          · exact .inl hf
          · rw [List.mem_singleton.1 hf]
            exact .inr ⟨hfine, rfl, hun, hk1, HU1E.out.symm, ⟨x, HXM.out, HXC.out, HXT.out, rfl, rfl⟩⟩
    have HI3 : Hid (i64S 3 ∧ i64S 2 ∧ i64S 0) := ⟨⟨by omega, by omega⟩, ⟨by omega, by omega⟩, ⟨by omega, by omega⟩⟩
    have HTI : Hid (i64S p.q.type) := ST5.out.T.G.q.it
    have HLL : Hid (k + 1 ≤ p.m.au.length) := by show _ ≤ _; rw [← HL.out]; omega
    by_cases hrc : p.m.rcode = 3
    · rw [hrc] at c10
      go_upto_region 8 with (fail)
      clear c10
      go_wp2_with (first
        | ((with_reducible show wpList _ _ _ (⟨some 83, _, _, _, _, _⟩ :: _) _ _); refine wpL_loadR rowFa rfl (.tmp 6) rfl g rfl (faCells ⟨A, c, none, 0, s.A, s.c, s.d⟩ ⟨ns, 0, 3, rk, 0, clampP mn true, [], x.name, x.data⟩) HR5.out rfl ?_)
        | (go_at_call 128; refine (HADD.out 0 3 w5 HI3.out.2.2 HI3.out.1 (by decide) HB5.out ST5.out.T).mono ?_; rintro e w6 ⟨v6, out6, rfl, hT6, hX6, hol6, hg6⟩; have ST6 := Lib.hid (ST5.out.found hT6 hX6 hol6 hg6); clear hT6 hX6 hol6 hg6)
        | fail)
      go_end0
      exact ⟨_, v6, out6, rfl, ST6.out.T, ST6.out.X, rfl, by have h1 := ST6.out.ol; have h2 := HLL.out; omega, ST6.out.good⟩
    have hrc' : (p.m.rcode == 3) = false := by simp [hrc]
    have HRF := Lib.hid (refers_any p B t Y v' out' w5 ST5.out.T (by rw [← HL.out]; omega))
    obtain ⟨rb, hrb⟩ : ∃ b, b = p.m.au.any isNS := ⟨_, rfl⟩
    rw [← hrb] at HRF
    clear hrb
    cases rb with
    | true =>
      go_wp2_with (go_at_call 127; refine HRF.out.mono ?_; rintro e w6 ⟨r6, rfl, rfl, hb6⟩; have HB6 := Lib.hid hb6; clear hb6)
      go_end0
      exact ⟨_, v', out', rfl, (ST5.out.below HB6.out).T, (ST5.out.below HB6.out).X, rfl, by have h1 := ST5.out.ol; have h2 := HLL.out; omega, ST5.out.good⟩
    | false =>
    have c1 : w5.cell? ⟨t, 1, none⟩ = some (.int .i64 p.q.type) := (TRow.cellsM ST5.out.T.T).2.1
    by_cases hqt : p.q.type = 255
    · rw [hqt] at c1
      go_wp2_with (go_at_call 127; refine HRF.out.mono ?_; rintro e w6 ⟨r6, rfl, rfl, hb6⟩; have HB6 := Lib.hid hb6; have c1' := below_cell hb6 c1; clear hb6)
      go_end0
      exact ⟨_, v', out', rfl, (ST5.out.below HB6.out).T, (ST5.out.below HB6.out).X, rfl, by have h1 := ST5.out.ol; have h2 := HLL.out; omega, ST5.out.good⟩
    have hqt' : (p.q.type == 255) = false := by simp [hqt]
    go_upto_region 7 with (go_at_call 127; refine HRF.out.mono ?_; rintro e w6 ⟨r6, rfl, rfl, hb6⟩; have HB6 := Lib.hid hb6; have c1' := below_cell hb6 c1; clear hb6)
    clear c1 c10 hqt' hrc'
    have ST6 : Hid (NgSt p B Y t w v out A c ns k w6.drew v' out') := (ST5.out.below HB6.out).below bl.drew
    have HR6 : Hid (FaRow w6.drew g ⟨A, c, none, 0, s.A, s.c, s.d⟩ ⟨ns, 0, 3, rk, 0, clampP mn true, [], x.name, x.data⟩) := (HR5.out.below HB6.out).below bl.drew
    obtain ⟨w7, hw7⟩ : ∃ w7, w7 = w6.drew.setCell ⟨g, 2, none⟩ (.int .i64 2) := ⟨_, rfl⟩
    obtain ⟨w8, hw8⟩ : ∃ w8, w8 = w7.setCell ⟨g, 1, none⟩ (.int .i64 p.q.type) := ⟨_, rfl⟩
    have hc7 : Chg (fun k => k = g) w6.drew w7 := by rw [hw7]; exact chg_g1 _ _ _ _
    have hc8 : Chg (fun k => k = g) w7 w8 := by rw [hw8]; exact chg_g1 _ _ _ _
    have HR7 : Hid (FaRow w7 g ⟨A, c, none, 0, s.A, s.c, s.d⟩ (⟨ns, 0, 2, rk, 0, clampP mn true, [], x.name, x.data⟩)) := by show FaRow _ _ _ _; rw [hw7]; exact FaRow.put HR6.out 2 _ _ _ rfl
    have HR8 : Hid (FaRow w8 g ⟨A, c, none, 0, s.A, s.c, s.d⟩ (⟨ns, p.q.type, 2, rk, 0, clampP mn true, [], x.name, x.data⟩)) := by show FaRow _ _ _ _; rw [hw8]; exact FaRow.put HR7.out 1 _ _ _ rfl
    have hgw : w4.drew.heap.size ≤ g := Nat.le_of_eq HG.out.symm
    have HB8 : Hid (Below w4.drew.heap.size w4.drew w8) := by
      have h6 : Below w4.drew.heap.size w4.drew w6.drew := (nx HB5.out HB6.out).drew
      have h7 := h6.trans (hc7.below (fun b hb => by omega) h6.size)
      exact h7.trans (hc8.below (fun b hb => by omega) h7.size)
    have ST8 : Hid (NgSt p B Y t w v out A c ns k w8 v' out') := ST4d.out.below HB8.out
    have HT7 : Hid (p.row w7 t v') := hc7.heap ST6.out.T.T (by have h1 := ST4d.out.T.lt; omega)
    have HT8 : Hid (p.row w8 t v') := ST8.out.T.T
    have HADD8 : Hid (Calls Try.prog 128 #[.pointer (some ⟨t, 0, none⟩), .agg (faCells ⟨A, c, none, 0, s.A, s.c, s.d⟩ (⟨ns, p.q.type, 2, rk, 0, clampP mn true, [], x.name, x.data⟩))] w8 (fun e w' => ∃ v6 out6, e = .returned (.tuple #[]) ∧ TSt p B Y w' t v6 out6 ∧ TX t w8 v' w' v6 ∧ out6.length ≤ out'.length + 1 ∧ ∀ f ∈ out6, f ∈ out' ∨ NegF p f)) := HADD.out p.q.type 2 w8 HTI.out HI3.out.2.1 (by decide) HB8.out ST8.out.T
    have x2 : w6.drew.cell? ⟨g, 2, none⟩ = some (.int .i64 3) := (HR6.out.cell 2).trans rfl
    have x1 : w7.cell? ⟨g, 1, none⟩ = some (.int .i64 0) := (HR7.out.cell 1).trans rfl
    have f2 : w6.drew.frozen? ⟨g, 2, none⟩ = false := HR6.out.free 2
    have f1 : w7.frozen? ⟨g, 1, none⟩ = false := HR7.out.free 1
    have hS6 : p.row w6.drew t v' := ST6.out.T.T
    have HW7 := Lib.hid hw7
    have HW8 := Lib.hid hw8
    clear hw7 hw8 hc7 hc8 hgw
    refine wp_region_any (by kernel_rfl) ?_
    change wpAny _ _ _ _ _ _ _ (World.drew w6)
    refine wpAny_of_P (S := fun W => p.row W t v') (dem := fun j => j != 8) _ _ _ _ ?_
    refine wpAnyP_take (i := 0) (v := .pointer (some ⟨t, 0, none⟩)) rfl (by kernel_rfl) (by kernel_rfl) (by kernel_rfl) (by kernel_rfl) (by kernel_rfl) (fun _ _ _ h => h) (Or.inl ⟨by kernel_rfl, by (intro W hW; go_simp)⟩) hS6 ?_
    refine wpAnyP_take (i := 1) (v := .pointer (some ⟨t, 0, none⟩)) rfl (by kernel_rfl) (by kernel_rfl) (by kernel_rfl) (by kernel_rfl) (by kernel_rfl) (fun _ _ _ h => h) (Or.inl ⟨by kernel_rfl, by (intro W hW; go_simp)⟩) hS6 ?_
    refine wpAnyP_take (i := 2) (v := .pointer (some ⟨t, 0, none⟩)) rfl (by kernel_rfl) (by kernel_rfl) (by kernel_rfl) (by kernel_rfl) (by kernel_rfl) (fun _ _ _ h => h) (Or.inl ⟨by kernel_rfl, by (intro W hW; go_simp)⟩) hS6 ?_
    refine wpAnyP_take (i := 3) (v := .pointer (some ⟨t, 1, none⟩)) rfl (by kernel_rfl) (by kernel_rfl) (by kernel_rfl) (by kernel_rfl) (by kernel_rfl) (fun _ _ _ h => h) (Or.inl ⟨by kernel_rfl, by (intro W hW; go_simp)⟩) hS6 ?_
    refine wpAnyP_take (i := 4) (v := .int .i64 p.q.type) rfl (by kernel_rfl) (by kernel_rfl) (by kernel_rfl) (by kernel_rfl) (by kernel_rfl) (fun _ _ _ h => h) (Or.inl ⟨by kernel_rfl, by (intro W hW; have c0 := (TRow.cellsM hW).2.1; go_simp)⟩) hS6 ?_
    refine wpAnyP_take (i := 5) (v := .pointer (some ⟨g, 2, none⟩)) rfl (by kernel_rfl) (by kernel_rfl) (by kernel_rfl) (by kernel_rfl) (by kernel_rfl) (fun _ _ _ h => h) (Or.inl ⟨by kernel_rfl, by (intro W hW; go_simp)⟩) hS6 ?_
    refine wpAnyP_one (i := 6) rfl (by kernel_rfl) fun K hK => ?_
    go_simp
    refine hK _ (w6.drew.setCell ⟨g, 2, none⟩ (.int .i64 2)) (fun _ => by rw [← HW7.out]; exact HT7.out) ?_
    clear hK
    rw [← HW7.out]
    refine wpAnyP_one (i := 7) rfl (by kernel_rfl) fun K hK => ?_
    go_simp
    refine hK _ _ (fun _ => HT7.out) ?_
    clear hK
    refine wpAnyP_one (i := 8) rfl (by kernel_rfl) fun K hK => ?_
    go_simp
    refine hK _ (w7.setCell ⟨g, 1, none⟩ (.int .i64 p.q.type)) (fun h => absurd h (by rw [show needS _ _ _ = false from by kernel_rfl]; decide)) ?_
    clear hK
    rw [← HW8.out]
    refine wpAnyP_done (by kernel_rfl) ?_ _
    clear x1 x2 f1 f2 hS6 c1'
    go_wp2_with (first
      | ((with_reducible show wpList _ _ _ (⟨some 83, _, _, _, _, _⟩ :: _) _ _); refine wpL_loadR rowFa rfl (.tmp 6) rfl g rfl (faCells ⟨A, c, none, 0, s.A, s.c, s.d⟩ (⟨ns, p.q.type, 2, rk, 0, clampP mn true, [], x.name, x.data⟩)) HR8.out rfl ?_)
      | (go_at_call 128; refine HADD8.out.mono ?_; rintro e w9 ⟨v9, out9, rfl, hT9, hX9, hol9, hg9⟩; have ST9 := Lib.hid (ST8.out.found hT9 hX9 hol9 hg9); clear hT9 hX9 hol9 hg9)
      | fail)
    go_end0
    exact ⟨_, v9, out9, rfl, ST9.out.T, ST9.out.X, rfl, by have h1 := ST9.out.ol; have h2 := HLL.out; omega, ST9.out.good⟩
end Go.Proofs.Ytimkdpkhdbiniaa

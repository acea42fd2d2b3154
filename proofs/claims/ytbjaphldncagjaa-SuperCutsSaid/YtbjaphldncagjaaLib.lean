/- Words for memory that all proofs of this set share: how a slice reads as a list; what a call leaves as it was. No program in it. -/
import Derived.WalkKit
import Derived.WalkSpells
import Derived.WalkLawsBesides
import Derived.Lib.Hide
import Derived.Deep.QuietTactic
import Derived.BigQuiet
import Derived.Deep.Draws
import Derived.Laws.CopyOwn
import Derived.Maps.AppendAt
import Derived.Deep.AppendLies
import Derived.Laws.BytesArg
namespace Go.Proofs.Ytbjaphldncagjaa
open Go.RowKit

/-- The call returns v; the world is as it was. -/
def Ret (v : Value) (w : World) (e : Ending) (w' : World) : Prop := e = .returned v ∧ w = w'
/-- The call returns v; some answers of the tape were drawn. -/
def RetN (v : Value) (w : World) (e : Ending) (w' : World) : Prop := e = .returned v ∧ ∃ k, w' = w.drewN k
/-- The call returns a value of which P holds; what was there is as it was. -/
def RetP (P : Value → World → Prop) (w : World) (e : Ending) (w' : World) : Prop := ∃ v, e = .returned v ∧ P v w' ∧ Below w.heap.size w w'

theorem nx {w w1 w2 : World} (h : Below w.heap.size w w1) (k : Below w1.heap.size w1 w2) : Below w.heap.size w w2 := h.trans (k.mono h.size)
theorem dN {B : Nat} {w w1 : World} (h : Below B w w1) (k : Nat) : Below B w (w1.drewN k) := ⟨h.os, h.tape, h.output, h.size, h.block⟩
theorem bl {w : World} : Below w.heap.size w w := Below.refl _ _

theorem ret_bool {a b : Bool} (h : a = b) : Ending.returned (.bool a) = .returned (.bool b) := by rw [h]
theorem ret_int {k : IntKind} {a b : Int} (h : a = b) : Ending.returned (.int k a) = .returned (.int k b) := by rw [h]

/-- The cells xs lie where a slice of n elements of size cells leads. -/
def Rd (w : World) (size : Nat) (A : Option Addr) (n : Nat) (xs : List Value) : Prop :=
  xs.length = n * size ∧ (0 < xs.length → ∃ b off, A = some ⟨b, off, none⟩ ∧ ∀ j u, xs[j]? = some u → w.cell? ⟨b, off + j, none⟩ = some u)

section
variable {w w' : World} {size n : Nat} {A : Option Addr} {xs : List Value}
theorem Rd.nil (w : World) (size : Nat) (A : Option Addr) : Rd w size A 0 [] := ⟨by simp, fun h => absurd h (by simp)⟩
theorem Rd.drewN (h : Rd w size A n xs) (k : Nat) : Rd (w.drewN k) size A n xs := h
theorem Rd.keep (h : Rd w size A n xs) (hk : ∀ p : Addr, ∀ u, w.cell? p = some u → w'.cell? p = some u) : Rd w' size A n xs :=
  ⟨h.1, fun hn => by
    obtain ⟨b, off, e, hc⟩ := h.2 hn
    exact ⟨b, off, e, fun j u hu => hk _ _ (hc j u hu)⟩⟩
theorem below_cell {w w' : World} (hb : Below w.heap.size w w') {p : Addr} {u : Value} (h : w.cell? p = some u) : w'.cell? p = some u :=
  (hb.cell (World.block_lt_of_cell? w p h)).trans h
theorem Rd.below (h : Rd w size A n xs) (hb : Below w.heap.size w w') : Rd w' size A n xs := h.keep fun _ _ hu => below_cell hb hu
theorem Rd.alloc (h : Rd w size A n xs) (o : Obj) : Rd (w.alloc o) size A n xs := h.below ((Below.refl _ _).alloc (Nat.le_refl _) o)
theorem Rd.grown (h : Rd w size A n xs) {row : Option Nat} (hg : w.grownBy w' row) (hr : ∀ b off, A = some ⟨b, off, none⟩ → some b ≠ row) : Rd w' size A n xs :=
  ⟨h.1, fun hn => by
    obtain ⟨b, off, e, hc⟩ := h.2 hn
    exact ⟨b, off, e, fun j u hu => hg.cell (hc j u hu) (hr b off e)⟩⟩
theorem Rd.cut (h : Rd w size A n xs) (k m cap : Nat) (hk : k ≤ m) (hm : m ≤ n) (hc : n ≤ cap) :
    Rd w size (if cap = k then A else A.map (·.add (k * size))) (m - k) ((xs.take (m * size)).drop (k * size)) := by
  have hkm : k * size ≤ m * size := Nat.mul_le_mul_right _ hk
  have hmn : m * size ≤ n * size := Nat.mul_le_mul_right _ hm
  have hl : ((xs.take (m * size)).drop (k * size)).length = (m - k) * size := by
    rw [List.length_drop, List.length_take, h.1, Nat.sub_mul]; omega
  refine ⟨hl, fun hn => ?_⟩
  rw [hl] at hn
  have h0 : 0 < m - k := Nat.pos_of_mul_pos_right hn
  have hsz : 0 < size := Nat.pos_of_mul_pos_left hn
  have hn0 : 0 < n * size := Nat.mul_pos (by omega) hsz
  obtain ⟨b, off, rfl, hcell⟩ := h.2 (by rw [h.1]; exact hn0)
  rw [if_neg (by omega)]
  refine ⟨b, off + k * size, ?_, fun j u hu => ?_⟩
  · simp only [Option.map_some, Addr.add]
    split
    · rename_i h; simp [h]
    · rfl
  · rw [List.getElem?_drop, List.getElem?_take] at hu
    split at hu
    · have := hcell _ u hu
      rwa [← Nat.add_assoc] at this
    · cases hu
theorem Rd.of_own {base : Nat} {e : TypeId} {c : Nat} (h : w.ownsRow base e size (.slice A n c) n xs) : Rd w size A n xs := by
  refine ⟨h.1, fun hn => ?_⟩
  rcases h.2 with ⟨_, h0⟩ | ⟨g, cap, cur, hv, _, hh, _, _, _, ht⟩
  · rw [h.1, h0] at hn; simp at hn
  · have hA : A = some ⟨g, 0, none⟩ := by injection hv
    subst hA
    refine ⟨g, 0, rfl, fun j u hu => ?_⟩
    have hc := h.cells (g := g) rfl j u hu
    have hadd : (⟨g, 0, none⟩ : Addr).add j = ⟨g, 0 + j, none⟩ := by unfold Addr.add; split <;> simp_all
    rwa [hadd] at hc
end

theorem add_flat (b off j : Nat) : (⟨b, off, none⟩ : Addr).add j = ⟨b, off + j, none⟩ := by
  unfold Addr.add; split <;> simp_all

section
variable {P : Program} (w : World)
theorem run_append_of_nil (base : Nat) (t ty e : TypeId) (i : TypeInfo) (size : Nat) (ht : P.underlying t = some (.slice e)) (hi : P.info? e = some i)
    (v : Value) (n : Nat) (xs : List Value) (hown : w.ownsRow base e size v n xs) (A : Option Addr) (c : Nat) : (Builtin.append_ #[t, t] ty #[v, .slice A 0 c]).run P w = .ok v w := by
  have hf : Sem.run P (Builtin.firstCells i.size 0 (.slice A 0 c)) w = .ok #[] w := by
    rcases A with _ | ad
    · exact run_firstCells_none w _ _ _ _
    · exact run_firstCells_some w i.size 0 ad 0 c [] (by simp) (by simp)
  rcases hown.2 with ⟨rfl, rfl⟩ | ⟨g, cap, cur, rfl, _, _, hnc, _⟩
  · simp [Builtin.append_, run_underlying ht, sizeOf, typeInfo, hi, Builtin.lenOf, hf]
  · simp [Builtin.append_, run_underlying ht, sizeOf, typeInfo, hi, Builtin.lenOf, hf, hnc, storeCells]

theorem run_append_any (base : Nat) (t ty e : TypeId) (i : TypeInfo) (z : Value) (size bytes : Nat) (ht : P.underlying t = some (.slice e)) (hi : P.info? e = some i) (hz : i.zero = some z)
    (hsize : i.size = size) (hby : i.bytes = bytes) (hzs : z.cells.size = size) (hsz : 0 < size)
    (v : Value) (n : Nat) (xs : List Value) (hown : w.ownsRow base e size v n xs)
    (A : Option Addr) (m c : Nat) (news : List Value) (hr : Rd w size A m news) (h1 : ∀ u ∈ news, u.oneCell' = true)
    (h63 : n + m ≤ maxLen) (hbytes : (n + m) * bytes ≤ 140737488355328) (hbase : base ≤ w.heap.size) :
    ∃ v' w', (Builtin.append_ #[t, t] ty #[v, .slice A m c]).run P w = .ok v' w' ∧ w'.ownsRow base e size v' (n + m) (xs ++ news) ∧ w.grownBy w' v.ownBlock ∧
      (v'.ownBlock = v.ownBlock ∨ v'.ownBlock = some w.heap.size) := by
  by_cases h0 : m = 0
  · subst h0
    have hn : news = [] := List.eq_nil_of_length_eq_zero (by simpa using hr.1)
    subst hn
    exact ⟨v, w, run_append_of_nil w base t ty e i size ht hi v n xs hown A c, by simpa using hown, World.grownBy.refl w _, .inl rfl⟩
  · have hl : 0 < news.length := by rw [hr.1]; exact Nat.mul_pos (by omega) hsz
    obtain ⟨b, off, rfl, hc⟩ := hr.2 hl
    obtain ⟨v', w', hrun, h2, h3, _, h5⟩ := run_append_own_at (P := P) w base t ty e i z size bytes ht hi hz hsize hby hzs hsz v n xs hown ⟨b, off, none⟩ m c news hr.1 (fun j u hu => by rw [add_flat]; exact hc j u hu) h1 h63 hbytes hbase
    exact ⟨v', w', hrun, h2, h3, h5⟩
end

section
variable {P : Program} {w : World}
theorem wp_append_any {o : Oper} {a : Act} {K : Act → World → Prop} {Q : Exit → Act → World → Prop} (s x : Operand) (t : TypeId)
    (ho : o.op = .call { callee := .builtin .append, args := #[s, x], argTypes := #[t, t] })
    (base : Nat) (e : TypeId) (i : TypeInfo) (z : Value) (size bytes : Nat) (ht : P.underlying t = some (.slice e)) (hi : P.info? e = some i) (hz : i.zero = some z)
    (hsize : i.size = size) (hby : i.bytes = bytes) (hzs : z.cells.size = size) (hsz : 0 < size)
    (v : Value) (n : Nat) (xs : List Value) (hs : a.eval s = v) (hown : w.ownsRow base e size v n xs)
    (A : Option Addr) (m c : Nat) (news : List Value) (hx : a.eval x = .slice A m c) (hr : Rd w size A m news) (h1 : ∀ u ∈ news, u.oneCell' = true)
    (h63 : n + m ≤ maxLen) (hbytes : (n + m) * bytes ≤ 140737488355328) (hbase : base ≤ w.heap.size)
    (h : ∀ v' w', w'.ownsRow base e size v' (n + m) (xs ++ news) → w.grownBy w' v.ownBlock → (v'.ownBlock = v.ownBlock ∨ v'.ownBlock = some w.heap.size) → K (a.put o.dst v') w') : o.wp P a w K Q := by
  obtain ⟨v', w', hrun, h2, h3, h4⟩ := run_append_any (P := P) w base t o.type e i z size bytes ht hi hz hsize hby hzs hsz v n xs hown A m c news hr h1 h63 hbytes hbase
  unfold Oper.wp execOp
  simp only [ho, resolve, invoke, builtin, Sem.run_bind, Sem.run_pure, Result.andThen_ok, List.map_toArray, List.map_cons, List.map_nil, hs, hx, hrun]
  exact h v' w' h2 h3 h4
end

theorem wpList_want {P : Program} {w : World} {ops : Array Oper} {rest : List Oper} {o : Oper} {a : Act} {Q : Exit → Act → World → Prop} (hw : Region.wanted o (yielded ops a.tmps) = true)
    (h : ∀ K : Act → World → Prop, (∀ a w, wpList P ops Q rest a w → K a w) → o.wp P a w K Q) : wpList P ops Q (o :: rest) a w :=
  wpList_step fun K hK => by rw [if_pos hw]; exact h K hK

theorem wp_copy_nothing {P : Program} {w : World} {o : Oper} {a : Act} {K : Act → World → Prop} {Q : Exit → Act → World → Prop} (d s : Operand) (dT sT : TypeId)
    (ho : o.op = .call { callee := .builtin .copy, args := #[d, s], argTypes := #[dT, sT] }) (elem : TypeId) (hu : P.underlying dT = some (.slice elem)) (hsz : (P.info? elem).map (·.size) = some 1)
    (dp sp : Option Addr) (dLen dCap sLen sCap : Nat) (hd : a.eval d = .slice dp dLen dCap) (hs : a.eval s = .slice sp sLen sCap) (hn : Nat.min sLen dLen = 0)
    (h : K (a.put o.dst (goInt 0)) w) : o.wp P a w K Q := by
  have hrun := run_copy_none (P := P) w dT sT o.type elem dp sp dLen dCap sLen sCap hu hsz hn
  unfold Oper.wp
  simp [execOp, ho, resolve, invoke, builtin, hd, hs, hrun, Result.andThen]
  exact h

theorem wp_copy_own {P : Program} {w : World} {o : Oper} {a : Act} {K : Act → World → Prop} {Q : Exit → Act → World → Prop} (d s : Operand) (dT sT : TypeId)
    (ho : o.op = .call { callee := .builtin .copy, args := #[d, s], argTypes := #[dT, sT] }) (elem : TypeId) (hu : P.underlying dT = some (.slice elem)) (hsz : (P.info? elem).map (·.size) = some 1)
    (g off dLen dCap : Nat) (ad : Addr) (sLen sCap : Nat) (hd : a.eval d = .slice (some ⟨g, off, none⟩) dLen dCap) (hs : a.eval s = .slice (some ad) sLen sCap)
    (cur : Array Value) (t : TypeId) (hg : w.heap[g]? = some (.cells cur t (0, 0))) (cs : List Value) (hn : cs.length = Nat.min sLen dLen)
    (hsrc : ∀ j v, cs[j]? = some v → w.cell? (ad.add j) = some v) (hfit : off + cs.length ≤ cur.size) (h1 : ∀ v ∈ cs, v.oneCell' = true)
    (h : K (a.put o.dst (goInt cs.length)) (w.setRow g (cur.toList.take off ++ (cs ++ cur.toList.drop (off + cs.length))).toArray)) : o.wp P a w K Q := by
  have hrun := run_copy_row (P := P) w dT sT o.type elem g off dLen dCap ad sLen sCap cur t cs hu hsz hg hn hsrc hfit h1
  unfold Oper.wp
  simp [execOp, ho, resolve, invoke, builtin, hd, hs, hrun, Result.andThen]
  exact h

/-- A byte as a value. -/
def bV (x : UInt8) : Value := .int .u8 (x.toNat : Int)
/-- A slice of bytes reads as bs. -/
def RdB (w : World) (A : Option Addr) (n : Nat) (bs : List UInt8) : Prop := Rd w 1 A n (bs.map bV)

section
variable {w w' : World} {n : Nat} {A : Option Addr} {bs : List UInt8}
theorem RdB.len (h : RdB w A n bs) : bs.length = n := by have := h.1; simpa using this
theorem RdB.at_ (h : RdB w A n bs) {k : Nat} (hk : k < n) : ∃ b off x, A = some ⟨b, off, none⟩ ∧ bs[k]? = some x ∧ w.cell? ⟨b, off + k, none⟩ = some (.int .u8 (x.toNat : Int)) := by
  have hl : k < bs.length := by rw [h.len]; exact hk
  obtain ⟨b, off, e, hc⟩ := h.2 (by simp; omega)
  exact ⟨b, off, bs[k], e, List.getElem?_eq_getElem hl, hc k _ (by simp [List.getElem?_eq_getElem hl, bV])⟩
theorem RdB.flat (h : RdB w A n bs) (hn : 0 < n) : ∃ b off, A = some ⟨b, off, none⟩ ∧ ∀ k x, bs[k]? = some x → w.cell? ⟨b, off + k, none⟩ = some (.int .u8 (x.toNat : Int)) := by
  obtain ⟨b, off, e, hc⟩ := h.2 (by simp; rw [h.len]; exact hn)
  exact ⟨b, off, e, fun k x hx => hc k _ (by simp [hx, bV])⟩
theorem RdB.take (h : RdB w A n bs) {k : Nat} (hk : k ≤ n) : RdB w A k (bs.take k) := by
  have hl := h.len
  refine ⟨by simp; omega, fun hn => ?_⟩
  obtain ⟨b, off, e, hc⟩ := h.2 (by simp at hn ⊢; omega)
  refine ⟨b, off, e, fun j u hu => hc j u ?_⟩
  rw [List.map_take, List.getElem?_take] at hu
  split at hu
  · exact hu
  · cases hu
theorem RdB.cut {b off i k : Nat} (h : RdB w (some ⟨b, off, none⟩) n bs) (hk : i + k ≤ n) : RdB w (some ⟨b, off + i, none⟩) k ((bs.drop i).take k) := by
  have hl := h.len
  refine ⟨by simp; omega, fun hn => ?_⟩
  obtain ⟨b', off', e, hc⟩ := h.2 (by simp at hn ⊢; omega)
  injection e with e
  injection e with e1 e2
  subst e1
  subst e2
  refine ⟨b, off + i, rfl, fun j u hu => ?_⟩
  rw [List.map_take, List.map_drop, List.getElem?_take] at hu
  split at hu
  · rw [List.getElem?_drop] at hu
    have := hc _ u hu
    rwa [← Nat.add_assoc] at this
  · cases hu
theorem RdB.below (h : RdB w A n bs) (hb : Below w.heap.size w w') : RdB w' A n bs := Rd.below h hb
end

/-- Bytes as a string. -/
def bstr (l : List UInt8) : ByteArray := ⟨l.toArray⟩
theorem bstr_inj {a b : List UInt8} : bstr a = bstr b ↔ a = b := by
  constructor
  · intro h
    have := congrArg (fun s : ByteArray => s.data.toList) h
    simpa [bstr] using this
  · rintro rfl; rfl
theorem bstr_toList (l : List UInt8) : (bstr l).toList = l := by rw [ByteArray.toList_eq]; simp [bstr]
theorem bstr_size (l : List UInt8) : (bstr l).size = l.length := by simp [bstr, ByteArray.size]
theorem bstr_data (s : ByteArray) : bstr s.data.toList = s := by simp [bstr]

theorem conv_str {P : Program} (src dst e : TypeId) (hs : P.underlying src = some (.slice e)) (he : P.underlying e = some (.int .u8)) (hd : P.underlying dst = some .string)
    (w : World) (A : Option Addr) (n c : Nat) (bs : List UInt8) (h : RdB w A n bs) : (convert src dst (.slice A n c)).run P w = .ok (.string (bstr bs)) w := by
  rcases A with _ | a
  · have : bs = [] := by
      rcases bs with _ | ⟨x, bs⟩
      · rfl
      · obtain ⟨b, off, e, _⟩ := h.2 (by simp); cases e
    subst this
    rw [run_convert_bytes_nil w src e hs he n c dst hd]
    rfl
  · have hl : (loadCells a n).run P w = .ok (bs.map bV).toArray w := by
      have h2 := run_loadCells_list (P := P) w a (bs.map bV) (fun j v hj => by
        have hjl : j < (bs.map bV).length := (List.getElem?_eq_some_iff.1 hj).1
        obtain ⟨b, off, e, hc⟩ := h.2 (by omega)
        injection e with e
        subst e
        rw [add_flat]
        exact hc j v hj)
      rw [h.1, Nat.mul_one] at h2
      exact h2
    have hm : bs.map bV = (bs.map fun x => (x.toNat : Int)).map (Value.int .u8) := by rw [List.map_map]; rfl
    rw [hm] at hl
    rw [run_convert_bytes_string w src dst e _ n c hs he hd, run_bytesToString w _ n c _ hl, foldl_push_bytes]
    simp only [List.map_map]
    congr 2
    simp [bstr, ByteArray.empty, ByteArray.emptyWithCapacity, Function.comp_def]
    rfl

theorem bytesLess_eq : ∀ (x y : List UInt8), Op.bytesLess x y = decide (x < y)
  | [], [] => by simp [Op.bytesLess]
  | _ :: _, [] => by simp [Op.bytesLess]
  | [], _ :: _ => by simp [Op.bytesLess]
  | a :: x, b :: y => by
    rw [Op.bytesLess, bytesLess_eq x y]
    simp only [List.cons_lt_cons_iff]
    by_cases h1 : a < b <;> by_cases h2 : a = b <;> by_cases h3 : x < y <;> simp [h1, h2, h3]

theorem take_eq_succ {α : Type} {xs ys : List α} {k : Nat} {x y : α} (h : xs.take k = ys.take k) (hx : xs[k]? = some x) (hy : ys[k]? = some y) (e : x = y) : xs.take (k + 1) = ys.take (k + 1) := by
  rw [List.take_add_one, List.take_add_one, h, hx, hy, e]
theorem ne_of_get {α : Type} {xs ys : List α} {k : Nat} {x y : α} (hx : xs[k]? = some x) (hy : ys[k]? = some y) (e : x ≠ y) : xs ≠ ys := by
  rintro rfl; rw [hx] at hy; exact e (by injection hy)
theorem u8_eq {x y : UInt8} (h : (x.toNat : Int) = (y.toNat : Int)) : x = y := UInt8.toNat_inj.1 (by omega)

end Go.Proofs.Ytbjaphldncagjaa

/- Parts of a proof, joined: Lib, Append2, Bytes, Open, Enc, EncLaws, OpenE. -/
import Derived.WalkKit
import Derived.WalkSpells
import Derived.WalkLawsBesides
import Derived.Lib.Hide
import Derived.Deep.QuietTactic
import Derived.BigQuiet
import Derived.Deep.Draws
import Derived.Laws.CopyOwn
import Derived.Maps.AppendAt
import Derived.Deep.AppendLies
import Derived.Laws.BytesArg
import Derived.Test.YtimkdpkhdbiniaaChecked
import Derived.Test.YtimkdpkhdbiniaaRows
import Derived.ProofKit
import Derived.OpenShut
import Derived.ShutString
import Derived.ChangeOld
import Derived.SizedLaws
/- Words for memory that all proofs of this set share: how a slice reads as a list; what a call leaves as it was. No program in it. -/
namespace Go.Proofs.Ytimkdpkhdbiniaa
open Go.RowKit

/-- The call returns v; the world is as it was. -/
def Ret (v : Value) (w : World) (e : Ending) (w' : World) : Prop := e = .returned v ∧ w = w'
/-- The call returns v; some answers of the tape were drawn. -/
def RetN (v : Value) (w : World) (e : Ending) (w' : World) : Prop := e = .returned v ∧ ∃ k, w' = w.drewN k
/-- The call returns a value of which P holds; what was there is as it was. -/
def RetP (P : Value → World → Prop) (w : World) (e : Ending) (w' : World) : Prop := ∃ v, e = .returned v ∧ P v w' ∧ Below w.heap.size w w'

theorem nx {w w1 w2 : World} (h : Below w.heap.size w w1) (k : Below w1.heap.size w1 w2) : Below w.heap.size w w2 := h.trans (k.mono h.size)
theorem dN {B : Nat} {w w1 : World} (h : Below B w w1) (k : Nat) : Below B w (w1.drewN k) := ⟨h.os, h.tape, h.output, h.size, h.block⟩
theorem bl {w : World} : Below w.heap.size w w := Below.refl _ _

theorem ret_bool {a b : Bool} (h : a = b) : Ending.returned (.bool a) = .returned (.bool b) := by rw [h]
/-- The cells xs lie where a slice of n elements of size cells leads. -/
def Rd (w : World) (size : Nat) (A : Option Addr) (n : Nat) (xs : List Value) : Prop :=
  xs.length = n * size ∧ (0 < xs.length → ∃ b off, A = some ⟨b, off, none⟩ ∧ ∀ j u, xs[j]? = some u → w.cell? ⟨b, off + j, none⟩ = some u)

section
variable {w w' : World} {size n : Nat} {A : Option Addr} {xs : List Value}
theorem Rd.nil (w : World) (size : Nat) (A : Option Addr) : Rd w size A 0 [] := ⟨by simp, fun h => absurd h (by simp)⟩
theorem Rd.drewN (h : Rd w size A n xs) (k : Nat) : Rd (w.drewN k) size A n xs := h
theorem Rd.keep (h : Rd w size A n xs) (hk : ∀ p : Addr, ∀ u, w.cell? p = some u → w'.cell? p = some u) : Rd w' size A n xs :=
  ⟨h.1, fun hn => by
    obtain ⟨b, off, e, hc⟩ := h.2 hn
    exact ⟨b, off, e, fun j u hu => hk _ _ (hc j u hu)⟩⟩
theorem below_cell {w w' : World} (hb : Below w.heap.size w w') {p : Addr} {u : Value} (h : w.cell? p = some u) : w'.cell? p = some u :=
  (hb.cell (World.block_lt_of_cell? w p h)).trans h
theorem Rd.below (h : Rd w size A n xs) (hb : Below w.heap.size w w') : Rd w' size A n xs := h.keep fun _ _ hu => below_cell hb hu
theorem Rd.alloc (h : Rd w size A n xs) (o : Obj) : Rd (w.alloc o) size A n xs := h.below ((Below.refl _ _).alloc (Nat.le_refl _) o)
theorem Rd.grown (h : Rd w size A n xs) {row : Option Nat} (hg : w.grownBy w' row) (hr : ∀ b off, A = some ⟨b, off, none⟩ → some b ≠ row) : Rd w' size A n xs :=
  ⟨h.1, fun hn => by
    obtain ⟨b, off, e, hc⟩ := h.2 hn
    exact ⟨b, off, e, fun j u hu => hg.cell (hc j u hu) (hr b off e)⟩⟩
theorem Rd.cut (h : Rd w size A n xs) (k m cap : Nat) (hk : k ≤ m) (hm : m ≤ n) (hc : n ≤ cap) :
    Rd w size (if cap = k then A else A.map (·.add (k * size))) (m - k) ((xs.take (m * size)).drop (k * size)) := by
  have hkm : k * size ≤ m * size := Nat.mul_le_mul_right _ hk
  have hmn : m * size ≤ n * size := Nat.mul_le_mul_right _ hm
  have hl : ((xs.take (m * size)).drop (k * size)).length = (m - k) * size := by
    rw [List.length_drop, List.length_take, h.1, Nat.sub_mul]; omega
  refine ⟨hl, fun hn => ?_⟩
  rw [hl] at hn
  have h0 : 0 < m - k := Nat.pos_of_mul_pos_right hn
  have hsz : 0 < size := Nat.pos_of_mul_pos_left hn
  have hn0 : 0 < n * size := Nat.mul_pos (by omega) hsz
  obtain ⟨b, off, rfl, hcell⟩ := h.2 (by rw [h.1]; exact hn0)
  rw [if_neg (by omega)]
  refine ⟨b, off + k * size, ?_, fun j u hu => ?_⟩
  · simp only [Option.map_some, Addr.add]
    split
    · rename_i h; simp [h]
    · rfl
  · rw [List.getElem?_drop, List.getElem?_take] at hu
    split at hu
    · have := hcell _ u hu
      rwa [← Nat.add_assoc] at this
    · cases hu
theorem Rd.of_own {base : Nat} {e : TypeId} {c : Nat} (h : w.ownsRow base e size (.slice A n c) n xs) : Rd w size A n xs := by
  refine ⟨h.1, fun hn => ?_⟩
  rcases h.2 with ⟨_, h0⟩ | ⟨g, cap, cur, hv, _, hh, _, _, _, ht⟩
  · rw [h.1, h0] at hn; simp at hn
  · have hA : A = some ⟨g, 0, none⟩ := by injection hv
    subst hA
    refine ⟨g, 0, rfl, fun j u hu => ?_⟩
    have hc := h.cells (g := g) rfl j u hu
    have hadd : (⟨g, 0, none⟩ : Addr).add j = ⟨g, 0 + j, none⟩ := by unfold Addr.add; split <;> simp_all
    rwa [hadd] at hc
end

theorem add_flat (b off j : Nat) : (⟨b, off, none⟩ : Addr).add j = ⟨b, off + j, none⟩ := by
  unfold Addr.add; split <;> simp_all

section
variable {P : Program} (w : World)
theorem run_append_of_nil (base : Nat) (t ty e : TypeId) (i : TypeInfo) (size : Nat) (ht : P.underlying t = some (.slice e)) (hi : P.info? e = some i)
    (v : Value) (n : Nat) (xs : List Value) (hown : w.ownsRow base e size v n xs) (A : Option Addr) (c : Nat) : (Builtin.append_ #[t, t] ty #[v, .slice A 0 c]).run P w = .ok v w := by
  have hf : Sem.run P (Builtin.firstCells i.size 0 (.slice A 0 c)) w = .ok #[] w := by
    rcases A with _ | ad
    · exact run_firstCells_none w _ _ _ _
    · exact run_firstCells_some w i.size 0 ad 0 c [] (by simp) (by simp)
  rcases hown.2 with ⟨rfl, rfl⟩ | ⟨g, cap, cur, rfl, _, _, hnc, _⟩
  · simp [Builtin.append_, run_underlying ht, sizeOf, typeInfo, hi, Builtin.lenOf, hf]
  · simp [Builtin.append_, run_underlying ht, sizeOf, typeInfo, hi, Builtin.lenOf, hf, hnc, storeCells]

theorem run_append_any (base : Nat) (t ty e : TypeId) (i : TypeInfo) (z : Value) (size bytes : Nat) (ht : P.underlying t = some (.slice e)) (hi : P.info? e = some i) (hz : i.zero = some z)
    (hsize : i.size = size) (hby : i.bytes = bytes) (hzs : z.cells.size = size) (hsz : 0 < size)
    (v : Value) (n : Nat) (xs : List Value) (hown : w.ownsRow base e size v n xs)
    (A : Option Addr) (m c : Nat) (news : List Value) (hr : Rd w size A m news) (h1 : ∀ u ∈ news, u.oneCell' = true)
    (h63 : n + m ≤ maxLen) (hbytes : (n + m) * bytes ≤ 140737488355328) (hbase : base ≤ w.heap.size) :
    ∃ v' w', (Builtin.append_ #[t, t] ty #[v, .slice A m c]).run P w = .ok v' w' ∧ w'.ownsRow base e size v' (n + m) (xs ++ news) ∧ w.grownBy w' v.ownBlock ∧
      (v'.ownBlock = v.ownBlock ∨ v'.ownBlock = some w.heap.size) := by
  by_cases h0 : m = 0
  · subst h0
    have hn : news = [] := List.eq_nil_of_length_eq_zero (by simpa using hr.1)
    subst hn
    exact ⟨v, w, run_append_of_nil w base t ty e i size ht hi v n xs hown A c, by simpa using hown, World.grownBy.refl w _, .inl rfl⟩
  · have hl : 0 < news.length := by rw [hr.1]; exact Nat.mul_pos (by omega) hsz
    obtain ⟨b, off, rfl, hc⟩ := hr.2 hl
    obtain ⟨v', w', hrun, h2, h3, _, h5⟩ := run_append_own_at (P := P) w base t ty e i z size bytes ht hi hz hsize hby hzs hsz v n xs hown ⟨b, off, none⟩ m c news hr.1 (fun j u hu => by rw [add_flat]; exact hc j u hu) h1 h63 hbytes hbase
    exact ⟨v', w', hrun, h2, h3, h5⟩
end

section
variable {P : Program} {w : World}
theorem wp_append_any {o : Oper} {a : Act} {K : Act → World → Prop} {Q : Exit → Act → World → Prop} (s x : Operand) (t : TypeId)
    (ho : o.op = .call { callee := .builtin .append, args := #[s, x], argTypes := #[t, t] })
    (base : Nat) (e : TypeId) (i : TypeInfo) (z : Value) (size bytes : Nat) (ht : P.underlying t = some (.slice e)) (hi : P.info? e = some i) (hz : i.zero = some z)
    (hsize : i.size = size) (hby : i.bytes = bytes) (hzs : z.cells.size = size) (hsz : 0 < size)
    (v : Value) (n : Nat) (xs : List Value) (hs : a.eval s = v) (hown : w.ownsRow base e size v n xs)
    (A : Option Addr) (m c : Nat) (news : List Value) (hx : a.eval x = .slice A m c) (hr : Rd w size A m news) (h1 : ∀ u ∈ news, u.oneCell' = true)
    (h63 : n + m ≤ maxLen) (hbytes : (n + m) * bytes ≤ 140737488355328) (hbase : base ≤ w.heap.size)
    (h : ∀ v' w', w'.ownsRow base e size v' (n + m) (xs ++ news) → w.grownBy w' v.ownBlock → (v'.ownBlock = v.ownBlock ∨ v'.ownBlock = some w.heap.size) → K (a.put o.dst v') w') : o.wp P a w K Q := by
  obtain ⟨v', w', hrun, h2, h3, h4⟩ := run_append_any (P := P) w base t o.type e i z size bytes ht hi hz hsize hby hzs hsz v n xs hown A m c news hr h1 h63 hbytes hbase
  unfold Oper.wp execOp
  simp only [ho, resolve, invoke, builtin, Sem.run_bind, Sem.run_pure, Result.andThen_ok, List.map_toArray, List.map_cons, List.map_nil, hs, hx, hrun]
  exact h v' w' h2 h3 h4
end

theorem wpList_want {P : Program} {w : World} {ops : Array Oper} {rest : List Oper} {o : Oper} {a : Act} {Q : Exit → Act → World → Prop} (hw : Region.wanted o (yielded ops a.tmps) = true)
    (h : ∀ K : Act → World → Prop, (∀ a w, wpList P ops Q rest a w → K a w) → o.wp P a w K Q) : wpList P ops Q (o :: rest) a w :=
  wpList_step fun K hK => by rw [if_pos hw]; exact h K hK

/-- A byte as a value. -/
def bV (x : UInt8) : Value := .int .u8 (x.toNat : Int)
/-- A slice of bytes reads as bs. -/
def RdB (w : World) (A : Option Addr) (n : Nat) (bs : List UInt8) : Prop := Rd w 1 A n (bs.map bV)

section
variable {w w' : World} {n : Nat} {A : Option Addr} {bs : List UInt8}
theorem RdB.len (h : RdB w A n bs) : bs.length = n := by have := h.1; simpa using this
theorem RdB.at_ (h : RdB w A n bs) {k : Nat} (hk : k < n) : ∃ b off x, A = some ⟨b, off, none⟩ ∧ bs[k]? = some x ∧ w.cell? ⟨b, off + k, none⟩ = some (.int .u8 (x.toNat : Int)) := by
  have hl : k < bs.length := by rw [h.len]; exact hk
  obtain ⟨b, off, e, hc⟩ := h.2 (by simp; omega)
  exact ⟨b, off, bs[k], e, List.getElem?_eq_getElem hl, hc k _ (by simp [List.getElem?_eq_getElem hl, bV])⟩
theorem RdB.flat (h : RdB w A n bs) (hn : 0 < n) : ∃ b off, A = some ⟨b, off, none⟩ ∧ ∀ k x, bs[k]? = some x → w.cell? ⟨b, off + k, none⟩ = some (.int .u8 (x.toNat : Int)) := by
  obtain ⟨b, off, e, hc⟩ := h.2 (by simp; rw [h.len]; exact hn)
  exact ⟨b, off, e, fun k x hx => hc k _ (by simp [hx, bV])⟩
theorem RdB.take (h : RdB w A n bs) {k : Nat} (hk : k ≤ n) : RdB w A k (bs.take k) := by
  have hl := h.len
  refine ⟨by simp; omega, fun hn => ?_⟩
  obtain ⟨b, off, e, hc⟩ := h.2 (by simp at hn ⊢; omega)
  refine ⟨b, off, e, fun j u hu => hc j u ?_⟩
  rw [List.map_take, List.getElem?_take] at hu
  split at hu
  · exact hu
  · cases hu
theorem RdB.cut {b off i k : Nat} (h : RdB w (some ⟨b, off, none⟩) n bs) (hk : i + k ≤ n) : RdB w (some ⟨b, off + i, none⟩) k ((bs.drop i).take k) := by
  have hl := h.len
  refine ⟨by simp; omega, fun hn => ?_⟩
  obtain ⟨b', off', e, hc⟩ := h.2 (by simp at hn ⊢; omega)
  injection e with e
  injection e with e1 e2
  subst e1
  subst e2
  refine ⟨b, off + i, rfl, fun j u hu => ?_⟩
  rw [List.map_take, List.map_drop, List.getElem?_take] at hu
  split at hu
  · rw [List.getElem?_drop] at hu
    have := hc _ u hu
    rwa [← Nat.add_assoc] at this
  · cases hu
theorem RdB.below (h : RdB w A n bs) (hb : Below w.heap.size w w') : RdB w' A n bs := Rd.below h hb
end

/-- Bytes as a string. -/
def bstr (l : List UInt8) : ByteArray := ⟨l.toArray⟩
theorem bstr_toList (l : List UInt8) : (bstr l).toList = l := by rw [ByteArray.toList_eq]; simp [bstr]
theorem bstr_size (l : List UInt8) : (bstr l).size = l.length := by simp [bstr, ByteArray.size]
theorem bstr_data (s : ByteArray) : bstr s.data.toList = s := by simp [bstr]

theorem conv_str {P : Program} (src dst e : TypeId) (hs : P.underlying src = some (.slice e)) (he : P.underlying e = some (.int .u8)) (hd : P.underlying dst = some .string)
    (w : World) (A : Option Addr) (n c : Nat) (bs : List UInt8) (h : RdB w A n bs) : (convert src dst (.slice A n c)).run P w = .ok (.string (bstr bs)) w := by
  rcases A with _ | a
  · have : bs = [] := by
      rcases bs with _ | ⟨x, bs⟩
      · rfl
      · obtain ⟨b, off, e, _⟩ := h.2 (by simp); cases e
    subst this
    rw [run_convert_bytes_nil w src e hs he n c dst hd]
    rfl
  · have hl : (loadCells a n).run P w = .ok (bs.map bV).toArray w := by
      have h2 := run_loadCells_list (P := P) w a (bs.map bV) (fun j v hj => by
        have hjl : j < (bs.map bV).length := (List.getElem?_eq_some_iff.1 hj).1
        obtain ⟨b, off, e, hc⟩ := h.2 (by omega)
        injection e with e
        subst e
        rw [add_flat]
        exact hc j v hj)
      rw [h.1, Nat.mul_one] at h2
      exact h2
    have hm : bs.map bV = (bs.map fun x => (x.toNat : Int)).map (Value.int .u8) := by rw [List.map_map]; rfl
    rw [hm] at hl
    rw [run_convert_bytes_string w src dst e _ n c hs he hd, run_bytesToString w _ n c _ hl, foldl_push_bytes]
    simp only [List.map_map]
    congr 2
    simp [bstr, ByteArray.empty, ByteArray.emptyWithCapacity, Function.comp_def]
    rfl

theorem take_eq_succ {α : Type} {xs ys : List α} {k : Nat} {x y : α} (h : xs.take k = ys.take k) (hx : xs[k]? = some x) (hy : ys[k]? = some y) (e : x = y) : xs.take (k + 1) = ys.take (k + 1) := by
  rw [List.take_add_one, List.take_add_one, h, hx, hy, e]
theorem ne_of_get {α : Type} {xs ys : List α} {k : Nat} {x y : α} (hx : xs[k]? = some x) (hy : ys[k]? = some y) (e : x ≠ y) : xs ≠ ys := by
  rintro rfl; rw [hx] at hy; exact e (by injection hy)
theorem u8_eq {x y : UInt8} (h : (x.toNat : Int) = (y.toNat : Int)) : x = y := UInt8.toNat_inj.1 (by omega)

end Go.Proofs.Ytimkdpkhdbiniaa

/- append(s, make([]byte, k)...) and append(s, string...), s of the call's own. No program in it. -/
namespace Go.Proofs.Ytimkdpkhdbiniaa
open Go.RowKit

section
variable {P : Program} (w : World)

end
end Go.Proofs.Ytimkdpkhdbiniaa

/- Slices of bytes that the call itself made, over this seat's type numbers: make, append, copy. -/
namespace Go.Proofs.Ytimkdpkhdbiniaa
open Go.RowKit

theorem infoB : (Try.prog.info? 5).map (fun i => (i.zero, i.size, i.bytes)) = some (some (.int .u8 0), 1, 1) := by kernel_rfl
/-- The slice value v, of the call's own making, holds the bytes bs. -/
def OwnB (w : World) (base : Nat) (v : Value) (bs : List UInt8) : Prop := w.ownsRow base 5 1 v bs.length (bs.map bV)

theorem bV_one (l : List UInt8) : ∀ u ∈ l.map bV, u.oneCell' = true := by
  intro u hu
  obtain ⟨x, _, rfl⟩ := List.mem_map.1 hu
  rfl

section
variable {w : World} {base n' c' : Nat} {v : Value} {bs : List UInt8} {A' : Option Addr}
theorem OwnB.alloc (h : OwnB w base v bs) (o : Obj) : OwnB (w.alloc o) base v bs := World.ownsRow.alloc h o
theorem OwnB.below {w' : World} (h : OwnB w base v bs) (hb : Below w.heap.size w w') : OwnB w' base v bs :=
  World.ownsRow.kept h (row := none) ⟨hb.os, hb.tape, hb.output, hb.size, fun k hk _ => hb.block k hk⟩ (by cases v.ownBlock <;> simp)
theorem OwnB.mono {base' : Nat} (h : OwnB w base v bs) (hb : base' ≤ base) : OwnB w base' v bs := by
  refine ⟨h.1, ?_⟩
  rcases h.2 with h2 | ⟨g, cap, cur, h1, h2, h3⟩
  · exact .inl h2
  · exact .inr ⟨g, cap, cur, h1, by omega, h3⟩
theorem OwnB.nil (w : World) (base : Nat) : OwnB w base (.slice none 0 0) [] := World.ownsRow_nil _ _ _ _
/-- An owned slice of bytes as a value, and how it reads. -/
theorem OwnB.form (h : OwnB w base v bs) : ∃ A c, v = .slice A bs.length c ∧ RdB w A bs.length bs ∧ bs.length ≤ c ∧ c ≤ maxLen := by
  rcases h.2 with ⟨rfl, h0⟩ | ⟨g, cap, cur, rfl, h2, h3, h4, h5, _⟩
  · have : bs = [] := List.eq_nil_of_length_eq_zero h0
    subst this
    exact ⟨none, 0, rfl, Rd.nil _ _ _, Nat.le_refl _, by simp [maxLen]⟩
  · exact ⟨_, cap, rfl, Rd.of_own h, h4, h5⟩
theorem OwnB.rd (h : OwnB w base (.slice A' n' c') bs) : RdB w A' n' bs ∧ n' = bs.length := by
  obtain ⟨A, c, hv, hr, _⟩ := h.form
  injection hv with h1 h2 h3
  subst h1
  subst h2
  exact ⟨hr, rfl⟩
end

section
variable {w : World} {base g n c : Nat} {bs : List UInt8}
theorem OwnB.cell (h : OwnB w base (.slice (some ⟨g, 0, none⟩) n c) bs) {k : Nat} (hk : k < bs.length) : w.cell? ⟨g, k, none⟩ = some (.int .u8 ((bs[k]).toNat : Int)) := by
  obtain ⟨A, c', hv, hr, _⟩ := h.form
  injection hv with h1 h2 h3
  subst h1
  obtain ⟨b, off, x, e, hx, hc⟩ := hr.at_ hk
  injection e with e
  injection e with e1 e2
  subst e1
  subst e2
  rw [List.getElem?_eq_getElem hk] at hx
  injection hx with hx
  rw [hx]
  simpa using hc
theorem OwnB.free (h : OwnB w base (.slice (some ⟨g, 0, none⟩) n c) bs) (k : Nat) : w.frozen? ⟨g, k, none⟩ = false := by
  obtain ⟨A, c', hv, _⟩ := h.form
  injection hv with h1 h2 h3
  subst h2
  exact World.ownsRow.frozenAt h k
theorem OwnB.lt (h : OwnB w base (.slice (some ⟨g, 0, none⟩) n c) bs) : base ≤ g ∧ g < w.heap.size := World.ownsRow.lt h g rfl
theorem OwnB.set (h : OwnB w base (.slice (some ⟨g, 0, none⟩) n c) bs) (k : Nat) (y : UInt8) : OwnB (w.setCell ⟨g, k, none⟩ (.int .u8 (y.toNat : Int))) base (.slice (some ⟨g, 0, none⟩) n c) (bs.set k y) := by
  obtain ⟨A, c', hv, _⟩ := h.form
  injection hv with h1 h2 h3
  subst h2
  have := (World.ownsRow.stored h k (.int .u8 (y.toNat : Int))).1
  unfold OwnB
  rw [List.length_set, List.map_set]
  exact this
theorem OwnB.made (w : World) (n : Nat) (hn : n ≤ maxLen) : OwnB (w.alloc (.cells (madeCells #[.int .u8 0] n) 5)) w.heap.size (.slice (some ⟨w.heap.size, 0, none⟩) n n) (List.replicate n 0) := by
  have h := World.ownsRow_lit (e := 5) (size := 1) w (madeCells #[.int .u8 0] n) n (Nat.le_refl _) hn (by simp [size_madeCells])
  unfold OwnB
  rw [List.length_replicate, List.map_replicate]
  rw [toList_madeCells_one] at h
  exact h
end

theorem OwnB.flat {w : World} {base : Nat} {v : Value} {bs : List UInt8} (h : OwnB w base v bs) (hn : 0 < bs.length) : ∃ g c, v = .slice (some ⟨g, 0, none⟩) bs.length c ∧ base ≤ g ∧ g < w.heap.size ∧ bs.length ≤ c ∧ c ≤ maxLen ∧
    ∀ k x, bs[k]? = some x → w.cell? ⟨g, k, none⟩ = some (.int .u8 (x.toNat : Int)) := by
  rcases h.2 with ⟨rfl, h0⟩ | ⟨g, cap, cur, rfl, h2, h3, h4, h5, _⟩
  · omega
  · refine ⟨g, cap, rfl, h2, h.lt.2, h4, h5, fun k x hx => ?_⟩
    have hk : k < bs.length := (List.getElem?_eq_some_iff.1 hx).1
    rw [h.cell hk]
    rw [List.getElem?_eq_getElem hk] at hx
    injection hx with hx
    rw [hx]

/-- append(s, x...): s of the call's own. -/
theorem wpL_appB {w : World} {ops : Array Oper} {rest : List Oper} {o : Oper} {a : Act} {Q : Exit → Act → World → Prop} (hgd : Region.wanted o (yielded ops a.tmps) = true) (s x : Operand)
    (ho : o.op = .call { callee := .builtin .append, args := #[s, x], argTypes := #[22, 22] })
    (base : Nat) (v : Value) (bs : List UInt8) (hs : a.eval s = v) (hown : OwnB w base v bs) (A : Option Addr) (m c : Nat) (news : List UInt8) (hx : a.eval x = .slice A m c) (hr : RdB w A m news)
    (hb : bs.length + m ≤ 140737488355328) (hbase : base ≤ w.heap.size)
    (h : ∀ v' w', OwnB w' base v' (bs ++ news) → w.grownBy w' v.ownBlock → (v'.ownBlock = v.ownBlock ∨ v'.ownBlock = some w.heap.size) → wpList Try.prog ops Q rest (a.put o.dst v') w') : wpList Try.prog ops Q (o :: rest) a w := by
  obtain ⟨i0, hi, hz, hsz, hby⟩ := info_parts infoB
  refine wpList_want hgd fun K hK => ?_
  refine wp_append_any (P := Try.prog) s x _ ho base 5 i0 _ 1 1 Try.underlying22 hi hz hsz hby rfl (by decide) v bs.length _ hs hown A m c _ hx hr (bV_one news) (by unfold maxLen; omega) (by omega) hbase fun v' w' h1 h2 h3 => hK _ _ (h v' w' ?_ h2 h3)
  unfold OwnB
  rw [List.length_append, List.map_append, hr.len]
  exact h1

theorem OwnB.drew {w : World} {base : Nat} {v : Value} {bs : List UInt8} (h : OwnB w base v bs) : OwnB w.drew base v bs := h
theorem OwnB.drewN {w : World} {base : Nat} {v : Value} {bs : List UInt8} (h : OwnB w base v bs) (k : Nat) : OwnB (w.drewN k) base v bs := h
/-- append([]byte{}, x...). -/
theorem wpL_cloneB {w : World} {ops : Array Oper} {rest : List Oper} {o : Oper} {a : Act} {Q : Exit → Act → World → Prop} (hgd : Region.wanted o (yielded ops a.tmps) = true) (s x : Operand)
    (ho : o.op = .call { callee := .builtin .append, args := #[s, x], argTypes := #[22, 22] })
    {g : Nat} (hs : a.eval s = .slice (some ⟨g, 0, none⟩) 0 0) (A : Option Addr) (m c : Nat) (news : List UInt8) (hx : a.eval x = .slice A m c) (hr : RdB w A m news)
    (hb : m ≤ 140737488355328)
    (h : ∀ v' w', OwnB w' w.heap.size v' news → Below w.heap.size w w' → wpList Try.prog ops Q rest (a.put o.dst v') w') (hgs : g = w.heap.size := by simp) : wpList Try.prog ops Q (o :: rest) a (w.alloc (.cells #[] 5)) := by
  subst hgs
  refine wpL_appB hgd s x ho w.heap.size _ [] hs ?_ A m c news hx (hr.below ((Below.refl _ _).alloc (Nat.le_refl _) _)) (by simpa using hb) (by simp) fun v' w' h1 h2 h3 => h v' w' h1 ?_
  · exact World.ownsRow_lit (e := 5) (size := 1) w #[] 0 (Nat.le_refl _) (by simp) rfl
  · exact ((Below.refl _ _).alloc (Nat.le_refl _) _).grown h2 (by simp) (fun k hk => by simp [Value.ownBlock] at hk; omega)

end Go.Proofs.Ytimkdpkhdbiniaa

/- What comes in, opened: from the form's reading to the words of the walks. -/
namespace Go.Proofs.Ytimkdpkhdbiniaa
open Go.ChangeShapes Go.WideShapes Go.ChangeAt Go.RowKit

theorem own : ownKnob Try.prog.godebug = none := by kernel_rfl
theorem laidOut : laidOutB Try.prog = true := by kernel_rfl

section
variable {H : Type} {enc : TypeId × Value → H} {W : World} {base b0 : Nat} {sp : Nat → Bool} {hd : Bool} {r : Reach}
end
end Go.Proofs.Ytimkdpkhdbiniaa

/- How values of a type lie in cells, told once for each type: what a row of cells reads as, in which blocks. No program in it. -/
namespace Go.Proofs.Ytimkdpkhdbiniaa
open Go.RowKit

theorem new_cell (w : World) (cs : Array Value) (e : TypeId) (j : Nat) : (w.alloc (.cells cs e)).cell? ⟨w.heap.size, j, none⟩ = cs[j]? := cell_of_row _ _ _ _ _ _ (heap_alloc_new w _)

/-- A type's reading: so many cells read as x, all that they lead to lying in blocks of S. -/
structure Enc (α : Type) where
  size : Nat
  R : (Nat → Prop) → World → List Value → α → Prop
  pos : 0 < size
  len : ∀ {S : Nat → Prop} {w : World} {r : List Value} {x : α}, R S w r x → r.length = size
  mono : ∀ {S S' : Nat → Prop} {w : World} {r : List Value} {x : α}, (∀ b, S b → S' b) → R S w r x → R S' w r x
  keep : ∀ {S : Nat → Prop} {w w' : World} {r : List Value} {x : α}, (∀ b, S b → w'.heap[b]? = w.heap[b]?) → R S w r x → R S w' r x
  one : ∀ {S : Nat → Prop} {w : World} {r : List Value} {x : α}, R S w r x → ∀ u ∈ r, u.oneCell' = true

def noS : Nat → Prop := fun _ => False
def ltS (w : World) : Nat → Prop := fun b => b < w.heap.size

/-- n elements lie where a slice leads: the row in a block of So, what they lead to in blocks of Si. -/
def Els {α : Type} (E : Enc α) (So Si : Nat → Prop) (w : World) (A : Option Addr) (n : Nat) (xs : List α) : Prop :=
  xs.length = n ∧ (0 < n → ∃ b off, A = some ⟨b, off, none⟩ ∧ So b ∧ ∀ i x, xs[i]? = some x → ∃ r, E.R Si w r x ∧ ∀ j u, r[j]? = some u → w.cell? ⟨b, off + (i * E.size + j), none⟩ = some u)

section
variable {α : Type} {E : Enc α} {So Si So' Si' : Nat → Prop} {w w' : World} {A : Option Addr} {n : Nat} {xs : List α}
theorem Els.nil (E : Enc α) (So Si : Nat → Prop) (w : World) (A : Option Addr) : Els E So Si w A 0 [] := ⟨rfl, fun h => absurd h (by omega)⟩
theorem Els.len (h : Els E So Si w A n xs) : xs.length = n := h.1
theorem Els.mono (ho : ∀ b, So b → So' b) (hi : ∀ b, Si b → Si' b) (h : Els E So Si w A n xs) : Els E So' Si' w A n xs :=
  ⟨h.1, fun hn => by
    obtain ⟨b, off, e, hb, hx⟩ := h.2 hn
    exact ⟨b, off, e, ho b hb, fun i x hi' => by obtain ⟨r, hr, hc⟩ := hx i x hi'; exact ⟨r, E.mono hi hr, hc⟩⟩⟩
theorem Els.keep (ho : ∀ b, So b → w'.heap[b]? = w.heap[b]?) (hi : ∀ b, Si b → w'.heap[b]? = w.heap[b]?) (h : Els E So Si w A n xs) : Els E So Si w' A n xs :=
  ⟨h.1, fun hn => by
    obtain ⟨b, off, e, hb, hx⟩ := h.2 hn
    refine ⟨b, off, e, hb, fun i x hi' => ?_⟩
    obtain ⟨r, hr, hc⟩ := hx i x hi'
    exact ⟨r, E.keep hi hr, fun j u hu => (World.cell?_of_block (a := ⟨b, off + (i * E.size + j), none⟩) (ho b hb)).trans (hc j u hu)⟩⟩
theorem Els.flat (h : Els E So Si w A n xs) (hn : 0 < n) : ∃ b off, A = some ⟨b, off, none⟩ ∧ So b ∧ ∀ i x, xs[i]? = some x → ∃ r, E.R Si w r x ∧ ∀ j u, r[j]? = some u → w.cell? ⟨b, off + (i * E.size + j), none⟩ = some u := h.2 hn
theorem Els.below {B : Nat} (h : Els E So Si w A n xs) (hb : Below B w w') (ho : ∀ b, So b → b < B) (hi : ∀ b, Si b → b < B) : Els E So Si w' A n xs :=
  h.keep (fun b hb' => hb.block b (ho b hb')) (fun b hb' => hb.block b (hi b hb'))
theorem Els.take (h : Els E So Si w A n xs) {k : Nat} (hk : k ≤ n) : Els E So Si w A k (xs.take k) := by
  refine ⟨by rw [List.length_take, h.1]; omega, fun hn => ?_⟩
  obtain ⟨b, off, e, hb, hx⟩ := h.2 (by omega)
  refine ⟨b, off, e, hb, fun i x hi => hx i x ?_⟩
  rw [List.getElem?_take] at hi
  split at hi
  · exact hi
  · cases hi
theorem Els.cut (h : Els E So Si w A n xs) (k c : Nat) (hk : k ≤ n) (hc : n ≤ c) : Els E So Si w (if c = k then A else A.map (·.add (k * E.size))) (n - k) (xs.drop k) := by
  refine ⟨by rw [List.length_drop, h.1], fun hn => ?_⟩
  obtain ⟨b, off, rfl, hb, hx⟩ := h.2 (by omega)
  rw [if_neg (by omega)]
  refine ⟨b, off + k * E.size, by simp only [Option.map_some]; rw [add_flat], hb, fun i x hi => ?_⟩
  rw [List.getElem?_drop] at hi
  obtain ⟨r, hr, hcell⟩ := hx _ x hi
  refine ⟨r, hr, fun j u hu => ?_⟩
  have := hcell j u hu
  rw [Nat.add_mul] at this
  rw [← this]
  congr 2
  omega
end

/-- Deeply there: all of it lies in blocks that are there now. -/
def RdE {α : Type} (E : Enc α) (w : World) (A : Option Addr) (n : Nat) (xs : List α) : Prop := Els E (ltS w) (ltS w) w A n xs
theorem RdE.below {α : Type} {E : Enc α} {w w' : World} {A : Option Addr} {n : Nat} {xs : List α} (h : RdE E w A n xs) (hb : Below w.heap.size w w') : RdE E w' A n xs :=
  (Els.below h hb (fun _ h => h) (fun _ h => h)).mono (fun b (h : b < w.heap.size) => Nat.lt_of_lt_of_le h hb.size) (fun b (h : b < w.heap.size) => Nat.lt_of_lt_of_le h hb.size)
theorem RdE.drewN {α : Type} {E : Enc α} {w : World} {A : Option Addr} {n : Nat} {xs : List α} (h : RdE E w A n xs) (k : Nat) : RdE E (w.drewN k) A n xs := h.below (dN bl k)

/-- A type of one cell, which leads nowhere. -/
def flatE {α : Type} (f : α → Value) (ok : α → Prop) (h1 : ∀ x, (f x).oneCell' = true) : Enc α where
  size := 1
  R := fun _ _ r x => r = [f x] ∧ ok x
  pos := by decide
  len := by rintro _ _ _ _ ⟨rfl, _⟩; rfl
  mono := fun _ h => h
  keep := fun _ h => h
  one := by rintro _ _ _ x ⟨rfl, _⟩ u hu; simp at hu; subst hu; exact h1 x

/-- A slice as an element. -/
def slE {α : Type} (E : Enc α) : Enc (List α) where
  size := 1
  R := fun S w r xs => ∃ A n c, r = [.slice A n c] ∧ Els E S S w A n xs ∧ n ≤ c ∧ c ≤ maxLen
  pos := by decide
  len := by rintro _ _ _ _ ⟨A, n, c, rfl, _⟩; rfl
  mono := by rintro S S' w r xs h ⟨A, n, c, rfl, he, h1, h2⟩; exact ⟨A, n, c, rfl, he.mono h h, h1, h2⟩
  keep := by rintro S w w' r xs h ⟨A, n, c, rfl, he, h1, h2⟩; exact ⟨A, n, c, rfl, he.keep h h, h1, h2⟩
  one := by rintro S w r xs ⟨A, n, c, rfl, _⟩ u hu; simp at hu; subst hu; rfl

def encB : Enc UInt8 := flatE bV (fun _ => True) fun _ => rfl
def encI : Enc Int := flatE (fun n => .int .i64 n) (fun n => -9223372036854775808 ≤ n ∧ n ≤ 9223372036854775807) fun _ => rfl
/-- A string, as its bytes. -/
def encS : Enc (List UInt8) := flatE (fun l => .string (bstr l)) (fun l => l.length ≤ maxLen) fun _ => rfl

/-- A row of the call's own, of elements of type e that read by E; what they lead to lies in blocks of S, none of them the row's. -/
def OwnE {α : Type} (E : Enc α) (e : TypeId) (S : Nat → Prop) (w : World) (base : Nat) (v : Value) (xs : List α) : Prop :=
  ∃ cells, w.ownsRow base e E.size v xs.length cells ∧ (∀ i x, xs[i]? = some x → E.R S w ((cells.drop (i * E.size)).take E.size) x) ∧ ∀ b, S b → b < w.heap.size ∧ some b ≠ v.ownBlock

section
variable {α : Type} {E : Enc α} {e : TypeId} {S S' : Nat → Prop} {w w' : World} {base : Nat} {v : Value} {xs : List α}
theorem OwnE.nil (E : Enc α) (e : TypeId) (w : World) (base : Nat) : OwnE E e noS w base (.slice none 0 0) [] :=
  ⟨[], World.ownsRow_nil _ _ _ _, fun i x h => by simp at h, fun b h => h.elim⟩
theorem OwnE.lt (h : OwnE E e S w base v xs) : ∀ k, v.ownBlock = some k → base ≤ k ∧ k < w.heap.size := by
  obtain ⟨cells, ho, _⟩ := h
  exact ho.lt
theorem OwnE.keep (h : OwnE E e S w base v xs) (hs : w.heap.size ≤ w'.heap.size) (ho : ∀ k, v.ownBlock = some k → w'.heap[k]? = w.heap[k]?) (hi : ∀ b, S b → w'.heap[b]? = w.heap[b]?) : OwnE E e S w' base v xs := by
  obtain ⟨cells, hw, hr, hb⟩ := h
  refine ⟨cells, ⟨hw.1, ?_⟩, fun i x hx => E.keep hi (hr i x hx), fun b hb' => ⟨Nat.lt_of_lt_of_le (hb b hb').1 hs, (hb b hb').2⟩⟩
  rcases hw.2 with h0 | ⟨g, cap, cur, rfl, h1, h2, h3⟩
  · exact .inl h0
  · exact .inr ⟨g, cap, cur, rfl, h1, (ho g rfl).trans h2, h3⟩
theorem OwnE.below (h : OwnE E e S w base v xs) (hb : Below w.heap.size w w') : OwnE E e S w' base v xs := by
  have hl := h.lt
  obtain ⟨cells, hw, hr, hS⟩ := h
  exact OwnE.keep ⟨cells, hw, hr, hS⟩ hb.size (fun k hk => hb.block k (hl k hk).2) (fun b hb' => hb.block b (hS b hb').1)
theorem OwnE.alloc (h : OwnE E e S w base v xs) (o : Obj) : OwnE E e S (w.alloc o) base v xs := h.below ((Below.refl _ _).alloc (Nat.le_refl _) o)
theorem OwnE.base_le {base' : Nat} (h : OwnE E e S w base v xs) (hb : base' ≤ base) : OwnE E e S w base' v xs := by
  obtain ⟨cells, ⟨h1, h2⟩, h3⟩ := h
  refine ⟨cells, ⟨h1, ?_⟩, h3⟩
  rcases h2 with h2 | ⟨g, cap, cur, h1, h2, h3⟩
  · exact .inl h2
  · exact .inr ⟨g, cap, cur, h1, by omega, h3⟩
/-- An owned row as a slice value, and how it reads. -/
theorem OwnE.form (h : OwnE E e S w base v xs) : ∃ A c, v = .slice A xs.length c ∧ Els E (fun b => v.ownBlock = some b) S w A xs.length xs ∧ xs.length ≤ c ∧ c ≤ maxLen := by
  obtain ⟨cells, hw, hr, hb⟩ := h
  rcases hw.2 with ⟨rfl, h0⟩ | ⟨g, cap, cur, rfl, h2, h3, h4, h5, h6, h7⟩
  · have : xs = [] := List.eq_nil_of_length_eq_zero h0
    subst this
    exact ⟨none, 0, rfl, Els.nil _ _ _ _ _, Nat.le_refl _, by simp [maxLen]⟩
  · refine ⟨_, cap, rfl, ⟨rfl, fun hn => ⟨g, 0, rfl, rfl, fun i x hx => ⟨_, hr i x hx, fun j u hu => ?_⟩⟩⟩, h4, h5⟩
    have hc := World.ownsRow.cells ⟨hw.1, .inr ⟨g, cap, cur, rfl, h2, h3, h4, h5, h6, h7⟩⟩ (g := g) rfl (i * E.size + j) u (by
      rw [List.getElem?_take] at hu
      split at hu
      · rwa [List.getElem?_drop] at hu
      · cases hu)
    rwa [add_flat] at hc
theorem OwnE.rdE (h : OwnE E e S w base v xs) : ∃ A c, v = .slice A xs.length c ∧ RdE E w A xs.length xs ∧ xs.length ≤ c ∧ c ≤ maxLen := by
  have hl := h.lt
  have hS : ∀ b, S b → b < w.heap.size := by
    obtain ⟨_, _, _, hb⟩ := h
    exact fun b hb' => (hb b hb').1
  obtain ⟨A, c, rfl, he, h1, h2⟩ := h.form
  exact ⟨A, c, rfl, he.mono (fun b hb => (hl b hb).2) hS, h1, h2⟩
end

theorem els_bytes {So Si : Nat → Prop} {w : World} {A : Option Addr} {n : Nat} {bs : List UInt8} (h : Els encB So Si w A n bs) : RdB w A n bs := by
  refine ⟨by simp [h.1], fun hn => ?_⟩
  obtain ⟨b, off, e, _, hx⟩ := h.2 (by simp at hn; rw [← h.1]; exact hn)
  refine ⟨b, off, e, fun j u hu => ?_⟩
  rw [List.getElem?_map] at hu
  cases hj : bs[j]? with
  | none => rw [hj] at hu; cases hu
  | some x =>
    rw [hj] at hu
    simp at hu
    subst hu
    obtain ⟨r, ⟨rfl, _⟩, hc⟩ := hx j x hj
    simpa [encB, flatE] using hc 0 _ rfl
theorem bytes_els {S : Nat → Prop} {Si : Nat → Prop} {w : World} {A : Option Addr} {n : Nat} {bs : List UInt8} (h : RdB w A n bs) (hS : ∀ b off, A = some ⟨b, off, none⟩ → S b) : Els encB S Si w A n bs := by
  refine ⟨h.len, fun hn => ?_⟩
  obtain ⟨b, off, e, hc⟩ := h.flat hn
  refine ⟨b, off, e, hS b off e, fun i x hx => ⟨[bV x], ⟨rfl, trivial⟩, fun j u hu => ?_⟩⟩
  match j, hu with
  | 0, hu =>
    simp at hu
    subst hu
    simpa [encB, flatE, bV] using hc i x hx
theorem bytes_rdE {w : World} {A : Option Addr} {n : Nat} {bs : List UInt8} (h : RdB w A n bs) : RdE encB w A n bs := by
  by_cases hn : 0 < n
  · obtain ⟨b, off, e, hc⟩ := h.flat hn
    refine bytes_els h fun b' off' e' => ?_
    rw [e] at e'
    injection e' with e'
    injection e' with e1 e2
    subst e1
    have hl : 0 < bs.length := by rw [h.len]; exact hn
    exact World.block_lt_of_cell? w _ (hc 0 bs[0] (List.getElem?_eq_getElem hl))
  · obtain rfl : n = 0 := by omega
    have : bs = [] := List.eq_nil_of_length_eq_zero h.len
    subst this
    exact Els.nil _ _ _ _ _
end Go.Proofs.Ytimkdpkhdbiniaa

/- append onto a row of the call's own whose elements read by an Enc. No program in it. -/
namespace Go.Proofs.Ytimkdpkhdbiniaa
open Go.RowKit

/-- T is the type of slices of e; an e is so many bytes, and has the Enc's cells. -/
def ElT {α : Type} (P : Program) (T e : TypeId) (E : Enc α) (bytes : Nat) : Prop :=
  P.underlying T = some (.slice e) ∧ ∃ i z, P.info? e = some i ∧ i.zero = some z ∧ i.size = E.size ∧ i.bytes = bytes ∧ z.cells.size = E.size

def orS (S S' : Nat → Prop) : Nat → Prop := fun b => S b ∨ S' b

theorem ElT.mk {α : Type} {P : Program} {T e : TypeId} {E : Enc α} {bytes : Nat} (hT : P.underlying T = some (.slice e)) (z : Value) (n : Nat) (h : (P.info? e).map (fun i => (i.zero, i.size, i.bytes)) = some (some z, n, bytes)) (hn : n = E.size) (hz : z.cells.size = E.size) : ElT P T e E bytes := by
  obtain ⟨i, h1, h2, h3, h4⟩ := info_parts h
  exact ⟨hT, i, z, h1, h2, h3.trans hn, h4, hz⟩

section
variable {α : Type} {P : Program} {T e : TypeId} {E : Enc α} {bytes : Nat} {w : World}

theorem chunk {α : Type} {E : Enc α} {cells r : List Value} {n i : Nat} {xs : List α} {x : α} (hc : cells.length = n * E.size) (hx : xs[i]? = some x) (hn : xs.length = n) :
    ((cells ++ r).drop (i * E.size)).take E.size = (cells.drop (i * E.size)).take E.size := by
  have hi : i < n := by rw [← hn]; exact (List.getElem?_eq_some_iff.1 hx).1
  have h1 : (i + 1) * E.size ≤ n * E.size := Nat.mul_le_mul_right _ hi
  rw [Nat.add_mul, Nat.one_mul] at h1
  rw [List.drop_append_of_le_length (by omega), List.take_append_of_le_length (by rw [List.length_drop]; omega)]

/-- append(s, y): one element, its cells lying in a new block. -/
theorem wpL_pushE (ht : ElT P T e E bytes) {ops : Array Oper} {rest : List Oper} {o : Oper} {a : Act} {Q : Exit → Act → World → Prop} (hgd : Region.wanted o (yielded ops a.tmps) = true) (s x : Operand)
    (ho : o.op = .call { callee := .builtin .append, args := #[s, x], argTypes := #[T, T] })
    (base : Nat) (v : Value) (xs : List α) {S : Nat → Prop} (hs : a.eval s = v) (hown : OwnE E e S w base v xs) (r : List Value) (y : α) {S' : Nat → Prop} (hr : E.R S' w r y) (hS' : ∀ b, S' b → b < w.heap.size ∧ some b ≠ v.ownBlock)
    {g : Nat} (hx : a.eval x = .slice (some ⟨g, 0, none⟩) 1 1) (hb : (xs.length + 1) * bytes ≤ 140737488355328) (hl : xs.length + 1 ≤ maxLen) (hbase : base ≤ w.heap.size)
    (h : ∀ v' w', OwnE E e (orS S S') w' base v' (xs ++ [y]) → w.grownBy w' v.ownBlock → (v'.ownBlock = v.ownBlock ∨ v'.ownBlock = some (w.heap.size + 1)) → wpList P ops Q rest (a.put o.dst v') w') (hgs : g = w.heap.size := by simp) :
    wpList P ops Q (o :: rest) a (w.alloc (.cells r.toArray e)) := by
  subst hgs
  obtain ⟨hT, i, z, hi, hz, hsz, hby, hzc⟩ := ht
  have hlt := hown.lt
  obtain ⟨cells, hw, hread, hS⟩ := hown
  have hrl := E.len hr
  refine wpList_want hgd fun K hK => ?_
  refine wp_append_any (P := P) s x _ ho base e i z E.size bytes hT hi hz hsz hby hzc E.pos v xs.length _ hs (hw.alloc _) _ 1 1 r hx ⟨by rw [hrl, Nat.one_mul], fun _ => ⟨w.heap.size, 0, rfl, fun j u hu => ?_⟩⟩ (E.one hr) hl (by simpa using hb) (by simp; omega) fun v' w' h1 h2 h3 => hK _ _ (h v' w' ?_ ((World.grownBy_alloc w _ _).trans h2) (by simpa using h3))
  · have := (World.ownsRow_lit (base := 0) (e := e) (size := E.size) w r.toArray 1 (Nat.zero_le _) (by simp [maxLen]) (by simp [hrl])).cells (g := w.heap.size) rfl j u (by simpa using hu)
    rwa [add_flat] at this
  · have hbl : ∀ b, b < w.heap.size → some b ≠ v.ownBlock → w'.heap[b]? = w.heap[b]? := fun b hb1 hb2 => ((World.grownBy_alloc w _ _).trans h2).block b hb1 hb2
    have hsize : w.heap.size ≤ w'.heap.size := ((World.grownBy_alloc w _ v.ownBlock).trans h2).size
    refine ⟨cells ++ r, by rw [List.length_append]; exact h1, fun j y' hy => ?_, fun b hb' => ?_⟩
    · by_cases hj : j < xs.length
      · rw [List.getElem?_append_left hj] at hy
        rw [chunk hw.1 hy rfl]
        exact E.mono (fun b hb' => .inl hb') (E.keep (fun b hb' => hbl b (hS b hb').1 (hS b hb').2) (hread j y' hy))
      · rw [List.getElem?_append_right (by omega)] at hy
        have hj0 : j = xs.length := by
          have := (List.getElem?_eq_some_iff.1 hy).1
          simp at this
          omega
        subst hj0
        simp at hy
        subst hy
        rw [List.drop_append_of_le_length (by rw [hw.1]; omega), List.drop_of_length_le (by rw [hw.1]; omega), List.nil_append, List.take_of_length_le (by omega)]
        exact E.mono (fun b hb' => .inr hb') (E.keep (fun b hb' => hbl b (hS' b hb').1 (hS' b hb').2) hr)
    · have hb2 : b < w.heap.size ∧ some b ≠ v.ownBlock := hb'.elim (fun h => hS b h) (fun h => hS' b h)
      refine ⟨Nat.lt_of_lt_of_le hb2.1 hsize, ?_⟩
      rcases h3 with h3 | h3
      · rw [h3]; exact hb2.2
      · rw [h3]
        intro hc
        injection hc with hc
        simp at hc
        omega
end

section
variable {α : Type} {E : Enc α} {e : TypeId} {S : Nat → Prop} {w : World} {base g n c : Nat} {xs : List α}
/-- An owned row that is not empty lies at the head of its block; its cells. -/
theorem OwnE.flat {v : Value} (h : OwnE E e S w base v xs) (hn : 0 < xs.length) : ∃ g c, v = .slice (some ⟨g, 0, none⟩) xs.length c ∧ base ≤ g ∧ g < w.heap.size ∧ xs.length ≤ c ∧ c ≤ maxLen ∧ (∀ b, S b → b ≠ g) ∧
    ∀ i x, xs[i]? = some x → ∃ r, E.R S w r x ∧ ∀ j u, r[j]? = some u → w.cell? ⟨g, i * E.size + j, none⟩ = some u := by
  have hl := h.lt
  obtain ⟨cells, hw, hr, hS⟩ := h
  rcases hw.2 with ⟨rfl, h0⟩ | ⟨g, cap, cur, rfl, h2, h3, h4, h5, h6, h7⟩
  · omega
  · refine ⟨g, cap, rfl, h2, (hl g rfl).2, h4, h5, fun b hb e => (hS b hb).2 (by rw [e]; rfl), fun i x hx => ⟨_, hr i x hx, fun j u hu => ?_⟩⟩
    have hc := hw.cells (g := g) rfl (i * E.size + j) u (by
      rw [List.getElem?_take] at hu
      split at hu
      · rwa [List.getElem?_drop] at hu
      · cases hu)
    rw [add_flat] at hc
    simpa using hc
theorem OwnE.free (h : OwnE E e S w base (.slice (some ⟨g, 0, none⟩) n c) xs) (k : Nat) : w.frozen? ⟨g, k, none⟩ = false := by
  obtain ⟨cells, hw, _⟩ := h
  rcases hw.2 with ⟨h', _⟩ | ⟨g', cap, cur, h1, h2, h3, _⟩
  · cases h'
  · injection h1 with h1 _ _
    injection h1 with h1
    injection h1 with h1 _
    subst h1
    exact frozen_of_row w g k cur e h3
/-- A store into one cell of an element. -/
theorem OwnE.store (h : OwnE E e S w base (.slice (some ⟨g, 0, none⟩) n c) xs) {i j : Nat} {x y : α} {u : Value} (hx : xs[i]? = some x) (hj : j < E.size)
    (hR : ∀ r, E.R S (w.setCell ⟨g, i * E.size + j, none⟩ u) r x → E.R S (w.setCell ⟨g, i * E.size + j, none⟩ u) (r.set j u) y) :
    OwnE E e S (w.setCell ⟨g, i * E.size + j, none⟩ u) base (.slice (some ⟨g, 0, none⟩) n c) (xs.set i y) := by
  have hil : i < xs.length := (List.getElem?_eq_some_iff.1 hx).1
  obtain ⟨cells, hw, hr, hS⟩ := h
  have hne : ∀ b, S b → b ≠ g := fun b hb e => (hS b hb).2 (by rw [e]; rfl)
  have hnl : n = xs.length := by
    rcases hw.2 with ⟨h', _⟩ | ⟨g', cap, cur, h1, _⟩
    · cases h'
    · injection h1
  subst hnl
  have hst := (World.ownsRow.stored hw (i * E.size + j) u).1
  refine ⟨cells.set (i * E.size + j) u, by rw [List.length_set]; exact hst, fun i' x' hx' => ?_, fun b hb => by simpa using hS b hb⟩
  have hkeep : ∀ (r : List Value) (z : α), E.R S w r z → E.R S (w.setCell ⟨g, i * E.size + j, none⟩ u) r z := fun r z hz => E.keep (fun b hb => Below.heap_setCell w _ u b (hne b hb)) hz
  have hpos := E.pos
  by_cases e1 : i' = i
  · subst e1
    rw [List.getElem?_set_self hil] at hx'
    injection hx' with hx'
    subst hx'
    have h2 := hR _ (hkeep _ _ (hr i' x hx))
    have hset : ((cells.set (i' * E.size + j) u).drop (i' * E.size)).take E.size = ((cells.drop (i' * E.size)).take E.size).set j u := by
      rw [List.drop_set]
      rw [if_neg (by omega), show i' * E.size + j - i' * E.size = j by omega, List.take_set]
    rw [hset]
    exact h2
  · rw [List.getElem?_set_ne (by omega)] at hx'
    have hset : ((cells.set (i * E.size + j) u).drop (i' * E.size)).take E.size = (cells.drop (i' * E.size)).take E.size := by
      rw [List.drop_set]
      split
      · rfl
      · rename_i hge
        rw [List.take_set_of_le]
        have h3 : i' * E.size ≤ i * E.size + j := by omega
        rcases Nat.lt_or_ge i i' with h4 | h4
        · have h5 : (i + 1) * E.size ≤ i' * E.size := Nat.mul_le_mul_right _ h4
          rw [Nat.add_mul, Nat.one_mul] at h5
          omega
        · have h5 : (i' + 1) * E.size ≤ i * E.size := Nat.mul_le_mul_right _ (by omega)
          rw [Nat.add_mul, Nat.one_mul] at h5
          omega
    rw [hset]
    exact hkeep _ _ (hr i' x' hx')
end
end Go.Proofs.Ytimkdpkhdbiniaa

/- What comes in, opened by its type's Enc: that it reads so; that it fits the form's reach; its bulk. -/
namespace Go.Proofs.Ytimkdpkhdbiniaa
open Go.ChangeShapes Go.WideShapes Go.ChangeAt Go.RowKit
set_option maxRecDepth 100000

/-- Whatever is read at type t reads by E; where all of it is within the reach it is fit; its bulk is at least wt. -/
def Opens {α : Type} (t : TypeId) (E : Enc α) (fit : α → Prop) (wt : α → Nat) : Prop :=
  ∀ (H : Type) (enc : TypeId × Value → H) (W : World) (base : Nat) (sp : Nat → Bool) (hd : Bool) (fuel : Nat) (cs : List Value) (x : DataW H × List MemPlace),
    DataW.trod enc Try.prog W base sp hd fuel t cs = some x → ∃ a, E.R (ltS W) W cs a ∧ ((∀ n ∈ x.1.weights Try.prog t, n ≤ reachBytes) → fit a) ∧ wt a ≤ Rows.uptoBulk x.1

def one {α : Type} : α → Nat := fun _ => 1
def any {α : Type} : α → Prop := fun _ => True
/-- A list's bulk, by its elements'. -/
def wtL {α : Type} (wt : α → Nat) : List α → Nat
  | [] => 1
  | a :: l => wt a + wtL wt l
theorem opens_u8 {t : TypeId} (ht : Try.prog.underlying t = some (.int .u8)) : Opens t encB any one := by
  intro H enc W base sp hd fuel cs x h
  obtain ⟨n, rfl, rfl, hw⟩ := DataW.trod_int ht h
  have hb := bounds_u8 hw
  refine ⟨UInt8.ofNat n.toNat, ⟨?_, trivial⟩, fun _ => trivial, by simp [one, Rows.uptoBulk]⟩
  unfold bV
  congr 2
  simp
  omega
theorem opens_int {t : TypeId} (ht : Try.prog.underlying t = some (.int .i64)) : Opens t encI any one := by
  intro H enc W base sp hd fuel cs x h
  obtain ⟨n, rfl, rfl, hw⟩ := DataW.trod_int ht h
  exact ⟨n, ⟨rfl, bounds_i64 hw⟩, fun _ => trivial, by simp [one, Rows.uptoBulk]⟩
theorem opens_str {t : TypeId} (ht : Try.prog.underlying t = some .string) : Opens t encS (fun l => l.length ≤ reachBytes) (fun l => l.length + 1) := by
  intro H enc W base sp hd fuel cs x h
  obtain ⟨s, rfl, rfl, hs⟩ := DataW.trod_string ht h
  refine ⟨s.data.toList, ⟨by show [Value.string s] = [Value.string (bstr s.data.toList)]; rw [bstr_data], by show s.data.toList.length ≤ maxLen; rw [Array.length_toList]; exact hs⟩, fun hw => hw _ (by simp [DataW.weights]), by simp [Rows.uptoBulk]⟩

theorem weightsAll_mem {H : Type} {P : Program} {e : TypeId} : ∀ {l : List (DataW H)} {d : DataW H} {n : Nat}, d ∈ l → n ∈ d.weights P e → n ∈ DataW.weightsAll P e l
  | x :: l, d, n, hd, hn => by
    rw [DataW.weightsAll, List.mem_append]
    rcases List.mem_cons.1 hd with e | e
    · subst e; exact .inl hn
    · exact .inr (weightsAll_mem e hn)

/-- A list of choices, one for each place. -/
theorem choose_list {α β : Type} {R : Nat → β → α → Prop} : ∀ (l : List β), (∀ (i : Nat) (b : β), l[i]? = some b → ∃ a, R i b a) → ∃ ys : List α, ys.length = l.length ∧ ∀ (i : Nat) (b : β), l[i]? = some b → ∃ a, ys[i]? = some a ∧ R i b a
  | [], _ => ⟨[], rfl, fun i b h => by simp at h⟩
  | b :: l, h => by
    obtain ⟨a, ha⟩ := h 0 b rfl
    obtain ⟨ys, hl, has⟩ := choose_list (R := fun i b a => R (i + 1) b a) l (fun i b' hb => h (i + 1) b' (by simpa using hb))
    refine ⟨a :: ys, by simp [hl], fun i b' hb => ?_⟩
    cases i with
    | zero => simp at hb; subst hb; exact ⟨a, rfl, ha⟩
    | succ i => exact has i b' (by simpa using hb)

theorem wtL_le {α H : Type} {wt : α → Nat} : ∀ (ys : List α) (ds : List (DataW H)), ys.length = ds.length → (∀ (i : Nat) (d : DataW H), ds[i]? = some d → ∃ a, ys[i]? = some a ∧ wt a ≤ Rows.uptoBulk d) → wtL wt ys ≤ Rows.uptoBulkAll ds + 1
  | [], [], _, _ => by simp [wtL, Rows.uptoBulkAll]
  | [], _ :: _, h, _ => by simp at h
  | _ :: _, [], h, _ => by simp at h
  | a :: ys, d :: ds, h, hh => by
    obtain ⟨a', e, h1⟩ := hh 0 d rfl
    simp at e
    subst e
    have := wtL_le ys ds (by simpa using h) (fun i d' hd => hh (i + 1) d' (by simpa using hd))
    simp only [wtL, Rows.uptoBulkAll]
    omega

theorem opens_sl {α : Type} {t e : TypeId} {E : Enc α} {fit : α → Prop} {wt : α → Nat} (ht : Try.prog.underlying t = some (.slice e)) (hC : Try.prog.cellsOf e = E.size) (he : Opens e E fit wt) :
    Opens t (slE E) (fun l => l.length * Try.prog.bytesOf e ≤ reachBytes ∧ ∀ a ∈ l, fit a) (wtL wt) := by
  intro H enc W base sp hd fuel cs x h
  rcases DataW.trod_slice ht h with ⟨rfl, rfl⟩ | ⟨a, len, cap, elems, rest, n, _, rfl, rfl, hb, hl, hm, hlen, hel, _⟩
  · exact ⟨[], ⟨none, 0, 0, rfl, Els.nil _ _ _ _ _, Nat.le_refl _, by simp [maxLen]⟩, fun _ => ⟨by simp, by simp⟩, by simp [wtL, Rows.uptoBulk]⟩
  · obtain ⟨ys, hal, has⟩ := choose_list (R := fun i (y : DataW H × List MemPlace) a' => ∃ r, W.cells? base (a.add (i * E.size)) E.size = some r ∧ E.R (ltS W) W r a' ∧ ((∀ n ∈ y.1.weights Try.prog e, n ≤ reachBytes) → fit a') ∧ wt a' ≤ Rows.uptoBulk y.1) elems (fun i y hy => by
      have hi : i < len := by rw [← hlen]; exact (List.getElem?_eq_some_iff.1 hy).1
      have h1 := hel i hi
      rw [hy, Option.bind_eq_some_iff, hC] at h1
      obtain ⟨r, hr, ht'⟩ := h1
      obtain ⟨a', h2, h3, h4⟩ := he H enc W base sp hd n r y ht'
      exact ⟨a', r, hr, h2, h3, h4⟩)
    refine ⟨ys, ⟨_, len, cap, rfl, ⟨hal.trans hlen, fun hn => ?_⟩, hl, hm⟩, fun hw => ⟨?_, fun a' ha' => ?_⟩, ?_⟩
    · have h0 : ∃ y, elems[0]? = some y := ⟨_, List.getElem?_eq_getElem (by omega)⟩
      obtain ⟨y, hy⟩ := h0
      obtain ⟨_, _, r, hr, hR, _⟩ := has 0 y hy
      have hcell := World.cells?_some hr
      have hpos := E.pos
      have h1 := hcell.2.2 0 hpos
      rw [Nat.zero_mul] at h1
      have hsome : W.cell? ((a.add 0).add 0) = some (r[0]'(by rw [hcell.2.1]; exact hpos)) := by rw [h1]; exact List.getElem?_eq_getElem _
      have hsp : a.spot = none := by
        have := World.cell?_spot hsome
        simpa [Addr.add] using this
      obtain ⟨b, off, spot⟩ := a
      simp only at hsp
      subst hsp
      have hlt := World.block_lt_of_cell? W _ hsome
      refine ⟨b, off, rfl, by simpa [ltS, Addr.add] using hlt, fun i a' ha' => ?_⟩
      have hi : i < elems.length := by rw [← hal]; exact (List.getElem?_eq_some_iff.1 ha').1
      obtain ⟨a'', e1, r', hr', hR', _⟩ := has i _ (List.getElem?_eq_getElem hi)
      rw [e1] at ha'
      injection ha' with ha'
      subst ha'
      refine ⟨r', hR', fun j u hu => ?_⟩
      have hj : j < E.size := by rw [← E.len hR']; exact (List.getElem?_eq_some_iff.1 hu).1
      have := (World.cells?_some hr').2.2 j hj
      rw [add_flat, add_flat, hu, Nat.add_assoc] at this
      exact this
    · have := hw ((elems.map (·.1)).length * Try.prog.bytesOf e + (rest.map (·.1)).length * Try.prog.bytesOf e) (by simp [DataW.weights, ht, Nat.add_mul])
      simp at this
      rw [hal]
      omega
    · obtain ⟨i, hi⟩ := List.getElem?_of_mem ha'
      have hil : i < elems.length := by rw [← hal]; exact (List.getElem?_eq_some_iff.1 hi).1
      obtain ⟨a'', e1, r', _, _, hf, _⟩ := has i _ (List.getElem?_eq_getElem hil)
      rw [e1] at hi
      injection hi with hi
      subst hi
      refine hf fun n hn => hw n ?_
      simp only [DataW.weights, ht, List.mem_cons, List.mem_append]
      exact .inr (.inl (weightsAll_mem (List.mem_map.2 ⟨_, List.getElem_mem hil, rfl⟩) hn))
    · have h1 := wtL_le (wt := wt) ys (elems.map (·.1)) (by simpa using hal) (fun i d hd' => by
        rw [List.getElem?_map] at hd'
        cases hi : elems[i]? with
        | none => rw [hi] at hd'; cases hd'
        | some y =>
          rw [hi] at hd'
          simp at hd'
          subst hd'
          obtain ⟨a', e1, r, _, _, _, h4⟩ := has i y hi
          exact ⟨a', e1, h4⟩)
      simp only [Rows.uptoBulk]
      omega

theorem len5 {α : Type} {l : List α} (h : l.length = 5) : ∃ a0 a1 a2 a3 a4, l = [a0, a1, a2, a3, a4] := by
  match l, h with
  | [a0, a1, a2, a3, a4], _ => exact ⟨a0, a1, a2, a3, a4, rfl⟩
theorem len9 {α : Type} {l : List α} (h : l.length = 9) : ∃ a0 a1 a2 a3 a4 a5 a6 a7 a8, l = [a0, a1, a2, a3, a4, a5, a6, a7, a8] := by
  match l, h with
  | [a0, a1, a2, a3, a4, a5, a6, a7, a8], _ => exact ⟨a0, a1, a2, a3, a4, a5, a6, a7, a8, rfl⟩
/-- A struct's fields, each with its own reading. -/
theorem trod_fields {H : Type} {enc : TypeId × Value → H} {W : World} {base fuel : Nat} {sp : Nat → Bool} {hd : Bool} {t : TypeId} {fs : Array Field} {cs : List Value} {x : DataW H × List MemPlace}
    (ht : Try.prog.underlying t = some (.struct fs)) (h : DataW.trod enc Try.prog W base sp hd fuel t cs = some x) :
    ∃ (xs : List (DataW H × List MemPlace)) (n : Nat), x.1 = .agg (xs.map (·.1)) ∧ cs.length = Try.prog.cellsOf t ∧ xs.length = fs.size ∧
      (∀ (i : Nat) (f : Field), fs[i]? = some f → ∃ y, xs[i]? = some y ∧ DataW.trod enc Try.prog W base sp hd n f.type ((cs.drop f.offset).take (Try.prog.cellsOf f.type)) = some y) ∧
      ∀ k, (∀ n ∈ x.1.weights Try.prog t, n ≤ k) → ∀ n ∈ DataW.weightsEach Try.prog (fs.toList.map (·.type)) (xs.map (·.1)), n ≤ k := by
  obtain ⟨xs, n, _, hx, hc, hl, hf⟩ := DataW.trod_struct ht h
  subst hx
  refine ⟨xs, n, rfl, hc, hl, fun i f hi => ?_, fun k hk n hn => hk n (by simpa only [DataW.weights, ht] using hn)⟩
  have hil : i < xs.length := by rw [hl]; exact (Array.getElem?_eq_some_iff.1 hi).1
  have h1 := hf i f hi
  rw [List.getElem?_eq_getElem hil] at h1
  exact ⟨_, List.getElem?_eq_getElem hil, h1⟩
end Go.Proofs.Ytimkdpkhdbiniaa

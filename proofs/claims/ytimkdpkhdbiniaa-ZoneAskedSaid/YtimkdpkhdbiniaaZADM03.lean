/- Parts of a proof, joined: PushE, Eqs, Small, EqN, Da, Clone1, Strs2. -/
import Derived.Deep.RegionHeld3
import Derived.Deep.AppendLies
import Derived.Test.YtimkdpkhdbiniaaZADM01
import Derived.Test.YtimkdpkhdbiniaaZADM02
import Derived.Test.YtimkdpkhdbiniaaZADM02b
/- append(s, y), as a step of a region that draws its order. -/
namespace Go.Proofs.Ytimkdpkhdbiniaa
open Go.RowKit

theorem step_pushE {α : Type} {P : Program} {T e : TypeId} {E : Enc α} {bytes : Nat} {w : World} (ht : ElT P T e E bytes) {ops : Array Oper} {o : Oper} {a : Act} {K : Act → World → Prop} {Q : Exit → Act → World → Prop} {X : Prop} (hgd : Region.wanted o (yielded ops a.tmps) = true) (s x : Operand)
    (ho : o.op = .call { callee := .builtin .append, args := #[s, x], argTypes := #[T, T] })
    (base : Nat) (v : Value) (xs : List α) {S : Nat → Prop} (hs : a.eval s = v) (hown : OwnE E e S w base v xs) (r : List Value) (y : α) {S' : Nat → Prop} (hr : E.R S' w r y) (hS' : ∀ b, S' b → b < w.heap.size ∧ some b ≠ v.ownBlock)
    {g : Nat} (hx : a.eval x = .slice (some ⟨g, 0, none⟩) 1 1) (hb : (xs.length + 1) * bytes ≤ 140737488355328) (hl : xs.length + 1 ≤ maxLen) (hbase : base ≤ w.heap.size)
    (h : ∀ v' w', OwnE E e (orS S S') w' base v' (xs ++ [y]) → w.grownBy w' v.ownBlock → (v'.ownBlock = v.ownBlock ∨ v'.ownBlock = some (w.heap.size + 1)) → K (a.put o.dst v') w') (hgs : g = w.heap.size) :
    if Region.wanted o (yielded ops a.tmps) = true then Oper.wp P o a (w.alloc (.cells r.toArray e)) K Q else X := by
  rw [if_pos hgd]
  subst hgs
  obtain ⟨hT, i, z, hi, hz, hsz, hby, hzc⟩ := ht
  have hlt := hown.lt
  obtain ⟨cells, hw, hread, hS⟩ := hown
  have hrl := E.len hr
  refine wp_append_any (P := P) s x _ ho base e i z E.size bytes hT hi hz hsz hby hzc E.pos v xs.length _ hs (hw.alloc _) _ 1 1 r hx ⟨by rw [hrl, Nat.one_mul], fun _ => ⟨w.heap.size, 0, rfl, fun j u hu => ?_⟩⟩ (E.one hr) hl (by simpa using hb) (by simp; omega) fun v' w' h1 h2 h3 => h v' w' ?_ ((World.grownBy_alloc w _ _).trans h2) (by simpa using h3)
  · have := (World.ownsRow_lit (base := 0) (e := e) (size := E.size) w r.toArray 1 (Nat.zero_le _) (by simp [maxLen]) (by simp [hrl])).cells (g := w.heap.size) rfl j u (by simpa using hu)
    rwa [add_flat] at this
  · have hbl : ∀ b, b < w.heap.size → some b ≠ v.ownBlock → w'.heap[b]? = w.heap[b]? := fun b hb1 hb2 => ((World.grownBy_alloc w _ _).trans h2).block b hb1 hb2
    have hsize : w.heap.size ≤ w'.heap.size := ((World.grownBy_alloc w _ v.ownBlock).trans h2).size
    refine ⟨cells ++ r, by rw [List.length_append]; exact h1, fun j y' hy => ?_, fun b hb' => ?_⟩
    · by_cases hj : j < xs.length
      · rw [List.getElem?_append_left hj] at hy
        rw [chunk hw.1 hy rfl]
        exact E.mono (fun b hb' => .inl hb') (E.keep (fun b hb' => hbl b (hS b hb').1 (hS b hb').2) (hread j y' hy))
      · rw [List.getElem?_append_right (by omega)] at hy
        have hj0 : j = xs.length := by
          have := (List.getElem?_eq_some_iff.1 hy).1
          simp at this
          omega
        subst hj0
        simp at hy
        subst hy
        rw [List.drop_append_of_le_length (by rw [hw.1]; omega), List.drop_of_length_le (by rw [hw.1]; omega), List.nil_append, List.take_of_length_le (by omega)]
        exact E.mono (fun b hb' => .inr hb') (E.keep (fun b hb' => hbl b (hS' b hb').1 (hS' b hb').2) hr)
    · have hb2 : b < w.heap.size ∧ some b ≠ v.ownBlock := hb'.elim (fun h => hS b h) (fun h => hS' b h)
      refine ⟨Nat.lt_of_lt_of_le hb2.1 hsize, ?_⟩
      rcases h3 with h3 | h3
      · rw [h3]; exact hb2.2
      · rw [h3]
        intro hc
        injection hc with hc
        simp at hc
        omega
end Go.Proofs.Ytimkdpkhdbiniaa

/- slices.Equal of bytes, numbers, strings; the reference's Ints and texts. -/
namespace Go.Proofs.Ytimkdpkhdbiniaa
open Go.RowKit
set_option maxRecDepth 100000

theorem ints_at {So Si : Nat → Prop} {w : World} {A : Option Addr} {n : Nat} {ns : List Int} (h : Els encI So Si w A n ns) {k : Nat} {l : Int} (hx : ns[k]? = some l) :
    ∃ b off, A = some ⟨b, off, none⟩ ∧ So b ∧ w.cell? ⟨b, off + k, none⟩ = some (.int .i64 l) ∧ -9223372036854775808 ≤ l ∧ l ≤ 9223372036854775807 := by
  obtain ⟨b, off, rfl, hs, hat⟩ := h.flat (by rw [← h.len]; exact Nat.lt_of_le_of_lt (Nat.zero_le k) (List.getElem?_eq_some_iff.1 hx).1)
  obtain ⟨r, ⟨rfl, hl⟩, hc⟩ := hat k l hx
  exact ⟨b, off, rfl, hs, by simpa [encI, flatE] using hc 0 _ rfl, hl⟩

set_option maxHeartbeats 1000000 in
theorem seqB_any (A A' : Option Addr) (n c n' c' : Nat) (xs ys : List UInt8) (w : World) (hx : RdB w A n xs) (hy : RdB w A' n' ys) (hn : n ≤ maxLen) (hn' : n' ≤ maxLen) :
    Calls Try.prog 186 #[.slice A n c, .slice A' n' c'] w (RetN (.bool (decide (xs = ys))) w) := by
  unfold maxLen at hn hn'
  have hlx := Lib.hid hx.len
  have hly := Lib.hid hy.len
  by_cases hnn : n = n'
  · subst hnn
    go_enter Try.func186, Try.ntmps186
    go_wp2
    go_loopw [13] (fun i wr => ∃ k m : Nat, i = .int .i64 k ∧ k ≤ n ∧ wr = w.drewN m ∧ xs.take k = ys.take k) (fun i _ => n - (intOf i).toNat)
    case atStart => exact ⟨0, 0, rfl, Nat.zero_le _, rfl, rfl⟩
    case round =>
      obtain ⟨k, m, rfl, hk, rfl, ht⟩ := hrel
      have HT := Lib.hid ht
      clear ht
      by_cases hlt : k < n
      · obtain ⟨b, off, x, rfl, gx, cx⟩ := hx.at_ hlt
        obtain ⟨b', off', y, rfl, gy, cy⟩ := hy.at_ hlt
        have GX := Lib.hid gx
        have GY := Lib.hid gy
        clear gx gy
        by_cases hxy : x = y
        · subst hxy
          go_wp2
          go_quiet (fail)
          go_wp2
          go_roundw
          case rel => exact ⟨k + 1, _, by go_num, by omega, rfl, take_eq_succ HT.out GX.out GY.out rfl⟩
          case measure => simp [intOf]; omega
        · have hbne : ((x.toNat : Int) != (y.toNat : Int)) = true := by rw [bne_iff_ne]; exact fun e => hxy (u8_eq e)
          go_wp2
          go_quiet (fail)
          go_wp2
          go_ret
          exact ⟨ret_bool (decide_eq_false (ne_of_get GX.out GY.out hxy)).symm, _, World.drewN_drewN _ _ _⟩
      · go_wp2
        go_ret
        have hk' : k = n := by omega
        refine ⟨ret_bool (decide_eq_true ?_).symm, _, rfl⟩
        have := HT.out
        rwa [hk', List.take_of_length_le (by rw [hlx.out]; omega), List.take_of_length_le (by rw [hly.out]; omega)] at this
  · have hb : ((n : Int) != (n' : Int)) = true := by rw [bne_iff_ne]; omega
    go_enter Try.func186, Try.ntmps186
    go_wp2
    go_ret
    refine ⟨ret_bool (decide_eq_false ?_).symm, 0, rfl⟩
    rintro rfl
    exact hnn (hlx.out.symm.trans hly.out)

set_option maxHeartbeats 1000000 in
theorem seqI_any (A A' : Option Addr) (n c n' c' : Nat) (xs ys : List Int) (w : World) {So Si So' Si' : Nat → Prop} (hx : Els encI So Si w A n xs) (hy : Els encI So' Si' w A' n' ys) (hn : n ≤ maxLen) (hn' : n' ≤ maxLen) :
    Calls Try.prog 187 #[.slice A n c, .slice A' n' c'] w (RetN (.bool (decide (xs = ys))) w) := by
  unfold maxLen at hn hn'
  have hlx := Lib.hid hx.len
  have hly := Lib.hid hy.len
  by_cases hnn : n = n'
  · subst hnn
    go_enter Try.func187, Try.ntmps187
    go_wp2
    go_loopw [13] (fun i wr => ∃ k m : Nat, i = .int .i64 k ∧ k ≤ n ∧ wr = w.drewN m ∧ xs.take k = ys.take k) (fun i _ => n - (intOf i).toNat)
    case atStart => exact ⟨0, 0, rfl, Nat.zero_le _, rfl, rfl⟩
    case round =>
      obtain ⟨k, m, rfl, hk, rfl, ht⟩ := hrel
      have HT := Lib.hid ht
      clear ht
      by_cases hlt : k < n
      · obtain ⟨x, gx⟩ : ∃ x, xs[k]? = some x := ⟨_, List.getElem?_eq_getElem (by rw [hlx.out]; exact hlt)⟩
        obtain ⟨y, gy⟩ : ∃ y, ys[k]? = some y := ⟨_, List.getElem?_eq_getElem (by rw [hly.out]; exact hlt)⟩
        obtain ⟨b, off, rfl, _, cx, _⟩ := ints_at hx gx
        obtain ⟨b', off', rfl, _, cy, _⟩ := ints_at hy gy
        have GX := Lib.hid gx
        have GY := Lib.hid gy
        clear gx gy
        by_cases hxy : x = y
        · subst hxy
          go_wp2
          go_quiet (fail)
          go_wp2
          go_roundw
          case rel => exact ⟨k + 1, _, by go_num, by omega, rfl, take_eq_succ HT.out GX.out GY.out rfl⟩
          case measure => simp [intOf]; omega
        · have hbne : (x != y) = true := by rw [bne_iff_ne]; exact hxy
          go_wp2
          go_quiet (fail)
          go_wp2
          go_ret
          exact ⟨ret_bool (decide_eq_false (ne_of_get GX.out GY.out hxy)).symm, _, World.drewN_drewN _ _ _⟩
      · go_wp2
        go_ret
        have hk' : k = n := by omega
        refine ⟨ret_bool (decide_eq_true ?_).symm, _, rfl⟩
        have := HT.out
        rwa [hk', List.take_of_length_le (by rw [hlx.out]; omega), List.take_of_length_le (by rw [hly.out]; omega)] at this
  · have hb : ((n : Int) != (n' : Int)) = true := by rw [bne_iff_ne]; omega
    go_enter Try.func187, Try.ntmps187
    go_wp2
    go_ret
    refine ⟨ret_bool (decide_eq_false ?_).symm, 0, rfl⟩
    rintro rfl
    exact hnn (hlx.out.symm.trans hly.out)

set_option maxHeartbeats 1000000 in
theorem seqS_any (A A' : Option Addr) (n c n' c' : Nat) (xs ys : List (List UInt8)) (w : World) {So Si So' Si' : Nat → Prop} (hx : Els encS So Si w A n xs) (hy : Els encS So' Si' w A' n' ys) (hn : n ≤ maxLen) (hn' : n' ≤ maxLen) :
    Calls Try.prog 188 #[.slice A n c, .slice A' n' c'] w (RetN (.bool (decide (xs = ys))) w) := by
  unfold maxLen at hn hn'
  have hlx := Lib.hid hx.len
  have hly := Lib.hid hy.len
  by_cases hnn : n = n'
  · subst hnn
    go_enter Try.func188, Try.ntmps188
    go_wp2
    go_loopw [13] (fun i wr => ∃ k m : Nat, i = .int .i64 k ∧ k ≤ n ∧ wr = w.drewN m ∧ xs.take k = ys.take k) (fun i _ => n - (intOf i).toNat)
    case atStart => exact ⟨0, 0, rfl, Nat.zero_le _, rfl, rfl⟩
    case round =>
      obtain ⟨k, m, rfl, hk, rfl, ht⟩ := hrel
      have HT := Lib.hid ht
      clear ht
      by_cases hlt : k < n
      · obtain ⟨x, gx⟩ : ∃ x, xs[k]? = some x := ⟨_, List.getElem?_eq_getElem (by rw [hlx.out]; exact hlt)⟩
        obtain ⟨y, gy⟩ : ∃ y, ys[k]? = some y := ⟨_, List.getElem?_eq_getElem (by rw [hly.out]; exact hlt)⟩
        obtain ⟨b, off, rfl, _, cx, _⟩ := strs_at hx gx
        obtain ⟨b', off', rfl, _, cy, _⟩ := strs_at hy gy
        have GX := Lib.hid gx
        have GY := Lib.hid gy
        clear gx gy
        by_cases hxy : x = y
        · subst hxy
          go_wp2
          go_quiet (fail)
          go_wp2
          go_roundw
          case rel => exact ⟨k + 1, _, by go_num, by omega, rfl, take_eq_succ HT.out GX.out GY.out rfl⟩
          case measure => simp [intOf]; omega
        · have hbne : ((bstr x).toList == (bstr y).toList) = false := by rw [bstr_toList, bstr_toList, beq_eq_false_iff_ne]; exact hxy
          go_wp2
          go_quiet (fail)
          go_wp2
          go_ret
          exact ⟨ret_bool (decide_eq_false (ne_of_get GX.out GY.out hxy)).symm, _, World.drewN_drewN _ _ _⟩
      · go_wp2
        go_ret
        have hk' : k = n := by omega
        refine ⟨ret_bool (decide_eq_true ?_).symm, _, rfl⟩
        have := HT.out
        rwa [hk', List.take_of_length_le (by rw [hlx.out]; omega), List.take_of_length_le (by rw [hly.out]; omega)] at this
  · have hb : ((n : Int) != (n' : Int)) = true := by rw [bne_iff_ne]; omega
    go_enter Try.func188, Try.ntmps188
    go_wp2
    go_ret
    refine ⟨ret_bool (decide_eq_false ?_).symm, 0, rfl⟩
    rintro rfl
    exact hnn (hlx.out.symm.trans hly.out)

set_option maxHeartbeats 1000000 in
theorem rints_any (A A' : Option Addr) (n c n' c' : Nat) (xs ys : List Int) (w : World) {So Si So' Si' : Nat → Prop} (hx : Els encI So Si w A n xs) (hy : Els encI So' Si' w A' n' ys) (hn : n ≤ maxLen) (hn' : n' ≤ maxLen) :
    Calls Try.prog 132 #[.slice A n c, .slice A' n' c'] w (RetN (.bool (decide (xs = ys))) w) := by
  unfold maxLen at hn hn'
  have hlx := Lib.hid hx.len
  have hly := Lib.hid hy.len
  by_cases hnn : n = n'
  · subst hnn
    go_enter Try.func132, Try.ntmps132
    go_wp2
    go_loopw [5] (fun i wr => ∃ k m : Nat, i = .int .i64 k ∧ k ≤ n ∧ wr = w.drewN m ∧ xs.take k = ys.take k) (fun i _ => n - (intOf i).toNat)
    case atStart => exact ⟨0, 0, rfl, Nat.zero_le _, rfl, rfl⟩
    case round =>
      obtain ⟨k, m, rfl, hk, rfl, ht⟩ := hrel
      have HT := Lib.hid ht
      clear ht
      by_cases hlt : k < n
      · obtain ⟨x, gx⟩ : ∃ x, xs[k]? = some x := ⟨_, List.getElem?_eq_getElem (by rw [hlx.out]; exact hlt)⟩
        obtain ⟨y, gy⟩ : ∃ y, ys[k]? = some y := ⟨_, List.getElem?_eq_getElem (by rw [hly.out]; exact hlt)⟩
        obtain ⟨b, off, rfl, _, cx, _⟩ := ints_at hx gx
        obtain ⟨b', off', rfl, _, cy, _⟩ := ints_at hy gy
        have GX := Lib.hid gx
        have GY := Lib.hid gy
        clear gx gy
        by_cases hxy : x = y
        · subst hxy
          go_wp2
          go_quiet (fail)
          go_wp2
          go_roundw
          case rel => exact ⟨k + 1, _, by go_num, by omega, rfl, take_eq_succ HT.out GX.out GY.out rfl⟩
          case measure => simp [intOf]; omega
        · have hbne : (x != y) = true := by rw [bne_iff_ne]; exact hxy
          go_wp2
          go_quiet (fail)
          go_wp2
          go_ret
          exact ⟨ret_bool (decide_eq_false (ne_of_get GX.out GY.out hxy)).symm, _, World.drewN_drewN _ _ _⟩
      · go_wp2
        go_ret
        have hk' : k = n := by omega
        refine ⟨ret_bool (decide_eq_true ?_).symm, _, rfl⟩
        have := HT.out
        rwa [hk', List.take_of_length_le (by rw [hlx.out]; omega), List.take_of_length_le (by rw [hly.out]; omega)] at this
  · have hb : ((n : Int) != (n' : Int)) = true := by rw [bne_iff_ne]; omega
    go_enter Try.func132, Try.ntmps132
    go_wp2
    go_ret
    refine ⟨ret_bool (decide_eq_false ?_).symm, 0, rfl⟩
    rintro rfl
    exact hnn (hlx.out.symm.trans hly.out)

theorem rtexts_any (A A' : Option Addr) (n c n' c' : Nat) (xs ys : List (List UInt8)) (w : World) {So Si So' Si' : Nat → Prop} (hx : Els encS So Si w A n xs) (hy : Els encS So' Si' w A' n' ys) (hn : n ≤ maxLen) (hn' : n' ≤ maxLen) :
    Calls Try.prog 133 #[.slice A n c, .slice A' n' c'] w (RetN (.bool (decide (xs = ys))) w) := by
  go_enter Try.func133, Try.ntmps133
  go_wp2_with (go_at_call 28; refine (rexact_any _ _ _ _ _ _ xs ys _ hx hy hn hn').mono ?_; rintro e w1 ⟨rfl, m1, rfl⟩)
  go_ret
  exact ⟨rfl, m1, rfl⟩
end Go.Proofs.Ytimkdpkhdbiniaa

/- Small letters: the program's and the reference's; names that are the same but for their letters' cases. -/
namespace Go.Proofs.Ytimkdpkhdbiniaa
open Go.RowKit
set_option maxRecDepth 100000

def smallC (c : UInt8) : UInt8 := if 65 ≤ c.toNat ∧ c.toNat ≤ 90 then UInt8.ofNat (c.toNat + 32) else c
def smallL (l : List UInt8) : List UInt8 := l.map smallC
def lowN (n : List (List UInt8)) : List (List UInt8) := n.map smallL

theorem heap_set_any {w : World} {g : Nat} {cur : Array Value} {e : TypeId} {fz : Nat × Nat} (hg : w.heap[g]? = some (.cells cur e fz)) (k : Nat) (v : Value) : (w.setCell ⟨g, k, none⟩ v).heap[g]? = some (.cells (cur.setIfInBounds k v) e fz) := by
  simp [World.setCell, Array.getElem?_modify, hg]
/-- A row of bytes that a conversion made. -/
def BRow (w : World) (g : Nat) (bs : List UInt8) : Prop :=
  ∃ (cur : Array Value) (lo hi : Nat), w.heap[g]? = some (.cells cur 5 (lo, hi)) ∧ bs.length ≤ lo ∧ bs.length ≤ cur.size ∧ ∀ (j : Nat) (x : UInt8), bs[j]? = some x → cur[j]? = some (.int .u8 (x.toNat : Int))
section
variable {w w' : World} {g : Nat} {bs : List UInt8}
theorem BRow.made (w : World) (l : List UInt8) : BRow (Lib.bytesWorld w 5 (bstr l)) w.heap.size l := by
  have hz : (Lib.bytesCells w 5 (bstr l)).size = l.length + (grownCap w (bstr l).size 0 5 - (bstr l).size) := by
    have := bstr_size l
    unfold ByteArray.size at this
    simp [Lib.bytesCells, this]
  refine ⟨_, _, _, Lib.bytesWorld_at_new w _ _, by omega, by omega, fun j x hx => ?_⟩
  have hj : j < l.length := (List.getElem?_eq_some_iff.1 hx).1
  have h := Lib.bytesWorld_cell w 5 (bstr l) j (by rw [bstr_size]; exact hj)
  have e : (bstr l).data.toList = l := by simp [bstr]
  rw [e, List.getD_eq_getElem?_getD, hx] at h
  unfold World.cell? at h
  rw [Lib.bytesWorld_at_new] at h
  exact h
theorem BRow.cell (h : BRow w g bs) {j : Nat} {x : UInt8} (hx : bs[j]? = some x) : w.cell? ⟨g, j, none⟩ = some (.int .u8 (x.toNat : Int)) := by
  obtain ⟨cur, lo, hi, hg, _, _, hc⟩ := h
  unfold World.cell?
  rw [hg]
  exact hc j x hx
theorem BRow.free (h : BRow w g bs) {j : Nat} (hj : j < bs.length) : w.frozen? ⟨g, j, none⟩ = false := by
  obtain ⟨cur, lo, hi, hg, hl, _⟩ := h
  unfold World.frozen?
  rw [hg]
  show (decide (lo ≤ j) && _) = false
  rw [decide_eq_false (by omega), Bool.false_and]
theorem BRow.rd (h : BRow w g bs) : RdB w (some ⟨g, 0, none⟩) bs.length bs := by
  refine ⟨by simp, fun _ => ⟨g, 0, rfl, fun j u hu => ?_⟩⟩
  rw [List.getElem?_map] at hu
  obtain ⟨x, hx, rfl⟩ := Option.map_eq_some_iff.1 hu
  rw [Nat.zero_add]
  exact h.cell hx
theorem BRow.set (h : BRow w g bs) (k : Nat) (y : UInt8) : BRow (w.setCell ⟨g, k, none⟩ (.int .u8 (y.toNat : Int))) g (bs.set k y) := by
  obtain ⟨cur, lo, hi, hg, hl, hs, hc⟩ := h
  refine ⟨cur.setIfInBounds k (.int .u8 (y.toNat : Int)), lo, hi, heap_set_any hg k _, by rw [List.length_set]; exact hl, by rw [List.length_set, Array.size_setIfInBounds]; exact hs, fun j x hx => ?_⟩
  rw [List.getElem?_set] at hx
  by_cases e : k = j
  · subst e
    rw [if_pos rfl] at hx
    by_cases hk : k < bs.length
    · rw [if_pos hk] at hx
      injection hx with hx
      subst hx
      rw [Array.getElem?_setIfInBounds_self_of_lt (by omega)]
    · rw [if_neg hk] at hx
      cases hx
  · rw [if_neg e] at hx
    rw [Array.getElem?_setIfInBounds_ne e]
    exact hc j x hx
theorem BRow.below (h : BRow w g bs) (hb : Below w.heap.size w w') : BRow w' g bs := by
  obtain ⟨cur, lo, hi, hg, h1⟩ := h
  exact ⟨cur, lo, hi, (hb.block g (Array.getElem?_eq_some_iff.1 hg).1).trans hg, h1⟩
end
/-- The first few letters are small. -/
def someL (l : List UInt8) (k : Nat) : List UInt8 := (l.take k).map smallC ++ l.drop k
theorem someL_all (l : List UInt8) : someL l l.length = smallL l := by simp [someL, smallL]
theorem someL_length (l : List UInt8) (k : Nat) (hk : k ≤ l.length) : (someL l k).length = l.length := by simp [someL]; omega
theorem someL_at {l : List UInt8} {k : Nat} {x : UInt8} (hx : l[k]? = some x) : (someL l k)[k]? = some x := by
  have hk := (List.getElem?_eq_some_iff.1 hx).1
  unfold someL
  rw [List.getElem?_append_right (by simp; omega), List.length_map, List.length_take, Nat.min_eq_left (by omega), Nat.sub_self, List.getElem?_drop, Nat.add_zero, hx]
theorem someL_succ {l : List UInt8} {k : Nat} {x : UInt8} (hx : l[k]? = some x) : (someL l k).set k (smallC x) = someL l (k + 1) := by
  have hk := (List.getElem?_eq_some_iff.1 hx).1
  unfold someL
  rw [List.set_append_right _ _ (by simp; omega), List.length_map, List.length_take, Nat.min_eq_left (by omega), Nat.sub_self, List.drop_eq_getElem_cons hk, List.set_cons_zero, List.take_add_one, hx]
  simp
theorem someL_same {l : List UInt8} {k : Nat} {x : UInt8} (hx : l[k]? = some x) (h : smallC x = x) : someL l (k + 1) = someL l k := by
  have h1 := someL_at hx
  rw [← someL_succ hx, h]
  obtain ⟨hk, e⟩ := List.getElem?_eq_some_iff.1 h1
  rw [← e]
  exact List.set_getElem_self hk
theorem smallC_hi {x : UInt8} (h1 : 65 ≤ x.toNat) (h2 : x.toNat ≤ 90) : ((smallC x).toNat : Int) = x.toNat + 97 - 65 := by
  unfold smallC
  rw [if_pos ⟨h1, h2⟩, UInt8.toNat_ofNat']
  omega
theorem smallC_lo {x : UInt8} (h : ¬ (65 ≤ x.toNat ∧ x.toNat ≤ 90)) : smallC x = x := by unfold smallC; rw [if_neg h]

set_option maxHeartbeats 1000000 in
theorem small_any (l : List UInt8) (hl : l.length ≤ 9223372036854775807) (w : World) :
    Calls Try.prog 99 #[.string (bstr l)] w (RetP (fun v _ => v = .string (bstr (smallL l))) w) := by
  have hcb := fun W : World => Lib.run_convert_string_bytes (P := Try.prog) W 9 22 5 (bstr l) Try.underlying9 Try.underlying22 Try.underlying5
  have hbs := bstr_size l
  obtain ⟨w1, hw1⟩ : ∃ w1, w1 = Lib.bytesWorld w 5 (bstr l) := ⟨_, rfl⟩
  have HB1 : Hid (BRow w1 w.heap.size l) := by show BRow _ _ _; rw [hw1]; exact BRow.made w l
  have hb1 : Below w.heap.size w w1 := by rw [hw1]; exact (conv_rd w l).2
  go_enter Try.func99, Try.ntmps99
  go_upto_region 2 with (fail)
  rw [← hw1]
  clear hw1 hcb
  go_wp2
  go_loopw [10] (fun iv wr => ∃ k : Nat, iv = .int .i64 k ∧ k ≤ l.length ∧ Hid (BRow wr w.heap.size (someL l k)) ∧ Below w.heap.size w wr) (fun iv _ => l.length - (intOf iv).toNat)
  case atStart => exact ⟨0, rfl, Nat.zero_le _, HB1, hb1⟩
  case round =>
    obtain ⟨k, rfl, hk, HB, hbw⟩ := hrel
    clear HB1 hb1
    have hsl := Lib.hid (someL_length l k hk)
    by_cases hlt : k < l.length
    · obtain ⟨x, hx⟩ : ∃ x, l[k]? = some x := ⟨_, List.getElem?_eq_getElem hlt⟩
      have hcx := HB.out.cell (someL_at hx)
      have hfx := HB.out.free (j := k) (by rw [hsl.out]; exact hlt)
      have HX := Lib.hid hx
      have hx8 := x.toNat_lt
      clear hx
      by_cases h1 : 65 ≤ x.toNat ∧ x.toNat ≤ 90
      · obtain ⟨h1, h2⟩ := h1
        have HE := Lib.hid (smallC_hi h1 h2)
        have hset := HB.out.set k (smallC x)
        rw [HE.out, someL_succ HX.out] at hset
        have HS := Lib.hid hset
        clear hset
        go_wp2
        go_roundw
        case rel => exact ⟨k + 1, by go_num, by omega, HS.out, hbw.setCell (Nat.le_refl _) _⟩
        case measure => simp [intOf]; omega
      · have HS := Lib.hid (someL_same HX.out (smallC_lo h1))
        by_cases h2 : x.toNat < 65
        · clear h1
          go_wp2
          go_roundw
          case rel => exact ⟨k + 1, by go_num, by omega, by rw [HS.out]; exact HB, hbw⟩
          case measure => simp [intOf]; omega
        · have h3 : 90 < x.toNat := by omega
          clear h1
          go_wp2
          go_roundw
          case rel => exact ⟨k + 1, by go_num, by omega, by rw [HS.out]; exact HB, hbw⟩
          case measure => simp [intOf]; omega
    · have hke : k = l.length := by omega
      have hrd := HB.out.rd
      rw [hsl.out, hke, someL_all] at hrd
      have hcv := fun (c : Nat) => conv_str (P := Try.prog) _ _ _ Try.underlying22 Try.underlying5 Try.underlying9 wr (some ⟨w.heap.size, 0, none⟩) l.length c (smallL l) hrd
      go_wp2
      go_ret
      exact ⟨_, rfl, rfl, hbw⟩
end Go.Proofs.Ytimkdpkhdbiniaa

/- Names that are the same but for their letters' cases. -/
namespace Go.Proofs.Ytimkdpkhdbiniaa
open Go.RowKit
set_option maxRecDepth 100000

theorem smallC_hi2 {x : UInt8} (h1 : 65 ≤ x.toNat) (h2 : x.toNat ≤ 90) : ((smallC x).toNat : Int) = x.toNat + 32 := by
  rw [smallC_hi h1 h2]; omega

set_option maxHeartbeats 1000000 in
theorem rsmall_any (l : List UInt8) (hl : l.length ≤ 9223372036854775807) (w : World) :
    Calls Try.prog 131 #[.string (bstr l)] w (RetP (fun v _ => v = .string (bstr (smallL l))) w) := by
  have hcb := fun W : World => Lib.run_convert_string_bytes (P := Try.prog) W 9 22 5 (bstr l) Try.underlying9 Try.underlying22 Try.underlying5
  have hbs := bstr_size l
  obtain ⟨w1, hw1⟩ : ∃ w1, w1 = Lib.bytesWorld w 5 (bstr l) := ⟨_, rfl⟩
  have HB1 : Hid (BRow w1 w.heap.size l) := by show BRow _ _ _; rw [hw1]; exact BRow.made w l
  have hb1 : Below w.heap.size w w1 := by rw [hw1]; exact (conv_rd w l).2
  go_enter Try.func131, Try.ntmps131
  go_upto_region 2 with (fail)
  rw [← hw1]
  clear hw1 hcb
  go_wp2
  go_loopw [4] (fun iv wr => ∃ k : Nat, iv = .int .i64 k ∧ k ≤ l.length ∧ Hid (BRow wr w.heap.size (someL l k)) ∧ Below w.heap.size w wr) (fun iv _ => l.length - (intOf iv).toNat)
  case atStart => exact ⟨0, rfl, Nat.zero_le _, HB1, hb1⟩
  case round =>
    obtain ⟨k, rfl, hk, HB, hbw⟩ := hrel
    clear HB1 hb1
    have hsl := Lib.hid (someL_length l k hk)
    by_cases hlt : k < l.length
    · obtain ⟨x, hx⟩ : ∃ x, l[k]? = some x := ⟨_, List.getElem?_eq_getElem hlt⟩
      have hcx := HB.out.cell (someL_at hx)
      have hfx := HB.out.free (j := k) (by rw [hsl.out]; exact hlt)
      have HX := Lib.hid hx
      have hx8 := x.toNat_lt
      clear hx
      by_cases h1 : 65 ≤ x.toNat ∧ x.toNat ≤ 90
      · obtain ⟨h1, h2⟩ := h1
        have HE := Lib.hid (smallC_hi2 h1 h2)
        have hset := HB.out.set k (smallC x)
        rw [HE.out, someL_succ HX.out] at hset
        have HS := Lib.hid hset
        clear hset
        go_wp2
        go_roundw
        case rel => exact ⟨k + 1, by go_num, by omega, HS.out, hbw.setCell (Nat.le_refl _) _⟩
        case measure => simp [intOf]; omega
      · have HS := Lib.hid (someL_same HX.out (smallC_lo h1))
        by_cases h2 : x.toNat < 65
        · clear h1
          go_wp2
          go_roundw
          case rel => exact ⟨k + 1, by go_num, by omega, by rw [HS.out]; exact HB, hbw⟩
          case measure => simp [intOf]; omega
        · have h3 : 90 < x.toNat := by omega
          clear h1
          go_wp2
          go_roundw
          case rel => exact ⟨k + 1, by go_num, by omega, by rw [HS.out]; exact HB, hbw⟩
          case measure => simp [intOf]; omega
    · have hke : k = l.length := by omega
      have hrd := HB.out.rd
      rw [hsl.out, hke, someL_all] at hrd
      have hcv := fun (c : Nat) => conv_str (P := Try.prog) _ _ _ Try.underlying22 Try.underlying5 Try.underlying9 wr (some ⟨w.heap.size, 0, none⟩) l.length c (smallL l) hrd
      go_wp2
      go_ret
      exact ⟨_, rfl, rfl, hbw⟩

theorem bstr_beq (x y : List UInt8) : ((bstr x).toList == (bstr y).toList) = decide (x = y) := by
  rw [bstr_toList, bstr_toList]
  by_cases h : x = y
  · rw [h, decide_eq_true rfl]; simp
  · rw [decide_eq_false h, beq_eq_false_iff_ne]; exact h

theorem nameEq1_any (x y : List UInt8) (hx : x.length ≤ maxLen) (hy : y.length ≤ maxLen) (w : World) :
    Calls Try.prog 98 #[.string (bstr x), .string (bstr y)] w (RetP (fun v _ => v = .bool (decide (smallL x = smallL y))) w) := by
  unfold maxLen at hx hy
  have hq := bstr_beq (smallL x) (smallL y)
  go_enter Try.func98, Try.ntmps98
  go_wp2_with (first
    | (go_at_call 99; refine (small_any y hy w1).mono ?_; rintro e w2 ⟨v2, rfl, rfl, hb2⟩)
    | (go_at_call 99; refine (small_any x hx w).mono ?_; rintro e w1 ⟨v1, rfl, rfl, hb1⟩)
    | fail)
  go_ret
  exact ⟨_, rfl, rfl, nx hb1 hb2⟩

theorem low_at {xs : List (List UInt8)} {k : Nat} {x : List UInt8} (hx : xs[k]? = some x) : (lowN xs)[k]? = some (smallL x) := by
  unfold lowN; rw [List.getElem?_map, hx]; rfl
theorem low_len (xs : List (List UInt8)) : (lowN xs).length = xs.length := List.length_map _

set_option maxHeartbeats 1000000 in
theorem eqFunc_any (A A' : Option Addr) (n c n' c' : Nat) (xs ys : List (List UInt8)) (w : World) (hx : RdE encS w A n xs) (hy : RdE encS w A' n' ys) (hn : n ≤ maxLen) (hn' : n' ≤ maxLen) :
    Calls Try.prog 97 #[.slice A n c, .slice A' n' c', .func (.func 98) #[] #[]] w (RetP (fun v _ => v = .bool (decide (lowN xs = lowN ys))) w) := by
  unfold maxLen at hn hn'
  have hlx := Lib.hid hx.len
  have hly := Lib.hid hy.len
  by_cases hnn : n = n'
  · subst hnn
    go_enter Try.func97, Try.ntmps97
    go_wp2
    go_loopw [17] (fun i wr => ∃ k : Nat, i = .int .i64 k ∧ k ≤ n ∧ Below w.heap.size w wr ∧ Hid ((lowN xs).take k = (lowN ys).take k)) (fun i _ => n - (intOf i).toNat)
    case atStart => exact ⟨0, rfl, Nat.zero_le _, bl, rfl⟩
    case round =>
      obtain ⟨k, rfl, hk, hbw, HT⟩ := hrel
      by_cases hlt : k < n
      · obtain ⟨x, gx⟩ : ∃ x, xs[k]? = some x := ⟨_, List.getElem?_eq_getElem (by rw [hlx.out]; exact hlt)⟩
        obtain ⟨y, gy⟩ : ∃ y, ys[k]? = some y := ⟨_, List.getElem?_eq_getElem (by rw [hly.out]; exact hlt)⟩
        obtain ⟨b, off, rfl, _, cx, mx⟩ := strs_at (hx.below hbw) gx
        obtain ⟨b', off', rfl, _, cy, my⟩ := strs_at (hy.below hbw) gy
        have GX := Lib.hid (low_at gx)
        have GY := Lib.hid (low_at gy)
        clear gx gy
        by_cases hxy : smallL x = smallL y
        · have HX := Lib.hid hxy
          clear hxy
          go_wp2_with (first
            | (go_at_call 98; refine (nameEq1_any x y mx my _).mono ?_; rw [decide_eq_true HX.out]; rintro e w2 ⟨v2, rfl, rfl, hb2⟩)
            | fail)
          go_roundw
          case rel => exact ⟨k + 1, by go_num, by omega, nx hbw hb2, take_eq_succ HT.out GX.out GY.out HX.out⟩
          case measure => simp [intOf]; omega
        · have HX := Lib.hid hxy
          clear hxy
          go_wp2_with (first
            | (go_at_call 98; refine (nameEq1_any x y mx my _).mono ?_; rw [decide_eq_false HX.out]; rintro e w2 ⟨v2, rfl, rfl, hb2⟩)
            | fail)
          go_ret
          exact ⟨_, rfl, by rw [decide_eq_false (ne_of_get GX.out GY.out HX.out)]; rfl, nx hbw hb2⟩
      · go_wp2
        go_ret
        have hk' : k = n := by omega
        have he := HT.out
        rw [hk', List.take_of_length_le (by rw [low_len, hlx.out]; omega), List.take_of_length_le (by rw [low_len, hly.out]; omega)] at he
        exact ⟨_, rfl, by rw [decide_eq_true he]; rfl, hbw⟩
  · have hb : ((n : Int) != (n' : Int)) = true := by rw [bne_iff_ne]; omega
    go_enter Try.func97, Try.ntmps97
    go_wp2
    go_ret
    have he : lowN xs ≠ lowN ys := fun e => by
      have := congrArg List.length e
      rw [low_len, low_len, hlx.out, hly.out] at this
      exact hnn this
    exact ⟨_, rfl, by rw [decide_eq_false he]; rfl, bl⟩

theorem nequal_any (A A' : Option Addr) (n c n' c' : Nat) (xs ys : List (List UInt8)) (w : World) (hx : RdE encS w A n xs) (hy : RdE encS w A' n' ys) (hn : n ≤ maxLen) (hn' : n' ≤ maxLen) :
    Calls Try.prog 55 #[.slice A n c, .slice A' n' c'] w (RetP (fun v _ => v = .bool (decide (lowN xs = lowN ys))) w) := by
  go_enter Try.func55, Try.ntmps55
  go_wp2_with (go_at_call 97; refine (eqFunc_any _ _ _ _ _ _ xs ys _ hx hy hn hn').mono ?_; rintro e w1 ⟨v1, rfl, rfl, hb1⟩)
  go_ret
  exact ⟨_, rfl, rfl, hb1⟩

set_option maxHeartbeats 2000000 in
theorem requal_any (A A' : Option Addr) (n c n' c' : Nat) (xs ys : List (List UInt8)) (w : World) (hx : RdE encS w A n xs) (hy : RdE encS w A' n' ys) (hn : n ≤ maxLen) (hn' : n' ≤ maxLen) :
    Calls Try.prog 78 #[.slice A n c, .slice A' n' c'] w (RetP (fun v _ => v = .bool (decide (lowN xs = lowN ys))) w) := by
  unfold maxLen at hn hn'
  have hlx := Lib.hid hx.len
  have hly := Lib.hid hy.len
  by_cases hnn : n = n'
  · subst hnn
    go_enter Try.func78, Try.ntmps78
    go_wp2
    go_loopw [5] (fun i wr => ∃ k : Nat, i = .int .i64 k ∧ k ≤ n ∧ Below w.heap.size w wr ∧ Hid ((lowN xs).take k = (lowN ys).take k)) (fun i _ => n - (intOf i).toNat)
    case atStart => exact ⟨0, rfl, Nat.zero_le _, bl, rfl⟩
    case round =>
      obtain ⟨k, rfl, hk, hbw, HT⟩ := hrel
      by_cases hlt : k < n
      · obtain ⟨x, gx⟩ : ∃ x, xs[k]? = some x := ⟨_, List.getElem?_eq_getElem (by rw [hlx.out]; exact hlt)⟩
        obtain ⟨y, gy⟩ : ∃ y, ys[k]? = some y := ⟨_, List.getElem?_eq_getElem (by rw [hly.out]; exact hlt)⟩
        obtain ⟨b, off, rfl, _, cx, mx⟩ := strs_at (hx.below hbw) gx
        obtain ⟨b', off', rfl, _, cy, my⟩ := strs_at (hy.below hbw) gy
        have GX := Lib.hid (low_at gx)
        have GY := Lib.hid (low_at gy)
        have hq := bstr_beq (smallL x) (smallL y)
        unfold maxLen at mx my
        clear gx gy
        by_cases hxy : smallL x = smallL y
        · have HX := Lib.hid hxy
          rw [decide_eq_true hxy] at hq
          clear hxy
          go_upto_region 6 with (fail)
          go_region_held3 (fun w' => w'.cell? ⟨b, off + k, none⟩ = some (.string (bstr x)) ∧ w'.cell? ⟨b', off' + k, none⟩ = some (.string (bstr y)))
            (first
              | with_reducible exact ⟨cx, cy⟩
              | with_reducible exact ⟨below_cell bl.drew cx, below_cell bl.drew cy⟩
              | with_reducible exact ⟨p1, p2⟩
              | with_reducible exact ⟨q1, q2⟩
              | fail)
            (first
              | (go_at_call 131; refine (rsmall_any y my wa).mono ?_; rintro e wb ⟨v2, rfl, rfl, hb2⟩; have q1 := below_cell hb2 p1; have q2 := below_cell hb2 p2)
              | (go_at_call 131; refine (rsmall_any x mx wr.drew).mono ?_; rintro e wa ⟨v1, rfl, rfl, hb1'⟩; have hb1 : Below wr.heap.size wr wa := bl.drew.trans hb1'; have p1 := below_cell hb1 cx; have p2 := below_cell hb1 cy)
              | fail)
          have hbn := nx hbw (nx hb1 hb2)
          go_wp2
          go_roundw
          case rel => exact ⟨k + 1, by go_num, by omega, hbn, take_eq_succ HT.out GX.out GY.out HX.out⟩
          case measure => simp [intOf]; omega
        · have HX := Lib.hid hxy
          rw [decide_eq_false hxy] at hq
          clear hxy
          go_upto_region 6 with (fail)
          go_region_held3 (fun w' => w'.cell? ⟨b, off + k, none⟩ = some (.string (bstr x)) ∧ w'.cell? ⟨b', off' + k, none⟩ = some (.string (bstr y)))
            (first
              | with_reducible exact ⟨cx, cy⟩
              | with_reducible exact ⟨below_cell bl.drew cx, below_cell bl.drew cy⟩
              | with_reducible exact ⟨p1, p2⟩
              | with_reducible exact ⟨q1, q2⟩
              | fail)
            (first
              | (go_at_call 131; refine (rsmall_any y my wa).mono ?_; rintro e wb ⟨v2, rfl, rfl, hb2⟩; have q1 := below_cell hb2 p1; have q2 := below_cell hb2 p2)
              | (go_at_call 131; refine (rsmall_any x mx wr.drew).mono ?_; rintro e wa ⟨v1, rfl, rfl, hb1'⟩; have hb1 : Below wr.heap.size wr wa := bl.drew.trans hb1'; have p1 := below_cell hb1 cx; have p2 := below_cell hb1 cy)
              | fail)
          have hbn := nx hbw (nx hb1 hb2)
          go_wp2
          go_ret
          exact ⟨_, rfl, by rw [decide_eq_false (ne_of_get GX.out GY.out HX.out)]; rfl, hbn⟩
      · go_wp2
        go_ret
        have hk' : k = n := by omega
        have he := HT.out
        rw [hk', List.take_of_length_le (by rw [low_len, hlx.out]; omega), List.take_of_length_le (by rw [low_len, hly.out]; omega)] at he
        exact ⟨_, rfl, by rw [decide_eq_true he]; rfl, hbw⟩
  · have hb : ((n : Int) != (n' : Int)) = true := by rw [bne_iff_ne]; omega
    go_enter Try.func78, Try.ntmps78
    go_wp2
    go_ret
    have he : lowN xs ≠ lowN ys := fun e => by
      have := congrArg List.length e
      rw [low_len, low_len, hlx.out, hly.out] at this
      exact hnn this
    exact ⟨_, rfl, by rw [decide_eq_false he]; rfl, bl⟩
end Go.Proofs.Ytimkdpkhdbiniaa

/- What a record says, in memory; whether two say the same: the program's and the reference's. -/
namespace Go.Proofs.Ytimkdpkhdbiniaa
open Go.RowKit
set_option maxRecDepth 100000

structure Da where
  bytes : List UInt8
  host : List (List UInt8)
  mail : List (List UInt8)
  nums : List Int
  texts : List (List UInt8)
/-- Where its five slices lead, and their capacities. -/
structure DS where
  A0 : Option Addr
  A1 : Option Addr
  A2 : Option Addr
  A3 : Option Addr
  A4 : Option Addr
  c0 : Nat
  c1 : Nat
  c2 : Nat
  c3 : Nat
  c4 : Nat
def dsV (s : DS) (x : Da) : Value := .agg #[.slice s.A0 x.bytes.length s.c0, .slice s.A1 x.host.length s.c1, .slice s.A2 x.mail.length s.c2, .slice s.A3 x.nums.length s.c3, .slice s.A4 x.texts.length s.c4]
structure DRd (w : World) (s : DS) (x : Da) : Prop where
  b : RdB w s.A0 x.bytes.length x.bytes
  h : RdE encS w s.A1 x.host.length x.host
  m : RdE encS w s.A2 x.mail.length x.mail
  n : RdE encI w s.A3 x.nums.length x.nums
  t : RdE encS w s.A4 x.texts.length x.texts
  cb : x.bytes.length ≤ s.c0 ∧ s.c0 ≤ maxLen
  ch : x.host.length ≤ s.c1 ∧ s.c1 ≤ maxLen
  cm : x.mail.length ≤ s.c2 ∧ s.c2 ≤ maxLen
  cn : x.nums.length ≤ s.c3 ∧ s.c3 ≤ maxLen
  ct : x.texts.length ≤ s.c4 ∧ s.c4 ≤ maxLen
theorem DRd.below {w w' : World} {s : DS} {x : Da} (h : DRd w s x) (hb : Below w.heap.size w w') : DRd w' s x :=
  ⟨h.b.below hb, h.h.below hb, h.m.below hb, h.n.below hb, h.t.below hb, h.cb, h.ch, h.cm, h.cn, h.ct⟩
/-- It lies in a block of its own. -/
def DBox (w : World) (q : Nat) (s : DS) (x : Da) : Prop :=
  w.cell? ⟨q, 0, none⟩ = some (.slice s.A0 x.bytes.length s.c0) ∧ w.cell? ⟨q, 1, none⟩ = some (.slice s.A1 x.host.length s.c1) ∧ w.cell? ⟨q, 2, none⟩ = some (.slice s.A2 x.mail.length s.c2) ∧ w.cell? ⟨q, 3, none⟩ = some (.slice s.A3 x.nums.length s.c3) ∧ w.cell? ⟨q, 4, none⟩ = some (.slice s.A4 x.texts.length s.c4)
theorem DBox.made (w : World) (s : DS) (x : Da) (e : TypeId) : DBox (w.alloc (.cells #[.slice s.A0 x.bytes.length s.c0, .slice s.A1 x.host.length s.c1, .slice s.A2 x.mail.length s.c2, .slice s.A3 x.nums.length s.c3, .slice s.A4 x.texts.length s.c4] e)) w.heap.size s x :=
  ⟨new_cell w _ _ 0, new_cell w _ _ 1, new_cell w _ _ 2, new_cell w _ _ 3, new_cell w _ _ 4⟩
theorem DBox.below {w w' : World} {q : Nat} {s : DS} {x : Da} (h : DBox w q s x) (hb : Below w.heap.size w w') : DBox w' q s x := by
  obtain ⟨h0, h1, h2, h3, h4⟩ := h
  exact ⟨below_cell hb h0, below_cell hb h1, below_cell hb h2, below_cell hb h3, below_cell hb h4⟩
theorem DBox.lt {w : World} {q : Nat} {s : DS} {x : Da} (h : DBox w q s x) : q < w.heap.size := by
  have := World.block_lt_of_cell? w _ h.1
  exact this

/-- Do both say the same? -/
def sameD (x y : Da) : Bool := decide (x.bytes = y.bytes ∧ x.nums = y.nums ∧ x.texts = y.texts ∧ lowN x.host = lowN y.host ∧ lowN x.mail = lowN y.mail)
theorem sameD_true {x y : Da} (h0 : x.bytes = y.bytes) (h1 : x.nums = y.nums) (h2 : x.texts = y.texts) (h3 : lowN x.host = lowN y.host) (h4 : lowN x.mail = lowN y.mail) : sameD x y = true := decide_eq_true ⟨h0, h1, h2, h3, h4⟩
theorem sameD_iff {x y : Da} : sameD x y = true ↔ x.bytes = y.bytes ∧ x.nums = y.nums ∧ x.texts = y.texts ∧ lowN x.host = lowN y.host ∧ lowN x.mail = lowN y.mail := decide_eq_true_iff
theorem sameD_comm (x y : Da) : sameD x y = sameD y x := by
  rw [Bool.eq_iff_iff, sameD_iff, sameD_iff]
  exact ⟨fun ⟨a, b, c, d, e⟩ => ⟨a.symm, b.symm, c.symm, d.symm, e.symm⟩, fun ⟨a, b, c, d, e⟩ => ⟨a.symm, b.symm, c.symm, d.symm, e.symm⟩⟩
theorem sameD_false {x y : Da} (h : ¬ (x.bytes = y.bytes ∧ x.nums = y.nums ∧ x.texts = y.texts ∧ lowN x.host = lowN y.host ∧ lowN x.mail = lowN y.mail)) : sameD x y = false := decide_eq_false h

set_option maxHeartbeats 4000000 in
theorem psame_any (s r : DS) (x y : Da) (w : World) (hx : DRd w s x) (hy : DRd w r y) : Calls Try.prog 155 #[dsV s x, dsV r y] w (RetP (fun v _ => v = .bool (sameD x y)) w) := by
  unfold dsV
  obtain ⟨w0, hw0⟩ : ∃ w0, w0 = (w.alloc (.cells #[.slice s.A0 x.bytes.length s.c0, .slice s.A1 x.host.length s.c1, .slice s.A2 x.mail.length s.c2, .slice s.A3 x.nums.length s.c3, .slice s.A4 x.texts.length s.c4] 46)).alloc (.cells #[.slice r.A0 y.bytes.length r.c0, .slice r.A1 y.host.length r.c1, .slice r.A2 y.mail.length r.c2, .slice r.A3 y.nums.length r.c3, .slice r.A4 y.texts.length r.c4] 46) := ⟨_, rfl⟩
  have hbA : Below w.heap.size w (w.alloc (.cells #[.slice s.A0 x.bytes.length s.c0, .slice s.A1 x.host.length s.c1, .slice s.A2 x.mail.length s.c2, .slice s.A3 x.nums.length s.c3, .slice s.A4 x.texts.length s.c4] 46)) := bl.alloc (Nat.le_refl _) _
  have hb0 : Below w.heap.size w w0 := by rw [hw0]; exact nx hbA (bl.alloc (Nat.le_refl _) _)
  have HX0 := Lib.hid (hx.below hb0)
  have HY0 := Lib.hid (hy.below hb0)
  have BX0 : Hid (DBox w0 w.heap.size s x) := by show DBox _ _ _ _; rw [hw0]; exact (DBox.made w s x _).below (bl.alloc (Nat.le_refl _) _)
  have BY0 : Hid (DBox w0 (w.heap.size + 1) r y) := by
    show DBox _ _ _ _
    rw [hw0]
    have := DBox.made (w.alloc (.cells #[.slice s.A0 x.bytes.length s.c0, .slice s.A1 x.host.length s.c1, .slice s.A2 x.mail.length s.c2, .slice s.A3 x.nums.length s.c3, .slice s.A4 x.texts.length s.c4] 46)) r y 46
    rw [show (w.alloc (.cells #[.slice s.A0 x.bytes.length s.c0, .slice s.A1 x.host.length s.c1, .slice s.A2 x.mail.length s.c2, .slice s.A3 x.nums.length s.c3, .slice s.A4 x.texts.length s.c4] 46)).heap.size = w.heap.size + 1 by simp] at this
    exact this
  clear hx hy hbA
  obtain ⟨a00, a01, a02, a03, a04⟩ := BX0.out
  obtain ⟨b00, b01, b02, b03, b04⟩ := BY0.out
  go_enter Try.func155, Try.ntmps155
  go_upto_region 1 with (fail)
  rw [← hw0]
  clear hw0
  by_cases e0 : x.bytes = y.bytes
  · have E0 := Lib.hid e0
    clear e0
    by_cases e1 : x.nums = y.nums
    · have E1 := Lib.hid e1
      clear e1
      by_cases e2 : x.texts = y.texts
      · have E2 := Lib.hid e2
        clear e2
        by_cases e3 : lowN x.host = lowN y.host
        · have E3 := Lib.hid e3
          clear e3
          by_cases e4 : lowN x.mail = lowN y.mail
          · have E4 := Lib.hid e4
            clear e4
            go_wp2_with (first
              | (go_at_call 55; refine (nequal_any _ _ _ _ _ _ x.mail y.mail w4 HX4.out.m HY4.out.m (Nat.le_trans HX4.out.cm.1 HX4.out.cm.2) (Nat.le_trans HY4.out.cm.1 HY4.out.cm.2)).mono ?_; rw [decide_eq_true E4.out]; rintro e w5 ⟨v5, rfl, rfl, hb5⟩; have HX5 := Lib.hid (HX4.out.below hb5); have HY5 := Lib.hid (HY4.out.below hb5); have BX5 := Lib.hid (BX4.out.below hb5); have BY5 := Lib.hid (BY4.out.below hb5); obtain ⟨a50, a51, a52, a53, a54⟩ := BX5.out; obtain ⟨b50, b51, b52, b53, b54⟩ := BY5.out)
              | (go_at_call 55; refine (nequal_any _ _ _ _ _ _ x.host y.host w3 HX3.out.h HY3.out.h (Nat.le_trans HX3.out.ch.1 HX3.out.ch.2) (Nat.le_trans HY3.out.ch.1 HY3.out.ch.2)).mono ?_; rw [decide_eq_true E3.out]; rintro e w4 ⟨v4, rfl, rfl, hb4⟩; have HX4 := Lib.hid (HX3.out.below hb4); have HY4 := Lib.hid (HY3.out.below hb4); have BX4 := Lib.hid (BX3.out.below hb4); have BY4 := Lib.hid (BY3.out.below hb4); obtain ⟨a40, a41, a42, a43, a44⟩ := BX4.out; obtain ⟨b40, b41, b42, b43, b44⟩ := BY4.out)
              | (go_at_call 188; refine (seqS_any _ _ _ _ _ _ x.texts y.texts w2 HX2.out.t HY2.out.t (Nat.le_trans HX2.out.ct.1 HX2.out.ct.2) (Nat.le_trans HY2.out.ct.1 HY2.out.ct.2)).mono ?_; rw [decide_eq_true E2.out]; rintro e w3 ⟨rfl, m3, hw3⟩; have hb3 : Below w2.heap.size w2 w3 := (by rw [hw3]; exact dN bl m3); clear hw3; have HX3 := Lib.hid (HX2.out.below hb3); have HY3 := Lib.hid (HY2.out.below hb3); have BX3 := Lib.hid (BX2.out.below hb3); have BY3 := Lib.hid (BY2.out.below hb3); obtain ⟨a30, a31, a32, a33, a34⟩ := BX3.out; obtain ⟨b30, b31, b32, b33, b34⟩ := BY3.out)
              | (go_at_call 187; refine (seqI_any _ _ _ _ _ _ x.nums y.nums w1 HX1.out.n HY1.out.n (Nat.le_trans HX1.out.cn.1 HX1.out.cn.2) (Nat.le_trans HY1.out.cn.1 HY1.out.cn.2)).mono ?_; rw [decide_eq_true E1.out]; rintro e w2 ⟨rfl, m2, hw2⟩; have hb2 : Below w1.heap.size w1 w2 := (by rw [hw2]; exact dN bl m2); clear hw2; have HX2 := Lib.hid (HX1.out.below hb2); have HY2 := Lib.hid (HY1.out.below hb2); have BX2 := Lib.hid (BX1.out.below hb2); have BY2 := Lib.hid (BY1.out.below hb2); obtain ⟨a20, a21, a22, a23, a24⟩ := BX2.out; obtain ⟨b20, b21, b22, b23, b24⟩ := BY2.out)
              | (go_at_call 186; refine (seqB_any _ _ _ _ _ _ x.bytes y.bytes w0 HX0.out.b HY0.out.b (Nat.le_trans HX0.out.cb.1 HX0.out.cb.2) (Nat.le_trans HY0.out.cb.1 HY0.out.cb.2)).mono ?_; rw [decide_eq_true E0.out]; rintro e w1 ⟨rfl, m1, hw1⟩; have hb1 : Below w0.heap.size w0 w1 := (by rw [hw1]; exact dN bl m1); clear hw1; have HX1 := Lib.hid (HX0.out.below hb1); have HY1 := Lib.hid (HY0.out.below hb1); have BX1 := Lib.hid (BX0.out.below hb1); have BY1 := Lib.hid (BY0.out.below hb1); obtain ⟨a10, a11, a12, a13, a14⟩ := BX1.out; obtain ⟨b10, b11, b12, b13, b14⟩ := BY1.out)
              | fail)
            go_ret
            exact ⟨_, rfl, by rw [sameD_true E0.out E1.out E2.out E3.out E4.out]; rfl, (nx (nx (nx (nx (nx hb0 hb1) hb2) hb3) hb4) hb5)⟩
          · have E4 := Lib.hid e4
            clear e4
            go_wp2_with (first
              | (go_at_call 55; refine (nequal_any _ _ _ _ _ _ x.mail y.mail w4 HX4.out.m HY4.out.m (Nat.le_trans HX4.out.cm.1 HX4.out.cm.2) (Nat.le_trans HY4.out.cm.1 HY4.out.cm.2)).mono ?_; rw [decide_eq_false E4.out]; rintro e w5 ⟨v5, rfl, rfl, hb5⟩; have HX5 := Lib.hid (HX4.out.below hb5); have HY5 := Lib.hid (HY4.out.below hb5); have BX5 := Lib.hid (BX4.out.below hb5); have BY5 := Lib.hid (BY4.out.below hb5); obtain ⟨a50, a51, a52, a53, a54⟩ := BX5.out; obtain ⟨b50, b51, b52, b53, b54⟩ := BY5.out)
              | (go_at_call 55; refine (nequal_any _ _ _ _ _ _ x.host y.host w3 HX3.out.h HY3.out.h (Nat.le_trans HX3.out.ch.1 HX3.out.ch.2) (Nat.le_trans HY3.out.ch.1 HY3.out.ch.2)).mono ?_; rw [decide_eq_true E3.out]; rintro e w4 ⟨v4, rfl, rfl, hb4⟩; have HX4 := Lib.hid (HX3.out.below hb4); have HY4 := Lib.hid (HY3.out.below hb4); have BX4 := Lib.hid (BX3.out.below hb4); have BY4 := Lib.hid (BY3.out.below hb4); obtain ⟨a40, a41, a42, a43, a44⟩ := BX4.out; obtain ⟨b40, b41, b42, b43, b44⟩ := BY4.out)
              | (go_at_call 188; refine (seqS_any _ _ _ _ _ _ x.texts y.texts w2 HX2.out.t HY2.out.t (Nat.le_trans HX2.out.ct.1 HX2.out.ct.2) (Nat.le_trans HY2.out.ct.1 HY2.out.ct.2)).mono ?_; rw [decide_eq_true E2.out]; rintro e w3 ⟨rfl, m3, hw3⟩; have hb3 : Below w2.heap.size w2 w3 := (by rw [hw3]; exact dN bl m3); clear hw3; have HX3 := Lib.hid (HX2.out.below hb3); have HY3 := Lib.hid (HY2.out.below hb3); have BX3 := Lib.hid (BX2.out.below hb3); have BY3 := Lib.hid (BY2.out.below hb3); obtain ⟨a30, a31, a32, a33, a34⟩ := BX3.out; obtain ⟨b30, b31, b32, b33, b34⟩ := BY3.out)
              | (go_at_call 187; refine (seqI_any _ _ _ _ _ _ x.nums y.nums w1 HX1.out.n HY1.out.n (Nat.le_trans HX1.out.cn.1 HX1.out.cn.2) (Nat.le_trans HY1.out.cn.1 HY1.out.cn.2)).mono ?_; rw [decide_eq_true E1.out]; rintro e w2 ⟨rfl, m2, hw2⟩; have hb2 : Below w1.heap.size w1 w2 := (by rw [hw2]; exact dN bl m2); clear hw2; have HX2 := Lib.hid (HX1.out.below hb2); have HY2 := Lib.hid (HY1.out.below hb2); have BX2 := Lib.hid (BX1.out.below hb2); have BY2 := Lib.hid (BY1.out.below hb2); obtain ⟨a20, a21, a22, a23, a24⟩ := BX2.out; obtain ⟨b20, b21, b22, b23, b24⟩ := BY2.out)
              | (go_at_call 186; refine (seqB_any _ _ _ _ _ _ x.bytes y.bytes w0 HX0.out.b HY0.out.b (Nat.le_trans HX0.out.cb.1 HX0.out.cb.2) (Nat.le_trans HY0.out.cb.1 HY0.out.cb.2)).mono ?_; rw [decide_eq_true E0.out]; rintro e w1 ⟨rfl, m1, hw1⟩; have hb1 : Below w0.heap.size w0 w1 := (by rw [hw1]; exact dN bl m1); clear hw1; have HX1 := Lib.hid (HX0.out.below hb1); have HY1 := Lib.hid (HY0.out.below hb1); have BX1 := Lib.hid (BX0.out.below hb1); have BY1 := Lib.hid (BY0.out.below hb1); obtain ⟨a10, a11, a12, a13, a14⟩ := BX1.out; obtain ⟨b10, b11, b12, b13, b14⟩ := BY1.out)
              | fail)
            go_ret
            exact ⟨_, rfl, by rw [sameD_false (fun h => E4.out h.2.2.2.2)]; rfl, (nx (nx (nx (nx (nx hb0 hb1) hb2) hb3) hb4) hb5)⟩
        · have E3 := Lib.hid e3
          clear e3
          go_wp2_with (first
            | (go_at_call 55; refine (nequal_any _ _ _ _ _ _ x.host y.host w3 HX3.out.h HY3.out.h (Nat.le_trans HX3.out.ch.1 HX3.out.ch.2) (Nat.le_trans HY3.out.ch.1 HY3.out.ch.2)).mono ?_; rw [decide_eq_false E3.out]; rintro e w4 ⟨v4, rfl, rfl, hb4⟩; have HX4 := Lib.hid (HX3.out.below hb4); have HY4 := Lib.hid (HY3.out.below hb4); have BX4 := Lib.hid (BX3.out.below hb4); have BY4 := Lib.hid (BY3.out.below hb4); obtain ⟨a40, a41, a42, a43, a44⟩ := BX4.out; obtain ⟨b40, b41, b42, b43, b44⟩ := BY4.out)
            | (go_at_call 188; refine (seqS_any _ _ _ _ _ _ x.texts y.texts w2 HX2.out.t HY2.out.t (Nat.le_trans HX2.out.ct.1 HX2.out.ct.2) (Nat.le_trans HY2.out.ct.1 HY2.out.ct.2)).mono ?_; rw [decide_eq_true E2.out]; rintro e w3 ⟨rfl, m3, hw3⟩; have hb3 : Below w2.heap.size w2 w3 := (by rw [hw3]; exact dN bl m3); clear hw3; have HX3 := Lib.hid (HX2.out.below hb3); have HY3 := Lib.hid (HY2.out.below hb3); have BX3 := Lib.hid (BX2.out.below hb3); have BY3 := Lib.hid (BY2.out.below hb3); obtain ⟨a30, a31, a32, a33, a34⟩ := BX3.out; obtain ⟨b30, b31, b32, b33, b34⟩ := BY3.out)
            | (go_at_call 187; refine (seqI_any _ _ _ _ _ _ x.nums y.nums w1 HX1.out.n HY1.out.n (Nat.le_trans HX1.out.cn.1 HX1.out.cn.2) (Nat.le_trans HY1.out.cn.1 HY1.out.cn.2)).mono ?_; rw [decide_eq_true E1.out]; rintro e w2 ⟨rfl, m2, hw2⟩; have hb2 : Below w1.heap.size w1 w2 := (by rw [hw2]; exact dN bl m2); clear hw2; have HX2 := Lib.hid (HX1.out.below hb2); have HY2 := Lib.hid (HY1.out.below hb2); have BX2 := Lib.hid (BX1.out.below hb2); have BY2 := Lib.hid (BY1.out.below hb2); obtain ⟨a20, a21, a22, a23, a24⟩ := BX2.out; obtain ⟨b20, b21, b22, b23, b24⟩ := BY2.out)
            | (go_at_call 186; refine (seqB_any _ _ _ _ _ _ x.bytes y.bytes w0 HX0.out.b HY0.out.b (Nat.le_trans HX0.out.cb.1 HX0.out.cb.2) (Nat.le_trans HY0.out.cb.1 HY0.out.cb.2)).mono ?_; rw [decide_eq_true E0.out]; rintro e w1 ⟨rfl, m1, hw1⟩; have hb1 : Below w0.heap.size w0 w1 := (by rw [hw1]; exact dN bl m1); clear hw1; have HX1 := Lib.hid (HX0.out.below hb1); have HY1 := Lib.hid (HY0.out.below hb1); have BX1 := Lib.hid (BX0.out.below hb1); have BY1 := Lib.hid (BY0.out.below hb1); obtain ⟨a10, a11, a12, a13, a14⟩ := BX1.out; obtain ⟨b10, b11, b12, b13, b14⟩ := BY1.out)
            | fail)
          go_ret
          exact ⟨_, rfl, by rw [sameD_false (fun h => E3.out h.2.2.2.1)]; rfl, (nx (nx (nx (nx hb0 hb1) hb2) hb3) hb4)⟩
      · have E2 := Lib.hid e2
        clear e2
        go_wp2_with (first
          | (go_at_call 188; refine (seqS_any _ _ _ _ _ _ x.texts y.texts w2 HX2.out.t HY2.out.t (Nat.le_trans HX2.out.ct.1 HX2.out.ct.2) (Nat.le_trans HY2.out.ct.1 HY2.out.ct.2)).mono ?_; rw [decide_eq_false E2.out]; rintro e w3 ⟨rfl, m3, hw3⟩; have hb3 : Below w2.heap.size w2 w3 := (by rw [hw3]; exact dN bl m3); clear hw3; have HX3 := Lib.hid (HX2.out.below hb3); have HY3 := Lib.hid (HY2.out.below hb3); have BX3 := Lib.hid (BX2.out.below hb3); have BY3 := Lib.hid (BY2.out.below hb3); obtain ⟨a30, a31, a32, a33, a34⟩ := BX3.out; obtain ⟨b30, b31, b32, b33, b34⟩ := BY3.out)
          | (go_at_call 187; refine (seqI_any _ _ _ _ _ _ x.nums y.nums w1 HX1.out.n HY1.out.n (Nat.le_trans HX1.out.cn.1 HX1.out.cn.2) (Nat.le_trans HY1.out.cn.1 HY1.out.cn.2)).mono ?_; rw [decide_eq_true E1.out]; rintro e w2 ⟨rfl, m2, hw2⟩; have hb2 : Below w1.heap.size w1 w2 := (by rw [hw2]; exact dN bl m2); clear hw2; have HX2 := Lib.hid (HX1.out.below hb2); have HY2 := Lib.hid (HY1.out.below hb2); have BX2 := Lib.hid (BX1.out.below hb2); have BY2 := Lib.hid (BY1.out.below hb2); obtain ⟨a20, a21, a22, a23, a24⟩ := BX2.out; obtain ⟨b20, b21, b22, b23, b24⟩ := BY2.out)
          | (go_at_call 186; refine (seqB_any _ _ _ _ _ _ x.bytes y.bytes w0 HX0.out.b HY0.out.b (Nat.le_trans HX0.out.cb.1 HX0.out.cb.2) (Nat.le_trans HY0.out.cb.1 HY0.out.cb.2)).mono ?_; rw [decide_eq_true E0.out]; rintro e w1 ⟨rfl, m1, hw1⟩; have hb1 : Below w0.heap.size w0 w1 := (by rw [hw1]; exact dN bl m1); clear hw1; have HX1 := Lib.hid (HX0.out.below hb1); have HY1 := Lib.hid (HY0.out.below hb1); have BX1 := Lib.hid (BX0.out.below hb1); have BY1 := Lib.hid (BY0.out.below hb1); obtain ⟨a10, a11, a12, a13, a14⟩ := BX1.out; obtain ⟨b10, b11, b12, b13, b14⟩ := BY1.out)
          | fail)
        go_ret
        exact ⟨_, rfl, by rw [sameD_false (fun h => E2.out h.2.2.1)]; rfl, (nx (nx (nx hb0 hb1) hb2) hb3)⟩
    · have E1 := Lib.hid e1
      clear e1
      go_wp2_with (first
        | (go_at_call 187; refine (seqI_any _ _ _ _ _ _ x.nums y.nums w1 HX1.out.n HY1.out.n (Nat.le_trans HX1.out.cn.1 HX1.out.cn.2) (Nat.le_trans HY1.out.cn.1 HY1.out.cn.2)).mono ?_; rw [decide_eq_false E1.out]; rintro e w2 ⟨rfl, m2, hw2⟩; have hb2 : Below w1.heap.size w1 w2 := (by rw [hw2]; exact dN bl m2); clear hw2; have HX2 := Lib.hid (HX1.out.below hb2); have HY2 := Lib.hid (HY1.out.below hb2); have BX2 := Lib.hid (BX1.out.below hb2); have BY2 := Lib.hid (BY1.out.below hb2); obtain ⟨a20, a21, a22, a23, a24⟩ := BX2.out; obtain ⟨b20, b21, b22, b23, b24⟩ := BY2.out)
        | (go_at_call 186; refine (seqB_any _ _ _ _ _ _ x.bytes y.bytes w0 HX0.out.b HY0.out.b (Nat.le_trans HX0.out.cb.1 HX0.out.cb.2) (Nat.le_trans HY0.out.cb.1 HY0.out.cb.2)).mono ?_; rw [decide_eq_true E0.out]; rintro e w1 ⟨rfl, m1, hw1⟩; have hb1 : Below w0.heap.size w0 w1 := (by rw [hw1]; exact dN bl m1); clear hw1; have HX1 := Lib.hid (HX0.out.below hb1); have HY1 := Lib.hid (HY0.out.below hb1); have BX1 := Lib.hid (BX0.out.below hb1); have BY1 := Lib.hid (BY0.out.below hb1); obtain ⟨a10, a11, a12, a13, a14⟩ := BX1.out; obtain ⟨b10, b11, b12, b13, b14⟩ := BY1.out)
        | fail)
      go_ret
      exact ⟨_, rfl, by rw [sameD_false (fun h => E1.out h.2.1)]; rfl, (nx (nx hb0 hb1) hb2)⟩
  · have E0 := Lib.hid e0
    clear e0
    go_wp2_with (first
      | (go_at_call 186; refine (seqB_any _ _ _ _ _ _ x.bytes y.bytes w0 HX0.out.b HY0.out.b (Nat.le_trans HX0.out.cb.1 HX0.out.cb.2) (Nat.le_trans HY0.out.cb.1 HY0.out.cb.2)).mono ?_; rw [decide_eq_false E0.out]; rintro e w1 ⟨rfl, m1, hw1⟩; have hb1 : Below w0.heap.size w0 w1 := (by rw [hw1]; exact dN bl m1); clear hw1; have HX1 := Lib.hid (HX0.out.below hb1); have HY1 := Lib.hid (HY0.out.below hb1); have BX1 := Lib.hid (BX0.out.below hb1); have BY1 := Lib.hid (BY0.out.below hb1); obtain ⟨a10, a11, a12, a13, a14⟩ := BX1.out; obtain ⟨b10, b11, b12, b13, b14⟩ := BY1.out)
      | fail)
    go_ret
    exact ⟨_, rfl, by rw [sameD_false (fun h => E0.out h.1)]; rfl, (nx hb0 hb1)⟩

set_option maxHeartbeats 4000000 in
theorem rsame_any (s r : DS) (x y : Da) (w : World) (hx : DRd w s x) (hy : DRd w r y) : Calls Try.prog 79 #[dsV s x, dsV r y] w (RetP (fun v _ => v = .bool (sameD x y)) w) := by
  unfold dsV
  obtain ⟨w0, hw0⟩ : ∃ w0, w0 = (w.alloc (.cells #[.slice s.A0 x.bytes.length s.c0, .slice s.A1 x.host.length s.c1, .slice s.A2 x.mail.length s.c2, .slice s.A3 x.nums.length s.c3, .slice s.A4 x.texts.length s.c4] 46)).alloc (.cells #[.slice r.A0 y.bytes.length r.c0, .slice r.A1 y.host.length r.c1, .slice r.A2 y.mail.length r.c2, .slice r.A3 y.nums.length r.c3, .slice r.A4 y.texts.length r.c4] 46) := ⟨_, rfl⟩
  have hbA : Below w.heap.size w (w.alloc (.cells #[.slice s.A0 x.bytes.length s.c0, .slice s.A1 x.host.length s.c1, .slice s.A2 x.mail.length s.c2, .slice s.A3 x.nums.length s.c3, .slice s.A4 x.texts.length s.c4] 46)) := bl.alloc (Nat.le_refl _) _
  have hb0 : Below w.heap.size w w0 := by rw [hw0]; exact nx hbA (bl.alloc (Nat.le_refl _) _)
  have HX0 := Lib.hid (hx.below hb0)
  have HY0 := Lib.hid (hy.below hb0)
  have BX0 : Hid (DBox w0 w.heap.size s x) := by show DBox _ _ _ _; rw [hw0]; exact (DBox.made w s x _).below (bl.alloc (Nat.le_refl _) _)
  have BY0 : Hid (DBox w0 (w.heap.size + 1) r y) := by
    show DBox _ _ _ _
    rw [hw0]
    have := DBox.made (w.alloc (.cells #[.slice s.A0 x.bytes.length s.c0, .slice s.A1 x.host.length s.c1, .slice s.A2 x.mail.length s.c2, .slice s.A3 x.nums.length s.c3, .slice s.A4 x.texts.length s.c4] 46)) r y 46
    rw [show (w.alloc (.cells #[.slice s.A0 x.bytes.length s.c0, .slice s.A1 x.host.length s.c1, .slice s.A2 x.mail.length s.c2, .slice s.A3 x.nums.length s.c3, .slice s.A4 x.texts.length s.c4] 46)).heap.size = w.heap.size + 1 by simp] at this
    exact this
  clear hx hy hbA
  obtain ⟨a00, a01, a02, a03, a04⟩ := BX0.out
  obtain ⟨b00, b01, b02, b03, b04⟩ := BY0.out
  go_enter Try.func79, Try.ntmps79
  go_upto_region 1 with (fail)
  rw [← hw0]
  clear hw0
  by_cases e0 : x.bytes = y.bytes
  · have E0 := Lib.hid e0
    clear e0
    by_cases e1 : x.nums = y.nums
    · have E1 := Lib.hid e1
      clear e1
      by_cases e2 : x.texts = y.texts
      · have E2 := Lib.hid e2
        clear e2
        by_cases e3 : lowN x.host = lowN y.host
        · have E3 := Lib.hid e3
          clear e3
          by_cases e4 : lowN x.mail = lowN y.mail
          · have E4 := Lib.hid e4
            clear e4
            go_wp2_with (first
              | (go_at_call 78; refine (requal_any _ _ _ _ _ _ x.mail y.mail w4 HX4.out.m HY4.out.m (Nat.le_trans HX4.out.cm.1 HX4.out.cm.2) (Nat.le_trans HY4.out.cm.1 HY4.out.cm.2)).mono ?_; rw [decide_eq_true E4.out]; rintro e w5 ⟨v5, rfl, rfl, hb5⟩; have HX5 := Lib.hid (HX4.out.below hb5); have HY5 := Lib.hid (HY4.out.below hb5); have BX5 := Lib.hid (BX4.out.below hb5); have BY5 := Lib.hid (BY4.out.below hb5); obtain ⟨a50, a51, a52, a53, a54⟩ := BX5.out; obtain ⟨b50, b51, b52, b53, b54⟩ := BY5.out)
              | (go_at_call 78; refine (requal_any _ _ _ _ _ _ x.host y.host w3 HX3.out.h HY3.out.h (Nat.le_trans HX3.out.ch.1 HX3.out.ch.2) (Nat.le_trans HY3.out.ch.1 HY3.out.ch.2)).mono ?_; rw [decide_eq_true E3.out]; rintro e w4 ⟨v4, rfl, rfl, hb4⟩; have HX4 := Lib.hid (HX3.out.below hb4); have HY4 := Lib.hid (HY3.out.below hb4); have BX4 := Lib.hid (BX3.out.below hb4); have BY4 := Lib.hid (BY3.out.below hb4); obtain ⟨a40, a41, a42, a43, a44⟩ := BX4.out; obtain ⟨b40, b41, b42, b43, b44⟩ := BY4.out)
              | (go_at_call 133; refine (rtexts_any _ _ _ _ _ _ x.texts y.texts w2 HX2.out.t HY2.out.t (Nat.le_trans HX2.out.ct.1 HX2.out.ct.2) (Nat.le_trans HY2.out.ct.1 HY2.out.ct.2)).mono ?_; rw [decide_eq_true E2.out]; rintro e w3 ⟨rfl, m3, hw3⟩; have hb3 : Below w2.heap.size w2 w3 := (by rw [hw3]; exact dN bl m3); clear hw3; have HX3 := Lib.hid (HX2.out.below hb3); have HY3 := Lib.hid (HY2.out.below hb3); have BX3 := Lib.hid (BX2.out.below hb3); have BY3 := Lib.hid (BY2.out.below hb3); obtain ⟨a30, a31, a32, a33, a34⟩ := BX3.out; obtain ⟨b30, b31, b32, b33, b34⟩ := BY3.out)
              | (go_at_call 132; refine (rints_any _ _ _ _ _ _ x.nums y.nums w1 HX1.out.n HY1.out.n (Nat.le_trans HX1.out.cn.1 HX1.out.cn.2) (Nat.le_trans HY1.out.cn.1 HY1.out.cn.2)).mono ?_; rw [decide_eq_true E1.out]; rintro e w2 ⟨rfl, m2, hw2⟩; have hb2 : Below w1.heap.size w1 w2 := (by rw [hw2]; exact dN bl m2); clear hw2; have HX2 := Lib.hid (HX1.out.below hb2); have HY2 := Lib.hid (HY1.out.below hb2); have BX2 := Lib.hid (BX1.out.below hb2); have BY2 := Lib.hid (BY1.out.below hb2); obtain ⟨a20, a21, a22, a23, a24⟩ := BX2.out; obtain ⟨b20, b21, b22, b23, b24⟩ := BY2.out)
              | (go_at_call 25; refine (same_any _ _ _ _ _ _ x.bytes y.bytes w0 HX0.out.b HY0.out.b (Nat.le_trans HX0.out.cb.1 HX0.out.cb.2) (Nat.le_trans HY0.out.cb.1 HY0.out.cb.2)).mono ?_; rw [decide_eq_true E0.out]; rintro e w1 ⟨rfl, m1, hw1⟩; have hb1 : Below w0.heap.size w0 w1 := (by rw [hw1]; exact dN bl m1); clear hw1; have HX1 := Lib.hid (HX0.out.below hb1); have HY1 := Lib.hid (HY0.out.below hb1); have BX1 := Lib.hid (BX0.out.below hb1); have BY1 := Lib.hid (BY0.out.below hb1); obtain ⟨a10, a11, a12, a13, a14⟩ := BX1.out; obtain ⟨b10, b11, b12, b13, b14⟩ := BY1.out)
              | fail)
            go_ret
            exact ⟨_, rfl, by rw [sameD_true E0.out E1.out E2.out E3.out E4.out]; rfl, (nx (nx (nx (nx (nx hb0 hb1) hb2) hb3) hb4) hb5)⟩
          · have E4 := Lib.hid e4
            clear e4
            go_wp2_with (first
              | (go_at_call 78; refine (requal_any _ _ _ _ _ _ x.mail y.mail w4 HX4.out.m HY4.out.m (Nat.le_trans HX4.out.cm.1 HX4.out.cm.2) (Nat.le_trans HY4.out.cm.1 HY4.out.cm.2)).mono ?_; rw [decide_eq_false E4.out]; rintro e w5 ⟨v5, rfl, rfl, hb5⟩; have HX5 := Lib.hid (HX4.out.below hb5); have HY5 := Lib.hid (HY4.out.below hb5); have BX5 := Lib.hid (BX4.out.below hb5); have BY5 := Lib.hid (BY4.out.below hb5); obtain ⟨a50, a51, a52, a53, a54⟩ := BX5.out; obtain ⟨b50, b51, b52, b53, b54⟩ := BY5.out)
              | (go_at_call 78; refine (requal_any _ _ _ _ _ _ x.host y.host w3 HX3.out.h HY3.out.h (Nat.le_trans HX3.out.ch.1 HX3.out.ch.2) (Nat.le_trans HY3.out.ch.1 HY3.out.ch.2)).mono ?_; rw [decide_eq_true E3.out]; rintro e w4 ⟨v4, rfl, rfl, hb4⟩; have HX4 := Lib.hid (HX3.out.below hb4); have HY4 := Lib.hid (HY3.out.below hb4); have BX4 := Lib.hid (BX3.out.below hb4); have BY4 := Lib.hid (BY3.out.below hb4); obtain ⟨a40, a41, a42, a43, a44⟩ := BX4.out; obtain ⟨b40, b41, b42, b43, b44⟩ := BY4.out)
              | (go_at_call 133; refine (rtexts_any _ _ _ _ _ _ x.texts y.texts w2 HX2.out.t HY2.out.t (Nat.le_trans HX2.out.ct.1 HX2.out.ct.2) (Nat.le_trans HY2.out.ct.1 HY2.out.ct.2)).mono ?_; rw [decide_eq_true E2.out]; rintro e w3 ⟨rfl, m3, hw3⟩; have hb3 : Below w2.heap.size w2 w3 := (by rw [hw3]; exact dN bl m3); clear hw3; have HX3 := Lib.hid (HX2.out.below hb3); have HY3 := Lib.hid (HY2.out.below hb3); have BX3 := Lib.hid (BX2.out.below hb3); have BY3 := Lib.hid (BY2.out.below hb3); obtain ⟨a30, a31, a32, a33, a34⟩ := BX3.out; obtain ⟨b30, b31, b32, b33, b34⟩ := BY3.out)
              | (go_at_call 132; refine (rints_any _ _ _ _ _ _ x.nums y.nums w1 HX1.out.n HY1.out.n (Nat.le_trans HX1.out.cn.1 HX1.out.cn.2) (Nat.le_trans HY1.out.cn.1 HY1.out.cn.2)).mono ?_; rw [decide_eq_true E1.out]; rintro e w2 ⟨rfl, m2, hw2⟩; have hb2 : Below w1.heap.size w1 w2 := (by rw [hw2]; exact dN bl m2); clear hw2; have HX2 := Lib.hid (HX1.out.below hb2); have HY2 := Lib.hid (HY1.out.below hb2); have BX2 := Lib.hid (BX1.out.below hb2); have BY2 := Lib.hid (BY1.out.below hb2); obtain ⟨a20, a21, a22, a23, a24⟩ := BX2.out; obtain ⟨b20, b21, b22, b23, b24⟩ := BY2.out)
              | (go_at_call 25; refine (same_any _ _ _ _ _ _ x.bytes y.bytes w0 HX0.out.b HY0.out.b (Nat.le_trans HX0.out.cb.1 HX0.out.cb.2) (Nat.le_trans HY0.out.cb.1 HY0.out.cb.2)).mono ?_; rw [decide_eq_true E0.out]; rintro e w1 ⟨rfl, m1, hw1⟩; have hb1 : Below w0.heap.size w0 w1 := (by rw [hw1]; exact dN bl m1); clear hw1; have HX1 := Lib.hid (HX0.out.below hb1); have HY1 := Lib.hid (HY0.out.below hb1); have BX1 := Lib.hid (BX0.out.below hb1); have BY1 := Lib.hid (BY0.out.below hb1); obtain ⟨a10, a11, a12, a13, a14⟩ := BX1.out; obtain ⟨b10, b11, b12, b13, b14⟩ := BY1.out)
              | fail)
            go_ret
            exact ⟨_, rfl, by rw [sameD_false (fun h => E4.out h.2.2.2.2)]; rfl, (nx (nx (nx (nx (nx hb0 hb1) hb2) hb3) hb4) hb5)⟩
        · have E3 := Lib.hid e3
          clear e3
          go_wp2_with (first
            | (go_at_call 78; refine (requal_any _ _ _ _ _ _ x.host y.host w3 HX3.out.h HY3.out.h (Nat.le_trans HX3.out.ch.1 HX3.out.ch.2) (Nat.le_trans HY3.out.ch.1 HY3.out.ch.2)).mono ?_; rw [decide_eq_false E3.out]; rintro e w4 ⟨v4, rfl, rfl, hb4⟩; have HX4 := Lib.hid (HX3.out.below hb4); have HY4 := Lib.hid (HY3.out.below hb4); have BX4 := Lib.hid (BX3.out.below hb4); have BY4 := Lib.hid (BY3.out.below hb4); obtain ⟨a40, a41, a42, a43, a44⟩ := BX4.out; obtain ⟨b40, b41, b42, b43, b44⟩ := BY4.out)
            | (go_at_call 133; refine (rtexts_any _ _ _ _ _ _ x.texts y.texts w2 HX2.out.t HY2.out.t (Nat.le_trans HX2.out.ct.1 HX2.out.ct.2) (Nat.le_trans HY2.out.ct.1 HY2.out.ct.2)).mono ?_; rw [decide_eq_true E2.out]; rintro e w3 ⟨rfl, m3, hw3⟩; have hb3 : Below w2.heap.size w2 w3 := (by rw [hw3]; exact dN bl m3); clear hw3; have HX3 := Lib.hid (HX2.out.below hb3); have HY3 := Lib.hid (HY2.out.below hb3); have BX3 := Lib.hid (BX2.out.below hb3); have BY3 := Lib.hid (BY2.out.below hb3); obtain ⟨a30, a31, a32, a33, a34⟩ := BX3.out; obtain ⟨b30, b31, b32, b33, b34⟩ := BY3.out)
            | (go_at_call 132; refine (rints_any _ _ _ _ _ _ x.nums y.nums w1 HX1.out.n HY1.out.n (Nat.le_trans HX1.out.cn.1 HX1.out.cn.2) (Nat.le_trans HY1.out.cn.1 HY1.out.cn.2)).mono ?_; rw [decide_eq_true E1.out]; rintro e w2 ⟨rfl, m2, hw2⟩; have hb2 : Below w1.heap.size w1 w2 := (by rw [hw2]; exact dN bl m2); clear hw2; have HX2 := Lib.hid (HX1.out.below hb2); have HY2 := Lib.hid (HY1.out.below hb2); have BX2 := Lib.hid (BX1.out.below hb2); have BY2 := Lib.hid (BY1.out.below hb2); obtain ⟨a20, a21, a22, a23, a24⟩ := BX2.out; obtain ⟨b20, b21, b22, b23, b24⟩ := BY2.out)
            | (go_at_call 25; refine (same_any _ _ _ _ _ _ x.bytes y.bytes w0 HX0.out.b HY0.out.b (Nat.le_trans HX0.out.cb.1 HX0.out.cb.2) (Nat.le_trans HY0.out.cb.1 HY0.out.cb.2)).mono ?_; rw [decide_eq_true E0.out]; rintro e w1 ⟨rfl, m1, hw1⟩; have hb1 : Below w0.heap.size w0 w1 := (by rw [hw1]; exact dN bl m1); clear hw1; have HX1 := Lib.hid (HX0.out.below hb1); have HY1 := Lib.hid (HY0.out.below hb1); have BX1 := Lib.hid (BX0.out.below hb1); have BY1 := Lib.hid (BY0.out.below hb1); obtain ⟨a10, a11, a12, a13, a14⟩ := BX1.out; obtain ⟨b10, b11, b12, b13, b14⟩ := BY1.out)
            | fail)
          go_ret
          exact ⟨_, rfl, by rw [sameD_false (fun h => E3.out h.2.2.2.1)]; rfl, (nx (nx (nx (nx hb0 hb1) hb2) hb3) hb4)⟩
      · have E2 := Lib.hid e2
        clear e2
        go_wp2_with (first
          | (go_at_call 133; refine (rtexts_any _ _ _ _ _ _ x.texts y.texts w2 HX2.out.t HY2.out.t (Nat.le_trans HX2.out.ct.1 HX2.out.ct.2) (Nat.le_trans HY2.out.ct.1 HY2.out.ct.2)).mono ?_; rw [decide_eq_false E2.out]; rintro e w3 ⟨rfl, m3, hw3⟩; have hb3 : Below w2.heap.size w2 w3 := (by rw [hw3]; exact dN bl m3); clear hw3; have HX3 := Lib.hid (HX2.out.below hb3); have HY3 := Lib.hid (HY2.out.below hb3); have BX3 := Lib.hid (BX2.out.below hb3); have BY3 := Lib.hid (BY2.out.below hb3); obtain ⟨a30, a31, a32, a33, a34⟩ := BX3.out; obtain ⟨b30, b31, b32, b33, b34⟩ := BY3.out)
          | (go_at_call 132; refine (rints_any _ _ _ _ _ _ x.nums y.nums w1 HX1.out.n HY1.out.n (Nat.le_trans HX1.out.cn.1 HX1.out.cn.2) (Nat.le_trans HY1.out.cn.1 HY1.out.cn.2)).mono ?_; rw [decide_eq_true E1.out]; rintro e w2 ⟨rfl, m2, hw2⟩; have hb2 : Below w1.heap.size w1 w2 := (by rw [hw2]; exact dN bl m2); clear hw2; have HX2 := Lib.hid (HX1.out.below hb2); have HY2 := Lib.hid (HY1.out.below hb2); have BX2 := Lib.hid (BX1.out.below hb2); have BY2 := Lib.hid (BY1.out.below hb2); obtain ⟨a20, a21, a22, a23, a24⟩ := BX2.out; obtain ⟨b20, b21, b22, b23, b24⟩ := BY2.out)
          | (go_at_call 25; refine (same_any _ _ _ _ _ _ x.bytes y.bytes w0 HX0.out.b HY0.out.b (Nat.le_trans HX0.out.cb.1 HX0.out.cb.2) (Nat.le_trans HY0.out.cb.1 HY0.out.cb.2)).mono ?_; rw [decide_eq_true E0.out]; rintro e w1 ⟨rfl, m1, hw1⟩; have hb1 : Below w0.heap.size w0 w1 := (by rw [hw1]; exact dN bl m1); clear hw1; have HX1 := Lib.hid (HX0.out.below hb1); have HY1 := Lib.hid (HY0.out.below hb1); have BX1 := Lib.hid (BX0.out.below hb1); have BY1 := Lib.hid (BY0.out.below hb1); obtain ⟨a10, a11, a12, a13, a14⟩ := BX1.out; obtain ⟨b10, b11, b12, b13, b14⟩ := BY1.out)
          | fail)
        go_ret
        exact ⟨_, rfl, by rw [sameD_false (fun h => E2.out h.2.2.1)]; rfl, (nx (nx (nx hb0 hb1) hb2) hb3)⟩
    · have E1 := Lib.hid e1
      clear e1
      go_wp2_with (first
        | (go_at_call 132; refine (rints_any _ _ _ _ _ _ x.nums y.nums w1 HX1.out.n HY1.out.n (Nat.le_trans HX1.out.cn.1 HX1.out.cn.2) (Nat.le_trans HY1.out.cn.1 HY1.out.cn.2)).mono ?_; rw [decide_eq_false E1.out]; rintro e w2 ⟨rfl, m2, hw2⟩; have hb2 : Below w1.heap.size w1 w2 := (by rw [hw2]; exact dN bl m2); clear hw2; have HX2 := Lib.hid (HX1.out.below hb2); have HY2 := Lib.hid (HY1.out.below hb2); have BX2 := Lib.hid (BX1.out.below hb2); have BY2 := Lib.hid (BY1.out.below hb2); obtain ⟨a20, a21, a22, a23, a24⟩ := BX2.out; obtain ⟨b20, b21, b22, b23, b24⟩ := BY2.out)
        | (go_at_call 25; refine (same_any _ _ _ _ _ _ x.bytes y.bytes w0 HX0.out.b HY0.out.b (Nat.le_trans HX0.out.cb.1 HX0.out.cb.2) (Nat.le_trans HY0.out.cb.1 HY0.out.cb.2)).mono ?_; rw [decide_eq_true E0.out]; rintro e w1 ⟨rfl, m1, hw1⟩; have hb1 : Below w0.heap.size w0 w1 := (by rw [hw1]; exact dN bl m1); clear hw1; have HX1 := Lib.hid (HX0.out.below hb1); have HY1 := Lib.hid (HY0.out.below hb1); have BX1 := Lib.hid (BX0.out.below hb1); have BY1 := Lib.hid (BY0.out.below hb1); obtain ⟨a10, a11, a12, a13, a14⟩ := BX1.out; obtain ⟨b10, b11, b12, b13, b14⟩ := BY1.out)
        | fail)
      go_ret
      exact ⟨_, rfl, by rw [sameD_false (fun h => E1.out h.2.1)]; rfl, (nx (nx hb0 hb1) hb2)⟩
  · have E0 := Lib.hid e0
    clear e0
    go_wp2_with (first
      | (go_at_call 25; refine (same_any _ _ _ _ _ _ x.bytes y.bytes w0 HX0.out.b HY0.out.b (Nat.le_trans HX0.out.cb.1 HX0.out.cb.2) (Nat.le_trans HY0.out.cb.1 HY0.out.cb.2)).mono ?_; rw [decide_eq_false E0.out]; rintro e w1 ⟨rfl, m1, hw1⟩; have hb1 : Below w0.heap.size w0 w1 := (by rw [hw1]; exact dN bl m1); clear hw1; have HX1 := Lib.hid (HX0.out.below hb1); have HY1 := Lib.hid (HY0.out.below hb1); have BX1 := Lib.hid (BX0.out.below hb1); have BY1 := Lib.hid (BY0.out.below hb1); obtain ⟨a10, a11, a12, a13, a14⟩ := BX1.out; obtain ⟨b10, b11, b12, b13, b14⟩ := BY1.out)
      | fail)
    go_ret
    exact ⟨_, rfl, by rw [sameD_false (fun h => E0.out h.1)]; rfl, (nx hb0 hb1)⟩
end Go.Proofs.Ytimkdpkhdbiniaa

/- append([]T{}, s...): the call on a row that is empty. No program in it. -/
namespace Go.Proofs.Ytimkdpkhdbiniaa
open Go.RowKit

theorem setRow_below {w : World} {b : Nat} {cs : Array Value} {e : TypeId} (h : w.heap[b]? = some (.cells cs e (0, 0))) : Below w.heap.size w (w.setRow b cs) :=
  ⟨rfl, rfl, rfl, by simp, fun k hk => by
    by_cases e : k = b
    · subst e; rw [setRow_heap _ _ _ _ _ _ h, h]
    · exact setRow_other w b k cs e⟩
theorem run_clone {P : Program} {w : World} {T e : TypeId} {i : TypeInfo} {z : Value} {bytes : Nat} (ty : TypeId) (hT : P.underlying T = some (.slice e)) (hi : P.info? e = some i) (hz : i.zero = some z) (hsz : i.size = 1) (hby : i.bytes = bytes) (hzc : z.cells.size = 1)
    {base b : Nat} (hbase : base ≤ b) (hb : w.heap[b]? = some (.cells #[] e (0, 0))) (A : Option Addr) (m c : Nat) (news : List Value) (hr : Rd w 1 A m news) (hone : ∀ u ∈ news, u.oneCell' = true) (hm : m ≤ maxLen) (hbt : m * bytes ≤ 140737488355328) :
    ∃ v' w', (Builtin.append_ #[T, T] ty #[.slice (some ⟨b, 0, none⟩) 0 0, .slice A m c]).run P w = .ok v' w' ∧ w'.ownsRow base e 1 v' m news ∧ Below w.heap.size w w' ∧ (news ≠ [] → ∀ k, v'.ownBlock = some k → w.heap.size ≤ k) := by
  have hbl : b < w.heap.size := (Array.getElem?_eq_some_iff.1 hb).1
  have hown : w.ownsRow base e 1 (.slice (some ⟨b, 0, none⟩) 0 0) 0 [] := ⟨rfl, .inr ⟨b, 0, #[], rfl, hbase, hb, Nat.le_refl _, Nat.zero_le _, rfl, rfl⟩⟩
  have hl := hr.1
  rw [Nat.mul_one] at hl
  by_cases h0 : m = 0
  · subst h0
    obtain rfl : news = [] := List.eq_nil_of_length_eq_zero hl
    rcases A with _ | a
    · have hrun : (Builtin.append_ #[T, T] ty #[.slice (some ⟨b, 0, none⟩) 0 0, .slice none 0 c]).run P w = .ok (.slice (some ⟨b, 0, none⟩) 0 0) w := by
        simp [Builtin.append_, run_underlying hT, sizeOf, typeInfo, hi, Builtin.lenOf, Builtin.firstCells, storeCells]
      exact ⟨_, _, hrun, hown, bl, fun h => absurd rfl h⟩
    · have hrun := run_append_room (P := P) w T ty e i hT hi b 0 0 #[] hb a 0 c [] (by simp) (by simp) (by simp) (by omega) (by simp)
      have e0 : (List.take (0 * i.size) (#[] : Array Value).toList ++ [] ++ List.drop (0 * i.size + ([] : List Value).length) (#[] : Array Value).toList).toArray = #[] := by simp
      rw [e0] at hrun
      refine ⟨_, _, hrun, ⟨rfl, .inr ⟨b, 0, #[], rfl, hbase, ?_, Nat.le_refl _, Nat.zero_le _, rfl, rfl⟩⟩, ?_, fun h => absurd rfl h⟩
      · exact setRow_heap w b #[] _ e _ hb
      · exact setRow_below hb
  · obtain ⟨b', off, rfl, hc⟩ := hr.2 (by omega)
    obtain ⟨v', w', hrun, h1, h2⟩ := run_append_arg_grows (P := P) (w := w) T ty e i z 1 bytes hT hi hz hsz hby hzc (by decide) ⟨b, 0, none⟩ 0 0 [] (by simp) (by simp) ⟨b', off, none⟩ m c news (by rw [hl, Nat.mul_one]) (fun j u hu => by rw [add_flat]; exact hc j u hu) (by omega) (by omega) (by rw [Nat.zero_add]; exact hbt)
    rw [Nat.zero_add, List.nil_append] at h1
    refine ⟨v', w', hrun, ⟨h1.1, ?_⟩, ⟨h2.os, h2.tape, h2.output, h2.size, fun k hk => h2.block k hk (by simp)⟩, fun _ k hk => (World.ownsRow.lt h1 k hk).1⟩
    rcases h1.2 with h | ⟨g, cap, cur, e1, h3, h4⟩
    · exact .inl h
    · exact .inr ⟨g, cap, cur, e1, by omega, h4⟩
end Go.Proofs.Ytimkdpkhdbiniaa

/- append([]string{}, s...). -/
namespace Go.Proofs.Ytimkdpkhdbiniaa
open Go.RowKit

def strV (l : List UInt8) : Value := .string (bstr l)
theorem strs_rd {So Si : Nat → Prop} {w : World} {A : Option Addr} {n : Nat} {ns : List (List UInt8)} (h : Els encS So Si w A n ns) : Rd w 1 A n (ns.map strV) := by
  have hl := h.len
  refine ⟨by rw [List.length_map, hl, Nat.mul_one], fun hn => ?_⟩
  rw [List.length_map] at hn
  obtain ⟨l, hx⟩ : ∃ l, ns[0]? = some l := ⟨_, List.getElem?_eq_getElem hn⟩
  obtain ⟨b, off, rfl, _⟩ := strs_at h hx
  refine ⟨b, off, rfl, fun j u hu => ?_⟩
  rw [List.getElem?_map] at hu
  obtain ⟨y, hy, rfl⟩ := Option.map_eq_some_iff.1 hu
  obtain ⟨b', off', e, _, hc, _⟩ := strs_at h hy
  injection e with e
  injection e with e1 e2
  subst e1 e2
  exact hc
set_option maxRecDepth 100000 in
theorem wpL_cloneS {w : World} {So Si : Nat → Prop} {ops : Array Oper} {rest : List Oper} {o : Oper} {a : Act} {Q : Exit → Act → World → Prop} (hgd : Region.wanted o (yielded ops a.tmps) = true) (s x : Operand)
    (ho : o.op = .call { callee := .builtin .append, args := #[s, x], argTypes := #[23, 23] })
    {g : Nat} (hs : a.eval s = .slice (some ⟨g, 0, none⟩) 0 0) (A : Option Addr) (n c : Nat) (ns : List (List UInt8)) (hx : a.eval x = .slice A n c) (hr : Els encS So Si w A n ns) (hn : n ≤ 8796093022208)
    (h : ∀ v' w', OwnS w' w.heap.size v' ns → Below w.heap.size w w' → wpList Try.prog ops Q rest (a.put o.dst v') w') (hgs : g = w.heap.size := by simp) : wpList Try.prog ops Q (o :: rest) a (w.alloc (.cells #[] 9)) := by
  subst hgs
  obtain ⟨hT, i, z, hi, hz, hsz, hby, hzc⟩ := elS
  have hl := hr.len
  subst hl
  have hone : ∀ u ∈ ns.map strV, u.oneCell' = true := fun u hu => by
    obtain ⟨y, _, rfl⟩ := List.mem_map.1 hu
    rfl
  have hown0 : (w.alloc (.cells #[] 9)).ownsRow w.heap.size 9 1 (.slice (some ⟨w.heap.size, 0, none⟩) 0 0) 0 [] := World.ownsRow_lit (e := 9) (size := 1) w #[] 0 (Nat.le_refl _) (by simp) rfl
  refine wpList_want hgd fun K hK => ?_
  refine wp_append_any (P := Try.prog) s x _ ho w.heap.size 9 i z 1 16 hT hi hz hsz hby hzc (by decide) _ 0 [] hs hown0 A ns.length c (ns.map strV) hx ((strs_rd hr).below (bl.alloc (Nat.le_refl _) _)) hone (by unfold maxLen; omega) (by omega) (by simp) fun v' w' h1 h2 h3 => hK _ _ (h v' w' ?_ ?_)
  · rw [Nat.zero_add, List.nil_append] at h1
    refine ⟨ns.map strV, h1, fun j y hy => ?_, fun b hb => hb.elim⟩
    obtain ⟨_, _, _, _, _, hm⟩ := strs_at hr hy
    have hjl : j < ns.length := (List.getElem?_eq_some_iff.1 hy).1
    have e : List.take encS.size (List.drop (j * encS.size) (ns.map strV)) = [strV y] := by
      show List.take 1 (List.drop (j * 1) (ns.map strV)) = _
      rw [Nat.mul_one, List.drop_eq_getElem_cons (by rw [List.length_map]; exact hjl), List.take_succ_cons, List.take_zero, List.getElem_map]
      rw [List.getElem?_eq_getElem hjl] at hy
      injection hy with hy
      rw [hy]
    rw [e]
    exact ⟨rfl, hm⟩
  · exact (bl.alloc (Nat.le_refl _) _).grown h2 (by simp) (fun k hk => by simp [Value.ownBlock] at hk; omega)
end Go.Proofs.Ytimkdpkhdbiniaa

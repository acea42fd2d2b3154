/- Parts of a proof, joined: Eqs, Wtr3, Small, EqN, Da, Clone1, RegInv, Strs2. -/
import Derived.Laws.BitsLemmas
import Derived.Lib.ConvBytes
import Derived.Deep.RegionHeld3
import Derived.Deep.AppendLies
import Derived.StillTail
import Derived.Test.YtmkfjddighabcaaM02
import Derived.Test.YtmkfjddighabcaaM01
/- slices.Equal of bytes, numbers, strings; the reference's Ints and texts. -/
namespace Go.Proofs.Ytmkfjddighabcaa
open Go.RowKit
set_option maxRecDepth 100000

theorem ints_at {So Si : Nat → Prop} {w : World} {A : Option Addr} {n : Nat} {ns : List Int} (h : Els encI So Si w A n ns) {k : Nat} {l : Int} (hx : ns[k]? = some l) :
    ∃ b off, A = some ⟨b, off, none⟩ ∧ So b ∧ w.cell? ⟨b, off + k, none⟩ = some (.int .i64 l) ∧ -9223372036854775808 ≤ l ∧ l ≤ 9223372036854775807 := by
  obtain ⟨b, off, rfl, hs, hat⟩ := h.flat (by rw [← h.len]; exact Nat.lt_of_le_of_lt (Nat.zero_le k) (List.getElem?_eq_some_iff.1 hx).1)
  obtain ⟨r, ⟨rfl, hl⟩, hc⟩ := hat k l hx
  exact ⟨b, off, rfl, hs, by simpa [encI, flatE] using hc 0 _ rfl, hl⟩

set_option maxHeartbeats 1000000 in
theorem seqB_any (A A' : Option Addr) (n c n' c' : Nat) (xs ys : List UInt8) (w : World) (hx : RdB w A n xs) (hy : RdB w A' n' ys) (hn : n ≤ maxLen) (hn' : n' ≤ maxLen) :
    Calls Try.prog 168 #[.slice A n c, .slice A' n' c'] w (RetN (.bool (decide (xs = ys))) w) := by
  unfold maxLen at hn hn'
  have hlx := Lib.hid hx.len
  have hly := Lib.hid hy.len
  by_cases hnn : n = n'
  · subst hnn
    go_enter Try.func168, Try.ntmps168
    go_wp2
    go_loopw [13] (fun i wr => ∃ k m : Nat, i = .int .i64 k ∧ k ≤ n ∧ wr = w.drewN m ∧ xs.take k = ys.take k) (fun i _ => n - (intOf i).toNat)
    case atStart => exact ⟨0, 0, rfl, Nat.zero_le _, rfl, rfl⟩
    case round =>
      obtain ⟨k, m, rfl, hk, rfl, ht⟩ := hrel
      have HT := Lib.hid ht
      clear ht
      by_cases hlt : k < n
      · obtain ⟨b, off, x, rfl, gx, cx⟩ := hx.at_ hlt
        obtain ⟨b', off', y, rfl, gy, cy⟩ := hy.at_ hlt
        have GX := Lib.hid gx
        have GY := Lib.hid gy
        clear gx gy
        by_cases hxy : x = y
        · subst hxy
          go_wp2
          go_quiet (fail)
          go_wp2
          go_roundw
          case rel => exact ⟨k + 1, _, by go_num, by omega, rfl, take_eq_succ HT.out GX.out GY.out rfl⟩
          case measure => simp [intOf]; omega
        · have hbne : ((x.toNat : Int) != (y.toNat : Int)) = true := by rw [bne_iff_ne]; exact fun e => hxy (u8_eq e)
          go_wp2
          go_quiet (fail)
          go_wp2
          go_ret
          exact ⟨ret_bool (decide_eq_false (ne_of_get GX.out GY.out hxy)).symm, _, World.drewN_drewN _ _ _⟩
      · go_wp2
        go_ret
        have hk' : k = n := by omega
        refine ⟨ret_bool (decide_eq_true ?_).symm, _, rfl⟩
        have := HT.out
        rwa [hk', List.take_of_length_le (by rw [hlx.out]; omega), List.take_of_length_le (by rw [hly.out]; omega)] at this
  · have hb : ((n : Int) != (n' : Int)) = true := by rw [bne_iff_ne]; omega
    go_enter Try.func168, Try.ntmps168
    go_wp2
    go_ret
    refine ⟨ret_bool (decide_eq_false ?_).symm, 0, rfl⟩
    rintro rfl
    exact hnn (hlx.out.symm.trans hly.out)

set_option maxHeartbeats 1000000 in
theorem seqI_any (A A' : Option Addr) (n c n' c' : Nat) (xs ys : List Int) (w : World) {So Si So' Si' : Nat → Prop} (hx : Els encI So Si w A n xs) (hy : Els encI So' Si' w A' n' ys) (hn : n ≤ maxLen) (hn' : n' ≤ maxLen) :
    Calls Try.prog 169 #[.slice A n c, .slice A' n' c'] w (RetN (.bool (decide (xs = ys))) w) := by
  unfold maxLen at hn hn'
  have hlx := Lib.hid hx.len
  have hly := Lib.hid hy.len
  by_cases hnn : n = n'
  · subst hnn
    go_enter Try.func169, Try.ntmps169
    go_wp2
    go_loopw [13] (fun i wr => ∃ k m : Nat, i = .int .i64 k ∧ k ≤ n ∧ wr = w.drewN m ∧ xs.take k = ys.take k) (fun i _ => n - (intOf i).toNat)
    case atStart => exact ⟨0, 0, rfl, Nat.zero_le _, rfl, rfl⟩
    case round =>
      obtain ⟨k, m, rfl, hk, rfl, ht⟩ := hrel
      have HT := Lib.hid ht
      clear ht
      by_cases hlt : k < n
      · obtain ⟨x, gx⟩ : ∃ x, xs[k]? = some x := ⟨_, List.getElem?_eq_getElem (by rw [hlx.out]; exact hlt)⟩
        obtain ⟨y, gy⟩ : ∃ y, ys[k]? = some y := ⟨_, List.getElem?_eq_getElem (by rw [hly.out]; exact hlt)⟩
        obtain ⟨b, off, rfl, _, cx, _⟩ := ints_at hx gx
        obtain ⟨b', off', rfl, _, cy, _⟩ := ints_at hy gy
        have GX := Lib.hid gx
        have GY := Lib.hid gy
        clear gx gy
        by_cases hxy : x = y
        · subst hxy
          go_wp2
          go_quiet (fail)
          go_wp2
          go_roundw
          case rel => exact ⟨k + 1, _, by go_num, by omega, rfl, take_eq_succ HT.out GX.out GY.out rfl⟩
          case measure => simp [intOf]; omega
        · have hbne : (x != y) = true := by rw [bne_iff_ne]; exact hxy
          go_wp2
          go_quiet (fail)
          go_wp2
          go_ret
          exact ⟨ret_bool (decide_eq_false (ne_of_get GX.out GY.out hxy)).symm, _, World.drewN_drewN _ _ _⟩
      · go_wp2
        go_ret
        have hk' : k = n := by omega
        refine ⟨ret_bool (decide_eq_true ?_).symm, _, rfl⟩
        have := HT.out
        rwa [hk', List.take_of_length_le (by rw [hlx.out]; omega), List.take_of_length_le (by rw [hly.out]; omega)] at this
  · have hb : ((n : Int) != (n' : Int)) = true := by rw [bne_iff_ne]; omega
    go_enter Try.func169, Try.ntmps169
    go_wp2
    go_ret
    refine ⟨ret_bool (decide_eq_false ?_).symm, 0, rfl⟩
    rintro rfl
    exact hnn (hlx.out.symm.trans hly.out)

set_option maxHeartbeats 1000000 in
theorem seqS_any (A A' : Option Addr) (n c n' c' : Nat) (xs ys : List (List UInt8)) (w : World) {So Si So' Si' : Nat → Prop} (hx : Els encS So Si w A n xs) (hy : Els encS So' Si' w A' n' ys) (hn : n ≤ maxLen) (hn' : n' ≤ maxLen) :
    Calls Try.prog 170 #[.slice A n c, .slice A' n' c'] w (RetN (.bool (decide (xs = ys))) w) := by
  unfold maxLen at hn hn'
  have hlx := Lib.hid hx.len
  have hly := Lib.hid hy.len
  by_cases hnn : n = n'
  · subst hnn
    go_enter Try.func170, Try.ntmps170
    go_wp2
    go_loopw [13] (fun i wr => ∃ k m : Nat, i = .int .i64 k ∧ k ≤ n ∧ wr = w.drewN m ∧ xs.take k = ys.take k) (fun i _ => n - (intOf i).toNat)
    case atStart => exact ⟨0, 0, rfl, Nat.zero_le _, rfl, rfl⟩
    case round =>
      obtain ⟨k, m, rfl, hk, rfl, ht⟩ := hrel
      have HT := Lib.hid ht
      clear ht
      by_cases hlt : k < n
      · obtain ⟨x, gx⟩ : ∃ x, xs[k]? = some x := ⟨_, List.getElem?_eq_getElem (by rw [hlx.out]; exact hlt)⟩
        obtain ⟨y, gy⟩ : ∃ y, ys[k]? = some y := ⟨_, List.getElem?_eq_getElem (by rw [hly.out]; exact hlt)⟩
        obtain ⟨b, off, rfl, _, cx, _⟩ := strs_at hx gx
        obtain ⟨b', off', rfl, _, cy, _⟩ := strs_at hy gy
        have GX := Lib.hid gx
        have GY := Lib.hid gy
        clear gx gy
        by_cases hxy : x = y
        · subst hxy
          go_wp2
          go_quiet (fail)
          go_wp2
          go_roundw
          case rel => exact ⟨k + 1, _, by go_num, by omega, rfl, take_eq_succ HT.out GX.out GY.out rfl⟩
          case measure => simp [intOf]; omega
        · have hbne : ((bstr x).toList == (bstr y).toList) = false := by rw [bstr_toList, bstr_toList, beq_eq_false_iff_ne]; exact hxy
          go_wp2
          go_quiet (fail)
          go_wp2
          go_ret
          exact ⟨ret_bool (decide_eq_false (ne_of_get GX.out GY.out hxy)).symm, _, World.drewN_drewN _ _ _⟩
      · go_wp2
        go_ret
        have hk' : k = n := by omega
        refine ⟨ret_bool (decide_eq_true ?_).symm, _, rfl⟩
        have := HT.out
        rwa [hk', List.take_of_length_le (by rw [hlx.out]; omega), List.take_of_length_le (by rw [hly.out]; omega)] at this
  · have hb : ((n : Int) != (n' : Int)) = true := by rw [bne_iff_ne]; omega
    go_enter Try.func170, Try.ntmps170
    go_wp2
    go_ret
    refine ⟨ret_bool (decide_eq_false ?_).symm, 0, rfl⟩
    rintro rfl
    exact hnn (hlx.out.symm.trans hly.out)

set_option maxHeartbeats 1000000 in
theorem rints_any (A A' : Option Addr) (n c n' c' : Nat) (xs ys : List Int) (w : World) {So Si So' Si' : Nat → Prop} (hx : Els encI So Si w A n xs) (hy : Els encI So' Si' w A' n' ys) (hn : n ≤ maxLen) (hn' : n' ≤ maxLen) :
    Calls Try.prog 165 #[.slice A n c, .slice A' n' c'] w (RetN (.bool (decide (xs = ys))) w) := by
  unfold maxLen at hn hn'
  have hlx := Lib.hid hx.len
  have hly := Lib.hid hy.len
  by_cases hnn : n = n'
  · subst hnn
    go_enter Try.func165, Try.ntmps165
    go_wp2
    go_loopw [5] (fun i wr => ∃ k m : Nat, i = .int .i64 k ∧ k ≤ n ∧ wr = w.drewN m ∧ xs.take k = ys.take k) (fun i _ => n - (intOf i).toNat)
    case atStart => exact ⟨0, 0, rfl, Nat.zero_le _, rfl, rfl⟩
    case round =>
      obtain ⟨k, m, rfl, hk, rfl, ht⟩ := hrel
      have HT := Lib.hid ht
      clear ht
      by_cases hlt : k < n
      · obtain ⟨x, gx⟩ : ∃ x, xs[k]? = some x := ⟨_, List.getElem?_eq_getElem (by rw [hlx.out]; exact hlt)⟩
        obtain ⟨y, gy⟩ : ∃ y, ys[k]? = some y := ⟨_, List.getElem?_eq_getElem (by rw [hly.out]; exact hlt)⟩
        obtain ⟨b, off, rfl, _, cx, _⟩ := ints_at hx gx
        obtain ⟨b', off', rfl, _, cy, _⟩ := ints_at hy gy
        have GX := Lib.hid gx
        have GY := Lib.hid gy
        clear gx gy
        by_cases hxy : x = y
        · subst hxy
          go_wp2
          go_quiet (fail)
          go_wp2
          go_roundw
          case rel => exact ⟨k + 1, _, by go_num, by omega, rfl, take_eq_succ HT.out GX.out GY.out rfl⟩
          case measure => simp [intOf]; omega
        · have hbne : (x != y) = true := by rw [bne_iff_ne]; exact hxy
          go_wp2
          go_quiet (fail)
          go_wp2
          go_ret
          exact ⟨ret_bool (decide_eq_false (ne_of_get GX.out GY.out hxy)).symm, _, World.drewN_drewN _ _ _⟩
      · go_wp2
        go_ret
        have hk' : k = n := by omega
        refine ⟨ret_bool (decide_eq_true ?_).symm, _, rfl⟩
        have := HT.out
        rwa [hk', List.take_of_length_le (by rw [hlx.out]; omega), List.take_of_length_le (by rw [hly.out]; omega)] at this
  · have hb : ((n : Int) != (n' : Int)) = true := by rw [bne_iff_ne]; omega
    go_enter Try.func165, Try.ntmps165
    go_wp2
    go_ret
    refine ⟨ret_bool (decide_eq_false ?_).symm, 0, rfl⟩
    rintro rfl
    exact hnn (hlx.out.symm.trans hly.out)

theorem rtexts_any (A A' : Option Addr) (n c n' c' : Nat) (xs ys : List (List UInt8)) (w : World) {So Si So' Si' : Nat → Prop} (hx : Els encS So Si w A n xs) (hy : Els encS So' Si' w A' n' ys) (hn : n ≤ maxLen) (hn' : n' ≤ maxLen) :
    Calls Try.prog 166 #[.slice A n c, .slice A' n' c'] w (RetN (.bool (decide (xs = ys))) w) := by
  go_enter Try.func166, Try.ntmps166
  go_wp2_with (go_at_call 49; refine (rexact_any _ _ _ _ _ _ xs ys _ hx hy hn hn').mono ?_; rintro e w1 ⟨rfl, m1, rfl⟩)
  go_ret
  exact ⟨rfl, m1, rfl⟩
end Go.Proofs.Ytmkfjddighabcaa

/- wname: Name. -/
namespace Go.Proofs.Ytmkfjddighabcaa
open Go.RowKit Go.Maps

theorem or_ptr (p : Nat) (hp : p < 16384) : bits .or .i64 49152 (p : Int) = 49152 + (p : Int) := by
  rw [bits_join .i64 63 (by decide) (fun n h0 h1 => by rw [IntKind.wrap_i64]; omega) 14 49152 p (by decide) (by decide) (by decide) (by omega) (by omega) (by omega)]
theorem put_ptr (p : Nat) (hp : p < 16384) : putB [] (49152 + (p : Int)) 2 = ptrB p := by
  rw [show (49152 + (p : Int)) = ((49152 + p : Nat) : Int) by omega]
  unfold putB
  rw [if_pos (by unfold fitsB; rw [decide_eq_true_iff]; refine ⟨by decide, by decide, by omega, ?_⟩; rw [show (256 : Int) ^ (2 : Int).toNat = 65536 by decide]; omega)]
  show be (49152 + p) 2 = ptrB p
  unfold ptrB
  simp only [be, List.nil_append, List.cons_append]
  congr 1
  · apply UInt8.toNat_inj.1
    simp only [UInt8.toNat_ofNat']
    omega
  · congr 1
    apply UInt8.toNat_inj.1
    simp only [UInt8.toNat_ofNat']
    omega
theorem put_len (l : List UInt8) (h : l.length ≤ 63) : putB [] (l.length : Int) 1 = [UInt8.ofNat l.length] := by
  unfold putB
  rw [if_pos (by unfold fitsB; rw [decide_eq_true_iff]; refine ⟨by decide, by decide, by omega, ?_⟩; rw [show (256 : Int) ^ (1 : Int).toNat = 256 by decide]; omega)]
  show be l.length 1 = _
  simp only [be, List.nil_append]
theorem put_zero : putB [] 0 1 = [0] := by decide

/-- m[k] = p, as a step of a region that draws its order. -/
theorem step_mapPut {w : World} {mb : Nat} {rs : List (List UInt8 × Nat)} (h : MapIs w mb rs) {ops : Array Oper} {o : Oper} {a : Act} {K : Act → World → Prop} {Q : Exit → Act → World → Prop} {X : Prop} (hgd : Region.wanted o (yielded ops a.tmps) = true) (m x v : Operand)
    (hop : o.op = Op.mapUpdate 159 m x v) (hm : a.eval m = .map (some mb)) {k : List UInt8} (hx : a.eval x = .string (bstr k)) (hk : k.length ≤ maxLen) {p : Nat} (hv : a.eval v = .int .i64 (p : Int)) (hp : p ≤ 1000000000000) (hn : rs.length < maxLen)
    (hK : ∀ w', MapIs w' mb ((k, p) :: rs) → w.grownBy w' (some mb) → K (a.put o.dst undef) w') : if Region.wanted o (yielded ops a.tmps) = true then Oper.wp Try.prog o a w K Q else X := by
  rw [if_pos hgd]
  obtain ⟨w', hrun, r1, r2⟩ := h.put hk hp hn
  unfold Oper.wp
  simp [execOp, hop, hm, hx, hv, hrun, Result.andThen]
  exact hK w' r1 r2

/-- []byte(s). -/
theorem conv_rd (w : World) (l : List UInt8) : RdB (Lib.bytesWorld w 5 (bstr l)) (some ⟨w.heap.size, 0, none⟩) l.length l ∧ Below w.heap.size w (Lib.bytesWorld w 5 (bstr l)) := by
  refine ⟨⟨by simp, fun _ => ⟨w.heap.size, 0, rfl, fun j u hu => ?_⟩⟩, ⟨rfl, rfl, rfl, by rw [Lib.bytesWorld_size]; omega, fun k hk => Lib.bytesWorld_at_old w _ _ k hk⟩⟩
  rw [List.getElem?_map] at hu
  cases hj : l[j]? with
  | none => rw [hj] at hu; cases hu
  | some y =>
    rw [hj] at hu
    injection hu with hu
    subst hu
    have hjl : j < l.length := (List.getElem?_eq_some_iff.1 hj).1
    have := Lib.bytesWorld_cell w 5 (bstr l) j (by rw [bstr_size]; exact hjl)
    rw [Nat.zero_add, this]
    have e : (bstr l).data.toList = l := by simp [bstr]
    rw [e]
    unfold bV
    rw [List.getD_eq_getElem?_getD, hj]
    rfl
end Go.Proofs.Ytmkfjddighabcaa

/- Small letters: the program's and the reference's; names that are the same but for their letters' cases. -/
namespace Go.Proofs.Ytmkfjddighabcaa
open Go.RowKit
set_option maxRecDepth 100000

def smallC (c : UInt8) : UInt8 := if 65 ≤ c.toNat ∧ c.toNat ≤ 90 then UInt8.ofNat (c.toNat + 32) else c
def smallL (l : List UInt8) : List UInt8 := l.map smallC
def lowN (n : List (List UInt8)) : List (List UInt8) := n.map smallL

theorem heap_set_any {w : World} {g : Nat} {cur : Array Value} {e : TypeId} {fz : Nat × Nat} (hg : w.heap[g]? = some (.cells cur e fz)) (k : Nat) (v : Value) : (w.setCell ⟨g, k, none⟩ v).heap[g]? = some (.cells (cur.setIfInBounds k v) e fz) := by
  simp [World.setCell, Array.getElem?_modify, hg]
/-- A row of bytes that a conversion made. -/
def BRow (w : World) (g : Nat) (bs : List UInt8) : Prop :=
  ∃ (cur : Array Value) (lo hi : Nat), w.heap[g]? = some (.cells cur 5 (lo, hi)) ∧ bs.length ≤ lo ∧ bs.length ≤ cur.size ∧ ∀ (j : Nat) (x : UInt8), bs[j]? = some x → cur[j]? = some (.int .u8 (x.toNat : Int))
section
variable {w w' : World} {g : Nat} {bs : List UInt8}
theorem BRow.made (w : World) (l : List UInt8) : BRow (Lib.bytesWorld w 5 (bstr l)) w.heap.size l := by
  have hz : (Lib.bytesCells w 5 (bstr l)).size = l.length + (grownCap w (bstr l).size 0 5 - (bstr l).size) := by
    have := bstr_size l
    unfold ByteArray.size at this
    simp [Lib.bytesCells, this]
  refine ⟨_, _, _, Lib.bytesWorld_at_new w _ _, by omega, by omega, fun j x hx => ?_⟩
  have hj : j < l.length := (List.getElem?_eq_some_iff.1 hx).1
  have h := Lib.bytesWorld_cell w 5 (bstr l) j (by rw [bstr_size]; exact hj)
  have e : (bstr l).data.toList = l := by simp [bstr]
  rw [e, List.getD_eq_getElem?_getD, hx] at h
  unfold World.cell? at h
  rw [Lib.bytesWorld_at_new] at h
  exact h
theorem BRow.cell (h : BRow w g bs) {j : Nat} {x : UInt8} (hx : bs[j]? = some x) : w.cell? ⟨g, j, none⟩ = some (.int .u8 (x.toNat : Int)) := by
  obtain ⟨cur, lo, hi, hg, _, _, hc⟩ := h
  unfold World.cell?
  rw [hg]
  exact hc j x hx
theorem BRow.free (h : BRow w g bs) {j : Nat} (hj : j < bs.length) : w.frozen? ⟨g, j, none⟩ = false := by
  obtain ⟨cur, lo, hi, hg, hl, _⟩ := h
  unfold World.frozen?
  rw [hg]
  show (decide (lo ≤ j) && _) = false
  rw [decide_eq_false (by omega), Bool.false_and]
theorem BRow.rd (h : BRow w g bs) : RdB w (some ⟨g, 0, none⟩) bs.length bs := by
  refine ⟨by simp, fun _ => ⟨g, 0, rfl, fun j u hu => ?_⟩⟩
  rw [List.getElem?_map] at hu
  obtain ⟨x, hx, rfl⟩ := Option.map_eq_some_iff.1 hu
  rw [Nat.zero_add]
  exact h.cell hx
theorem BRow.set (h : BRow w g bs) (k : Nat) (y : UInt8) : BRow (w.setCell ⟨g, k, none⟩ (.int .u8 (y.toNat : Int))) g (bs.set k y) := by
  obtain ⟨cur, lo, hi, hg, hl, hs, hc⟩ := h
  refine ⟨cur.setIfInBounds k (.int .u8 (y.toNat : Int)), lo, hi, heap_set_any hg k _, by rw [List.length_set]; exact hl, by rw [List.length_set, Array.size_setIfInBounds]; exact hs, fun j x hx => ?_⟩
  rw [List.getElem?_set] at hx
  by_cases e : k = j
  · subst e
    rw [if_pos rfl] at hx
    by_cases hk : k < bs.length
    · rw [if_pos hk] at hx
      injection hx with hx
      subst hx
      rw [Array.getElem?_setIfInBounds_self_of_lt (by omega)]
    · rw [if_neg hk] at hx
      cases hx
  · rw [if_neg e] at hx
    rw [Array.getElem?_setIfInBounds_ne e]
    exact hc j x hx
theorem BRow.below (h : BRow w g bs) (hb : Below w.heap.size w w') : BRow w' g bs := by
  obtain ⟨cur, lo, hi, hg, h1⟩ := h
  exact ⟨cur, lo, hi, (hb.block g (Array.getElem?_eq_some_iff.1 hg).1).trans hg, h1⟩
end
/-- The first few letters are small. -/
def someL (l : List UInt8) (k : Nat) : List UInt8 := (l.take k).map smallC ++ l.drop k
theorem someL_zero (l : List UInt8) : someL l 0 = l := rfl
theorem someL_all (l : List UInt8) : someL l l.length = smallL l := by simp [someL, smallL]
theorem someL_length (l : List UInt8) (k : Nat) (hk : k ≤ l.length) : (someL l k).length = l.length := by simp [someL]; omega
theorem someL_at {l : List UInt8} {k : Nat} {x : UInt8} (hx : l[k]? = some x) : (someL l k)[k]? = some x := by
  have hk := (List.getElem?_eq_some_iff.1 hx).1
  unfold someL
  rw [List.getElem?_append_right (by simp; omega), List.length_map, List.length_take, Nat.min_eq_left (by omega), Nat.sub_self, List.getElem?_drop, Nat.add_zero, hx]
theorem someL_succ {l : List UInt8} {k : Nat} {x : UInt8} (hx : l[k]? = some x) : (someL l k).set k (smallC x) = someL l (k + 1) := by
  have hk := (List.getElem?_eq_some_iff.1 hx).1
  unfold someL
  rw [List.set_append_right _ _ (by simp; omega), List.length_map, List.length_take, Nat.min_eq_left (by omega), Nat.sub_self, List.drop_eq_getElem_cons hk, List.set_cons_zero, List.take_add_one, hx]
  simp
theorem someL_same {l : List UInt8} {k : Nat} {x : UInt8} (hx : l[k]? = some x) (h : smallC x = x) : someL l (k + 1) = someL l k := by
  have h1 := someL_at hx
  rw [← someL_succ hx, h]
  obtain ⟨hk, e⟩ := List.getElem?_eq_some_iff.1 h1
  rw [← e]
  exact List.set_getElem_self hk
theorem smallC_hi {x : UInt8} (h1 : 65 ≤ x.toNat) (h2 : x.toNat ≤ 90) : ((smallC x).toNat : Int) = x.toNat + 97 - 65 := by
  unfold smallC
  rw [if_pos ⟨h1, h2⟩, UInt8.toNat_ofNat']
  omega
theorem smallC_lo {x : UInt8} (h : ¬ (65 ≤ x.toNat ∧ x.toNat ≤ 90)) : smallC x = x := by unfold smallC; rw [if_neg h]

set_option maxHeartbeats 1000000 in
theorem small_any (l : List UInt8) (hl : l.length ≤ 9223372036854775807) (w : World) :
    Calls Try.prog 106 #[.string (bstr l)] w (RetP (fun v _ => v = .string (bstr (smallL l))) w) := by
  have hcb := fun W : World => Lib.run_convert_string_bytes (P := Try.prog) W 9 26 5 (bstr l) Try.underlying9 Try.underlying26 Try.underlying5
  have hbs := bstr_size l
  obtain ⟨w1, hw1⟩ : ∃ w1, w1 = Lib.bytesWorld w 5 (bstr l) := ⟨_, rfl⟩
  have HB1 : Hid (BRow w1 w.heap.size l) := by show BRow _ _ _; rw [hw1]; exact BRow.made w l
  have hb1 : Below w.heap.size w w1 := by rw [hw1]; exact (conv_rd w l).2
  go_enter Try.func106, Try.ntmps106
  go_upto_region 2 with (fail)
  rw [← hw1]
  clear hw1 hcb
  go_wp2
  go_loopw [10] (fun iv wr => ∃ k : Nat, iv = .int .i64 k ∧ k ≤ l.length ∧ Hid (BRow wr w.heap.size (someL l k)) ∧ Below w.heap.size w wr) (fun iv _ => l.length - (intOf iv).toNat)
  case atStart => exact ⟨0, rfl, Nat.zero_le _, HB1, hb1⟩
  case round =>
    obtain ⟨k, rfl, hk, HB, hbw⟩ := hrel
    clear HB1 hb1
    have hsl := Lib.hid (someL_length l k hk)
    by_cases hlt : k < l.length
    · obtain ⟨x, hx⟩ : ∃ x, l[k]? = some x := ⟨_, List.getElem?_eq_getElem hlt⟩
      have hcx := HB.out.cell (someL_at hx)
      have hfx := HB.out.free (j := k) (by rw [hsl.out]; exact hlt)
      have HX := Lib.hid hx
      have hx8 := x.toNat_lt
      clear hx
      by_cases h1 : 65 ≤ x.toNat ∧ x.toNat ≤ 90
      · obtain ⟨h1, h2⟩ := h1
        have HE := Lib.hid (smallC_hi h1 h2)
        have hset := HB.out.set k (smallC x)
        rw [HE.out, someL_succ HX.out] at hset
        have HS := Lib.hid hset
        clear hset
        go_wp2
        go_roundw
        case rel => exact ⟨k + 1, by go_num, by omega, HS.out, hbw.setCell (Nat.le_refl _) _⟩
        case measure => simp [intOf]; omega
      · have HS := Lib.hid (someL_same HX.out (smallC_lo h1))
        by_cases h2 : x.toNat < 65
        · clear h1
          go_wp2
          go_roundw
          case rel => exact ⟨k + 1, by go_num, by omega, by rw [HS.out]; exact HB, hbw⟩
          case measure => simp [intOf]; omega
        · have h3 : 90 < x.toNat := by omega
          clear h1
          go_wp2
          go_roundw
          case rel => exact ⟨k + 1, by go_num, by omega, by rw [HS.out]; exact HB, hbw⟩
          case measure => simp [intOf]; omega
    · have hke : k = l.length := by omega
      have hrd := HB.out.rd
      rw [hsl.out, hke, someL_all] at hrd
      have hcv := fun (c : Nat) => conv_str (P := Try.prog) _ _ _ Try.underlying26 Try.underlying5 Try.underlying9 wr (some ⟨w.heap.size, 0, none⟩) l.length c (smallL l) hrd
      go_wp2
      go_ret
      exact ⟨_, rfl, rfl, hbw⟩
end Go.Proofs.Ytmkfjddighabcaa

/- Names that are the same but for their letters' cases. -/
namespace Go.Proofs.Ytmkfjddighabcaa
open Go.RowKit
set_option maxRecDepth 100000

theorem smallC_hi2 {x : UInt8} (h1 : 65 ≤ x.toNat) (h2 : x.toNat ≤ 90) : ((smallC x).toNat : Int) = x.toNat + 32 := by
  rw [smallC_hi h1 h2]; omega

set_option maxHeartbeats 1000000 in
theorem rsmall_any (l : List UInt8) (hl : l.length ≤ 9223372036854775807) (w : World) :
    Calls Try.prog 67 #[.string (bstr l)] w (RetP (fun v _ => v = .string (bstr (smallL l))) w) := by
  have hcb := fun W : World => Lib.run_convert_string_bytes (P := Try.prog) W 9 26 5 (bstr l) Try.underlying9 Try.underlying26 Try.underlying5
  have hbs := bstr_size l
  obtain ⟨w1, hw1⟩ : ∃ w1, w1 = Lib.bytesWorld w 5 (bstr l) := ⟨_, rfl⟩
  have HB1 : Hid (BRow w1 w.heap.size l) := by show BRow _ _ _; rw [hw1]; exact BRow.made w l
  have hb1 : Below w.heap.size w w1 := by rw [hw1]; exact (conv_rd w l).2
  go_enter Try.func67, Try.ntmps67
  go_upto_region 2 with (fail)
  rw [← hw1]
  clear hw1 hcb
  go_wp2
  go_loopw [4] (fun iv wr => ∃ k : Nat, iv = .int .i64 k ∧ k ≤ l.length ∧ Hid (BRow wr w.heap.size (someL l k)) ∧ Below w.heap.size w wr) (fun iv _ => l.length - (intOf iv).toNat)
  case atStart => exact ⟨0, rfl, Nat.zero_le _, HB1, hb1⟩
  case round =>
    obtain ⟨k, rfl, hk, HB, hbw⟩ := hrel
    clear HB1 hb1
    have hsl := Lib.hid (someL_length l k hk)
    by_cases hlt : k < l.length
    · obtain ⟨x, hx⟩ : ∃ x, l[k]? = some x := ⟨_, List.getElem?_eq_getElem hlt⟩
      have hcx := HB.out.cell (someL_at hx)
      have hfx := HB.out.free (j := k) (by rw [hsl.out]; exact hlt)
      have HX := Lib.hid hx
      have hx8 := x.toNat_lt
      clear hx
      by_cases h1 : 65 ≤ x.toNat ∧ x.toNat ≤ 90
      · obtain ⟨h1, h2⟩ := h1
        have HE := Lib.hid (smallC_hi2 h1 h2)
        have hset := HB.out.set k (smallC x)
        rw [HE.out, someL_succ HX.out] at hset
        have HS := Lib.hid hset
        clear hset
        go_wp2
        go_roundw
        case rel => exact ⟨k + 1, by go_num, by omega, HS.out, hbw.setCell (Nat.le_refl _) _⟩
        case measure => simp [intOf]; omega
      · have HS := Lib.hid (someL_same HX.out (smallC_lo h1))
        by_cases h2 : x.toNat < 65
        · clear h1
          go_wp2
          go_roundw
          case rel => exact ⟨k + 1, by go_num, by omega, by rw [HS.out]; exact HB, hbw⟩
          case measure => simp [intOf]; omega
        · have h3 : 90 < x.toNat := by omega
          clear h1
          go_wp2
          go_roundw
          case rel => exact ⟨k + 1, by go_num, by omega, by rw [HS.out]; exact HB, hbw⟩
          case measure => simp [intOf]; omega
    · have hke : k = l.length := by omega
      have hrd := HB.out.rd
      rw [hsl.out, hke, someL_all] at hrd
      have hcv := fun (c : Nat) => conv_str (P := Try.prog) _ _ _ Try.underlying26 Try.underlying5 Try.underlying9 wr (some ⟨w.heap.size, 0, none⟩) l.length c (smallL l) hrd
      go_wp2
      go_ret
      exact ⟨_, rfl, rfl, hbw⟩

theorem bstr_beq (x y : List UInt8) : ((bstr x).toList == (bstr y).toList) = decide (x = y) := by
  rw [bstr_toList, bstr_toList]
  by_cases h : x = y
  · rw [h, decide_eq_true rfl]; simp
  · rw [decide_eq_false h, beq_eq_false_iff_ne]; exact h

theorem nameEq1_any (x y : List UInt8) (hx : x.length ≤ maxLen) (hy : y.length ≤ maxLen) (w : World) :
    Calls Try.prog 105 #[.string (bstr x), .string (bstr y)] w (RetP (fun v _ => v = .bool (decide (smallL x = smallL y))) w) := by
  unfold maxLen at hx hy
  have hq := bstr_beq (smallL x) (smallL y)
  go_enter Try.func105, Try.ntmps105
  go_wp2_with (first
    | (go_at_call 106; refine (small_any y hy w1).mono ?_; rintro e w2 ⟨v2, rfl, rfl, hb2⟩)
    | (go_at_call 106; refine (small_any x hx w).mono ?_; rintro e w1 ⟨v1, rfl, rfl, hb1⟩)
    | fail)
  go_ret
  exact ⟨_, rfl, rfl, nx hb1 hb2⟩

theorem low_at {xs : List (List UInt8)} {k : Nat} {x : List UInt8} (hx : xs[k]? = some x) : (lowN xs)[k]? = some (smallL x) := by
  unfold lowN; rw [List.getElem?_map, hx]; rfl
theorem low_len (xs : List (List UInt8)) : (lowN xs).length = xs.length := List.length_map _

set_option maxHeartbeats 1000000 in
theorem eqFunc_any (A A' : Option Addr) (n c n' c' : Nat) (xs ys : List (List UInt8)) (w : World) (hx : RdE encS w A n xs) (hy : RdE encS w A' n' ys) (hn : n ≤ maxLen) (hn' : n' ≤ maxLen) :
    Calls Try.prog 104 #[.slice A n c, .slice A' n' c', .func (.func 105) #[] #[]] w (RetP (fun v _ => v = .bool (decide (lowN xs = lowN ys))) w) := by
  unfold maxLen at hn hn'
  have hlx := Lib.hid hx.len
  have hly := Lib.hid hy.len
  by_cases hnn : n = n'
  · subst hnn
    go_enter Try.func104, Try.ntmps104
    go_wp2
    go_loopw [17] (fun i wr => ∃ k : Nat, i = .int .i64 k ∧ k ≤ n ∧ Below w.heap.size w wr ∧ Hid ((lowN xs).take k = (lowN ys).take k)) (fun i _ => n - (intOf i).toNat)
    case atStart => exact ⟨0, rfl, Nat.zero_le _, bl, rfl⟩
    case round =>
      obtain ⟨k, rfl, hk, hbw, HT⟩ := hrel
      by_cases hlt : k < n
      · obtain ⟨x, gx⟩ : ∃ x, xs[k]? = some x := ⟨_, List.getElem?_eq_getElem (by rw [hlx.out]; exact hlt)⟩
        obtain ⟨y, gy⟩ : ∃ y, ys[k]? = some y := ⟨_, List.getElem?_eq_getElem (by rw [hly.out]; exact hlt)⟩
        obtain ⟨b, off, rfl, _, cx, mx⟩ := strs_at (hx.below hbw) gx
        obtain ⟨b', off', rfl, _, cy, my⟩ := strs_at (hy.below hbw) gy
        have GX := Lib.hid (low_at gx)
        have GY := Lib.hid (low_at gy)
        clear gx gy
        by_cases hxy : smallL x = smallL y
        · have HX := Lib.hid hxy
          clear hxy
          go_wp2_with (first
            | (go_at_call 105; refine (nameEq1_any x y mx my _).mono ?_; rw [decide_eq_true HX.out]; rintro e w2 ⟨v2, rfl, rfl, hb2⟩)
            | fail)
          go_roundw
          case rel => exact ⟨k + 1, by go_num, by omega, nx hbw hb2, take_eq_succ HT.out GX.out GY.out HX.out⟩
          case measure => simp [intOf]; omega
        · have HX := Lib.hid hxy
          clear hxy
          go_wp2_with (first
            | (go_at_call 105; refine (nameEq1_any x y mx my _).mono ?_; rw [decide_eq_false HX.out]; rintro e w2 ⟨v2, rfl, rfl, hb2⟩)
            | fail)
          go_ret
          exact ⟨_, rfl, by rw [decide_eq_false (ne_of_get GX.out GY.out HX.out)]; rfl, nx hbw hb2⟩
      · go_wp2
        go_ret
        have hk' : k = n := by omega
        have he := HT.out
        rw [hk', List.take_of_length_le (by rw [low_len, hlx.out]; omega), List.take_of_length_le (by rw [low_len, hly.out]; omega)] at he
        exact ⟨_, rfl, by rw [decide_eq_true he]; rfl, hbw⟩
  · have hb : ((n : Int) != (n' : Int)) = true := by rw [bne_iff_ne]; omega
    go_enter Try.func104, Try.ntmps104
    go_wp2
    go_ret
    have he : lowN xs ≠ lowN ys := fun e => by
      have := congrArg List.length e
      rw [low_len, low_len, hlx.out, hly.out] at this
      exact hnn this
    exact ⟨_, rfl, by rw [decide_eq_false he]; rfl, bl⟩

theorem nequal_any (A A' : Option Addr) (n c n' c' : Nat) (xs ys : List (List UInt8)) (w : World) (hx : RdE encS w A n xs) (hy : RdE encS w A' n' ys) (hn : n ≤ maxLen) (hn' : n' ≤ maxLen) :
    Calls Try.prog 63 #[.slice A n c, .slice A' n' c'] w (RetP (fun v _ => v = .bool (decide (lowN xs = lowN ys))) w) := by
  go_enter Try.func63, Try.ntmps63
  go_wp2_with (go_at_call 104; refine (eqFunc_any _ _ _ _ _ _ xs ys _ hx hy hn hn').mono ?_; rintro e w1 ⟨v1, rfl, rfl, hb1⟩)
  go_ret
  exact ⟨_, rfl, rfl, hb1⟩

set_option maxHeartbeats 2000000 in
theorem requal_any (A A' : Option Addr) (n c n' c' : Nat) (xs ys : List (List UInt8)) (w : World) (hx : RdE encS w A n xs) (hy : RdE encS w A' n' ys) (hn : n ≤ maxLen) (hn' : n' ≤ maxLen) :
    Calls Try.prog 34 #[.slice A n c, .slice A' n' c'] w (RetP (fun v _ => v = .bool (decide (lowN xs = lowN ys))) w) := by
  unfold maxLen at hn hn'
  have hlx := Lib.hid hx.len
  have hly := Lib.hid hy.len
  by_cases hnn : n = n'
  · subst hnn
    go_enter Try.func34, Try.ntmps34
    go_wp2
    go_loopw [5] (fun i wr => ∃ k : Nat, i = .int .i64 k ∧ k ≤ n ∧ Below w.heap.size w wr ∧ Hid ((lowN xs).take k = (lowN ys).take k)) (fun i _ => n - (intOf i).toNat)
    case atStart => exact ⟨0, rfl, Nat.zero_le _, bl, rfl⟩
    case round =>
      obtain ⟨k, rfl, hk, hbw, HT⟩ := hrel
      by_cases hlt : k < n
      · obtain ⟨x, gx⟩ : ∃ x, xs[k]? = some x := ⟨_, List.getElem?_eq_getElem (by rw [hlx.out]; exact hlt)⟩
        obtain ⟨y, gy⟩ : ∃ y, ys[k]? = some y := ⟨_, List.getElem?_eq_getElem (by rw [hly.out]; exact hlt)⟩
        obtain ⟨b, off, rfl, _, cx, mx⟩ := strs_at (hx.below hbw) gx
        obtain ⟨b', off', rfl, _, cy, my⟩ := strs_at (hy.below hbw) gy
        have GX := Lib.hid (low_at gx)
        have GY := Lib.hid (low_at gy)
        have hq := bstr_beq (smallL x) (smallL y)
        unfold maxLen at mx my
        clear gx gy
        by_cases hxy : smallL x = smallL y
        · have HX := Lib.hid hxy
          rw [decide_eq_true hxy] at hq
          clear hxy
          go_upto_region 6 with (fail)
          go_region_held3 (fun w' => w'.cell? ⟨b, off + k, none⟩ = some (.string (bstr x)) ∧ w'.cell? ⟨b', off' + k, none⟩ = some (.string (bstr y)))
            (first
              | with_reducible exact ⟨cx, cy⟩
              | with_reducible exact ⟨below_cell bl.drew cx, below_cell bl.drew cy⟩
              | with_reducible exact ⟨p1, p2⟩
              | with_reducible exact ⟨q1, q2⟩
              | fail)
            (first
              | (go_at_call 67; refine (rsmall_any y my wa).mono ?_; rintro e wb ⟨v2, rfl, rfl, hb2⟩; have q1 := below_cell hb2 p1; have q2 := below_cell hb2 p2)
              | (go_at_call 67; refine (rsmall_any x mx wr.drew).mono ?_; rintro e wa ⟨v1, rfl, rfl, hb1'⟩; have hb1 : Below wr.heap.size wr wa := bl.drew.trans hb1'; have p1 := below_cell hb1 cx; have p2 := below_cell hb1 cy)
              | fail)
          have hbn := nx hbw (nx hb1 hb2)
          go_wp2
          go_roundw
          case rel => exact ⟨k + 1, by go_num, by omega, hbn, take_eq_succ HT.out GX.out GY.out HX.out⟩
          case measure => simp [intOf]; omega
        · have HX := Lib.hid hxy
          rw [decide_eq_false hxy] at hq
          clear hxy
          go_upto_region 6 with (fail)
          go_region_held3 (fun w' => w'.cell? ⟨b, off + k, none⟩ = some (.string (bstr x)) ∧ w'.cell? ⟨b', off' + k, none⟩ = some (.string (bstr y)))
            (first
              | with_reducible exact ⟨cx, cy⟩
              | with_reducible exact ⟨below_cell bl.drew cx, below_cell bl.drew cy⟩
              | with_reducible exact ⟨p1, p2⟩
              | with_reducible exact ⟨q1, q2⟩
              | fail)
            (first
              | (go_at_call 67; refine (rsmall_any y my wa).mono ?_; rintro e wb ⟨v2, rfl, rfl, hb2⟩; have q1 := below_cell hb2 p1; have q2 := below_cell hb2 p2)
              | (go_at_call 67; refine (rsmall_any x mx wr.drew).mono ?_; rintro e wa ⟨v1, rfl, rfl, hb1'⟩; have hb1 : Below wr.heap.size wr wa := bl.drew.trans hb1'; have p1 := below_cell hb1 cx; have p2 := below_cell hb1 cy)
              | fail)
          have hbn := nx hbw (nx hb1 hb2)
          go_wp2
          go_ret
          exact ⟨_, rfl, by rw [decide_eq_false (ne_of_get GX.out GY.out HX.out)]; rfl, hbn⟩
      · go_wp2
        go_ret
        have hk' : k = n := by omega
        have he := HT.out
        rw [hk', List.take_of_length_le (by rw [low_len, hlx.out]; omega), List.take_of_length_le (by rw [low_len, hly.out]; omega)] at he
        exact ⟨_, rfl, by rw [decide_eq_true he]; rfl, hbw⟩
  · have hb : ((n : Int) != (n' : Int)) = true := by rw [bne_iff_ne]; omega
    go_enter Try.func34, Try.ntmps34
    go_wp2
    go_ret
    have he : lowN xs ≠ lowN ys := fun e => by
      have := congrArg List.length e
      rw [low_len, low_len, hlx.out, hly.out] at this
      exact hnn this
    exact ⟨_, rfl, by rw [decide_eq_false he]; rfl, bl⟩
end Go.Proofs.Ytmkfjddighabcaa

/- What a record says, in memory; whether two say the same: the program's and the reference's. -/
namespace Go.Proofs.Ytmkfjddighabcaa
open Go.RowKit
set_option maxRecDepth 100000

structure Da where
  bytes : List UInt8
  host : List (List UInt8)
  mail : List (List UInt8)
  nums : List Int
  texts : List (List UInt8)
/-- Where its five slices lead, and their capacities. -/
structure DS where
  A0 : Option Addr
  A1 : Option Addr
  A2 : Option Addr
  A3 : Option Addr
  A4 : Option Addr
  c0 : Nat
  c1 : Nat
  c2 : Nat
  c3 : Nat
  c4 : Nat
def dsV (s : DS) (x : Da) : Value := .agg #[.slice s.A0 x.bytes.length s.c0, .slice s.A1 x.host.length s.c1, .slice s.A2 x.mail.length s.c2, .slice s.A3 x.nums.length s.c3, .slice s.A4 x.texts.length s.c4]
structure DRd (w : World) (s : DS) (x : Da) : Prop where
  b : RdB w s.A0 x.bytes.length x.bytes
  h : RdE encS w s.A1 x.host.length x.host
  m : RdE encS w s.A2 x.mail.length x.mail
  n : RdE encI w s.A3 x.nums.length x.nums
  t : RdE encS w s.A4 x.texts.length x.texts
  cb : x.bytes.length ≤ s.c0 ∧ s.c0 ≤ maxLen
  ch : x.host.length ≤ s.c1 ∧ s.c1 ≤ maxLen
  cm : x.mail.length ≤ s.c2 ∧ s.c2 ≤ maxLen
  cn : x.nums.length ≤ s.c3 ∧ s.c3 ≤ maxLen
  ct : x.texts.length ≤ s.c4 ∧ s.c4 ≤ maxLen
theorem DRd.below {w w' : World} {s : DS} {x : Da} (h : DRd w s x) (hb : Below w.heap.size w w') : DRd w' s x :=
  ⟨h.b.below hb, h.h.below hb, h.m.below hb, h.n.below hb, h.t.below hb, h.cb, h.ch, h.cm, h.cn, h.ct⟩
/-- It lies in a block of its own. -/
def DBox (w : World) (q : Nat) (s : DS) (x : Da) : Prop :=
  w.cell? ⟨q, 0, none⟩ = some (.slice s.A0 x.bytes.length s.c0) ∧ w.cell? ⟨q, 1, none⟩ = some (.slice s.A1 x.host.length s.c1) ∧ w.cell? ⟨q, 2, none⟩ = some (.slice s.A2 x.mail.length s.c2) ∧ w.cell? ⟨q, 3, none⟩ = some (.slice s.A3 x.nums.length s.c3) ∧ w.cell? ⟨q, 4, none⟩ = some (.slice s.A4 x.texts.length s.c4)
theorem DBox.made (w : World) (s : DS) (x : Da) (e : TypeId) : DBox (w.alloc (.cells #[.slice s.A0 x.bytes.length s.c0, .slice s.A1 x.host.length s.c1, .slice s.A2 x.mail.length s.c2, .slice s.A3 x.nums.length s.c3, .slice s.A4 x.texts.length s.c4] e)) w.heap.size s x :=
  ⟨new_cell w _ _ 0, new_cell w _ _ 1, new_cell w _ _ 2, new_cell w _ _ 3, new_cell w _ _ 4⟩
theorem DBox.below {w w' : World} {q : Nat} {s : DS} {x : Da} (h : DBox w q s x) (hb : Below w.heap.size w w') : DBox w' q s x := by
  obtain ⟨h0, h1, h2, h3, h4⟩ := h
  exact ⟨below_cell hb h0, below_cell hb h1, below_cell hb h2, below_cell hb h3, below_cell hb h4⟩
theorem DBox.lt {w : World} {q : Nat} {s : DS} {x : Da} (h : DBox w q s x) : q < w.heap.size := by
  have := World.block_lt_of_cell? w _ h.1
  exact this

/-- Do both say the same? -/
def sameD (x y : Da) : Bool := decide (x.bytes = y.bytes ∧ x.nums = y.nums ∧ x.texts = y.texts ∧ lowN x.host = lowN y.host ∧ lowN x.mail = lowN y.mail)
theorem sameD_true {x y : Da} (h0 : x.bytes = y.bytes) (h1 : x.nums = y.nums) (h2 : x.texts = y.texts) (h3 : lowN x.host = lowN y.host) (h4 : lowN x.mail = lowN y.mail) : sameD x y = true := decide_eq_true ⟨h0, h1, h2, h3, h4⟩
theorem sameD_iff {x y : Da} : sameD x y = true ↔ x.bytes = y.bytes ∧ x.nums = y.nums ∧ x.texts = y.texts ∧ lowN x.host = lowN y.host ∧ lowN x.mail = lowN y.mail := decide_eq_true_iff
theorem sameD_comm (x y : Da) : sameD x y = sameD y x := by
  rw [Bool.eq_iff_iff, sameD_iff, sameD_iff]
  exact ⟨fun ⟨a, b, c, d, e⟩ => ⟨a.symm, b.symm, c.symm, d.symm, e.symm⟩, fun ⟨a, b, c, d, e⟩ => ⟨a.symm, b.symm, c.symm, d.symm, e.symm⟩⟩
theorem sameD_false {x y : Da} (h : ¬ (x.bytes = y.bytes ∧ x.nums = y.nums ∧ x.texts = y.texts ∧ lowN x.host = lowN y.host ∧ lowN x.mail = lowN y.mail)) : sameD x y = false := decide_eq_false h

set_option maxHeartbeats 4000000 in
theorem psame_any (s r : DS) (x y : Da) (w : World) (hx : DRd w s x) (hy : DRd w r y) : Calls Try.prog 147 #[dsV s x, dsV r y] w (RetP (fun v _ => v = .bool (sameD x y)) w) := by
  unfold dsV
  obtain ⟨w0, hw0⟩ : ∃ w0, w0 = (w.alloc (.cells #[.slice s.A0 x.bytes.length s.c0, .slice s.A1 x.host.length s.c1, .slice s.A2 x.mail.length s.c2, .slice s.A3 x.nums.length s.c3, .slice s.A4 x.texts.length s.c4] 42)).alloc (.cells #[.slice r.A0 y.bytes.length r.c0, .slice r.A1 y.host.length r.c1, .slice r.A2 y.mail.length r.c2, .slice r.A3 y.nums.length r.c3, .slice r.A4 y.texts.length r.c4] 42) := ⟨_, rfl⟩
  have hbA : Below w.heap.size w (w.alloc (.cells #[.slice s.A0 x.bytes.length s.c0, .slice s.A1 x.host.length s.c1, .slice s.A2 x.mail.length s.c2, .slice s.A3 x.nums.length s.c3, .slice s.A4 x.texts.length s.c4] 42)) := bl.alloc (Nat.le_refl _) _
  have hb0 : Below w.heap.size w w0 := by rw [hw0]; exact nx hbA (bl.alloc (Nat.le_refl _) _)
  have HX0 := Lib.hid (hx.below hb0)
  have HY0 := Lib.hid (hy.below hb0)
  have BX0 : Hid (DBox w0 w.heap.size s x) := by show DBox _ _ _ _; rw [hw0]; exact (DBox.made w s x _).below (bl.alloc (Nat.le_refl _) _)
  have BY0 : Hid (DBox w0 (w.heap.size + 1) r y) := by
    show DBox _ _ _ _
    rw [hw0]
    have := DBox.made (w.alloc (.cells #[.slice s.A0 x.bytes.length s.c0, .slice s.A1 x.host.length s.c1, .slice s.A2 x.mail.length s.c2, .slice s.A3 x.nums.length s.c3, .slice s.A4 x.texts.length s.c4] 42)) r y 42
    rw [show (w.alloc (.cells #[.slice s.A0 x.bytes.length s.c0, .slice s.A1 x.host.length s.c1, .slice s.A2 x.mail.length s.c2, .slice s.A3 x.nums.length s.c3, .slice s.A4 x.texts.length s.c4] 42)).heap.size = w.heap.size + 1 by simp] at this
    exact this
  clear hx hy hbA
  obtain ⟨a00, a01, a02, a03, a04⟩ := BX0.out
  obtain ⟨b00, b01, b02, b03, b04⟩ := BY0.out
  go_enter Try.func147, Try.ntmps147
  go_upto_region 1 with (fail)
  rw [← hw0]
  clear hw0
  by_cases e0 : x.bytes = y.bytes
  · have E0 := Lib.hid e0
    clear e0
    by_cases e1 : x.nums = y.nums
    · have E1 := Lib.hid e1
      clear e1
      by_cases e2 : x.texts = y.texts
      · have E2 := Lib.hid e2
        clear e2
        by_cases e3 : lowN x.host = lowN y.host
        · have E3 := Lib.hid e3
          clear e3
          by_cases e4 : lowN x.mail = lowN y.mail
          · have E4 := Lib.hid e4
            clear e4
            go_wp2_with (first
              | (go_at_call 63; refine (nequal_any _ _ _ _ _ _ x.mail y.mail w4 HX4.out.m HY4.out.m (Nat.le_trans HX4.out.cm.1 HX4.out.cm.2) (Nat.le_trans HY4.out.cm.1 HY4.out.cm.2)).mono ?_; rw [decide_eq_true E4.out]; rintro e w5 ⟨v5, rfl, rfl, hb5⟩; have HX5 := Lib.hid (HX4.out.below hb5); have HY5 := Lib.hid (HY4.out.below hb5); have BX5 := Lib.hid (BX4.out.below hb5); have BY5 := Lib.hid (BY4.out.below hb5); obtain ⟨a50, a51, a52, a53, a54⟩ := BX5.out; obtain ⟨b50, b51, b52, b53, b54⟩ := BY5.out)
              | (go_at_call 63; refine (nequal_any _ _ _ _ _ _ x.host y.host w3 HX3.out.h HY3.out.h (Nat.le_trans HX3.out.ch.1 HX3.out.ch.2) (Nat.le_trans HY3.out.ch.1 HY3.out.ch.2)).mono ?_; rw [decide_eq_true E3.out]; rintro e w4 ⟨v4, rfl, rfl, hb4⟩; have HX4 := Lib.hid (HX3.out.below hb4); have HY4 := Lib.hid (HY3.out.below hb4); have BX4 := Lib.hid (BX3.out.below hb4); have BY4 := Lib.hid (BY3.out.below hb4); obtain ⟨a40, a41, a42, a43, a44⟩ := BX4.out; obtain ⟨b40, b41, b42, b43, b44⟩ := BY4.out)
              | (go_at_call 170; refine (seqS_any _ _ _ _ _ _ x.texts y.texts w2 HX2.out.t HY2.out.t (Nat.le_trans HX2.out.ct.1 HX2.out.ct.2) (Nat.le_trans HY2.out.ct.1 HY2.out.ct.2)).mono ?_; rw [decide_eq_true E2.out]; rintro e w3 ⟨rfl, m3, hw3⟩; have hb3 : Below w2.heap.size w2 w3 := (by rw [hw3]; exact dN bl m3); clear hw3; have HX3 := Lib.hid (HX2.out.below hb3); have HY3 := Lib.hid (HY2.out.below hb3); have BX3 := Lib.hid (BX2.out.below hb3); have BY3 := Lib.hid (BY2.out.below hb3); obtain ⟨a30, a31, a32, a33, a34⟩ := BX3.out; obtain ⟨b30, b31, b32, b33, b34⟩ := BY3.out)
              | (go_at_call 169; refine (seqI_any _ _ _ _ _ _ x.nums y.nums w1 HX1.out.n HY1.out.n (Nat.le_trans HX1.out.cn.1 HX1.out.cn.2) (Nat.le_trans HY1.out.cn.1 HY1.out.cn.2)).mono ?_; rw [decide_eq_true E1.out]; rintro e w2 ⟨rfl, m2, hw2⟩; have hb2 : Below w1.heap.size w1 w2 := (by rw [hw2]; exact dN bl m2); clear hw2; have HX2 := Lib.hid (HX1.out.below hb2); have HY2 := Lib.hid (HY1.out.below hb2); have BX2 := Lib.hid (BX1.out.below hb2); have BY2 := Lib.hid (BY1.out.below hb2); obtain ⟨a20, a21, a22, a23, a24⟩ := BX2.out; obtain ⟨b20, b21, b22, b23, b24⟩ := BY2.out)
              | (go_at_call 168; refine (seqB_any _ _ _ _ _ _ x.bytes y.bytes w0 HX0.out.b HY0.out.b (Nat.le_trans HX0.out.cb.1 HX0.out.cb.2) (Nat.le_trans HY0.out.cb.1 HY0.out.cb.2)).mono ?_; rw [decide_eq_true E0.out]; rintro e w1 ⟨rfl, m1, hw1⟩; have hb1 : Below w0.heap.size w0 w1 := (by rw [hw1]; exact dN bl m1); clear hw1; have HX1 := Lib.hid (HX0.out.below hb1); have HY1 := Lib.hid (HY0.out.below hb1); have BX1 := Lib.hid (BX0.out.below hb1); have BY1 := Lib.hid (BY0.out.below hb1); obtain ⟨a10, a11, a12, a13, a14⟩ := BX1.out; obtain ⟨b10, b11, b12, b13, b14⟩ := BY1.out)
              | fail)
            go_ret
            exact ⟨_, rfl, by rw [sameD_true E0.out E1.out E2.out E3.out E4.out]; rfl, (nx (nx (nx (nx (nx hb0 hb1) hb2) hb3) hb4) hb5)⟩
          · have E4 := Lib.hid e4
            clear e4
            go_wp2_with (first
              | (go_at_call 63; refine (nequal_any _ _ _ _ _ _ x.mail y.mail w4 HX4.out.m HY4.out.m (Nat.le_trans HX4.out.cm.1 HX4.out.cm.2) (Nat.le_trans HY4.out.cm.1 HY4.out.cm.2)).mono ?_; rw [decide_eq_false E4.out]; rintro e w5 ⟨v5, rfl, rfl, hb5⟩; have HX5 := Lib.hid (HX4.out.below hb5); have HY5 := Lib.hid (HY4.out.below hb5); have BX5 := Lib.hid (BX4.out.below hb5); have BY5 := Lib.hid (BY4.out.below hb5); obtain ⟨a50, a51, a52, a53, a54⟩ := BX5.out; obtain ⟨b50, b51, b52, b53, b54⟩ := BY5.out)
              | (go_at_call 63; refine (nequal_any _ _ _ _ _ _ x.host y.host w3 HX3.out.h HY3.out.h (Nat.le_trans HX3.out.ch.1 HX3.out.ch.2) (Nat.le_trans HY3.out.ch.1 HY3.out.ch.2)).mono ?_; rw [decide_eq_true E3.out]; rintro e w4 ⟨v4, rfl, rfl, hb4⟩; have HX4 := Lib.hid (HX3.out.below hb4); have HY4 := Lib.hid (HY3.out.below hb4); have BX4 := Lib.hid (BX3.out.below hb4); have BY4 := Lib.hid (BY3.out.below hb4); obtain ⟨a40, a41, a42, a43, a44⟩ := BX4.out; obtain ⟨b40, b41, b42, b43, b44⟩ := BY4.out)
              | (go_at_call 170; refine (seqS_any _ _ _ _ _ _ x.texts y.texts w2 HX2.out.t HY2.out.t (Nat.le_trans HX2.out.ct.1 HX2.out.ct.2) (Nat.le_trans HY2.out.ct.1 HY2.out.ct.2)).mono ?_; rw [decide_eq_true E2.out]; rintro e w3 ⟨rfl, m3, hw3⟩; have hb3 : Below w2.heap.size w2 w3 := (by rw [hw3]; exact dN bl m3); clear hw3; have HX3 := Lib.hid (HX2.out.below hb3); have HY3 := Lib.hid (HY2.out.below hb3); have BX3 := Lib.hid (BX2.out.below hb3); have BY3 := Lib.hid (BY2.out.below hb3); obtain ⟨a30, a31, a32, a33, a34⟩ := BX3.out; obtain ⟨b30, b31, b32, b33, b34⟩ := BY3.out)
              | (go_at_call 169; refine (seqI_any _ _ _ _ _ _ x.nums y.nums w1 HX1.out.n HY1.out.n (Nat.le_trans HX1.out.cn.1 HX1.out.cn.2) (Nat.le_trans HY1.out.cn.1 HY1.out.cn.2)).mono ?_; rw [decide_eq_true E1.out]; rintro e w2 ⟨rfl, m2, hw2⟩; have hb2 : Below w1.heap.size w1 w2 := (by rw [hw2]; exact dN bl m2); clear hw2; have HX2 := Lib.hid (HX1.out.below hb2); have HY2 := Lib.hid (HY1.out.below hb2); have BX2 := Lib.hid (BX1.out.below hb2); have BY2 := Lib.hid (BY1.out.below hb2); obtain ⟨a20, a21, a22, a23, a24⟩ := BX2.out; obtain ⟨b20, b21, b22, b23, b24⟩ := BY2.out)
              | (go_at_call 168; refine (seqB_any _ _ _ _ _ _ x.bytes y.bytes w0 HX0.out.b HY0.out.b (Nat.le_trans HX0.out.cb.1 HX0.out.cb.2) (Nat.le_trans HY0.out.cb.1 HY0.out.cb.2)).mono ?_; rw [decide_eq_true E0.out]; rintro e w1 ⟨rfl, m1, hw1⟩; have hb1 : Below w0.heap.size w0 w1 := (by rw [hw1]; exact dN bl m1); clear hw1; have HX1 := Lib.hid (HX0.out.below hb1); have HY1 := Lib.hid (HY0.out.below hb1); have BX1 := Lib.hid (BX0.out.below hb1); have BY1 := Lib.hid (BY0.out.below hb1); obtain ⟨a10, a11, a12, a13, a14⟩ := BX1.out; obtain ⟨b10, b11, b12, b13, b14⟩ := BY1.out)
              | fail)
            go_ret
            exact ⟨_, rfl, by rw [sameD_false (fun h => E4.out h.2.2.2.2)]; rfl, (nx (nx (nx (nx (nx hb0 hb1) hb2) hb3) hb4) hb5)⟩
        · have E3 := Lib.hid e3
          clear e3
          go_wp2_with (first
            | (go_at_call 63; refine (nequal_any _ _ _ _ _ _ x.host y.host w3 HX3.out.h HY3.out.h (Nat.le_trans HX3.out.ch.1 HX3.out.ch.2) (Nat.le_trans HY3.out.ch.1 HY3.out.ch.2)).mono ?_; rw [decide_eq_false E3.out]; rintro e w4 ⟨v4, rfl, rfl, hb4⟩; have HX4 := Lib.hid (HX3.out.below hb4); have HY4 := Lib.hid (HY3.out.below hb4); have BX4 := Lib.hid (BX3.out.below hb4); have BY4 := Lib.hid (BY3.out.below hb4); obtain ⟨a40, a41, a42, a43, a44⟩ := BX4.out; obtain ⟨b40, b41, b42, b43, b44⟩ := BY4.out)
            | (go_at_call 170; refine (seqS_any _ _ _ _ _ _ x.texts y.texts w2 HX2.out.t HY2.out.t (Nat.le_trans HX2.out.ct.1 HX2.out.ct.2) (Nat.le_trans HY2.out.ct.1 HY2.out.ct.2)).mono ?_; rw [decide_eq_true E2.out]; rintro e w3 ⟨rfl, m3, hw3⟩; have hb3 : Below w2.heap.size w2 w3 := (by rw [hw3]; exact dN bl m3); clear hw3; have HX3 := Lib.hid (HX2.out.below hb3); have HY3 := Lib.hid (HY2.out.below hb3); have BX3 := Lib.hid (BX2.out.below hb3); have BY3 := Lib.hid (BY2.out.below hb3); obtain ⟨a30, a31, a32, a33, a34⟩ := BX3.out; obtain ⟨b30, b31, b32, b33, b34⟩ := BY3.out)
            | (go_at_call 169; refine (seqI_any _ _ _ _ _ _ x.nums y.nums w1 HX1.out.n HY1.out.n (Nat.le_trans HX1.out.cn.1 HX1.out.cn.2) (Nat.le_trans HY1.out.cn.1 HY1.out.cn.2)).mono ?_; rw [decide_eq_true E1.out]; rintro e w2 ⟨rfl, m2, hw2⟩; have hb2 : Below w1.heap.size w1 w2 := (by rw [hw2]; exact dN bl m2); clear hw2; have HX2 := Lib.hid (HX1.out.below hb2); have HY2 := Lib.hid (HY1.out.below hb2); have BX2 := Lib.hid (BX1.out.below hb2); have BY2 := Lib.hid (BY1.out.below hb2); obtain ⟨a20, a21, a22, a23, a24⟩ := BX2.out; obtain ⟨b20, b21, b22, b23, b24⟩ := BY2.out)
            | (go_at_call 168; refine (seqB_any _ _ _ _ _ _ x.bytes y.bytes w0 HX0.out.b HY0.out.b (Nat.le_trans HX0.out.cb.1 HX0.out.cb.2) (Nat.le_trans HY0.out.cb.1 HY0.out.cb.2)).mono ?_; rw [decide_eq_true E0.out]; rintro e w1 ⟨rfl, m1, hw1⟩; have hb1 : Below w0.heap.size w0 w1 := (by rw [hw1]; exact dN bl m1); clear hw1; have HX1 := Lib.hid (HX0.out.below hb1); have HY1 := Lib.hid (HY0.out.below hb1); have BX1 := Lib.hid (BX0.out.below hb1); have BY1 := Lib.hid (BY0.out.below hb1); obtain ⟨a10, a11, a12, a13, a14⟩ := BX1.out; obtain ⟨b10, b11, b12, b13, b14⟩ := BY1.out)
            | fail)
          go_ret
          exact ⟨_, rfl, by rw [sameD_false (fun h => E3.out h.2.2.2.1)]; rfl, (nx (nx (nx (nx hb0 hb1) hb2) hb3) hb4)⟩
      · have E2 := Lib.hid e2
        clear e2
        go_wp2_with (first
          | (go_at_call 170; refine (seqS_any _ _ _ _ _ _ x.texts y.texts w2 HX2.out.t HY2.out.t (Nat.le_trans HX2.out.ct.1 HX2.out.ct.2) (Nat.le_trans HY2.out.ct.1 HY2.out.ct.2)).mono ?_; rw [decide_eq_false E2.out]; rintro e w3 ⟨rfl, m3, hw3⟩; have hb3 : Below w2.heap.size w2 w3 := (by rw [hw3]; exact dN bl m3); clear hw3; have HX3 := Lib.hid (HX2.out.below hb3); have HY3 := Lib.hid (HY2.out.below hb3); have BX3 := Lib.hid (BX2.out.below hb3); have BY3 := Lib.hid (BY2.out.below hb3); obtain ⟨a30, a31, a32, a33, a34⟩ := BX3.out; obtain ⟨b30, b31, b32, b33, b34⟩ := BY3.out)
          | (go_at_call 169; refine (seqI_any _ _ _ _ _ _ x.nums y.nums w1 HX1.out.n HY1.out.n (Nat.le_trans HX1.out.cn.1 HX1.out.cn.2) (Nat.le_trans HY1.out.cn.1 HY1.out.cn.2)).mono ?_; rw [decide_eq_true E1.out]; rintro e w2 ⟨rfl, m2, hw2⟩; have hb2 : Below w1.heap.size w1 w2 := (by rw [hw2]; exact dN bl m2); clear hw2; have HX2 := Lib.hid (HX1.out.below hb2); have HY2 := Lib.hid (HY1.out.below hb2); have BX2 := Lib.hid (BX1.out.below hb2); have BY2 := Lib.hid (BY1.out.below hb2); obtain ⟨a20, a21, a22, a23, a24⟩ := BX2.out; obtain ⟨b20, b21, b22, b23, b24⟩ := BY2.out)
          | (go_at_call 168; refine (seqB_any _ _ _ _ _ _ x.bytes y.bytes w0 HX0.out.b HY0.out.b (Nat.le_trans HX0.out.cb.1 HX0.out.cb.2) (Nat.le_trans HY0.out.cb.1 HY0.out.cb.2)).mono ?_; rw [decide_eq_true E0.out]; rintro e w1 ⟨rfl, m1, hw1⟩; have hb1 : Below w0.heap.size w0 w1 := (by rw [hw1]; exact dN bl m1); clear hw1; have HX1 := Lib.hid (HX0.out.below hb1); have HY1 := Lib.hid (HY0.out.below hb1); have BX1 := Lib.hid (BX0.out.below hb1); have BY1 := Lib.hid (BY0.out.below hb1); obtain ⟨a10, a11, a12, a13, a14⟩ := BX1.out; obtain ⟨b10, b11, b12, b13, b14⟩ := BY1.out)
          | fail)
        go_ret
        exact ⟨_, rfl, by rw [sameD_false (fun h => E2.out h.2.2.1)]; rfl, (nx (nx (nx hb0 hb1) hb2) hb3)⟩
    · have E1 := Lib.hid e1
      clear e1
      go_wp2_with (first
        | (go_at_call 169; refine (seqI_any _ _ _ _ _ _ x.nums y.nums w1 HX1.out.n HY1.out.n (Nat.le_trans HX1.out.cn.1 HX1.out.cn.2) (Nat.le_trans HY1.out.cn.1 HY1.out.cn.2)).mono ?_; rw [decide_eq_false E1.out]; rintro e w2 ⟨rfl, m2, hw2⟩; have hb2 : Below w1.heap.size w1 w2 := (by rw [hw2]; exact dN bl m2); clear hw2; have HX2 := Lib.hid (HX1.out.below hb2); have HY2 := Lib.hid (HY1.out.below hb2); have BX2 := Lib.hid (BX1.out.below hb2); have BY2 := Lib.hid (BY1.out.below hb2); obtain ⟨a20, a21, a22, a23, a24⟩ := BX2.out; obtain ⟨b20, b21, b22, b23, b24⟩ := BY2.out)
        | (go_at_call 168; refine (seqB_any _ _ _ _ _ _ x.bytes y.bytes w0 HX0.out.b HY0.out.b (Nat.le_trans HX0.out.cb.1 HX0.out.cb.2) (Nat.le_trans HY0.out.cb.1 HY0.out.cb.2)).mono ?_; rw [decide_eq_true E0.out]; rintro e w1 ⟨rfl, m1, hw1⟩; have hb1 : Below w0.heap.size w0 w1 := (by rw [hw1]; exact dN bl m1); clear hw1; have HX1 := Lib.hid (HX0.out.below hb1); have HY1 := Lib.hid (HY0.out.below hb1); have BX1 := Lib.hid (BX0.out.below hb1); have BY1 := Lib.hid (BY0.out.below hb1); obtain ⟨a10, a11, a12, a13, a14⟩ := BX1.out; obtain ⟨b10, b11, b12, b13, b14⟩ := BY1.out)
        | fail)
      go_ret
      exact ⟨_, rfl, by rw [sameD_false (fun h => E1.out h.2.1)]; rfl, (nx (nx hb0 hb1) hb2)⟩
  · have E0 := Lib.hid e0
    clear e0
    go_wp2_with (first
      | (go_at_call 168; refine (seqB_any _ _ _ _ _ _ x.bytes y.bytes w0 HX0.out.b HY0.out.b (Nat.le_trans HX0.out.cb.1 HX0.out.cb.2) (Nat.le_trans HY0.out.cb.1 HY0.out.cb.2)).mono ?_; rw [decide_eq_false E0.out]; rintro e w1 ⟨rfl, m1, hw1⟩; have hb1 : Below w0.heap.size w0 w1 := (by rw [hw1]; exact dN bl m1); clear hw1; have HX1 := Lib.hid (HX0.out.below hb1); have HY1 := Lib.hid (HY0.out.below hb1); have BX1 := Lib.hid (BX0.out.below hb1); have BY1 := Lib.hid (BY0.out.below hb1); obtain ⟨a10, a11, a12, a13, a14⟩ := BX1.out; obtain ⟨b10, b11, b12, b13, b14⟩ := BY1.out)
      | fail)
    go_ret
    exact ⟨_, rfl, by rw [sameD_false (fun h => E0.out h.1)]; rfl, (nx hb0 hb1)⟩

set_option maxHeartbeats 4000000 in
theorem rsame_any (s r : DS) (x y : Da) (w : World) (hx : DRd w s x) (hy : DRd w r y) : Calls Try.prog 144 #[dsV s x, dsV r y] w (RetP (fun v _ => v = .bool (sameD x y)) w) := by
  unfold dsV
  obtain ⟨w0, hw0⟩ : ∃ w0, w0 = (w.alloc (.cells #[.slice s.A0 x.bytes.length s.c0, .slice s.A1 x.host.length s.c1, .slice s.A2 x.mail.length s.c2, .slice s.A3 x.nums.length s.c3, .slice s.A4 x.texts.length s.c4] 42)).alloc (.cells #[.slice r.A0 y.bytes.length r.c0, .slice r.A1 y.host.length r.c1, .slice r.A2 y.mail.length r.c2, .slice r.A3 y.nums.length r.c3, .slice r.A4 y.texts.length r.c4] 42) := ⟨_, rfl⟩
  have hbA : Below w.heap.size w (w.alloc (.cells #[.slice s.A0 x.bytes.length s.c0, .slice s.A1 x.host.length s.c1, .slice s.A2 x.mail.length s.c2, .slice s.A3 x.nums.length s.c3, .slice s.A4 x.texts.length s.c4] 42)) := bl.alloc (Nat.le_refl _) _
  have hb0 : Below w.heap.size w w0 := by rw [hw0]; exact nx hbA (bl.alloc (Nat.le_refl _) _)
  have HX0 := Lib.hid (hx.below hb0)
  have HY0 := Lib.hid (hy.below hb0)
  have BX0 : Hid (DBox w0 w.heap.size s x) := by show DBox _ _ _ _; rw [hw0]; exact (DBox.made w s x _).below (bl.alloc (Nat.le_refl _) _)
  have BY0 : Hid (DBox w0 (w.heap.size + 1) r y) := by
    show DBox _ _ _ _
    rw [hw0]
    have := DBox.made (w.alloc (.cells #[.slice s.A0 x.bytes.length s.c0, .slice s.A1 x.host.length s.c1, .slice s.A2 x.mail.length s.c2, .slice s.A3 x.nums.length s.c3, .slice s.A4 x.texts.length s.c4] 42)) r y 42
    rw [show (w.alloc (.cells #[.slice s.A0 x.bytes.length s.c0, .slice s.A1 x.host.length s.c1, .slice s.A2 x.mail.length s.c2, .slice s.A3 x.nums.length s.c3, .slice s.A4 x.texts.length s.c4] 42)).heap.size = w.heap.size + 1 by simp] at this
    exact this
  clear hx hy hbA
  obtain ⟨a00, a01, a02, a03, a04⟩ := BX0.out
  obtain ⟨b00, b01, b02, b03, b04⟩ := BY0.out
  go_enter Try.func144, Try.ntmps144
  go_upto_region 1 with (fail)
  rw [← hw0]
  clear hw0
  by_cases e0 : x.bytes = y.bytes
  · have E0 := Lib.hid e0
    clear e0
    by_cases e1 : x.nums = y.nums
    · have E1 := Lib.hid e1
      clear e1
      by_cases e2 : x.texts = y.texts
      · have E2 := Lib.hid e2
        clear e2
        by_cases e3 : lowN x.host = lowN y.host
        · have E3 := Lib.hid e3
          clear e3
          by_cases e4 : lowN x.mail = lowN y.mail
          · have E4 := Lib.hid e4
            clear e4
            go_wp2_with (first
              | (go_at_call 34; refine (requal_any _ _ _ _ _ _ x.mail y.mail w4 HX4.out.m HY4.out.m (Nat.le_trans HX4.out.cm.1 HX4.out.cm.2) (Nat.le_trans HY4.out.cm.1 HY4.out.cm.2)).mono ?_; rw [decide_eq_true E4.out]; rintro e w5 ⟨v5, rfl, rfl, hb5⟩; have HX5 := Lib.hid (HX4.out.below hb5); have HY5 := Lib.hid (HY4.out.below hb5); have BX5 := Lib.hid (BX4.out.below hb5); have BY5 := Lib.hid (BY4.out.below hb5); obtain ⟨a50, a51, a52, a53, a54⟩ := BX5.out; obtain ⟨b50, b51, b52, b53, b54⟩ := BY5.out)
              | (go_at_call 34; refine (requal_any _ _ _ _ _ _ x.host y.host w3 HX3.out.h HY3.out.h (Nat.le_trans HX3.out.ch.1 HX3.out.ch.2) (Nat.le_trans HY3.out.ch.1 HY3.out.ch.2)).mono ?_; rw [decide_eq_true E3.out]; rintro e w4 ⟨v4, rfl, rfl, hb4⟩; have HX4 := Lib.hid (HX3.out.below hb4); have HY4 := Lib.hid (HY3.out.below hb4); have BX4 := Lib.hid (BX3.out.below hb4); have BY4 := Lib.hid (BY3.out.below hb4); obtain ⟨a40, a41, a42, a43, a44⟩ := BX4.out; obtain ⟨b40, b41, b42, b43, b44⟩ := BY4.out)
              | (go_at_call 166; refine (rtexts_any _ _ _ _ _ _ x.texts y.texts w2 HX2.out.t HY2.out.t (Nat.le_trans HX2.out.ct.1 HX2.out.ct.2) (Nat.le_trans HY2.out.ct.1 HY2.out.ct.2)).mono ?_; rw [decide_eq_true E2.out]; rintro e w3 ⟨rfl, m3, hw3⟩; have hb3 : Below w2.heap.size w2 w3 := (by rw [hw3]; exact dN bl m3); clear hw3; have HX3 := Lib.hid (HX2.out.below hb3); have HY3 := Lib.hid (HY2.out.below hb3); have BX3 := Lib.hid (BX2.out.below hb3); have BY3 := Lib.hid (BY2.out.below hb3); obtain ⟨a30, a31, a32, a33, a34⟩ := BX3.out; obtain ⟨b30, b31, b32, b33, b34⟩ := BY3.out)
              | (go_at_call 165; refine (rints_any _ _ _ _ _ _ x.nums y.nums w1 HX1.out.n HY1.out.n (Nat.le_trans HX1.out.cn.1 HX1.out.cn.2) (Nat.le_trans HY1.out.cn.1 HY1.out.cn.2)).mono ?_; rw [decide_eq_true E1.out]; rintro e w2 ⟨rfl, m2, hw2⟩; have hb2 : Below w1.heap.size w1 w2 := (by rw [hw2]; exact dN bl m2); clear hw2; have HX2 := Lib.hid (HX1.out.below hb2); have HY2 := Lib.hid (HY1.out.below hb2); have BX2 := Lib.hid (BX1.out.below hb2); have BY2 := Lib.hid (BY1.out.below hb2); obtain ⟨a20, a21, a22, a23, a24⟩ := BX2.out; obtain ⟨b20, b21, b22, b23, b24⟩ := BY2.out)
              | (go_at_call 23; refine (same_any _ _ _ _ _ _ x.bytes y.bytes w0 HX0.out.b HY0.out.b (Nat.le_trans HX0.out.cb.1 HX0.out.cb.2) (Nat.le_trans HY0.out.cb.1 HY0.out.cb.2)).mono ?_; rw [decide_eq_true E0.out]; rintro e w1 ⟨rfl, m1, hw1⟩; have hb1 : Below w0.heap.size w0 w1 := (by rw [hw1]; exact dN bl m1); clear hw1; have HX1 := Lib.hid (HX0.out.below hb1); have HY1 := Lib.hid (HY0.out.below hb1); have BX1 := Lib.hid (BX0.out.below hb1); have BY1 := Lib.hid (BY0.out.below hb1); obtain ⟨a10, a11, a12, a13, a14⟩ := BX1.out; obtain ⟨b10, b11, b12, b13, b14⟩ := BY1.out)
              | fail)
            go_ret
            exact ⟨_, rfl, by rw [sameD_true E0.out E1.out E2.out E3.out E4.out]; rfl, (nx (nx (nx (nx (nx hb0 hb1) hb2) hb3) hb4) hb5)⟩
          · have E4 := Lib.hid e4
            clear e4
            go_wp2_with (first
              | (go_at_call 34; refine (requal_any _ _ _ _ _ _ x.mail y.mail w4 HX4.out.m HY4.out.m (Nat.le_trans HX4.out.cm.1 HX4.out.cm.2) (Nat.le_trans HY4.out.cm.1 HY4.out.cm.2)).mono ?_; rw [decide_eq_false E4.out]; rintro e w5 ⟨v5, rfl, rfl, hb5⟩; have HX5 := Lib.hid (HX4.out.below hb5); have HY5 := Lib.hid (HY4.out.below hb5); have BX5 := Lib.hid (BX4.out.below hb5); have BY5 := Lib.hid (BY4.out.below hb5); obtain ⟨a50, a51, a52, a53, a54⟩ := BX5.out; obtain ⟨b50, b51, b52, b53, b54⟩ := BY5.out)
              | (go_at_call 34; refine (requal_any _ _ _ _ _ _ x.host y.host w3 HX3.out.h HY3.out.h (Nat.le_trans HX3.out.ch.1 HX3.out.ch.2) (Nat.le_trans HY3.out.ch.1 HY3.out.ch.2)).mono ?_; rw [decide_eq_true E3.out]; rintro e w4 ⟨v4, rfl, rfl, hb4⟩; have HX4 := Lib.hid (HX3.out.below hb4); have HY4 := Lib.hid (HY3.out.below hb4); have BX4 := Lib.hid (BX3.out.below hb4); have BY4 := Lib.hid (BY3.out.below hb4); obtain ⟨a40, a41, a42, a43, a44⟩ := BX4.out; obtain ⟨b40, b41, b42, b43, b44⟩ := BY4.out)
              | (go_at_call 166; refine (rtexts_any _ _ _ _ _ _ x.texts y.texts w2 HX2.out.t HY2.out.t (Nat.le_trans HX2.out.ct.1 HX2.out.ct.2) (Nat.le_trans HY2.out.ct.1 HY2.out.ct.2)).mono ?_; rw [decide_eq_true E2.out]; rintro e w3 ⟨rfl, m3, hw3⟩; have hb3 : Below w2.heap.size w2 w3 := (by rw [hw3]; exact dN bl m3); clear hw3; have HX3 := Lib.hid (HX2.out.below hb3); have HY3 := Lib.hid (HY2.out.below hb3); have BX3 := Lib.hid (BX2.out.below hb3); have BY3 := Lib.hid (BY2.out.below hb3); obtain ⟨a30, a31, a32, a33, a34⟩ := BX3.out; obtain ⟨b30, b31, b32, b33, b34⟩ := BY3.out)
              | (go_at_call 165; refine (rints_any _ _ _ _ _ _ x.nums y.nums w1 HX1.out.n HY1.out.n (Nat.le_trans HX1.out.cn.1 HX1.out.cn.2) (Nat.le_trans HY1.out.cn.1 HY1.out.cn.2)).mono ?_; rw [decide_eq_true E1.out]; rintro e w2 ⟨rfl, m2, hw2⟩; have hb2 : Below w1.heap.size w1 w2 := (by rw [hw2]; exact dN bl m2); clear hw2; have HX2 := Lib.hid (HX1.out.below hb2); have HY2 := Lib.hid (HY1.out.below hb2); have BX2 := Lib.hid (BX1.out.below hb2); have BY2 := Lib.hid (BY1.out.below hb2); obtain ⟨a20, a21, a22, a23, a24⟩ := BX2.out; obtain ⟨b20, b21, b22, b23, b24⟩ := BY2.out)
              | (go_at_call 23; refine (same_any _ _ _ _ _ _ x.bytes y.bytes w0 HX0.out.b HY0.out.b (Nat.le_trans HX0.out.cb.1 HX0.out.cb.2) (Nat.le_trans HY0.out.cb.1 HY0.out.cb.2)).mono ?_; rw [decide_eq_true E0.out]; rintro e w1 ⟨rfl, m1, hw1⟩; have hb1 : Below w0.heap.size w0 w1 := (by rw [hw1]; exact dN bl m1); clear hw1; have HX1 := Lib.hid (HX0.out.below hb1); have HY1 := Lib.hid (HY0.out.below hb1); have BX1 := Lib.hid (BX0.out.below hb1); have BY1 := Lib.hid (BY0.out.below hb1); obtain ⟨a10, a11, a12, a13, a14⟩ := BX1.out; obtain ⟨b10, b11, b12, b13, b14⟩ := BY1.out)
              | fail)
            go_ret
            exact ⟨_, rfl, by rw [sameD_false (fun h => E4.out h.2.2.2.2)]; rfl, (nx (nx (nx (nx (nx hb0 hb1) hb2) hb3) hb4) hb5)⟩
        · have E3 := Lib.hid e3
          clear e3
          go_wp2_with (first
            | (go_at_call 34; refine (requal_any _ _ _ _ _ _ x.host y.host w3 HX3.out.h HY3.out.h (Nat.le_trans HX3.out.ch.1 HX3.out.ch.2) (Nat.le_trans HY3.out.ch.1 HY3.out.ch.2)).mono ?_; rw [decide_eq_false E3.out]; rintro e w4 ⟨v4, rfl, rfl, hb4⟩; have HX4 := Lib.hid (HX3.out.below hb4); have HY4 := Lib.hid (HY3.out.below hb4); have BX4 := Lib.hid (BX3.out.below hb4); have BY4 := Lib.hid (BY3.out.below hb4); obtain ⟨a40, a41, a42, a43, a44⟩ := BX4.out; obtain ⟨b40, b41, b42, b43, b44⟩ := BY4.out)
            | (go_at_call 166; refine (rtexts_any _ _ _ _ _ _ x.texts y.texts w2 HX2.out.t HY2.out.t (Nat.le_trans HX2.out.ct.1 HX2.out.ct.2) (Nat.le_trans HY2.out.ct.1 HY2.out.ct.2)).mono ?_; rw [decide_eq_true E2.out]; rintro e w3 ⟨rfl, m3, hw3⟩; have hb3 : Below w2.heap.size w2 w3 := (by rw [hw3]; exact dN bl m3); clear hw3; have HX3 := Lib.hid (HX2.out.below hb3); have HY3 := Lib.hid (HY2.out.below hb3); have BX3 := Lib.hid (BX2.out.below hb3); have BY3 := Lib.hid (BY2.out.below hb3); obtain ⟨a30, a31, a32, a33, a34⟩ := BX3.out; obtain ⟨b30, b31, b32, b33, b34⟩ := BY3.out)
            | (go_at_call 165; refine (rints_any _ _ _ _ _ _ x.nums y.nums w1 HX1.out.n HY1.out.n (Nat.le_trans HX1.out.cn.1 HX1.out.cn.2) (Nat.le_trans HY1.out.cn.1 HY1.out.cn.2)).mono ?_; rw [decide_eq_true E1.out]; rintro e w2 ⟨rfl, m2, hw2⟩; have hb2 : Below w1.heap.size w1 w2 := (by rw [hw2]; exact dN bl m2); clear hw2; have HX2 := Lib.hid (HX1.out.below hb2); have HY2 := Lib.hid (HY1.out.below hb2); have BX2 := Lib.hid (BX1.out.below hb2); have BY2 := Lib.hid (BY1.out.below hb2); obtain ⟨a20, a21, a22, a23, a24⟩ := BX2.out; obtain ⟨b20, b21, b22, b23, b24⟩ := BY2.out)
            | (go_at_call 23; refine (same_any _ _ _ _ _ _ x.bytes y.bytes w0 HX0.out.b HY0.out.b (Nat.le_trans HX0.out.cb.1 HX0.out.cb.2) (Nat.le_trans HY0.out.cb.1 HY0.out.cb.2)).mono ?_; rw [decide_eq_true E0.out]; rintro e w1 ⟨rfl, m1, hw1⟩; have hb1 : Below w0.heap.size w0 w1 := (by rw [hw1]; exact dN bl m1); clear hw1; have HX1 := Lib.hid (HX0.out.below hb1); have HY1 := Lib.hid (HY0.out.below hb1); have BX1 := Lib.hid (BX0.out.below hb1); have BY1 := Lib.hid (BY0.out.below hb1); obtain ⟨a10, a11, a12, a13, a14⟩ := BX1.out; obtain ⟨b10, b11, b12, b13, b14⟩ := BY1.out)
            | fail)
          go_ret
          exact ⟨_, rfl, by rw [sameD_false (fun h => E3.out h.2.2.2.1)]; rfl, (nx (nx (nx (nx hb0 hb1) hb2) hb3) hb4)⟩
      · have E2 := Lib.hid e2
        clear e2
        go_wp2_with (first
          | (go_at_call 166; refine (rtexts_any _ _ _ _ _ _ x.texts y.texts w2 HX2.out.t HY2.out.t (Nat.le_trans HX2.out.ct.1 HX2.out.ct.2) (Nat.le_trans HY2.out.ct.1 HY2.out.ct.2)).mono ?_; rw [decide_eq_false E2.out]; rintro e w3 ⟨rfl, m3, hw3⟩; have hb3 : Below w2.heap.size w2 w3 := (by rw [hw3]; exact dN bl m3); clear hw3; have HX3 := Lib.hid (HX2.out.below hb3); have HY3 := Lib.hid (HY2.out.below hb3); have BX3 := Lib.hid (BX2.out.below hb3); have BY3 := Lib.hid (BY2.out.below hb3); obtain ⟨a30, a31, a32, a33, a34⟩ := BX3.out; obtain ⟨b30, b31, b32, b33, b34⟩ := BY3.out)
          | (go_at_call 165; refine (rints_any _ _ _ _ _ _ x.nums y.nums w1 HX1.out.n HY1.out.n (Nat.le_trans HX1.out.cn.1 HX1.out.cn.2) (Nat.le_trans HY1.out.cn.1 HY1.out.cn.2)).mono ?_; rw [decide_eq_true E1.out]; rintro e w2 ⟨rfl, m2, hw2⟩; have hb2 : Below w1.heap.size w1 w2 := (by rw [hw2]; exact dN bl m2); clear hw2; have HX2 := Lib.hid (HX1.out.below hb2); have HY2 := Lib.hid (HY1.out.below hb2); have BX2 := Lib.hid (BX1.out.below hb2); have BY2 := Lib.hid (BY1.out.below hb2); obtain ⟨a20, a21, a22, a23, a24⟩ := BX2.out; obtain ⟨b20, b21, b22, b23, b24⟩ := BY2.out)
          | (go_at_call 23; refine (same_any _ _ _ _ _ _ x.bytes y.bytes w0 HX0.out.b HY0.out.b (Nat.le_trans HX0.out.cb.1 HX0.out.cb.2) (Nat.le_trans HY0.out.cb.1 HY0.out.cb.2)).mono ?_; rw [decide_eq_true E0.out]; rintro e w1 ⟨rfl, m1, hw1⟩; have hb1 : Below w0.heap.size w0 w1 := (by rw [hw1]; exact dN bl m1); clear hw1; have HX1 := Lib.hid (HX0.out.below hb1); have HY1 := Lib.hid (HY0.out.below hb1); have BX1 := Lib.hid (BX0.out.below hb1); have BY1 := Lib.hid (BY0.out.below hb1); obtain ⟨a10, a11, a12, a13, a14⟩ := BX1.out; obtain ⟨b10, b11, b12, b13, b14⟩ := BY1.out)
          | fail)
        go_ret
        exact ⟨_, rfl, by rw [sameD_false (fun h => E2.out h.2.2.1)]; rfl, (nx (nx (nx hb0 hb1) hb2) hb3)⟩
    · have E1 := Lib.hid e1
      clear e1
      go_wp2_with (first
        | (go_at_call 165; refine (rints_any _ _ _ _ _ _ x.nums y.nums w1 HX1.out.n HY1.out.n (Nat.le_trans HX1.out.cn.1 HX1.out.cn.2) (Nat.le_trans HY1.out.cn.1 HY1.out.cn.2)).mono ?_; rw [decide_eq_false E1.out]; rintro e w2 ⟨rfl, m2, hw2⟩; have hb2 : Below w1.heap.size w1 w2 := (by rw [hw2]; exact dN bl m2); clear hw2; have HX2 := Lib.hid (HX1.out.below hb2); have HY2 := Lib.hid (HY1.out.below hb2); have BX2 := Lib.hid (BX1.out.below hb2); have BY2 := Lib.hid (BY1.out.below hb2); obtain ⟨a20, a21, a22, a23, a24⟩ := BX2.out; obtain ⟨b20, b21, b22, b23, b24⟩ := BY2.out)
        | (go_at_call 23; refine (same_any _ _ _ _ _ _ x.bytes y.bytes w0 HX0.out.b HY0.out.b (Nat.le_trans HX0.out.cb.1 HX0.out.cb.2) (Nat.le_trans HY0.out.cb.1 HY0.out.cb.2)).mono ?_; rw [decide_eq_true E0.out]; rintro e w1 ⟨rfl, m1, hw1⟩; have hb1 : Below w0.heap.size w0 w1 := (by rw [hw1]; exact dN bl m1); clear hw1; have HX1 := Lib.hid (HX0.out.below hb1); have HY1 := Lib.hid (HY0.out.below hb1); have BX1 := Lib.hid (BX0.out.below hb1); have BY1 := Lib.hid (BY0.out.below hb1); obtain ⟨a10, a11, a12, a13, a14⟩ := BX1.out; obtain ⟨b10, b11, b12, b13, b14⟩ := BY1.out)
        | fail)
      go_ret
      exact ⟨_, rfl, by rw [sameD_false (fun h => E1.out h.2.1)]; rfl, (nx (nx hb0 hb1) hb2)⟩
  · have E0 := Lib.hid e0
    clear e0
    go_wp2_with (first
      | (go_at_call 23; refine (same_any _ _ _ _ _ _ x.bytes y.bytes w0 HX0.out.b HY0.out.b (Nat.le_trans HX0.out.cb.1 HX0.out.cb.2) (Nat.le_trans HY0.out.cb.1 HY0.out.cb.2)).mono ?_; rw [decide_eq_false E0.out]; rintro e w1 ⟨rfl, m1, hw1⟩; have hb1 : Below w0.heap.size w0 w1 := (by rw [hw1]; exact dN bl m1); clear hw1; have HX1 := Lib.hid (HX0.out.below hb1); have HY1 := Lib.hid (HY0.out.below hb1); have BX1 := Lib.hid (BX0.out.below hb1); have BY1 := Lib.hid (BY0.out.below hb1); obtain ⟨a10, a11, a12, a13, a14⟩ := BX1.out; obtain ⟨b10, b11, b12, b13, b14⟩ := BY1.out)
      | fail)
    go_ret
    exact ⟨_, rfl, by rw [sameD_false (fun h => E0.out h.1)]; rfl, (nx hb0 hb1)⟩
end Go.Proofs.Ytmkfjddighabcaa

/- append([]T{}, s...): the call on a row that is empty. No program in it. -/
namespace Go.Proofs.Ytmkfjddighabcaa
open Go.RowKit

theorem setRow_below {w : World} {b : Nat} {cs : Array Value} {e : TypeId} (h : w.heap[b]? = some (.cells cs e (0, 0))) : Below w.heap.size w (w.setRow b cs) :=
  ⟨rfl, rfl, rfl, by simp, fun k hk => by
    by_cases e : k = b
    · subst e; rw [setRow_heap _ _ _ _ _ _ h, h]
    · exact setRow_other w b k cs e⟩
theorem run_clone {P : Program} {w : World} {T e : TypeId} {i : TypeInfo} {z : Value} {bytes : Nat} (ty : TypeId) (hT : P.underlying T = some (.slice e)) (hi : P.info? e = some i) (hz : i.zero = some z) (hsz : i.size = 1) (hby : i.bytes = bytes) (hzc : z.cells.size = 1)
    {base b : Nat} (hbase : base ≤ b) (hb : w.heap[b]? = some (.cells #[] e (0, 0))) (A : Option Addr) (m c : Nat) (news : List Value) (hr : Rd w 1 A m news) (hone : ∀ u ∈ news, u.oneCell' = true) (hm : m ≤ maxLen) (hbt : m * bytes ≤ 140737488355328) :
    ∃ v' w', (Builtin.append_ #[T, T] ty #[.slice (some ⟨b, 0, none⟩) 0 0, .slice A m c]).run P w = .ok v' w' ∧ w'.ownsRow base e 1 v' m news ∧ Below w.heap.size w w' ∧ (news ≠ [] → ∀ k, v'.ownBlock = some k → w.heap.size ≤ k) := by
  have hbl : b < w.heap.size := (Array.getElem?_eq_some_iff.1 hb).1
  have hown : w.ownsRow base e 1 (.slice (some ⟨b, 0, none⟩) 0 0) 0 [] := ⟨rfl, .inr ⟨b, 0, #[], rfl, hbase, hb, Nat.le_refl _, Nat.zero_le _, rfl, rfl⟩⟩
  have hl := hr.1
  rw [Nat.mul_one] at hl
  by_cases h0 : m = 0
  · subst h0
    obtain rfl : news = [] := List.eq_nil_of_length_eq_zero hl
    rcases A with _ | a
    · have hrun : (Builtin.append_ #[T, T] ty #[.slice (some ⟨b, 0, none⟩) 0 0, .slice none 0 c]).run P w = .ok (.slice (some ⟨b, 0, none⟩) 0 0) w := by
        simp [Builtin.append_, run_underlying hT, sizeOf, typeInfo, hi, Builtin.lenOf, Builtin.firstCells, storeCells]
      exact ⟨_, _, hrun, hown, bl, fun h => absurd rfl h⟩
    · have hrun := run_append_room (P := P) w T ty e i hT hi b 0 0 #[] hb a 0 c [] (by simp) (by simp) (by simp) (by omega) (by simp)
      have e0 : (List.take (0 * i.size) (#[] : Array Value).toList ++ [] ++ List.drop (0 * i.size + ([] : List Value).length) (#[] : Array Value).toList).toArray = #[] := by simp
      rw [e0] at hrun
      refine ⟨_, _, hrun, ⟨rfl, .inr ⟨b, 0, #[], rfl, hbase, ?_, Nat.le_refl _, Nat.zero_le _, rfl, rfl⟩⟩, ?_, fun h => absurd rfl h⟩
      · exact setRow_heap w b #[] _ e _ hb
      · exact setRow_below hb
  · obtain ⟨b', off, rfl, hc⟩ := hr.2 (by omega)
    obtain ⟨v', w', hrun, h1, h2⟩ := run_append_arg_grows (P := P) (w := w) T ty e i z 1 bytes hT hi hz hsz hby hzc (by decide) ⟨b, 0, none⟩ 0 0 [] (by simp) (by simp) ⟨b', off, none⟩ m c news (by rw [hl, Nat.mul_one]) (fun j u hu => by rw [add_flat]; exact hc j u hu) (by omega) (by omega) (by rw [Nat.zero_add]; exact hbt)
    rw [Nat.zero_add, List.nil_append] at h1
    refine ⟨v', w', hrun, ⟨h1.1, ?_⟩, ⟨h2.os, h2.tape, h2.output, h2.size, fun k hk => h2.block k hk (by simp)⟩, fun _ k hk => (World.ownsRow.lt h1 k hk).1⟩
    rcases h1.2 with h | ⟨g, cap, cur, e1, h3, h4⟩
    · exact .inl h
    · exact .inr ⟨g, cap, cur, e1, by omega, h4⟩
end Go.Proofs.Ytmkfjddighabcaa

/- A region that draws its order, by what each operation leaves: whichever order, at the end each has left it. No program in it. -/
namespace Go.Proofs.Ytmkfjddighabcaa
open Go.RowKit

section
variable {P : Program} {ops : Array Oper} {Q : Exit → Act → World → Prop} {md : Region.Mode} {n : Nat}

/-- Each operation waits only for such as stand ahead of it in the text. -/
def backB (md : Region.Mode) (ops : Array Oper) : Bool := (List.range ops.size).all fun j => match ops[j]? with
  | some o => o.after.all fun e => !Region.binds md e || decide (e.on < j)
  | none => true
theorem backB_spec (h : backB md ops = true) {j : Nat} {o : Oper} (ho : ops[j]? = some o) : ∀ e ∈ o.after, Region.binds md e = true → e.on < j := by
  intro e he hb
  have hj : j < ops.size := (Array.getElem?_eq_some_iff.1 ho).1
  have h1 := List.all_eq_true.1 h j (List.mem_range.2 hj)
  simp only [ho] at h1
  have h2 := Array.all_eq_true_iff_forall_mem.1 h1 e he
  simp only [hb, Bool.not_true, Bool.false_or, decide_eq_true_eq] at h2
  exact h2

/-- How many have not come up. -/
def unl (N : Nat) (listed : Array Bool) : Nat := ((List.range N).filter fun j => !listed.getD j false).length
theorem filter_le (p q : Nat → Bool) (h : ∀ j, q j = true → p j = true) (N : Nat) : ((List.range N).filter q).length ≤ ((List.range N).filter p).length := by
  induction N with
  | zero => simp
  | succ N ih =>
    rw [List.range_succ, List.filter_append, List.filter_append, List.length_append, List.length_append]
    cases hq : q N <;> cases hp : p N <;> simp [List.filter, hq, hp]
    · omega
    · omega
    · rw [h N hq] at hp; cases hp
    · omega
theorem filter_lt (p q : Nat → Bool) (h : ∀ j, q j = true → p j = true) {i : Nat} (hp : p i = true) (hq : q i = false) : ∀ N, i < N → ((List.range N).filter q).length < ((List.range N).filter p).length := by
  intro N
  induction N with
  | zero => omega
  | succ N ih =>
    intro hi
    rw [List.range_succ, List.filter_append, List.filter_append, List.length_append, List.length_append]
    by_cases e : i = N
    · subst e
      have := filter_le p q h i
      simp [List.filter, hq, hp]
      omega
    · have h1 := ih (by omega)
      cases hq2 : q N <;> cases hp2 : p N <;> simp [List.filter, hq2, hp2]
      · omega
      · omega
      · rw [h N hq2] at hp2; cases hp2
      · omega
theorem unl_set {N i : Nat} {listed : Array Bool} (hi : i < N) (hs : listed.size = N) (hu : listed.getD i false = false) : unl N (listed.setIfInBounds i true) < unl N listed := by
  refine filter_lt _ _ (fun j hj => ?_) (i := i) (by simp only [hu, Bool.not_false]) ?_ N hi
  · by_cases e : i = j
    · subst e; simp only [hu, Bool.not_false]
    · rw [getD_set_ne false e] at hj; exact hj
  · have : (listed.setIfInBounds i true).getD i false = true := by simp [hs, hi]
    rw [this]; rfl
theorem unl_pos {N i : Nat} {listed : Array Bool} (hi : i < N) (hu : listed.getD i false = false) : 0 < unl N listed := by
  unfold unl
  rw [List.length_pos_iff]
  intro h
  have : i ∈ (List.range N).filter fun j => !listed.getD j false := List.mem_filter.2 ⟨List.mem_range.2 hi, by simp only [hu, Bool.not_false]⟩
  rw [h] at this
  cases this

/-- While one has not come up, one may. -/
theorem ready_ne (hb : backB md ops = true) {listed : Array Bool} (hs : listed.size = ops.size) : ∀ (i : Nat), i < ops.size → listed.getD i false = false → Region.ready md ops listed ≠ [] := by
  intro i
  induction i using Nat.strongRecOn with
  | _ i ih =>
    intro hi hu hr
    obtain ⟨o, ho⟩ : ∃ o, ops[i]? = some o := ⟨_, Array.getElem?_eq_getElem hi⟩
    by_cases hall : ∀ e ∈ o.after, Region.binds md e = true → listed.getD e.on false = true
    · have : i ∈ Region.ready md ops listed := mem_ready.2 ⟨getD_in (by omega) hu, o, ho, hall⟩
      rw [hr] at this
      cases this
    · simp only [Classical.not_forall] at hall
      obtain ⟨e, he, hbd, hno⟩ := hall
      have hlt := backB_spec hb ho e he hbd
      exact ih e.on hlt (by omega) (by simpa using hno) hr

/-- The frame but for what the operations leave. -/
structure Same (d : Nat → Tmp) (n : Nat) (a0 a : Act) : Prop where
  defers : a.defers = a0.defers
  size : a.tmps.size = a0.tmps.size
  other : ∀ t, (∀ j, j < n → d j ≠ t) → a.tmps[t]? = a0.tmps[t]?
theorem Same.put {d : Nat → Tmp} {n i : Nat} {a0 a : Act} (h : Same d n a0 a) (hi : i < n) (v : Value) : Same d n a0 (a.put (some (d i)) v) :=
  ⟨h.defers, by simp [Act.put, h.size], fun t ht => by
    show (a.tmps.setIfInBounds (d i) v)[t]? = _
    rw [Array.getElem?_setIfInBounds_ne (ht i hi)]
    exact h.other t ht⟩

theorem wpAny_inv {w0 : World} {a0 : Act} (hs : Region.sinkB md ops n = true) (hc : Region.chainB md ops n = true) (hn : n + 1 = ops.size) (hb : backB md ops = true)
    (d : Nat → Tmp) (hd : ∀ i, i < n → d i < a0.tmps.size) (hinj : ∀ i j, i < n → j < n → d i = d j → i = j)
    (Ψ : Nat → Value → World → Prop) (D : Nat → Nat → Value → Value → Prop) (hstab : ∀ j v w w', w0.heap.size ≤ w.heap.size → Below w.heap.size w w' → Ψ j v w → Ψ j v w')
    (hstep : ∀ i, i < n → ∀ a w, Below w0.heap.size w0 w → Same d n a0 a → (∀ j, Region.waitsFor md ops i j = true → ∃ v, a.tmps[d j]? = some v ∧ Ψ j v w) →
      (∀ i1 j1 v u, Region.waitsFor md ops i i1 = true → Region.waitsFor md ops i j1 = true → i1 ≠ j1 → a.tmps[d i1]? = some v → a.tmps[d j1]? = some u → D i1 j1 v u ∨ D j1 i1 u v) → wpOp P ops Q i (fun a' w' => ∃ v, a' = a.put (some (d i)) v ∧ Below w.heap.size w w' ∧ Ψ i v w' ∧ ∀ j u, j < n → Ψ j u w → D i j v u) a w)
    (hlast : ∀ a w, Below w0.heap.size w0 w → Same d n a0 a → (∀ j, j < n → ∃ v, a.tmps[d j]? = some v ∧ Ψ j v w) → (∀ i j v u, i < n → j < n → i ≠ j → a.tmps[d i]? = some v → a.tmps[d j]? = some u → D i j v u ∨ D j i u v) → wpOp P ops Q n (fun a' w' => Q .normal a' w') a w) :
    ∀ fuel listed a w, HeadInv md ops n listed → unl ops.size listed ≤ fuel → Below w0.heap.size w0 w → Same d n a0 a → (∀ j, j < n → listed.getD j false = true → ∃ v, a.tmps[d j]? = some v ∧ Ψ j v w) →
      (∀ i j v u, i < n → j < n → i ≠ j → listed.getD i false = true → listed.getD j false = true → a.tmps[d i]? = some v → a.tmps[d j]? = some u → D i j v u ∨ D j i u v) → wpAny P md ops Q fuel listed a w := by
  intro fuel
  induction fuel with
  | zero =>
    intro listed a w inv hf _ _ _ _
    have := unl_pos (N := ops.size) (i := n) (by omega) (getD_both (inv.tail n (Nat.le_refl _) (by omega)))
    omega
  | succ fuel ih =>
    intro listed a w inv hf hbw hsm hΨ hD
    refine ⟨fun h0 => absurd h0 (ready_ne hb inv.size n (by omega) (getD_both (inv.tail n (Nat.le_refl _) (by omega)))), fun i hi => ?_⟩
    obtain ⟨hun, oi, hoi, hall⟩ := mem_ready.1 hi
    have hilt : i < ops.size := (Array.getElem?_eq_some_iff.1 hoi).1
    have hback := backB_spec hb hoi
    have hwait : ∀ j, Region.waitsFor md ops i j = true → listed.getD j false = true ∧ j < i := fun j hj => by
      obtain ⟨o', ho', e, he, hbd, hon⟩ := Region.waitsFor_spec hj
      have : o' = oi := Option.some.inj (ho'.symm.trans hoi)
      subst this
      have h1 := hall e he hbd
      have h2 := hback e he hbd
      subst hon
      exact ⟨h1, h2⟩
    by_cases hin : i < n
    · refine wpOp_mono ?_ (hstep i hin a w hbw hsm (fun j hj => hΨ j (by have := (hwait j hj).2; omega) (hwait j hj).1) (fun i1 j1 v1 u1 h1 h2 hne hv1 hu1 => hD i1 j1 v1 u1 (by have := (hwait i1 h1).2; omega) (by have := (hwait j1 h2).2; omega) hne (hwait i1 h1).1 (hwait j1 h2).1 hv1 hu1))
      rintro a' w' ⟨v, rfl, hbb, hv, hDv⟩
      ·
        have hub := unl_set (N := ops.size) hilt inv.size (getD_both hun)
        refine ih (listed.setIfInBounds i true) _ w' (inv.set hi hin) (by omega) (hbw.trans (hbb.mono hbw.size)) (hsm.put hin v) (fun j hj hl => ?_) (fun i1 j1 v1 u1 hi1 hj1 hne hl1 hl2 hv1 hu1 => ?_)
        rotate_left
        · have hself : (a.put (some (d i)) v).tmps[d i]? = some v := by
            show (a.tmps.setIfInBounds (d i) v)[d i]? = some v
            rw [Array.getElem?_setIfInBounds_self_of_lt (by rw [hsm.size]; exact hd i hin)]
          have hoth : ∀ j, j < n → i ≠ j → (a.put (some (d i)) v).tmps[d j]? = a.tmps[d j]? := fun j hj e => by
            show (a.tmps.setIfInBounds (d i) v)[d j]? = _
            rw [Array.getElem?_setIfInBounds_ne (fun e2 => e (hinj i j hin hj e2))]
          by_cases e1 : i = i1
          · subst e1
            rw [hself] at hv1
            injection hv1 with hv1
            subst hv1
            rw [hoth j1 hj1 hne] at hu1
            rw [getD_set_ne false hne] at hl2
            obtain ⟨u', hu', hp'⟩ := hΨ j1 hj1 hl2
            rw [hu1] at hu'
            injection hu' with hu'
            subst hu'
            exact .inl (hDv j1 u1 hj1 hp')
          · rw [hoth i1 hi1 e1] at hv1
            rw [getD_set_ne false e1] at hl1
            by_cases e2 : i = j1
            · subst e2
              rw [hself] at hu1
              injection hu1 with hu1
              subst hu1
              obtain ⟨u', hu', hp'⟩ := hΨ i1 hi1 hl1
              rw [hv1] at hu'
              injection hu' with hu'
              subst hu'
              exact .inr (hDv i1 v1 hi1 hp')
            · rw [hoth j1 hj1 e2] at hu1
              rw [getD_set_ne false e2] at hl2
              exact hD i1 j1 v1 u1 hi1 hj1 hne hl1 hl2 hv1 hu1
        by_cases e : i = j
        · subst e
          exact ⟨v, by
            show (a.tmps.setIfInBounds (d i) v)[d i]? = some v
            rw [Array.getElem?_setIfInBounds_self_of_lt (by rw [hsm.size]; exact hd i hin)], hv⟩
        · rw [getD_set_ne false e] at hl
          obtain ⟨u, hu, hp⟩ := hΨ j hj hl
          exact ⟨u, by
            show (a.tmps.setIfInBounds (d i) v)[d j]? = some u
            rw [Array.getElem?_setIfInBounds_ne (fun e2 => e (hinj i j hin hj e2))]
            exact hu, hstab j u w w' hbw.size hbb hp⟩
    · obtain rfl : i = n := by omega
      have hdone : ∀ j, j < i → listed.getD j false = true := fun j hj => by
        cases h : listed.getD j false with
        | true => rfl
        | false => exact absurd hi (tail_waits hs hc (by omega) inv (i - j) j rfl hj (getD_in (by rw [inv.size]; omega) h) i (Nat.le_refl _))
      refine wpOp_mono ?_ (hlast a w hbw hsm (fun j hj => hΨ j hj (hdone j hj)) (fun i1 j1 v1 u1 hi1 hj1 hne hv1 hu1 => hD i1 j1 v1 u1 hi1 hj1 hne (hdone i1 hi1) (hdone j1 hj1) hv1 hu1))
      intro a' w' hq
      refine wpAny_done ?_ hq fuel
      refine List.eq_nil_iff_forall_not_mem.2 fun j hj => ?_
      obtain ⟨h0, o, ho, _⟩ := mem_ready.1 hj
      have hjl : j < ops.size := (Array.getElem?_eq_some_iff.1 ho).1
      by_cases e : i = j
      · subst e
        simp [inv.size, hjl] at h0
      · rw [getD_set_ne true e] at h0
        have := hdone j (by omega)
        rw [getD_both h0] at this
        cases this

/-- The region as a whole. -/
theorem wp_region_inv {id : Nat} {w0 : World} {a0 : Act} (hm : P.follows .mixedOrders = true) (hs : Region.sinkB .any ops n = true) (hc : Region.chainB .any ops n = true) (hn : n + 1 = ops.size) (hb : backB .any ops = true)
    (d : Nat → Tmp) (hd : ∀ i, i < n → d i < a0.tmps.size) (hinj : ∀ i j, i < n → j < n → d i = d j → i = j)
    (Ψ : Nat → Value → World → Prop) (D : Nat → Nat → Value → Value → Prop) (hstab : ∀ j v w w', w0.heap.size ≤ w.heap.size → Below w.heap.size w w' → Ψ j v w → Ψ j v w')
    (hstep : ∀ i, i < n → ∀ a w, Below w0.heap.size w0 w → Same d n a0 a → (∀ j, Region.waitsFor .any ops i j = true → ∃ v, a.tmps[d j]? = some v ∧ Ψ j v w) →
      (∀ i1 j1 v u, Region.waitsFor .any ops i i1 = true → Region.waitsFor .any ops i j1 = true → i1 ≠ j1 → a.tmps[d i1]? = some v → a.tmps[d j1]? = some u → D i1 j1 v u ∨ D j1 i1 u v) → wpOp P ops Q i (fun a' w' => ∃ v, a' = a.put (some (d i)) v ∧ Below w.heap.size w w' ∧ Ψ i v w' ∧ ∀ j u, j < n → Ψ j u w → D i j v u) a w)
    (hlast : ∀ a w, Below w0.heap.size w0 w → Same d n a0 a → (∀ j, j < n → ∃ v, a.tmps[d j]? = some v ∧ Ψ j v w) → (∀ i j v u, i < n → j < n → i ≠ j → a.tmps[d i]? = some v → a.tmps[d j]? = some u → D i j v u ∨ D j i u v) → wpOp P ops Q n (fun a' w' => Q .normal a' w') a w) :
    (Code.region id ops true).wp P Q a0 w0 := by
  refine wp_region_any hm ?_
  refine wpAny_inv hs hc hn hb d hd hinj Ψ D hstab hstep hlast ops.size _ a0 w0.drew ⟨by simp, fun j oj hj hl => ?_, fun t ht ht' => by simp [ht']⟩ ?_ bl.drew ⟨rfl, rfl, fun _ _ => rfl⟩ (fun j hj hl => ?_) (fun i j v u hi hj hne hl => ?_)
  · rw [getD_replicate_false] at hl; cases hl
  · have := List.length_filter_le (fun j => !(Array.replicate ops.size false).getD j false) (List.range ops.size)
    rw [List.length_range] at this
    exact this
  · rw [getD_replicate_false] at hl; cases hl
  · rw [getD_replicate_false] at hl; cases hl

theorem wpOp_plain {i : Nat} {o : Oper} {K : Act → World → Prop} {a : Act} {w : World} (hi : ops[i]? = some o) (hg : o.guard = none) (h : o.wp P a w K Q) : wpOp P ops Q i K a w := by
  unfold wpOp
  rw [hi]
  show if Region.wanted o (yielded ops a.tmps) = true then _ else _
  rw [if_pos (by simp [Region.wanted, hg])]
  exact .inl h
end
end Go.Proofs.Ytmkfjddighabcaa

/- append([]string{}, s...). -/
namespace Go.Proofs.Ytmkfjddighabcaa
open Go.RowKit

def strV (l : List UInt8) : Value := .string (bstr l)
theorem strs_rd {So Si : Nat → Prop} {w : World} {A : Option Addr} {n : Nat} {ns : List (List UInt8)} (h : Els encS So Si w A n ns) : Rd w 1 A n (ns.map strV) := by
  have hl := h.len
  refine ⟨by rw [List.length_map, hl, Nat.mul_one], fun hn => ?_⟩
  rw [List.length_map] at hn
  obtain ⟨l, hx⟩ : ∃ l, ns[0]? = some l := ⟨_, List.getElem?_eq_getElem hn⟩
  obtain ⟨b, off, rfl, _⟩ := strs_at h hx
  refine ⟨b, off, rfl, fun j u hu => ?_⟩
  rw [List.getElem?_map] at hu
  obtain ⟨y, hy, rfl⟩ := Option.map_eq_some_iff.1 hu
  obtain ⟨b', off', e, _, hc, _⟩ := strs_at h hy
  injection e with e
  injection e with e1 e2
  subst e1 e2
  exact hc
set_option maxRecDepth 100000 in
theorem wpL_cloneS {w : World} {So Si : Nat → Prop} {ops : Array Oper} {rest : List Oper} {o : Oper} {a : Act} {Q : Exit → Act → World → Prop} (hgd : Region.wanted o (yielded ops a.tmps) = true) (s x : Operand)
    (ho : o.op = .call { callee := .builtin .append, args := #[s, x], argTypes := #[39, 39] })
    {g : Nat} (hs : a.eval s = .slice (some ⟨g, 0, none⟩) 0 0) (A : Option Addr) (n c : Nat) (ns : List (List UInt8)) (hx : a.eval x = .slice A n c) (hr : Els encS So Si w A n ns) (hn : n ≤ 8796093022208)
    (h : ∀ v' w', OwnS w' w.heap.size v' ns → Below w.heap.size w w' → wpList Try.prog ops Q rest (a.put o.dst v') w') (hgs : g = w.heap.size := by simp) : wpList Try.prog ops Q (o :: rest) a (w.alloc (.cells #[] 9)) := by
  subst hgs
  obtain ⟨hT, i, z, hi, hz, hsz, hby, hzc⟩ := elS
  have hl := hr.len
  subst hl
  have hone : ∀ u ∈ ns.map strV, u.oneCell' = true := fun u hu => by
    obtain ⟨y, _, rfl⟩ := List.mem_map.1 hu
    rfl
  have hown0 : (w.alloc (.cells #[] 9)).ownsRow w.heap.size 9 1 (.slice (some ⟨w.heap.size, 0, none⟩) 0 0) 0 [] := World.ownsRow_lit (e := 9) (size := 1) w #[] 0 (Nat.le_refl _) (by simp) rfl
  refine wpList_want hgd fun K hK => ?_
  refine wp_append_any (P := Try.prog) s x _ ho w.heap.size 9 i z 1 16 hT hi hz hsz hby hzc (by decide) _ 0 [] hs hown0 A ns.length c (ns.map strV) hx ((strs_rd hr).below (bl.alloc (Nat.le_refl _) _)) hone (by unfold maxLen; omega) (by omega) (by simp) fun v' w' h1 h2 h3 => hK _ _ (h v' w' ?_ ?_)
  · rw [Nat.zero_add, List.nil_append] at h1
    refine ⟨ns.map strV, h1, fun j y hy => ?_, fun b hb => hb.elim⟩
    obtain ⟨_, _, _, _, _, hm⟩ := strs_at hr hy
    have hjl : j < ns.length := (List.getElem?_eq_some_iff.1 hy).1
    have e : List.take encS.size (List.drop (j * encS.size) (ns.map strV)) = [strV y] := by
      show List.take 1 (List.drop (j * 1) (ns.map strV)) = _
      rw [Nat.mul_one, List.drop_eq_getElem_cons (by rw [List.length_map]; exact hjl), List.take_succ_cons, List.take_zero, List.getElem_map]
      rw [List.getElem?_eq_getElem hjl] at hy
      injection hy with hy
      rw [hy]
    rw [e]
    exact ⟨rfl, hm⟩
  · exact (bl.alloc (Nat.le_refl _) _).grown h2 (by simp) (fun k hk => by simp [Value.ownBlock] at hk; omega)
end Go.Proofs.Ytmkfjddighabcaa

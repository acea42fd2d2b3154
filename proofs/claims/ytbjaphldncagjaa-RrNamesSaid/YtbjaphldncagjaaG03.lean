/- Parts of a proof, joined: Eqs, Wtr3, Small, EqN, Da, OpenDa, RdPlain, FinePlain. -/
import Derived.Laws.BitsLemmas
import Derived.Lib.ConvBytes
import Derived.Deep.RegionHeld3
import Derived.Test.YtbjaphldncagjaaG02
import Derived.Test.YtbjaphldncagjaaG01
/- slices.Equal of bytes, numbers, strings; the reference's Ints and texts. -/
namespace Go.Proofs.Ytbjaphldncagjaa
open Go.RowKit
set_option maxRecDepth 100000

theorem ints_at {So Si : Nat → Prop} {w : World} {A : Option Addr} {n : Nat} {ns : List Int} (h : Els encI So Si w A n ns) {k : Nat} {l : Int} (hx : ns[k]? = some l) :
    ∃ b off, A = some ⟨b, off, none⟩ ∧ So b ∧ w.cell? ⟨b, off + k, none⟩ = some (.int .i64 l) ∧ -9223372036854775808 ≤ l ∧ l ≤ 9223372036854775807 := by
  obtain ⟨b, off, rfl, hs, hat⟩ := h.flat (by rw [← h.len]; exact Nat.lt_of_le_of_lt (Nat.zero_le k) (List.getElem?_eq_some_iff.1 hx).1)
  obtain ⟨r, ⟨rfl, hl⟩, hc⟩ := hat k l hx
  exact ⟨b, off, rfl, hs, by simpa [encI, flatE] using hc 0 _ rfl, hl⟩

set_option maxHeartbeats 1000000 in
theorem seqB_any (A A' : Option Addr) (n c n' c' : Nat) (xs ys : List UInt8) (w : World) (hx : RdB w A n xs) (hy : RdB w A' n' ys) (hn : n ≤ maxLen) (hn' : n' ≤ maxLen) :
    Calls Try.prog 139 #[.slice A n c, .slice A' n' c'] w (RetN (.bool (decide (xs = ys))) w) := by
  unfold maxLen at hn hn'
  have hlx := Lib.hid hx.len
  have hly := Lib.hid hy.len
  by_cases hnn : n = n'
  · subst hnn
    go_enter Try.func139, Try.ntmps139
    go_wp2
    go_loopw [13] (fun i wr => ∃ k m : Nat, i = .int .i64 k ∧ k ≤ n ∧ wr = w.drewN m ∧ xs.take k = ys.take k) (fun i _ => n - (intOf i).toNat)
    case atStart => exact ⟨0, 0, rfl, Nat.zero_le _, rfl, rfl⟩
    case round =>
      obtain ⟨k, m, rfl, hk, rfl, ht⟩ := hrel
      have HT := Lib.hid ht
      clear ht
      by_cases hlt : k < n
      · obtain ⟨b, off, x, rfl, gx, cx⟩ := hx.at_ hlt
        obtain ⟨b', off', y, rfl, gy, cy⟩ := hy.at_ hlt
        have GX := Lib.hid gx
        have GY := Lib.hid gy
        clear gx gy
        by_cases hxy : x = y
        · subst hxy
          go_wp2
          go_quiet (fail)
          go_wp2
          go_roundw
          case rel => exact ⟨k + 1, _, by go_num, by omega, rfl, take_eq_succ HT.out GX.out GY.out rfl⟩
          case measure => simp [intOf]; omega
        · have hbne : ((x.toNat : Int) != (y.toNat : Int)) = true := by rw [bne_iff_ne]; exact fun e => hxy (u8_eq e)
          go_wp2
          go_quiet (fail)
          go_wp2
          go_ret
          exact ⟨ret_bool (decide_eq_false (ne_of_get GX.out GY.out hxy)).symm, _, World.drewN_drewN _ _ _⟩
      · go_wp2
        go_ret
        have hk' : k = n := by omega
        refine ⟨ret_bool (decide_eq_true ?_).symm, _, rfl⟩
        have := HT.out
        rwa [hk', List.take_of_length_le (by rw [hlx.out]; omega), List.take_of_length_le (by rw [hly.out]; omega)] at this
  · have hb : ((n : Int) != (n' : Int)) = true := by rw [bne_iff_ne]; omega
    go_enter Try.func139, Try.ntmps139
    go_wp2
    go_ret
    refine ⟨ret_bool (decide_eq_false ?_).symm, 0, rfl⟩
    rintro rfl
    exact hnn (hlx.out.symm.trans hly.out)

set_option maxHeartbeats 1000000 in
theorem seqI_any (A A' : Option Addr) (n c n' c' : Nat) (xs ys : List Int) (w : World) {So Si So' Si' : Nat → Prop} (hx : Els encI So Si w A n xs) (hy : Els encI So' Si' w A' n' ys) (hn : n ≤ maxLen) (hn' : n' ≤ maxLen) :
    Calls Try.prog 140 #[.slice A n c, .slice A' n' c'] w (RetN (.bool (decide (xs = ys))) w) := by
  unfold maxLen at hn hn'
  have hlx := Lib.hid hx.len
  have hly := Lib.hid hy.len
  by_cases hnn : n = n'
  · subst hnn
    go_enter Try.func140, Try.ntmps140
    go_wp2
    go_loopw [13] (fun i wr => ∃ k m : Nat, i = .int .i64 k ∧ k ≤ n ∧ wr = w.drewN m ∧ xs.take k = ys.take k) (fun i _ => n - (intOf i).toNat)
    case atStart => exact ⟨0, 0, rfl, Nat.zero_le _, rfl, rfl⟩
    case round =>
      obtain ⟨k, m, rfl, hk, rfl, ht⟩ := hrel
      have HT := Lib.hid ht
      clear ht
      by_cases hlt : k < n
      · obtain ⟨x, gx⟩ : ∃ x, xs[k]? = some x := ⟨_, List.getElem?_eq_getElem (by rw [hlx.out]; exact hlt)⟩
        obtain ⟨y, gy⟩ : ∃ y, ys[k]? = some y := ⟨_, List.getElem?_eq_getElem (by rw [hly.out]; exact hlt)⟩
        obtain ⟨b, off, rfl, _, cx, _⟩ := ints_at hx gx
        obtain ⟨b', off', rfl, _, cy, _⟩ := ints_at hy gy
        have GX := Lib.hid gx
        have GY := Lib.hid gy
        clear gx gy
        by_cases hxy : x = y
        · subst hxy
          go_wp2
          go_quiet (fail)
          go_wp2
          go_roundw
          case rel => exact ⟨k + 1, _, by go_num, by omega, rfl, take_eq_succ HT.out GX.out GY.out rfl⟩
          case measure => simp [intOf]; omega
        · have hbne : (x != y) = true := by rw [bne_iff_ne]; exact hxy
          go_wp2
          go_quiet (fail)
          go_wp2
          go_ret
          exact ⟨ret_bool (decide_eq_false (ne_of_get GX.out GY.out hxy)).symm, _, World.drewN_drewN _ _ _⟩
      · go_wp2
        go_ret
        have hk' : k = n := by omega
        refine ⟨ret_bool (decide_eq_true ?_).symm, _, rfl⟩
        have := HT.out
        rwa [hk', List.take_of_length_le (by rw [hlx.out]; omega), List.take_of_length_le (by rw [hly.out]; omega)] at this
  · have hb : ((n : Int) != (n' : Int)) = true := by rw [bne_iff_ne]; omega
    go_enter Try.func140, Try.ntmps140
    go_wp2
    go_ret
    refine ⟨ret_bool (decide_eq_false ?_).symm, 0, rfl⟩
    rintro rfl
    exact hnn (hlx.out.symm.trans hly.out)

set_option maxHeartbeats 1000000 in
theorem seqS_any (A A' : Option Addr) (n c n' c' : Nat) (xs ys : List (List UInt8)) (w : World) {So Si So' Si' : Nat → Prop} (hx : Els encS So Si w A n xs) (hy : Els encS So' Si' w A' n' ys) (hn : n ≤ maxLen) (hn' : n' ≤ maxLen) :
    Calls Try.prog 141 #[.slice A n c, .slice A' n' c'] w (RetN (.bool (decide (xs = ys))) w) := by
  unfold maxLen at hn hn'
  have hlx := Lib.hid hx.len
  have hly := Lib.hid hy.len
  by_cases hnn : n = n'
  · subst hnn
    go_enter Try.func141, Try.ntmps141
    go_wp2
    go_loopw [13] (fun i wr => ∃ k m : Nat, i = .int .i64 k ∧ k ≤ n ∧ wr = w.drewN m ∧ xs.take k = ys.take k) (fun i _ => n - (intOf i).toNat)
    case atStart => exact ⟨0, 0, rfl, Nat.zero_le _, rfl, rfl⟩
    case round =>
      obtain ⟨k, m, rfl, hk, rfl, ht⟩ := hrel
      have HT := Lib.hid ht
      clear ht
      by_cases hlt : k < n
      · obtain ⟨x, gx⟩ : ∃ x, xs[k]? = some x := ⟨_, List.getElem?_eq_getElem (by rw [hlx.out]; exact hlt)⟩
        obtain ⟨y, gy⟩ : ∃ y, ys[k]? = some y := ⟨_, List.getElem?_eq_getElem (by rw [hly.out]; exact hlt)⟩
        obtain ⟨b, off, rfl, _, cx, _⟩ := strs_at hx gx
        obtain ⟨b', off', rfl, _, cy, _⟩ := strs_at hy gy
        have GX := Lib.hid gx
        have GY := Lib.hid gy
        clear gx gy
        by_cases hxy : x = y
        · subst hxy
          go_wp2
          go_quiet (fail)
          go_wp2
          go_roundw
          case rel => exact ⟨k + 1, _, by go_num, by omega, rfl, take_eq_succ HT.out GX.out GY.out rfl⟩
          case measure => simp [intOf]; omega
        · have hbne : ((bstr x).toList == (bstr y).toList) = false := by rw [bstr_toList, bstr_toList, beq_eq_false_iff_ne]; exact hxy
          go_wp2
          go_quiet (fail)
          go_wp2
          go_ret
          exact ⟨ret_bool (decide_eq_false (ne_of_get GX.out GY.out hxy)).symm, _, World.drewN_drewN _ _ _⟩
      · go_wp2
        go_ret
        have hk' : k = n := by omega
        refine ⟨ret_bool (decide_eq_true ?_).symm, _, rfl⟩
        have := HT.out
        rwa [hk', List.take_of_length_le (by rw [hlx.out]; omega), List.take_of_length_le (by rw [hly.out]; omega)] at this
  · have hb : ((n : Int) != (n' : Int)) = true := by rw [bne_iff_ne]; omega
    go_enter Try.func141, Try.ntmps141
    go_wp2
    go_ret
    refine ⟨ret_bool (decide_eq_false ?_).symm, 0, rfl⟩
    rintro rfl
    exact hnn (hlx.out.symm.trans hly.out)

set_option maxHeartbeats 1000000 in
theorem rints_any (A A' : Option Addr) (n c n' c' : Nat) (xs ys : List Int) (w : World) {So Si So' Si' : Nat → Prop} (hx : Els encI So Si w A n xs) (hy : Els encI So' Si' w A' n' ys) (hn : n ≤ maxLen) (hn' : n' ≤ maxLen) :
    Calls Try.prog 135 #[.slice A n c, .slice A' n' c'] w (RetN (.bool (decide (xs = ys))) w) := by
  unfold maxLen at hn hn'
  have hlx := Lib.hid hx.len
  have hly := Lib.hid hy.len
  by_cases hnn : n = n'
  · subst hnn
    go_enter Try.func135, Try.ntmps135
    go_wp2
    go_loopw [5] (fun i wr => ∃ k m : Nat, i = .int .i64 k ∧ k ≤ n ∧ wr = w.drewN m ∧ xs.take k = ys.take k) (fun i _ => n - (intOf i).toNat)
    case atStart => exact ⟨0, 0, rfl, Nat.zero_le _, rfl, rfl⟩
    case round =>
      obtain ⟨k, m, rfl, hk, rfl, ht⟩ := hrel
      have HT := Lib.hid ht
      clear ht
      by_cases hlt : k < n
      · obtain ⟨x, gx⟩ : ∃ x, xs[k]? = some x := ⟨_, List.getElem?_eq_getElem (by rw [hlx.out]; exact hlt)⟩
        obtain ⟨y, gy⟩ : ∃ y, ys[k]? = some y := ⟨_, List.getElem?_eq_getElem (by rw [hly.out]; exact hlt)⟩
        obtain ⟨b, off, rfl, _, cx, _⟩ := ints_at hx gx
        obtain ⟨b', off', rfl, _, cy, _⟩ := ints_at hy gy
        have GX := Lib.hid gx
        have GY := Lib.hid gy
        clear gx gy
        by_cases hxy : x = y
        · subst hxy
          go_wp2
          go_quiet (fail)
          go_wp2
          go_roundw
          case rel => exact ⟨k + 1, _, by go_num, by omega, rfl, take_eq_succ HT.out GX.out GY.out rfl⟩
          case measure => simp [intOf]; omega
        · have hbne : (x != y) = true := by rw [bne_iff_ne]; exact hxy
          go_wp2
          go_quiet (fail)
          go_wp2
          go_ret
          exact ⟨ret_bool (decide_eq_false (ne_of_get GX.out GY.out hxy)).symm, _, World.drewN_drewN _ _ _⟩
      · go_wp2
        go_ret
        have hk' : k = n := by omega
        refine ⟨ret_bool (decide_eq_true ?_).symm, _, rfl⟩
        have := HT.out
        rwa [hk', List.take_of_length_le (by rw [hlx.out]; omega), List.take_of_length_le (by rw [hly.out]; omega)] at this
  · have hb : ((n : Int) != (n' : Int)) = true := by rw [bne_iff_ne]; omega
    go_enter Try.func135, Try.ntmps135
    go_wp2
    go_ret
    refine ⟨ret_bool (decide_eq_false ?_).symm, 0, rfl⟩
    rintro rfl
    exact hnn (hlx.out.symm.trans hly.out)

theorem rtexts_any (A A' : Option Addr) (n c n' c' : Nat) (xs ys : List (List UInt8)) (w : World) {So Si So' Si' : Nat → Prop} (hx : Els encS So Si w A n xs) (hy : Els encS So' Si' w A' n' ys) (hn : n ≤ maxLen) (hn' : n' ≤ maxLen) :
    Calls Try.prog 136 #[.slice A n c, .slice A' n' c'] w (RetN (.bool (decide (xs = ys))) w) := by
  go_enter Try.func136, Try.ntmps136
  go_wp2_with (go_at_call 45; refine (rexact_any _ _ _ _ _ _ xs ys _ hx hy hn hn').mono ?_; rintro e w1 ⟨rfl, m1, rfl⟩)
  go_ret
  exact ⟨rfl, m1, rfl⟩
end Go.Proofs.Ytbjaphldncagjaa

/- wname: Name. -/
namespace Go.Proofs.Ytbjaphldncagjaa
open Go.RowKit Go.Maps

theorem or_ptr (p : Nat) (hp : p < 16384) : bits .or .i64 49152 (p : Int) = 49152 + (p : Int) := by
  rw [bits_join .i64 63 (by decide) (fun n h0 h1 => by rw [IntKind.wrap_i64]; omega) 14 49152 p (by decide) (by decide) (by decide) (by omega) (by omega) (by omega)]
theorem put_ptr (p : Nat) (hp : p < 16384) : putB [] (49152 + (p : Int)) 2 = ptrB p := by
  rw [show (49152 + (p : Int)) = ((49152 + p : Nat) : Int) by omega]
  unfold putB
  rw [if_pos (by unfold fitsB; rw [decide_eq_true_iff]; refine ⟨by decide, by decide, by omega, ?_⟩; rw [show (256 : Int) ^ (2 : Int).toNat = 65536 by decide]; omega)]
  show be (49152 + p) 2 = ptrB p
  unfold ptrB
  simp only [be, List.nil_append, List.cons_append]
  congr 1
  · apply UInt8.toNat_inj.1
    simp only [UInt8.toNat_ofNat']
    omega
  · congr 1
    apply UInt8.toNat_inj.1
    simp only [UInt8.toNat_ofNat']
    omega
theorem put_len (l : List UInt8) (h : l.length ≤ 63) : putB [] (l.length : Int) 1 = [UInt8.ofNat l.length] := by
  unfold putB
  rw [if_pos (by unfold fitsB; rw [decide_eq_true_iff]; refine ⟨by decide, by decide, by omega, ?_⟩; rw [show (256 : Int) ^ (1 : Int).toNat = 256 by decide]; omega)]
  show be l.length 1 = _
  simp only [be, List.nil_append]
theorem put_zero : putB [] 0 1 = [0] := by decide

/-- m[k] = p, as a step of a region that draws its order. -/
theorem step_mapPut {w : World} {mb : Nat} {rs : List (List UInt8 × Nat)} (h : MapIs w mb rs) {ops : Array Oper} {o : Oper} {a : Act} {K : Act → World → Prop} {Q : Exit → Act → World → Prop} {X : Prop} (hgd : Region.wanted o (yielded ops a.tmps) = true) (m x v : Operand)
    (hop : o.op = Op.mapUpdate 137 m x v) (hm : a.eval m = .map (some mb)) {k : List UInt8} (hx : a.eval x = .string (bstr k)) (hk : k.length ≤ maxLen) {p : Nat} (hv : a.eval v = .int .i64 (p : Int)) (hp : p ≤ 1000000000000) (hn : rs.length < maxLen)
    (hK : ∀ w', MapIs w' mb ((k, p) :: rs) → w.grownBy w' (some mb) → K (a.put o.dst undef) w') : if Region.wanted o (yielded ops a.tmps) = true then Oper.wp Try.prog o a w K Q else X := by
  rw [if_pos hgd]
  obtain ⟨w', hrun, r1, r2⟩ := h.put hk hp hn
  unfold Oper.wp
  simp [execOp, hop, hm, hx, hv, hrun, Result.andThen]
  exact hK w' r1 r2

/-- []byte(s). -/
theorem conv_rd (w : World) (l : List UInt8) : RdB (Lib.bytesWorld w 5 (bstr l)) (some ⟨w.heap.size, 0, none⟩) l.length l ∧ Below w.heap.size w (Lib.bytesWorld w 5 (bstr l)) := by
  refine ⟨⟨by simp, fun _ => ⟨w.heap.size, 0, rfl, fun j u hu => ?_⟩⟩, ⟨rfl, rfl, rfl, by rw [Lib.bytesWorld_size]; omega, fun k hk => Lib.bytesWorld_at_old w _ _ k hk⟩⟩
  rw [List.getElem?_map] at hu
  cases hj : l[j]? with
  | none => rw [hj] at hu; cases hu
  | some y =>
    rw [hj] at hu
    injection hu with hu
    subst hu
    have hjl : j < l.length := (List.getElem?_eq_some_iff.1 hj).1
    have := Lib.bytesWorld_cell w 5 (bstr l) j (by rw [bstr_size]; exact hjl)
    rw [Nat.zero_add, this]
    have e : (bstr l).data.toList = l := by simp [bstr]
    rw [e]
    unfold bV
    rw [List.getD_eq_getElem?_getD, hj]
    rfl
end Go.Proofs.Ytbjaphldncagjaa

/- Small letters: the program's and the reference's; names that are the same but for their letters' cases. -/
namespace Go.Proofs.Ytbjaphldncagjaa
open Go.RowKit
set_option maxRecDepth 100000

def smallC (c : UInt8) : UInt8 := if 65 ≤ c.toNat ∧ c.toNat ≤ 90 then UInt8.ofNat (c.toNat + 32) else c
def smallL (l : List UInt8) : List UInt8 := l.map smallC
def lowN (n : List (List UInt8)) : List (List UInt8) := n.map smallL

theorem heap_set_any {w : World} {g : Nat} {cur : Array Value} {e : TypeId} {fz : Nat × Nat} (hg : w.heap[g]? = some (.cells cur e fz)) (k : Nat) (v : Value) : (w.setCell ⟨g, k, none⟩ v).heap[g]? = some (.cells (cur.setIfInBounds k v) e fz) := by
  simp [World.setCell, Array.getElem?_modify, hg]
/-- A row of bytes that a conversion made. -/
def BRow (w : World) (g : Nat) (bs : List UInt8) : Prop :=
  ∃ (cur : Array Value) (lo hi : Nat), w.heap[g]? = some (.cells cur 5 (lo, hi)) ∧ bs.length ≤ lo ∧ bs.length ≤ cur.size ∧ ∀ (j : Nat) (x : UInt8), bs[j]? = some x → cur[j]? = some (.int .u8 (x.toNat : Int))
section
variable {w w' : World} {g : Nat} {bs : List UInt8}
theorem BRow.made (w : World) (l : List UInt8) : BRow (Lib.bytesWorld w 5 (bstr l)) w.heap.size l := by
  have hz : (Lib.bytesCells w 5 (bstr l)).size = l.length + (grownCap w (bstr l).size 0 5 - (bstr l).size) := by
    have := bstr_size l
    unfold ByteArray.size at this
    simp [Lib.bytesCells, this]
  refine ⟨_, _, _, Lib.bytesWorld_at_new w _ _, by omega, by omega, fun j x hx => ?_⟩
  have hj : j < l.length := (List.getElem?_eq_some_iff.1 hx).1
  have h := Lib.bytesWorld_cell w 5 (bstr l) j (by rw [bstr_size]; exact hj)
  have e : (bstr l).data.toList = l := by simp [bstr]
  rw [e, List.getD_eq_getElem?_getD, hx] at h
  unfold World.cell? at h
  rw [Lib.bytesWorld_at_new] at h
  exact h
theorem BRow.cell (h : BRow w g bs) {j : Nat} {x : UInt8} (hx : bs[j]? = some x) : w.cell? ⟨g, j, none⟩ = some (.int .u8 (x.toNat : Int)) := by
  obtain ⟨cur, lo, hi, hg, _, _, hc⟩ := h
  unfold World.cell?
  rw [hg]
  exact hc j x hx
theorem BRow.free (h : BRow w g bs) {j : Nat} (hj : j < bs.length) : w.frozen? ⟨g, j, none⟩ = false := by
  obtain ⟨cur, lo, hi, hg, hl, _⟩ := h
  unfold World.frozen?
  rw [hg]
  show (decide (lo ≤ j) && _) = false
  rw [decide_eq_false (by omega), Bool.false_and]
theorem BRow.rd (h : BRow w g bs) : RdB w (some ⟨g, 0, none⟩) bs.length bs := by
  refine ⟨by simp, fun _ => ⟨g, 0, rfl, fun j u hu => ?_⟩⟩
  rw [List.getElem?_map] at hu
  obtain ⟨x, hx, rfl⟩ := Option.map_eq_some_iff.1 hu
  rw [Nat.zero_add]
  exact h.cell hx
theorem BRow.set (h : BRow w g bs) (k : Nat) (y : UInt8) : BRow (w.setCell ⟨g, k, none⟩ (.int .u8 (y.toNat : Int))) g (bs.set k y) := by
  obtain ⟨cur, lo, hi, hg, hl, hs, hc⟩ := h
  refine ⟨cur.setIfInBounds k (.int .u8 (y.toNat : Int)), lo, hi, heap_set_any hg k _, by rw [List.length_set]; exact hl, by rw [List.length_set, Array.size_setIfInBounds]; exact hs, fun j x hx => ?_⟩
  rw [List.getElem?_set] at hx
  by_cases e : k = j
  · subst e
    rw [if_pos rfl] at hx
    by_cases hk : k < bs.length
    · rw [if_pos hk] at hx
      injection hx with hx
      subst hx
      rw [Array.getElem?_setIfInBounds_self_of_lt (by omega)]
    · rw [if_neg hk] at hx
      cases hx
  · rw [if_neg e] at hx
    rw [Array.getElem?_setIfInBounds_ne e]
    exact hc j x hx
theorem BRow.below (h : BRow w g bs) (hb : Below w.heap.size w w') : BRow w' g bs := by
  obtain ⟨cur, lo, hi, hg, h1⟩ := h
  exact ⟨cur, lo, hi, (hb.block g (Array.getElem?_eq_some_iff.1 hg).1).trans hg, h1⟩
end
/-- The first few letters are small. -/
def someL (l : List UInt8) (k : Nat) : List UInt8 := (l.take k).map smallC ++ l.drop k
theorem someL_zero (l : List UInt8) : someL l 0 = l := rfl
theorem someL_all (l : List UInt8) : someL l l.length = smallL l := by simp [someL, smallL]
theorem someL_length (l : List UInt8) (k : Nat) (hk : k ≤ l.length) : (someL l k).length = l.length := by simp [someL]; omega
theorem someL_at {l : List UInt8} {k : Nat} {x : UInt8} (hx : l[k]? = some x) : (someL l k)[k]? = some x := by
  have hk := (List.getElem?_eq_some_iff.1 hx).1
  unfold someL
  rw [List.getElem?_append_right (by simp; omega), List.length_map, List.length_take, Nat.min_eq_left (by omega), Nat.sub_self, List.getElem?_drop, Nat.add_zero, hx]
theorem someL_succ {l : List UInt8} {k : Nat} {x : UInt8} (hx : l[k]? = some x) : (someL l k).set k (smallC x) = someL l (k + 1) := by
  have hk := (List.getElem?_eq_some_iff.1 hx).1
  unfold someL
  rw [List.set_append_right _ _ (by simp; omega), List.length_map, List.length_take, Nat.min_eq_left (by omega), Nat.sub_self, List.drop_eq_getElem_cons hk, List.set_cons_zero, List.take_add_one, hx]
  simp
theorem someL_same {l : List UInt8} {k : Nat} {x : UInt8} (hx : l[k]? = some x) (h : smallC x = x) : someL l (k + 1) = someL l k := by
  have h1 := someL_at hx
  rw [← someL_succ hx, h]
  obtain ⟨hk, e⟩ := List.getElem?_eq_some_iff.1 h1
  rw [← e]
  exact List.set_getElem_self hk
theorem smallC_hi {x : UInt8} (h1 : 65 ≤ x.toNat) (h2 : x.toNat ≤ 90) : ((smallC x).toNat : Int) = x.toNat + 97 - 65 := by
  unfold smallC
  rw [if_pos ⟨h1, h2⟩, UInt8.toNat_ofNat']
  omega
theorem smallC_lo {x : UInt8} (h : ¬ (65 ≤ x.toNat ∧ x.toNat ≤ 90)) : smallC x = x := by unfold smallC; rw [if_neg h]

set_option maxHeartbeats 1000000 in
theorem small_any (l : List UInt8) (hl : l.length ≤ 9223372036854775807) (w : World) :
    Calls Try.prog 130 #[.string (bstr l)] w (RetP (fun v _ => v = .string (bstr (smallL l))) w) := by
  have hcb := fun W : World => Lib.run_convert_string_bytes (P := Try.prog) W 9 35 5 (bstr l) Try.underlying9 Try.underlying35 Try.underlying5
  have hbs := bstr_size l
  obtain ⟨w1, hw1⟩ : ∃ w1, w1 = Lib.bytesWorld w 5 (bstr l) := ⟨_, rfl⟩
  have HB1 : Hid (BRow w1 w.heap.size l) := by show BRow _ _ _; rw [hw1]; exact BRow.made w l
  have hb1 : Below w.heap.size w w1 := by rw [hw1]; exact (conv_rd w l).2
  go_enter Try.func130, Try.ntmps130
  go_upto_region 2 with (fail)
  rw [← hw1]
  clear hw1 hcb
  go_wp2
  go_loopw [10] (fun iv wr => ∃ k : Nat, iv = .int .i64 k ∧ k ≤ l.length ∧ Hid (BRow wr w.heap.size (someL l k)) ∧ Below w.heap.size w wr) (fun iv _ => l.length - (intOf iv).toNat)
  case atStart => exact ⟨0, rfl, Nat.zero_le _, HB1, hb1⟩
  case round =>
    obtain ⟨k, rfl, hk, HB, hbw⟩ := hrel
    clear HB1 hb1
    have hsl := Lib.hid (someL_length l k hk)
    by_cases hlt : k < l.length
    · obtain ⟨x, hx⟩ : ∃ x, l[k]? = some x := ⟨_, List.getElem?_eq_getElem hlt⟩
      have hcx := HB.out.cell (someL_at hx)
      have hfx := HB.out.free (j := k) (by rw [hsl.out]; exact hlt)
      have HX := Lib.hid hx
      have hx8 := x.toNat_lt
      clear hx
      by_cases h1 : 65 ≤ x.toNat ∧ x.toNat ≤ 90
      · obtain ⟨h1, h2⟩ := h1
        have HE := Lib.hid (smallC_hi h1 h2)
        have hset := HB.out.set k (smallC x)
        rw [HE.out, someL_succ HX.out] at hset
        have HS := Lib.hid hset
        clear hset
        go_wp2
        go_roundw
        case rel => exact ⟨k + 1, by go_num, by omega, HS.out, hbw.setCell (Nat.le_refl _) _⟩
        case measure => simp [intOf]; omega
      · have HS := Lib.hid (someL_same HX.out (smallC_lo h1))
        by_cases h2 : x.toNat < 65
        · clear h1
          go_wp2
          go_roundw
          case rel => exact ⟨k + 1, by go_num, by omega, by rw [HS.out]; exact HB, hbw⟩
          case measure => simp [intOf]; omega
        · have h3 : 90 < x.toNat := by omega
          clear h1
          go_wp2
          go_roundw
          case rel => exact ⟨k + 1, by go_num, by omega, by rw [HS.out]; exact HB, hbw⟩
          case measure => simp [intOf]; omega
    · have hke : k = l.length := by omega
      have hrd := HB.out.rd
      rw [hsl.out, hke, someL_all] at hrd
      have hcv := fun (c : Nat) => conv_str (P := Try.prog) _ _ _ Try.underlying35 Try.underlying5 Try.underlying9 wr (some ⟨w.heap.size, 0, none⟩) l.length c (smallL l) hrd
      go_wp2
      go_ret
      exact ⟨_, rfl, rfl, hbw⟩
end Go.Proofs.Ytbjaphldncagjaa

/- Names that are the same but for their letters' cases. -/
namespace Go.Proofs.Ytbjaphldncagjaa
open Go.RowKit
set_option maxRecDepth 100000

theorem smallC_hi2 {x : UInt8} (h1 : 65 ≤ x.toNat) (h2 : x.toNat ≤ 90) : ((smallC x).toNat : Int) = x.toNat + 32 := by
  rw [smallC_hi h1 h2]; omega

set_option maxHeartbeats 1000000 in
theorem rsmall_any (l : List UInt8) (hl : l.length ≤ 9223372036854775807) (w : World) :
    Calls Try.prog 134 #[.string (bstr l)] w (RetP (fun v _ => v = .string (bstr (smallL l))) w) := by
  have hcb := fun W : World => Lib.run_convert_string_bytes (P := Try.prog) W 9 35 5 (bstr l) Try.underlying9 Try.underlying35 Try.underlying5
  have hbs := bstr_size l
  obtain ⟨w1, hw1⟩ : ∃ w1, w1 = Lib.bytesWorld w 5 (bstr l) := ⟨_, rfl⟩
  have HB1 : Hid (BRow w1 w.heap.size l) := by show BRow _ _ _; rw [hw1]; exact BRow.made w l
  have hb1 : Below w.heap.size w w1 := by rw [hw1]; exact (conv_rd w l).2
  go_enter Try.func134, Try.ntmps134
  go_upto_region 2 with (fail)
  rw [← hw1]
  clear hw1 hcb
  go_wp2
  go_loopw [4] (fun iv wr => ∃ k : Nat, iv = .int .i64 k ∧ k ≤ l.length ∧ Hid (BRow wr w.heap.size (someL l k)) ∧ Below w.heap.size w wr) (fun iv _ => l.length - (intOf iv).toNat)
  case atStart => exact ⟨0, rfl, Nat.zero_le _, HB1, hb1⟩
  case round =>
    obtain ⟨k, rfl, hk, HB, hbw⟩ := hrel
    clear HB1 hb1
    have hsl := Lib.hid (someL_length l k hk)
    by_cases hlt : k < l.length
    · obtain ⟨x, hx⟩ : ∃ x, l[k]? = some x := ⟨_, List.getElem?_eq_getElem hlt⟩
      have hcx := HB.out.cell (someL_at hx)
      have hfx := HB.out.free (j := k) (by rw [hsl.out]; exact hlt)
      have HX := Lib.hid hx
      have hx8 := x.toNat_lt
      clear hx
      by_cases h1 : 65 ≤ x.toNat ∧ x.toNat ≤ 90
      · obtain ⟨h1, h2⟩ := h1
        have HE := Lib.hid (smallC_hi2 h1 h2)
        have hset := HB.out.set k (smallC x)
        rw [HE.out, someL_succ HX.out] at hset
        have HS := Lib.hid hset
        clear hset
        go_wp2
        go_roundw
        case rel => exact ⟨k + 1, by go_num, by omega, HS.out, hbw.setCell (Nat.le_refl _) _⟩
        case measure => simp [intOf]; omega
      · have HS := Lib.hid (someL_same HX.out (smallC_lo h1))
        by_cases h2 : x.toNat < 65
        · clear h1
          go_wp2
          go_roundw
          case rel => exact ⟨k + 1, by go_num, by omega, by rw [HS.out]; exact HB, hbw⟩
          case measure => simp [intOf]; omega
        · have h3 : 90 < x.toNat := by omega
          clear h1
          go_wp2
          go_roundw
          case rel => exact ⟨k + 1, by go_num, by omega, by rw [HS.out]; exact HB, hbw⟩
          case measure => simp [intOf]; omega
    · have hke : k = l.length := by omega
      have hrd := HB.out.rd
      rw [hsl.out, hke, someL_all] at hrd
      have hcv := fun (c : Nat) => conv_str (P := Try.prog) _ _ _ Try.underlying35 Try.underlying5 Try.underlying9 wr (some ⟨w.heap.size, 0, none⟩) l.length c (smallL l) hrd
      go_wp2
      go_ret
      exact ⟨_, rfl, rfl, hbw⟩

theorem bstr_beq (x y : List UInt8) : ((bstr x).toList == (bstr y).toList) = decide (x = y) := by
  rw [bstr_toList, bstr_toList]
  by_cases h : x = y
  · rw [h, decide_eq_true rfl]; simp
  · rw [decide_eq_false h, beq_eq_false_iff_ne]; exact h

theorem nameEq1_any (x y : List UInt8) (hx : x.length ≤ maxLen) (hy : y.length ≤ maxLen) (w : World) :
    Calls Try.prog 129 #[.string (bstr x), .string (bstr y)] w (RetP (fun v _ => v = .bool (decide (smallL x = smallL y))) w) := by
  unfold maxLen at hx hy
  have hq := bstr_beq (smallL x) (smallL y)
  go_enter Try.func129, Try.ntmps129
  go_wp2_with (first
    | (go_at_call 130; refine (small_any y hy w1).mono ?_; rintro e w2 ⟨v2, rfl, rfl, hb2⟩)
    | (go_at_call 130; refine (small_any x hx w).mono ?_; rintro e w1 ⟨v1, rfl, rfl, hb1⟩)
    | fail)
  go_ret
  exact ⟨_, rfl, rfl, nx hb1 hb2⟩

theorem low_at {xs : List (List UInt8)} {k : Nat} {x : List UInt8} (hx : xs[k]? = some x) : (lowN xs)[k]? = some (smallL x) := by
  unfold lowN; rw [List.getElem?_map, hx]; rfl
theorem low_len (xs : List (List UInt8)) : (lowN xs).length = xs.length := List.length_map _

set_option maxHeartbeats 1000000 in
theorem eqFunc_any (A A' : Option Addr) (n c n' c' : Nat) (xs ys : List (List UInt8)) (w : World) (hx : RdE encS w A n xs) (hy : RdE encS w A' n' ys) (hn : n ≤ maxLen) (hn' : n' ≤ maxLen) :
    Calls Try.prog 128 #[.slice A n c, .slice A' n' c', .func (.func 129) #[] #[]] w (RetP (fun v _ => v = .bool (decide (lowN xs = lowN ys))) w) := by
  unfold maxLen at hn hn'
  have hlx := Lib.hid hx.len
  have hly := Lib.hid hy.len
  by_cases hnn : n = n'
  · subst hnn
    go_enter Try.func128, Try.ntmps128
    go_wp2
    go_loopw [17] (fun i wr => ∃ k : Nat, i = .int .i64 k ∧ k ≤ n ∧ Below w.heap.size w wr ∧ Hid ((lowN xs).take k = (lowN ys).take k)) (fun i _ => n - (intOf i).toNat)
    case atStart => exact ⟨0, rfl, Nat.zero_le _, bl, rfl⟩
    case round =>
      obtain ⟨k, rfl, hk, hbw, HT⟩ := hrel
      by_cases hlt : k < n
      · obtain ⟨x, gx⟩ : ∃ x, xs[k]? = some x := ⟨_, List.getElem?_eq_getElem (by rw [hlx.out]; exact hlt)⟩
        obtain ⟨y, gy⟩ : ∃ y, ys[k]? = some y := ⟨_, List.getElem?_eq_getElem (by rw [hly.out]; exact hlt)⟩
        obtain ⟨b, off, rfl, _, cx, mx⟩ := strs_at (hx.below hbw) gx
        obtain ⟨b', off', rfl, _, cy, my⟩ := strs_at (hy.below hbw) gy
        have GX := Lib.hid (low_at gx)
        have GY := Lib.hid (low_at gy)
        clear gx gy
        by_cases hxy : smallL x = smallL y
        · have HX := Lib.hid hxy
          clear hxy
          go_wp2_with (first
            | (go_at_call 129; refine (nameEq1_any x y mx my _).mono ?_; rw [decide_eq_true HX.out]; rintro e w2 ⟨v2, rfl, rfl, hb2⟩)
            | fail)
          go_roundw
          case rel => exact ⟨k + 1, by go_num, by omega, nx hbw hb2, take_eq_succ HT.out GX.out GY.out HX.out⟩
          case measure => simp [intOf]; omega
        · have HX := Lib.hid hxy
          clear hxy
          go_wp2_with (first
            | (go_at_call 129; refine (nameEq1_any x y mx my _).mono ?_; rw [decide_eq_false HX.out]; rintro e w2 ⟨v2, rfl, rfl, hb2⟩)
            | fail)
          go_ret
          exact ⟨_, rfl, by rw [decide_eq_false (ne_of_get GX.out GY.out HX.out)]; rfl, nx hbw hb2⟩
      · go_wp2
        go_ret
        have hk' : k = n := by omega
        have he := HT.out
        rw [hk', List.take_of_length_le (by rw [low_len, hlx.out]; omega), List.take_of_length_le (by rw [low_len, hly.out]; omega)] at he
        exact ⟨_, rfl, by rw [decide_eq_true he]; rfl, hbw⟩
  · have hb : ((n : Int) != (n' : Int)) = true := by rw [bne_iff_ne]; omega
    go_enter Try.func128, Try.ntmps128
    go_wp2
    go_ret
    have he : lowN xs ≠ lowN ys := fun e => by
      have := congrArg List.length e
      rw [low_len, low_len, hlx.out, hly.out] at this
      exact hnn this
    exact ⟨_, rfl, by rw [decide_eq_false he]; rfl, bl⟩

theorem nequal_any (A A' : Option Addr) (n c n' c' : Nat) (xs ys : List (List UInt8)) (w : World) (hx : RdE encS w A n xs) (hy : RdE encS w A' n' ys) (hn : n ≤ maxLen) (hn' : n' ≤ maxLen) :
    Calls Try.prog 89 #[.slice A n c, .slice A' n' c'] w (RetP (fun v _ => v = .bool (decide (lowN xs = lowN ys))) w) := by
  go_enter Try.func89, Try.ntmps89
  go_wp2_with (go_at_call 128; refine (eqFunc_any _ _ _ _ _ _ xs ys _ hx hy hn hn').mono ?_; rintro e w1 ⟨v1, rfl, rfl, hb1⟩)
  go_ret
  exact ⟨_, rfl, rfl, hb1⟩

set_option maxHeartbeats 2000000 in
theorem requal_any (A A' : Option Addr) (n c n' c' : Nat) (xs ys : List (List UInt8)) (w : World) (hx : RdE encS w A n xs) (hy : RdE encS w A' n' ys) (hn : n ≤ maxLen) (hn' : n' ≤ maxLen) :
    Calls Try.prog 92 #[.slice A n c, .slice A' n' c'] w (RetP (fun v _ => v = .bool (decide (lowN xs = lowN ys))) w) := by
  unfold maxLen at hn hn'
  have hlx := Lib.hid hx.len
  have hly := Lib.hid hy.len
  by_cases hnn : n = n'
  · subst hnn
    go_enter Try.func92, Try.ntmps92
    go_wp2
    go_loopw [5] (fun i wr => ∃ k : Nat, i = .int .i64 k ∧ k ≤ n ∧ Below w.heap.size w wr ∧ Hid ((lowN xs).take k = (lowN ys).take k)) (fun i _ => n - (intOf i).toNat)
    case atStart => exact ⟨0, rfl, Nat.zero_le _, bl, rfl⟩
    case round =>
      obtain ⟨k, rfl, hk, hbw, HT⟩ := hrel
      by_cases hlt : k < n
      · obtain ⟨x, gx⟩ : ∃ x, xs[k]? = some x := ⟨_, List.getElem?_eq_getElem (by rw [hlx.out]; exact hlt)⟩
        obtain ⟨y, gy⟩ : ∃ y, ys[k]? = some y := ⟨_, List.getElem?_eq_getElem (by rw [hly.out]; exact hlt)⟩
        obtain ⟨b, off, rfl, _, cx, mx⟩ := strs_at (hx.below hbw) gx
        obtain ⟨b', off', rfl, _, cy, my⟩ := strs_at (hy.below hbw) gy
        have GX := Lib.hid (low_at gx)
        have GY := Lib.hid (low_at gy)
        have hq := bstr_beq (smallL x) (smallL y)
        unfold maxLen at mx my
        clear gx gy
        by_cases hxy : smallL x = smallL y
        · have HX := Lib.hid hxy
          rw [decide_eq_true hxy] at hq
          clear hxy
          go_upto_region 6 with (fail)
          go_region_held3 (fun w' => w'.cell? ⟨b, off + k, none⟩ = some (.string (bstr x)) ∧ w'.cell? ⟨b', off' + k, none⟩ = some (.string (bstr y)))
            (first
              | with_reducible exact ⟨cx, cy⟩
              | with_reducible exact ⟨below_cell bl.drew cx, below_cell bl.drew cy⟩
              | with_reducible exact ⟨p1, p2⟩
              | with_reducible exact ⟨q1, q2⟩
              | fail)
            (first
              | (go_at_call 134; refine (rsmall_any y my wa).mono ?_; rintro e wb ⟨v2, rfl, rfl, hb2⟩; have q1 := below_cell hb2 p1; have q2 := below_cell hb2 p2)
              | (go_at_call 134; refine (rsmall_any x mx wr.drew).mono ?_; rintro e wa ⟨v1, rfl, rfl, hb1'⟩; have hb1 : Below wr.heap.size wr wa := bl.drew.trans hb1'; have p1 := below_cell hb1 cx; have p2 := below_cell hb1 cy)
              | fail)
          have hbn := nx hbw (nx hb1 hb2)
          go_wp2
          go_roundw
          case rel => exact ⟨k + 1, by go_num, by omega, hbn, take_eq_succ HT.out GX.out GY.out HX.out⟩
          case measure => simp [intOf]; omega
        · have HX := Lib.hid hxy
          rw [decide_eq_false hxy] at hq
          clear hxy
          go_upto_region 6 with (fail)
          go_region_held3 (fun w' => w'.cell? ⟨b, off + k, none⟩ = some (.string (bstr x)) ∧ w'.cell? ⟨b', off' + k, none⟩ = some (.string (bstr y)))
            (first
              | with_reducible exact ⟨cx, cy⟩
              | with_reducible exact ⟨below_cell bl.drew cx, below_cell bl.drew cy⟩
              | with_reducible exact ⟨p1, p2⟩
              | with_reducible exact ⟨q1, q2⟩
              | fail)
            (first
              | (go_at_call 134; refine (rsmall_any y my wa).mono ?_; rintro e wb ⟨v2, rfl, rfl, hb2⟩; have q1 := below_cell hb2 p1; have q2 := below_cell hb2 p2)
              | (go_at_call 134; refine (rsmall_any x mx wr.drew).mono ?_; rintro e wa ⟨v1, rfl, rfl, hb1'⟩; have hb1 : Below wr.heap.size wr wa := bl.drew.trans hb1'; have p1 := below_cell hb1 cx; have p2 := below_cell hb1 cy)
              | fail)
          have hbn := nx hbw (nx hb1 hb2)
          go_wp2
          go_ret
          exact ⟨_, rfl, by rw [decide_eq_false (ne_of_get GX.out GY.out HX.out)]; rfl, hbn⟩
      · go_wp2
        go_ret
        have hk' : k = n := by omega
        have he := HT.out
        rw [hk', List.take_of_length_le (by rw [low_len, hlx.out]; omega), List.take_of_length_le (by rw [low_len, hly.out]; omega)] at he
        exact ⟨_, rfl, by rw [decide_eq_true he]; rfl, hbw⟩
  · have hb : ((n : Int) != (n' : Int)) = true := by rw [bne_iff_ne]; omega
    go_enter Try.func92, Try.ntmps92
    go_wp2
    go_ret
    have he : lowN xs ≠ lowN ys := fun e => by
      have := congrArg List.length e
      rw [low_len, low_len, hlx.out, hly.out] at this
      exact hnn this
    exact ⟨_, rfl, by rw [decide_eq_false he]; rfl, bl⟩
end Go.Proofs.Ytbjaphldncagjaa

/- What a record says, in memory; whether two say the same: the program's and the reference's. -/
namespace Go.Proofs.Ytbjaphldncagjaa
open Go.RowKit
set_option maxRecDepth 100000

structure Da where
  bytes : List UInt8
  host : List (List UInt8)
  mail : List (List UInt8)
  nums : List Int
  texts : List (List UInt8)
/-- Where its five slices lead, and their capacities. -/
structure DS where
  A0 : Option Addr
  A1 : Option Addr
  A2 : Option Addr
  A3 : Option Addr
  A4 : Option Addr
  c0 : Nat
  c1 : Nat
  c2 : Nat
  c3 : Nat
  c4 : Nat
def dsV (s : DS) (x : Da) : Value := .agg #[.slice s.A0 x.bytes.length s.c0, .slice s.A1 x.host.length s.c1, .slice s.A2 x.mail.length s.c2, .slice s.A3 x.nums.length s.c3, .slice s.A4 x.texts.length s.c4]
structure DRd (w : World) (s : DS) (x : Da) : Prop where
  b : RdB w s.A0 x.bytes.length x.bytes
  h : RdE encS w s.A1 x.host.length x.host
  m : RdE encS w s.A2 x.mail.length x.mail
  n : RdE encI w s.A3 x.nums.length x.nums
  t : RdE encS w s.A4 x.texts.length x.texts
  cb : x.bytes.length ≤ s.c0 ∧ s.c0 ≤ maxLen
  ch : x.host.length ≤ s.c1 ∧ s.c1 ≤ maxLen
  cm : x.mail.length ≤ s.c2 ∧ s.c2 ≤ maxLen
  cn : x.nums.length ≤ s.c3 ∧ s.c3 ≤ maxLen
  ct : x.texts.length ≤ s.c4 ∧ s.c4 ≤ maxLen
theorem DRd.below {w w' : World} {s : DS} {x : Da} (h : DRd w s x) (hb : Below w.heap.size w w') : DRd w' s x :=
  ⟨h.b.below hb, h.h.below hb, h.m.below hb, h.n.below hb, h.t.below hb, h.cb, h.ch, h.cm, h.cn, h.ct⟩
/-- It lies in a block of its own. -/
def DBox (w : World) (q : Nat) (s : DS) (x : Da) : Prop :=
  w.cell? ⟨q, 0, none⟩ = some (.slice s.A0 x.bytes.length s.c0) ∧ w.cell? ⟨q, 1, none⟩ = some (.slice s.A1 x.host.length s.c1) ∧ w.cell? ⟨q, 2, none⟩ = some (.slice s.A2 x.mail.length s.c2) ∧ w.cell? ⟨q, 3, none⟩ = some (.slice s.A3 x.nums.length s.c3) ∧ w.cell? ⟨q, 4, none⟩ = some (.slice s.A4 x.texts.length s.c4)
theorem DBox.made (w : World) (s : DS) (x : Da) (e : TypeId) : DBox (w.alloc (.cells #[.slice s.A0 x.bytes.length s.c0, .slice s.A1 x.host.length s.c1, .slice s.A2 x.mail.length s.c2, .slice s.A3 x.nums.length s.c3, .slice s.A4 x.texts.length s.c4] e)) w.heap.size s x :=
  ⟨new_cell w _ _ 0, new_cell w _ _ 1, new_cell w _ _ 2, new_cell w _ _ 3, new_cell w _ _ 4⟩
theorem DBox.below {w w' : World} {q : Nat} {s : DS} {x : Da} (h : DBox w q s x) (hb : Below w.heap.size w w') : DBox w' q s x := by
  obtain ⟨h0, h1, h2, h3, h4⟩ := h
  exact ⟨below_cell hb h0, below_cell hb h1, below_cell hb h2, below_cell hb h3, below_cell hb h4⟩
theorem DBox.lt {w : World} {q : Nat} {s : DS} {x : Da} (h : DBox w q s x) : q < w.heap.size := by
  have := World.block_lt_of_cell? w _ h.1
  exact this

/-- Do both say the same? -/
def sameD (x y : Da) : Bool := decide (x.bytes = y.bytes ∧ x.nums = y.nums ∧ x.texts = y.texts ∧ lowN x.host = lowN y.host ∧ lowN x.mail = lowN y.mail)
theorem sameD_true {x y : Da} (h0 : x.bytes = y.bytes) (h1 : x.nums = y.nums) (h2 : x.texts = y.texts) (h3 : lowN x.host = lowN y.host) (h4 : lowN x.mail = lowN y.mail) : sameD x y = true := decide_eq_true ⟨h0, h1, h2, h3, h4⟩
theorem sameD_iff {x y : Da} : sameD x y = true ↔ x.bytes = y.bytes ∧ x.nums = y.nums ∧ x.texts = y.texts ∧ lowN x.host = lowN y.host ∧ lowN x.mail = lowN y.mail := decide_eq_true_iff
theorem sameD_comm (x y : Da) : sameD x y = sameD y x := by
  rw [Bool.eq_iff_iff, sameD_iff, sameD_iff]
  exact ⟨fun ⟨a, b, c, d, e⟩ => ⟨a.symm, b.symm, c.symm, d.symm, e.symm⟩, fun ⟨a, b, c, d, e⟩ => ⟨a.symm, b.symm, c.symm, d.symm, e.symm⟩⟩
theorem sameD_false {x y : Da} (h : ¬ (x.bytes = y.bytes ∧ x.nums = y.nums ∧ x.texts = y.texts ∧ lowN x.host = lowN y.host ∧ lowN x.mail = lowN y.mail)) : sameD x y = false := decide_eq_false h

set_option maxHeartbeats 4000000 in
theorem psame_any (s r : DS) (x y : Da) (w : World) (hx : DRd w s x) (hy : DRd w r y) : Calls Try.prog 96 #[dsV s x, dsV r y] w (RetP (fun v _ => v = .bool (sameD x y)) w) := by
  unfold dsV
  obtain ⟨w0, hw0⟩ : ∃ w0, w0 = (w.alloc (.cells #[.slice s.A0 x.bytes.length s.c0, .slice s.A1 x.host.length s.c1, .slice s.A2 x.mail.length s.c2, .slice s.A3 x.nums.length s.c3, .slice s.A4 x.texts.length s.c4] 46)).alloc (.cells #[.slice r.A0 y.bytes.length r.c0, .slice r.A1 y.host.length r.c1, .slice r.A2 y.mail.length r.c2, .slice r.A3 y.nums.length r.c3, .slice r.A4 y.texts.length r.c4] 46) := ⟨_, rfl⟩
  have hbA : Below w.heap.size w (w.alloc (.cells #[.slice s.A0 x.bytes.length s.c0, .slice s.A1 x.host.length s.c1, .slice s.A2 x.mail.length s.c2, .slice s.A3 x.nums.length s.c3, .slice s.A4 x.texts.length s.c4] 46)) := bl.alloc (Nat.le_refl _) _
  have hb0 : Below w.heap.size w w0 := by rw [hw0]; exact nx hbA (bl.alloc (Nat.le_refl _) _)
  have HX0 := Lib.hid (hx.below hb0)
  have HY0 := Lib.hid (hy.below hb0)
  have BX0 : Hid (DBox w0 w.heap.size s x) := by show DBox _ _ _ _; rw [hw0]; exact (DBox.made w s x _).below (bl.alloc (Nat.le_refl _) _)
  have BY0 : Hid (DBox w0 (w.heap.size + 1) r y) := by
    show DBox _ _ _ _
    rw [hw0]
    have := DBox.made (w.alloc (.cells #[.slice s.A0 x.bytes.length s.c0, .slice s.A1 x.host.length s.c1, .slice s.A2 x.mail.length s.c2, .slice s.A3 x.nums.length s.c3, .slice s.A4 x.texts.length s.c4] 46)) r y 46
    rw [show (w.alloc (.cells #[.slice s.A0 x.bytes.length s.c0, .slice s.A1 x.host.length s.c1, .slice s.A2 x.mail.length s.c2, .slice s.A3 x.nums.length s.c3, .slice s.A4 x.texts.length s.c4] 46)).heap.size = w.heap.size + 1 by simp] at this
    exact this
  clear hx hy hbA
  obtain ⟨a00, a01, a02, a03, a04⟩ := BX0.out
  obtain ⟨b00, b01, b02, b03, b04⟩ := BY0.out
  go_enter Try.func96, Try.ntmps96
  go_upto_region 1 with (fail)
  rw [← hw0]
  clear hw0
  by_cases e0 : x.bytes = y.bytes
  · have E0 := Lib.hid e0
    clear e0
    by_cases e1 : x.nums = y.nums
    · have E1 := Lib.hid e1
      clear e1
      by_cases e2 : x.texts = y.texts
      · have E2 := Lib.hid e2
        clear e2
        by_cases e3 : lowN x.host = lowN y.host
        · have E3 := Lib.hid e3
          clear e3
          by_cases e4 : lowN x.mail = lowN y.mail
          · have E4 := Lib.hid e4
            clear e4
            go_wp2_with (first
              | (go_at_call 89; refine (nequal_any _ _ _ _ _ _ x.mail y.mail w4 HX4.out.m HY4.out.m (Nat.le_trans HX4.out.cm.1 HX4.out.cm.2) (Nat.le_trans HY4.out.cm.1 HY4.out.cm.2)).mono ?_; rw [decide_eq_true E4.out]; rintro e w5 ⟨v5, rfl, rfl, hb5⟩; have HX5 := Lib.hid (HX4.out.below hb5); have HY5 := Lib.hid (HY4.out.below hb5); have BX5 := Lib.hid (BX4.out.below hb5); have BY5 := Lib.hid (BY4.out.below hb5); obtain ⟨a50, a51, a52, a53, a54⟩ := BX5.out; obtain ⟨b50, b51, b52, b53, b54⟩ := BY5.out)
              | (go_at_call 89; refine (nequal_any _ _ _ _ _ _ x.host y.host w3 HX3.out.h HY3.out.h (Nat.le_trans HX3.out.ch.1 HX3.out.ch.2) (Nat.le_trans HY3.out.ch.1 HY3.out.ch.2)).mono ?_; rw [decide_eq_true E3.out]; rintro e w4 ⟨v4, rfl, rfl, hb4⟩; have HX4 := Lib.hid (HX3.out.below hb4); have HY4 := Lib.hid (HY3.out.below hb4); have BX4 := Lib.hid (BX3.out.below hb4); have BY4 := Lib.hid (BY3.out.below hb4); obtain ⟨a40, a41, a42, a43, a44⟩ := BX4.out; obtain ⟨b40, b41, b42, b43, b44⟩ := BY4.out)
              | (go_at_call 141; refine (seqS_any _ _ _ _ _ _ x.texts y.texts w2 HX2.out.t HY2.out.t (Nat.le_trans HX2.out.ct.1 HX2.out.ct.2) (Nat.le_trans HY2.out.ct.1 HY2.out.ct.2)).mono ?_; rw [decide_eq_true E2.out]; rintro e w3 ⟨rfl, m3, hw3⟩; have hb3 : Below w2.heap.size w2 w3 := (by rw [hw3]; exact dN bl m3); clear hw3; have HX3 := Lib.hid (HX2.out.below hb3); have HY3 := Lib.hid (HY2.out.below hb3); have BX3 := Lib.hid (BX2.out.below hb3); have BY3 := Lib.hid (BY2.out.below hb3); obtain ⟨a30, a31, a32, a33, a34⟩ := BX3.out; obtain ⟨b30, b31, b32, b33, b34⟩ := BY3.out)
              | (go_at_call 140; refine (seqI_any _ _ _ _ _ _ x.nums y.nums w1 HX1.out.n HY1.out.n (Nat.le_trans HX1.out.cn.1 HX1.out.cn.2) (Nat.le_trans HY1.out.cn.1 HY1.out.cn.2)).mono ?_; rw [decide_eq_true E1.out]; rintro e w2 ⟨rfl, m2, hw2⟩; have hb2 : Below w1.heap.size w1 w2 := (by rw [hw2]; exact dN bl m2); clear hw2; have HX2 := Lib.hid (HX1.out.below hb2); have HY2 := Lib.hid (HY1.out.below hb2); have BX2 := Lib.hid (BX1.out.below hb2); have BY2 := Lib.hid (BY1.out.below hb2); obtain ⟨a20, a21, a22, a23, a24⟩ := BX2.out; obtain ⟨b20, b21, b22, b23, b24⟩ := BY2.out)
              | (go_at_call 139; refine (seqB_any _ _ _ _ _ _ x.bytes y.bytes w0 HX0.out.b HY0.out.b (Nat.le_trans HX0.out.cb.1 HX0.out.cb.2) (Nat.le_trans HY0.out.cb.1 HY0.out.cb.2)).mono ?_; rw [decide_eq_true E0.out]; rintro e w1 ⟨rfl, m1, hw1⟩; have hb1 : Below w0.heap.size w0 w1 := (by rw [hw1]; exact dN bl m1); clear hw1; have HX1 := Lib.hid (HX0.out.below hb1); have HY1 := Lib.hid (HY0.out.below hb1); have BX1 := Lib.hid (BX0.out.below hb1); have BY1 := Lib.hid (BY0.out.below hb1); obtain ⟨a10, a11, a12, a13, a14⟩ := BX1.out; obtain ⟨b10, b11, b12, b13, b14⟩ := BY1.out)
              | fail)
            go_ret
            exact ⟨_, rfl, by rw [sameD_true E0.out E1.out E2.out E3.out E4.out]; rfl, (nx (nx (nx (nx (nx hb0 hb1) hb2) hb3) hb4) hb5)⟩
          · have E4 := Lib.hid e4
            clear e4
            go_wp2_with (first
              | (go_at_call 89; refine (nequal_any _ _ _ _ _ _ x.mail y.mail w4 HX4.out.m HY4.out.m (Nat.le_trans HX4.out.cm.1 HX4.out.cm.2) (Nat.le_trans HY4.out.cm.1 HY4.out.cm.2)).mono ?_; rw [decide_eq_false E4.out]; rintro e w5 ⟨v5, rfl, rfl, hb5⟩; have HX5 := Lib.hid (HX4.out.below hb5); have HY5 := Lib.hid (HY4.out.below hb5); have BX5 := Lib.hid (BX4.out.below hb5); have BY5 := Lib.hid (BY4.out.below hb5); obtain ⟨a50, a51, a52, a53, a54⟩ := BX5.out; obtain ⟨b50, b51, b52, b53, b54⟩ := BY5.out)
              | (go_at_call 89; refine (nequal_any _ _ _ _ _ _ x.host y.host w3 HX3.out.h HY3.out.h (Nat.le_trans HX3.out.ch.1 HX3.out.ch.2) (Nat.le_trans HY3.out.ch.1 HY3.out.ch.2)).mono ?_; rw [decide_eq_true E3.out]; rintro e w4 ⟨v4, rfl, rfl, hb4⟩; have HX4 := Lib.hid (HX3.out.below hb4); have HY4 := Lib.hid (HY3.out.below hb4); have BX4 := Lib.hid (BX3.out.below hb4); have BY4 := Lib.hid (BY3.out.below hb4); obtain ⟨a40, a41, a42, a43, a44⟩ := BX4.out; obtain ⟨b40, b41, b42, b43, b44⟩ := BY4.out)
              | (go_at_call 141; refine (seqS_any _ _ _ _ _ _ x.texts y.texts w2 HX2.out.t HY2.out.t (Nat.le_trans HX2.out.ct.1 HX2.out.ct.2) (Nat.le_trans HY2.out.ct.1 HY2.out.ct.2)).mono ?_; rw [decide_eq_true E2.out]; rintro e w3 ⟨rfl, m3, hw3⟩; have hb3 : Below w2.heap.size w2 w3 := (by rw [hw3]; exact dN bl m3); clear hw3; have HX3 := Lib.hid (HX2.out.below hb3); have HY3 := Lib.hid (HY2.out.below hb3); have BX3 := Lib.hid (BX2.out.below hb3); have BY3 := Lib.hid (BY2.out.below hb3); obtain ⟨a30, a31, a32, a33, a34⟩ := BX3.out; obtain ⟨b30, b31, b32, b33, b34⟩ := BY3.out)
              | (go_at_call 140; refine (seqI_any _ _ _ _ _ _ x.nums y.nums w1 HX1.out.n HY1.out.n (Nat.le_trans HX1.out.cn.1 HX1.out.cn.2) (Nat.le_trans HY1.out.cn.1 HY1.out.cn.2)).mono ?_; rw [decide_eq_true E1.out]; rintro e w2 ⟨rfl, m2, hw2⟩; have hb2 : Below w1.heap.size w1 w2 := (by rw [hw2]; exact dN bl m2); clear hw2; have HX2 := Lib.hid (HX1.out.below hb2); have HY2 := Lib.hid (HY1.out.below hb2); have BX2 := Lib.hid (BX1.out.below hb2); have BY2 := Lib.hid (BY1.out.below hb2); obtain ⟨a20, a21, a22, a23, a24⟩ := BX2.out; obtain ⟨b20, b21, b22, b23, b24⟩ := BY2.out)
              | (go_at_call 139; refine (seqB_any _ _ _ _ _ _ x.bytes y.bytes w0 HX0.out.b HY0.out.b (Nat.le_trans HX0.out.cb.1 HX0.out.cb.2) (Nat.le_trans HY0.out.cb.1 HY0.out.cb.2)).mono ?_; rw [decide_eq_true E0.out]; rintro e w1 ⟨rfl, m1, hw1⟩; have hb1 : Below w0.heap.size w0 w1 := (by rw [hw1]; exact dN bl m1); clear hw1; have HX1 := Lib.hid (HX0.out.below hb1); have HY1 := Lib.hid (HY0.out.below hb1); have BX1 := Lib.hid (BX0.out.below hb1); have BY1 := Lib.hid (BY0.out.below hb1); obtain ⟨a10, a11, a12, a13, a14⟩ := BX1.out; obtain ⟨b10, b11, b12, b13, b14⟩ := BY1.out)
              | fail)
            go_ret
            exact ⟨_, rfl, by rw [sameD_false (fun h => E4.out h.2.2.2.2)]; rfl, (nx (nx (nx (nx (nx hb0 hb1) hb2) hb3) hb4) hb5)⟩
        · have E3 := Lib.hid e3
          clear e3
          go_wp2_with (first
            | (go_at_call 89; refine (nequal_any _ _ _ _ _ _ x.host y.host w3 HX3.out.h HY3.out.h (Nat.le_trans HX3.out.ch.1 HX3.out.ch.2) (Nat.le_trans HY3.out.ch.1 HY3.out.ch.2)).mono ?_; rw [decide_eq_false E3.out]; rintro e w4 ⟨v4, rfl, rfl, hb4⟩; have HX4 := Lib.hid (HX3.out.below hb4); have HY4 := Lib.hid (HY3.out.below hb4); have BX4 := Lib.hid (BX3.out.below hb4); have BY4 := Lib.hid (BY3.out.below hb4); obtain ⟨a40, a41, a42, a43, a44⟩ := BX4.out; obtain ⟨b40, b41, b42, b43, b44⟩ := BY4.out)
            | (go_at_call 141; refine (seqS_any _ _ _ _ _ _ x.texts y.texts w2 HX2.out.t HY2.out.t (Nat.le_trans HX2.out.ct.1 HX2.out.ct.2) (Nat.le_trans HY2.out.ct.1 HY2.out.ct.2)).mono ?_; rw [decide_eq_true E2.out]; rintro e w3 ⟨rfl, m3, hw3⟩; have hb3 : Below w2.heap.size w2 w3 := (by rw [hw3]; exact dN bl m3); clear hw3; have HX3 := Lib.hid (HX2.out.below hb3); have HY3 := Lib.hid (HY2.out.below hb3); have BX3 := Lib.hid (BX2.out.below hb3); have BY3 := Lib.hid (BY2.out.below hb3); obtain ⟨a30, a31, a32, a33, a34⟩ := BX3.out; obtain ⟨b30, b31, b32, b33, b34⟩ := BY3.out)
            | (go_at_call 140; refine (seqI_any _ _ _ _ _ _ x.nums y.nums w1 HX1.out.n HY1.out.n (Nat.le_trans HX1.out.cn.1 HX1.out.cn.2) (Nat.le_trans HY1.out.cn.1 HY1.out.cn.2)).mono ?_; rw [decide_eq_true E1.out]; rintro e w2 ⟨rfl, m2, hw2⟩; have hb2 : Below w1.heap.size w1 w2 := (by rw [hw2]; exact dN bl m2); clear hw2; have HX2 := Lib.hid (HX1.out.below hb2); have HY2 := Lib.hid (HY1.out.below hb2); have BX2 := Lib.hid (BX1.out.below hb2); have BY2 := Lib.hid (BY1.out.below hb2); obtain ⟨a20, a21, a22, a23, a24⟩ := BX2.out; obtain ⟨b20, b21, b22, b23, b24⟩ := BY2.out)
            | (go_at_call 139; refine (seqB_any _ _ _ _ _ _ x.bytes y.bytes w0 HX0.out.b HY0.out.b (Nat.le_trans HX0.out.cb.1 HX0.out.cb.2) (Nat.le_trans HY0.out.cb.1 HY0.out.cb.2)).mono ?_; rw [decide_eq_true E0.out]; rintro e w1 ⟨rfl, m1, hw1⟩; have hb1 : Below w0.heap.size w0 w1 := (by rw [hw1]; exact dN bl m1); clear hw1; have HX1 := Lib.hid (HX0.out.below hb1); have HY1 := Lib.hid (HY0.out.below hb1); have BX1 := Lib.hid (BX0.out.below hb1); have BY1 := Lib.hid (BY0.out.below hb1); obtain ⟨a10, a11, a12, a13, a14⟩ := BX1.out; obtain ⟨b10, b11, b12, b13, b14⟩ := BY1.out)
            | fail)
          go_ret
          exact ⟨_, rfl, by rw [sameD_false (fun h => E3.out h.2.2.2.1)]; rfl, (nx (nx (nx (nx hb0 hb1) hb2) hb3) hb4)⟩
      · have E2 := Lib.hid e2
        clear e2
        go_wp2_with (first
          | (go_at_call 141; refine (seqS_any _ _ _ _ _ _ x.texts y.texts w2 HX2.out.t HY2.out.t (Nat.le_trans HX2.out.ct.1 HX2.out.ct.2) (Nat.le_trans HY2.out.ct.1 HY2.out.ct.2)).mono ?_; rw [decide_eq_false E2.out]; rintro e w3 ⟨rfl, m3, hw3⟩; have hb3 : Below w2.heap.size w2 w3 := (by rw [hw3]; exact dN bl m3); clear hw3; have HX3 := Lib.hid (HX2.out.below hb3); have HY3 := Lib.hid (HY2.out.below hb3); have BX3 := Lib.hid (BX2.out.below hb3); have BY3 := Lib.hid (BY2.out.below hb3); obtain ⟨a30, a31, a32, a33, a34⟩ := BX3.out; obtain ⟨b30, b31, b32, b33, b34⟩ := BY3.out)
          | (go_at_call 140; refine (seqI_any _ _ _ _ _ _ x.nums y.nums w1 HX1.out.n HY1.out.n (Nat.le_trans HX1.out.cn.1 HX1.out.cn.2) (Nat.le_trans HY1.out.cn.1 HY1.out.cn.2)).mono ?_; rw [decide_eq_true E1.out]; rintro e w2 ⟨rfl, m2, hw2⟩; have hb2 : Below w1.heap.size w1 w2 := (by rw [hw2]; exact dN bl m2); clear hw2; have HX2 := Lib.hid (HX1.out.below hb2); have HY2 := Lib.hid (HY1.out.below hb2); have BX2 := Lib.hid (BX1.out.below hb2); have BY2 := Lib.hid (BY1.out.below hb2); obtain ⟨a20, a21, a22, a23, a24⟩ := BX2.out; obtain ⟨b20, b21, b22, b23, b24⟩ := BY2.out)
          | (go_at_call 139; refine (seqB_any _ _ _ _ _ _ x.bytes y.bytes w0 HX0.out.b HY0.out.b (Nat.le_trans HX0.out.cb.1 HX0.out.cb.2) (Nat.le_trans HY0.out.cb.1 HY0.out.cb.2)).mono ?_; rw [decide_eq_true E0.out]; rintro e w1 ⟨rfl, m1, hw1⟩; have hb1 : Below w0.heap.size w0 w1 := (by rw [hw1]; exact dN bl m1); clear hw1; have HX1 := Lib.hid (HX0.out.below hb1); have HY1 := Lib.hid (HY0.out.below hb1); have BX1 := Lib.hid (BX0.out.below hb1); have BY1 := Lib.hid (BY0.out.below hb1); obtain ⟨a10, a11, a12, a13, a14⟩ := BX1.out; obtain ⟨b10, b11, b12, b13, b14⟩ := BY1.out)
          | fail)
        go_ret
        exact ⟨_, rfl, by rw [sameD_false (fun h => E2.out h.2.2.1)]; rfl, (nx (nx (nx hb0 hb1) hb2) hb3)⟩
    · have E1 := Lib.hid e1
      clear e1
      go_wp2_with (first
        | (go_at_call 140; refine (seqI_any _ _ _ _ _ _ x.nums y.nums w1 HX1.out.n HY1.out.n (Nat.le_trans HX1.out.cn.1 HX1.out.cn.2) (Nat.le_trans HY1.out.cn.1 HY1.out.cn.2)).mono ?_; rw [decide_eq_false E1.out]; rintro e w2 ⟨rfl, m2, hw2⟩; have hb2 : Below w1.heap.size w1 w2 := (by rw [hw2]; exact dN bl m2); clear hw2; have HX2 := Lib.hid (HX1.out.below hb2); have HY2 := Lib.hid (HY1.out.below hb2); have BX2 := Lib.hid (BX1.out.below hb2); have BY2 := Lib.hid (BY1.out.below hb2); obtain ⟨a20, a21, a22, a23, a24⟩ := BX2.out; obtain ⟨b20, b21, b22, b23, b24⟩ := BY2.out)
        | (go_at_call 139; refine (seqB_any _ _ _ _ _ _ x.bytes y.bytes w0 HX0.out.b HY0.out.b (Nat.le_trans HX0.out.cb.1 HX0.out.cb.2) (Nat.le_trans HY0.out.cb.1 HY0.out.cb.2)).mono ?_; rw [decide_eq_true E0.out]; rintro e w1 ⟨rfl, m1, hw1⟩; have hb1 : Below w0.heap.size w0 w1 := (by rw [hw1]; exact dN bl m1); clear hw1; have HX1 := Lib.hid (HX0.out.below hb1); have HY1 := Lib.hid (HY0.out.below hb1); have BX1 := Lib.hid (BX0.out.below hb1); have BY1 := Lib.hid (BY0.out.below hb1); obtain ⟨a10, a11, a12, a13, a14⟩ := BX1.out; obtain ⟨b10, b11, b12, b13, b14⟩ := BY1.out)
        | fail)
      go_ret
      exact ⟨_, rfl, by rw [sameD_false (fun h => E1.out h.2.1)]; rfl, (nx (nx hb0 hb1) hb2)⟩
  · have E0 := Lib.hid e0
    clear e0
    go_wp2_with (first
      | (go_at_call 139; refine (seqB_any _ _ _ _ _ _ x.bytes y.bytes w0 HX0.out.b HY0.out.b (Nat.le_trans HX0.out.cb.1 HX0.out.cb.2) (Nat.le_trans HY0.out.cb.1 HY0.out.cb.2)).mono ?_; rw [decide_eq_false E0.out]; rintro e w1 ⟨rfl, m1, hw1⟩; have hb1 : Below w0.heap.size w0 w1 := (by rw [hw1]; exact dN bl m1); clear hw1; have HX1 := Lib.hid (HX0.out.below hb1); have HY1 := Lib.hid (HY0.out.below hb1); have BX1 := Lib.hid (BX0.out.below hb1); have BY1 := Lib.hid (BY0.out.below hb1); obtain ⟨a10, a11, a12, a13, a14⟩ := BX1.out; obtain ⟨b10, b11, b12, b13, b14⟩ := BY1.out)
      | fail)
    go_ret
    exact ⟨_, rfl, by rw [sameD_false (fun h => E0.out h.1)]; rfl, (nx hb0 hb1)⟩

set_option maxHeartbeats 4000000 in
theorem rsame_any (s r : DS) (x y : Da) (w : World) (hx : DRd w s x) (hy : DRd w r y) : Calls Try.prog 94 #[dsV s x, dsV r y] w (RetP (fun v _ => v = .bool (sameD x y)) w) := by
  unfold dsV
  obtain ⟨w0, hw0⟩ : ∃ w0, w0 = (w.alloc (.cells #[.slice s.A0 x.bytes.length s.c0, .slice s.A1 x.host.length s.c1, .slice s.A2 x.mail.length s.c2, .slice s.A3 x.nums.length s.c3, .slice s.A4 x.texts.length s.c4] 46)).alloc (.cells #[.slice r.A0 y.bytes.length r.c0, .slice r.A1 y.host.length r.c1, .slice r.A2 y.mail.length r.c2, .slice r.A3 y.nums.length r.c3, .slice r.A4 y.texts.length r.c4] 46) := ⟨_, rfl⟩
  have hbA : Below w.heap.size w (w.alloc (.cells #[.slice s.A0 x.bytes.length s.c0, .slice s.A1 x.host.length s.c1, .slice s.A2 x.mail.length s.c2, .slice s.A3 x.nums.length s.c3, .slice s.A4 x.texts.length s.c4] 46)) := bl.alloc (Nat.le_refl _) _
  have hb0 : Below w.heap.size w w0 := by rw [hw0]; exact nx hbA (bl.alloc (Nat.le_refl _) _)
  have HX0 := Lib.hid (hx.below hb0)
  have HY0 := Lib.hid (hy.below hb0)
  have BX0 : Hid (DBox w0 w.heap.size s x) := by show DBox _ _ _ _; rw [hw0]; exact (DBox.made w s x _).below (bl.alloc (Nat.le_refl _) _)
  have BY0 : Hid (DBox w0 (w.heap.size + 1) r y) := by
    show DBox _ _ _ _
    rw [hw0]
    have := DBox.made (w.alloc (.cells #[.slice s.A0 x.bytes.length s.c0, .slice s.A1 x.host.length s.c1, .slice s.A2 x.mail.length s.c2, .slice s.A3 x.nums.length s.c3, .slice s.A4 x.texts.length s.c4] 46)) r y 46
    rw [show (w.alloc (.cells #[.slice s.A0 x.bytes.length s.c0, .slice s.A1 x.host.length s.c1, .slice s.A2 x.mail.length s.c2, .slice s.A3 x.nums.length s.c3, .slice s.A4 x.texts.length s.c4] 46)).heap.size = w.heap.size + 1 by simp] at this
    exact this
  clear hx hy hbA
  obtain ⟨a00, a01, a02, a03, a04⟩ := BX0.out
  obtain ⟨b00, b01, b02, b03, b04⟩ := BY0.out
  go_enter Try.func94, Try.ntmps94
  go_upto_region 1 with (fail)
  rw [← hw0]
  clear hw0
  by_cases e0 : x.bytes = y.bytes
  · have E0 := Lib.hid e0
    clear e0
    by_cases e1 : x.nums = y.nums
    · have E1 := Lib.hid e1
      clear e1
      by_cases e2 : x.texts = y.texts
      · have E2 := Lib.hid e2
        clear e2
        by_cases e3 : lowN x.host = lowN y.host
        · have E3 := Lib.hid e3
          clear e3
          by_cases e4 : lowN x.mail = lowN y.mail
          · have E4 := Lib.hid e4
            clear e4
            go_wp2_with (first
              | (go_at_call 92; refine (requal_any _ _ _ _ _ _ x.mail y.mail w4 HX4.out.m HY4.out.m (Nat.le_trans HX4.out.cm.1 HX4.out.cm.2) (Nat.le_trans HY4.out.cm.1 HY4.out.cm.2)).mono ?_; rw [decide_eq_true E4.out]; rintro e w5 ⟨v5, rfl, rfl, hb5⟩; have HX5 := Lib.hid (HX4.out.below hb5); have HY5 := Lib.hid (HY4.out.below hb5); have BX5 := Lib.hid (BX4.out.below hb5); have BY5 := Lib.hid (BY4.out.below hb5); obtain ⟨a50, a51, a52, a53, a54⟩ := BX5.out; obtain ⟨b50, b51, b52, b53, b54⟩ := BY5.out)
              | (go_at_call 92; refine (requal_any _ _ _ _ _ _ x.host y.host w3 HX3.out.h HY3.out.h (Nat.le_trans HX3.out.ch.1 HX3.out.ch.2) (Nat.le_trans HY3.out.ch.1 HY3.out.ch.2)).mono ?_; rw [decide_eq_true E3.out]; rintro e w4 ⟨v4, rfl, rfl, hb4⟩; have HX4 := Lib.hid (HX3.out.below hb4); have HY4 := Lib.hid (HY3.out.below hb4); have BX4 := Lib.hid (BX3.out.below hb4); have BY4 := Lib.hid (BY3.out.below hb4); obtain ⟨a40, a41, a42, a43, a44⟩ := BX4.out; obtain ⟨b40, b41, b42, b43, b44⟩ := BY4.out)
              | (go_at_call 136; refine (rtexts_any _ _ _ _ _ _ x.texts y.texts w2 HX2.out.t HY2.out.t (Nat.le_trans HX2.out.ct.1 HX2.out.ct.2) (Nat.le_trans HY2.out.ct.1 HY2.out.ct.2)).mono ?_; rw [decide_eq_true E2.out]; rintro e w3 ⟨rfl, m3, hw3⟩; have hb3 : Below w2.heap.size w2 w3 := (by rw [hw3]; exact dN bl m3); clear hw3; have HX3 := Lib.hid (HX2.out.below hb3); have HY3 := Lib.hid (HY2.out.below hb3); have BX3 := Lib.hid (BX2.out.below hb3); have BY3 := Lib.hid (BY2.out.below hb3); obtain ⟨a30, a31, a32, a33, a34⟩ := BX3.out; obtain ⟨b30, b31, b32, b33, b34⟩ := BY3.out)
              | (go_at_call 135; refine (rints_any _ _ _ _ _ _ x.nums y.nums w1 HX1.out.n HY1.out.n (Nat.le_trans HX1.out.cn.1 HX1.out.cn.2) (Nat.le_trans HY1.out.cn.1 HY1.out.cn.2)).mono ?_; rw [decide_eq_true E1.out]; rintro e w2 ⟨rfl, m2, hw2⟩; have hb2 : Below w1.heap.size w1 w2 := (by rw [hw2]; exact dN bl m2); clear hw2; have HX2 := Lib.hid (HX1.out.below hb2); have HY2 := Lib.hid (HY1.out.below hb2); have BX2 := Lib.hid (BX1.out.below hb2); have BY2 := Lib.hid (BY1.out.below hb2); obtain ⟨a20, a21, a22, a23, a24⟩ := BX2.out; obtain ⟨b20, b21, b22, b23, b24⟩ := BY2.out)
              | (go_at_call 25; refine (same_any _ _ _ _ _ _ x.bytes y.bytes w0 HX0.out.b HY0.out.b (Nat.le_trans HX0.out.cb.1 HX0.out.cb.2) (Nat.le_trans HY0.out.cb.1 HY0.out.cb.2)).mono ?_; rw [decide_eq_true E0.out]; rintro e w1 ⟨rfl, m1, hw1⟩; have hb1 : Below w0.heap.size w0 w1 := (by rw [hw1]; exact dN bl m1); clear hw1; have HX1 := Lib.hid (HX0.out.below hb1); have HY1 := Lib.hid (HY0.out.below hb1); have BX1 := Lib.hid (BX0.out.below hb1); have BY1 := Lib.hid (BY0.out.below hb1); obtain ⟨a10, a11, a12, a13, a14⟩ := BX1.out; obtain ⟨b10, b11, b12, b13, b14⟩ := BY1.out)
              | fail)
            go_ret
            exact ⟨_, rfl, by rw [sameD_true E0.out E1.out E2.out E3.out E4.out]; rfl, (nx (nx (nx (nx (nx hb0 hb1) hb2) hb3) hb4) hb5)⟩
          · have E4 := Lib.hid e4
            clear e4
            go_wp2_with (first
              | (go_at_call 92; refine (requal_any _ _ _ _ _ _ x.mail y.mail w4 HX4.out.m HY4.out.m (Nat.le_trans HX4.out.cm.1 HX4.out.cm.2) (Nat.le_trans HY4.out.cm.1 HY4.out.cm.2)).mono ?_; rw [decide_eq_false E4.out]; rintro e w5 ⟨v5, rfl, rfl, hb5⟩; have HX5 := Lib.hid (HX4.out.below hb5); have HY5 := Lib.hid (HY4.out.below hb5); have BX5 := Lib.hid (BX4.out.below hb5); have BY5 := Lib.hid (BY4.out.below hb5); obtain ⟨a50, a51, a52, a53, a54⟩ := BX5.out; obtain ⟨b50, b51, b52, b53, b54⟩ := BY5.out)
              | (go_at_call 92; refine (requal_any _ _ _ _ _ _ x.host y.host w3 HX3.out.h HY3.out.h (Nat.le_trans HX3.out.ch.1 HX3.out.ch.2) (Nat.le_trans HY3.out.ch.1 HY3.out.ch.2)).mono ?_; rw [decide_eq_true E3.out]; rintro e w4 ⟨v4, rfl, rfl, hb4⟩; have HX4 := Lib.hid (HX3.out.below hb4); have HY4 := Lib.hid (HY3.out.below hb4); have BX4 := Lib.hid (BX3.out.below hb4); have BY4 := Lib.hid (BY3.out.below hb4); obtain ⟨a40, a41, a42, a43, a44⟩ := BX4.out; obtain ⟨b40, b41, b42, b43, b44⟩ := BY4.out)
              | (go_at_call 136; refine (rtexts_any _ _ _ _ _ _ x.texts y.texts w2 HX2.out.t HY2.out.t (Nat.le_trans HX2.out.ct.1 HX2.out.ct.2) (Nat.le_trans HY2.out.ct.1 HY2.out.ct.2)).mono ?_; rw [decide_eq_true E2.out]; rintro e w3 ⟨rfl, m3, hw3⟩; have hb3 : Below w2.heap.size w2 w3 := (by rw [hw3]; exact dN bl m3); clear hw3; have HX3 := Lib.hid (HX2.out.below hb3); have HY3 := Lib.hid (HY2.out.below hb3); have BX3 := Lib.hid (BX2.out.below hb3); have BY3 := Lib.hid (BY2.out.below hb3); obtain ⟨a30, a31, a32, a33, a34⟩ := BX3.out; obtain ⟨b30, b31, b32, b33, b34⟩ := BY3.out)
              | (go_at_call 135; refine (rints_any _ _ _ _ _ _ x.nums y.nums w1 HX1.out.n HY1.out.n (Nat.le_trans HX1.out.cn.1 HX1.out.cn.2) (Nat.le_trans HY1.out.cn.1 HY1.out.cn.2)).mono ?_; rw [decide_eq_true E1.out]; rintro e w2 ⟨rfl, m2, hw2⟩; have hb2 : Below w1.heap.size w1 w2 := (by rw [hw2]; exact dN bl m2); clear hw2; have HX2 := Lib.hid (HX1.out.below hb2); have HY2 := Lib.hid (HY1.out.below hb2); have BX2 := Lib.hid (BX1.out.below hb2); have BY2 := Lib.hid (BY1.out.below hb2); obtain ⟨a20, a21, a22, a23, a24⟩ := BX2.out; obtain ⟨b20, b21, b22, b23, b24⟩ := BY2.out)
              | (go_at_call 25; refine (same_any _ _ _ _ _ _ x.bytes y.bytes w0 HX0.out.b HY0.out.b (Nat.le_trans HX0.out.cb.1 HX0.out.cb.2) (Nat.le_trans HY0.out.cb.1 HY0.out.cb.2)).mono ?_; rw [decide_eq_true E0.out]; rintro e w1 ⟨rfl, m1, hw1⟩; have hb1 : Below w0.heap.size w0 w1 := (by rw [hw1]; exact dN bl m1); clear hw1; have HX1 := Lib.hid (HX0.out.below hb1); have HY1 := Lib.hid (HY0.out.below hb1); have BX1 := Lib.hid (BX0.out.below hb1); have BY1 := Lib.hid (BY0.out.below hb1); obtain ⟨a10, a11, a12, a13, a14⟩ := BX1.out; obtain ⟨b10, b11, b12, b13, b14⟩ := BY1.out)
              | fail)
            go_ret
            exact ⟨_, rfl, by rw [sameD_false (fun h => E4.out h.2.2.2.2)]; rfl, (nx (nx (nx (nx (nx hb0 hb1) hb2) hb3) hb4) hb5)⟩
        · have E3 := Lib.hid e3
          clear e3
          go_wp2_with (first
            | (go_at_call 92; refine (requal_any _ _ _ _ _ _ x.host y.host w3 HX3.out.h HY3.out.h (Nat.le_trans HX3.out.ch.1 HX3.out.ch.2) (Nat.le_trans HY3.out.ch.1 HY3.out.ch.2)).mono ?_; rw [decide_eq_false E3.out]; rintro e w4 ⟨v4, rfl, rfl, hb4⟩; have HX4 := Lib.hid (HX3.out.below hb4); have HY4 := Lib.hid (HY3.out.below hb4); have BX4 := Lib.hid (BX3.out.below hb4); have BY4 := Lib.hid (BY3.out.below hb4); obtain ⟨a40, a41, a42, a43, a44⟩ := BX4.out; obtain ⟨b40, b41, b42, b43, b44⟩ := BY4.out)
            | (go_at_call 136; refine (rtexts_any _ _ _ _ _ _ x.texts y.texts w2 HX2.out.t HY2.out.t (Nat.le_trans HX2.out.ct.1 HX2.out.ct.2) (Nat.le_trans HY2.out.ct.1 HY2.out.ct.2)).mono ?_; rw [decide_eq_true E2.out]; rintro e w3 ⟨rfl, m3, hw3⟩; have hb3 : Below w2.heap.size w2 w3 := (by rw [hw3]; exact dN bl m3); clear hw3; have HX3 := Lib.hid (HX2.out.below hb3); have HY3 := Lib.hid (HY2.out.below hb3); have BX3 := Lib.hid (BX2.out.below hb3); have BY3 := Lib.hid (BY2.out.below hb3); obtain ⟨a30, a31, a32, a33, a34⟩ := BX3.out; obtain ⟨b30, b31, b32, b33, b34⟩ := BY3.out)
            | (go_at_call 135; refine (rints_any _ _ _ _ _ _ x.nums y.nums w1 HX1.out.n HY1.out.n (Nat.le_trans HX1.out.cn.1 HX1.out.cn.2) (Nat.le_trans HY1.out.cn.1 HY1.out.cn.2)).mono ?_; rw [decide_eq_true E1.out]; rintro e w2 ⟨rfl, m2, hw2⟩; have hb2 : Below w1.heap.size w1 w2 := (by rw [hw2]; exact dN bl m2); clear hw2; have HX2 := Lib.hid (HX1.out.below hb2); have HY2 := Lib.hid (HY1.out.below hb2); have BX2 := Lib.hid (BX1.out.below hb2); have BY2 := Lib.hid (BY1.out.below hb2); obtain ⟨a20, a21, a22, a23, a24⟩ := BX2.out; obtain ⟨b20, b21, b22, b23, b24⟩ := BY2.out)
            | (go_at_call 25; refine (same_any _ _ _ _ _ _ x.bytes y.bytes w0 HX0.out.b HY0.out.b (Nat.le_trans HX0.out.cb.1 HX0.out.cb.2) (Nat.le_trans HY0.out.cb.1 HY0.out.cb.2)).mono ?_; rw [decide_eq_true E0.out]; rintro e w1 ⟨rfl, m1, hw1⟩; have hb1 : Below w0.heap.size w0 w1 := (by rw [hw1]; exact dN bl m1); clear hw1; have HX1 := Lib.hid (HX0.out.below hb1); have HY1 := Lib.hid (HY0.out.below hb1); have BX1 := Lib.hid (BX0.out.below hb1); have BY1 := Lib.hid (BY0.out.below hb1); obtain ⟨a10, a11, a12, a13, a14⟩ := BX1.out; obtain ⟨b10, b11, b12, b13, b14⟩ := BY1.out)
            | fail)
          go_ret
          exact ⟨_, rfl, by rw [sameD_false (fun h => E3.out h.2.2.2.1)]; rfl, (nx (nx (nx (nx hb0 hb1) hb2) hb3) hb4)⟩
      · have E2 := Lib.hid e2
        clear e2
        go_wp2_with (first
          | (go_at_call 136; refine (rtexts_any _ _ _ _ _ _ x.texts y.texts w2 HX2.out.t HY2.out.t (Nat.le_trans HX2.out.ct.1 HX2.out.ct.2) (Nat.le_trans HY2.out.ct.1 HY2.out.ct.2)).mono ?_; rw [decide_eq_false E2.out]; rintro e w3 ⟨rfl, m3, hw3⟩; have hb3 : Below w2.heap.size w2 w3 := (by rw [hw3]; exact dN bl m3); clear hw3; have HX3 := Lib.hid (HX2.out.below hb3); have HY3 := Lib.hid (HY2.out.below hb3); have BX3 := Lib.hid (BX2.out.below hb3); have BY3 := Lib.hid (BY2.out.below hb3); obtain ⟨a30, a31, a32, a33, a34⟩ := BX3.out; obtain ⟨b30, b31, b32, b33, b34⟩ := BY3.out)
          | (go_at_call 135; refine (rints_any _ _ _ _ _ _ x.nums y.nums w1 HX1.out.n HY1.out.n (Nat.le_trans HX1.out.cn.1 HX1.out.cn.2) (Nat.le_trans HY1.out.cn.1 HY1.out.cn.2)).mono ?_; rw [decide_eq_true E1.out]; rintro e w2 ⟨rfl, m2, hw2⟩; have hb2 : Below w1.heap.size w1 w2 := (by rw [hw2]; exact dN bl m2); clear hw2; have HX2 := Lib.hid (HX1.out.below hb2); have HY2 := Lib.hid (HY1.out.below hb2); have BX2 := Lib.hid (BX1.out.below hb2); have BY2 := Lib.hid (BY1.out.below hb2); obtain ⟨a20, a21, a22, a23, a24⟩ := BX2.out; obtain ⟨b20, b21, b22, b23, b24⟩ := BY2.out)
          | (go_at_call 25; refine (same_any _ _ _ _ _ _ x.bytes y.bytes w0 HX0.out.b HY0.out.b (Nat.le_trans HX0.out.cb.1 HX0.out.cb.2) (Nat.le_trans HY0.out.cb.1 HY0.out.cb.2)).mono ?_; rw [decide_eq_true E0.out]; rintro e w1 ⟨rfl, m1, hw1⟩; have hb1 : Below w0.heap.size w0 w1 := (by rw [hw1]; exact dN bl m1); clear hw1; have HX1 := Lib.hid (HX0.out.below hb1); have HY1 := Lib.hid (HY0.out.below hb1); have BX1 := Lib.hid (BX0.out.below hb1); have BY1 := Lib.hid (BY0.out.below hb1); obtain ⟨a10, a11, a12, a13, a14⟩ := BX1.out; obtain ⟨b10, b11, b12, b13, b14⟩ := BY1.out)
          | fail)
        go_ret
        exact ⟨_, rfl, by rw [sameD_false (fun h => E2.out h.2.2.1)]; rfl, (nx (nx (nx hb0 hb1) hb2) hb3)⟩
    · have E1 := Lib.hid e1
      clear e1
      go_wp2_with (first
        | (go_at_call 135; refine (rints_any _ _ _ _ _ _ x.nums y.nums w1 HX1.out.n HY1.out.n (Nat.le_trans HX1.out.cn.1 HX1.out.cn.2) (Nat.le_trans HY1.out.cn.1 HY1.out.cn.2)).mono ?_; rw [decide_eq_false E1.out]; rintro e w2 ⟨rfl, m2, hw2⟩; have hb2 : Below w1.heap.size w1 w2 := (by rw [hw2]; exact dN bl m2); clear hw2; have HX2 := Lib.hid (HX1.out.below hb2); have HY2 := Lib.hid (HY1.out.below hb2); have BX2 := Lib.hid (BX1.out.below hb2); have BY2 := Lib.hid (BY1.out.below hb2); obtain ⟨a20, a21, a22, a23, a24⟩ := BX2.out; obtain ⟨b20, b21, b22, b23, b24⟩ := BY2.out)
        | (go_at_call 25; refine (same_any _ _ _ _ _ _ x.bytes y.bytes w0 HX0.out.b HY0.out.b (Nat.le_trans HX0.out.cb.1 HX0.out.cb.2) (Nat.le_trans HY0.out.cb.1 HY0.out.cb.2)).mono ?_; rw [decide_eq_true E0.out]; rintro e w1 ⟨rfl, m1, hw1⟩; have hb1 : Below w0.heap.size w0 w1 := (by rw [hw1]; exact dN bl m1); clear hw1; have HX1 := Lib.hid (HX0.out.below hb1); have HY1 := Lib.hid (HY0.out.below hb1); have BX1 := Lib.hid (BX0.out.below hb1); have BY1 := Lib.hid (BY0.out.below hb1); obtain ⟨a10, a11, a12, a13, a14⟩ := BX1.out; obtain ⟨b10, b11, b12, b13, b14⟩ := BY1.out)
        | fail)
      go_ret
      exact ⟨_, rfl, by rw [sameD_false (fun h => E1.out h.2.1)]; rfl, (nx (nx hb0 hb1) hb2)⟩
  · have E0 := Lib.hid e0
    clear e0
    go_wp2_with (first
      | (go_at_call 25; refine (same_any _ _ _ _ _ _ x.bytes y.bytes w0 HX0.out.b HY0.out.b (Nat.le_trans HX0.out.cb.1 HX0.out.cb.2) (Nat.le_trans HY0.out.cb.1 HY0.out.cb.2)).mono ?_; rw [decide_eq_false E0.out]; rintro e w1 ⟨rfl, m1, hw1⟩; have hb1 : Below w0.heap.size w0 w1 := (by rw [hw1]; exact dN bl m1); clear hw1; have HX1 := Lib.hid (HX0.out.below hb1); have HY1 := Lib.hid (HY0.out.below hb1); have BX1 := Lib.hid (BX0.out.below hb1); have BY1 := Lib.hid (BY0.out.below hb1); obtain ⟨a10, a11, a12, a13, a14⟩ := BX1.out; obtain ⟨b10, b11, b12, b13, b14⟩ := BY1.out)
      | fail)
    go_ret
    exact ⟨_, rfl, by rw [sameD_false (fun h => E0.out h.1)]; rfl, (nx hb0 hb1)⟩
end Go.Proofs.Ytbjaphldncagjaa

/- What a record says, that came in by value. -/
namespace Go.Proofs.Ytbjaphldncagjaa
open Go.ChangeShapes Go.WideShapes Go.ChangeAt Go.RowKit
set_option maxRecDepth 100000

theorem open_data {H : Type} {enc : TypeId × Value → H} {W : World} {base b0 : Nat} {sp : Nat → Bool} {hd : Bool} {r : Reach} {v : Value} {d : DataW H} {p : List MemPlace}
    (hv : Value.okWide Try.prog W r b0 46 v) (h : DataW.Trod enc Try.prog W base sp hd 46 v d p) : ∃ s x, v = dsV s x ∧ DRd W s x := by
  obtain ⟨cs, rfl, hsz⟩ := okWide_struct Try.underlying46 hv
  rw [show Try.prog.cellsOf 46 = 5 by kernel_rfl] at hsz
  obtain ⟨l⟩ := cs
  obtain ⟨c0, c1, c2, c3, c4, rfl⟩ := len5 (l := l) (by simpa using hsz)
  obtain ⟨fuel, hf⟩ := h
  have hf' : DataW.trod enc Try.prog W base sp hd fuel 46 [c0, c1, c2, c3, c4] = some (d, p) := by simpa [Value.cells] using hf
  obtain ⟨xs, n, hx, hc, hl, hfd, hw⟩ := trod_fields Try.underlying46 hf'
  obtain ⟨y0, e0, h0⟩ := hfd 0 _ rfl
  obtain ⟨y1, e1, h1⟩ := hfd 1 _ rfl
  obtain ⟨y2, e2, h2⟩ := hfd 2 _ rfl
  obtain ⟨y3, e3, h3⟩ := hfd 3 _ rfl
  obtain ⟨y4, e4, h4⟩ := hfd 4 _ rfl
  have g0 : DataW.trod enc Try.prog W base sp hd n 35 (([c0, c1, c2, c3, c4].drop 0).take (Try.prog.cellsOf 35)) = some y0 := h0
  have g1 : DataW.trod enc Try.prog W base sp hd n 40 (([c0, c1, c2, c3, c4].drop 1).take (Try.prog.cellsOf 40)) = some y1 := h1
  have g2 : DataW.trod enc Try.prog W base sp hd n 40 (([c0, c1, c2, c3, c4].drop 2).take (Try.prog.cellsOf 40)) = some y2 := h2
  have g3 : DataW.trod enc Try.prog W base sp hd n 44 (([c0, c1, c2, c3, c4].drop 3).take (Try.prog.cellsOf 44)) = some y3 := h3
  have g4 : DataW.trod enc Try.prog W base sp hd n 40 (([c0, c1, c2, c3, c4].drop 4).take (Try.prog.cellsOf 40)) = some y4 := h4
  rw [show Try.prog.cellsOf 35 = 1 by kernel_rfl] at g0
  rw [show Try.prog.cellsOf 40 = 1 by kernel_rfl] at g1 g2 g4
  rw [show Try.prog.cellsOf 44 = 1 by kernel_rfl] at g3
  obtain ⟨a0, ⟨A0, n0, k0, r0, q0, l0, m0⟩, _, _⟩ := opens_sl (t := 35) Try.underlying35 (by kernel_rfl) (opens_u8 Try.underlying5) H enc W base sp hd n _ _ g0
  obtain ⟨a1, ⟨A1, n1, k1, r1, q1, l1, m1⟩, _, _⟩ := opens_sl (t := 40) Try.underlying40 (by kernel_rfl) (opens_str Try.underlying9) H enc W base sp hd n _ _ g1
  obtain ⟨a2, ⟨A2, n2, k2, r2, q2, l2, m2⟩, _, _⟩ := opens_sl (t := 40) Try.underlying40 (by kernel_rfl) (opens_str Try.underlying9) H enc W base sp hd n _ _ g2
  obtain ⟨a3, ⟨A3, n3, k3, r3, q3, l3, m3⟩, _, _⟩ := opens_sl (t := 44) Try.underlying44 (by kernel_rfl) (opens_int Try.underlying3) H enc W base sp hd n _ _ g3
  obtain ⟨a4, ⟨A4, n4, k4, r4, q4, l4, m4⟩, _, _⟩ := opens_sl (t := 40) Try.underlying40 (by kernel_rfl) (opens_str Try.underlying9) H enc W base sp hd n _ _ g4
  simp at r0 r1 r2 r3 r4
  have e0 := q0.1
  have e1 := q1.1
  have e2 := q2.1
  have e3 := q3.1
  have e4 := q4.1
  subst r0 r1 r2 r3 r4 e0 e1 e2 e3 e4
  exact ⟨⟨A0, A1, A2, A3, A4, k0, k1, k2, k3, k4⟩, ⟨a0, a1, a2, a3, a4⟩, rfl, ⟨els_bytes q0, q1, q2, q3, q4, ⟨l0, m0⟩, ⟨l1, m1⟩, ⟨l2, m2⟩, ⟨l3, m3⟩, ⟨l4, m4⟩⟩⟩
end Go.Proofs.Ytbjaphldncagjaa

/- rdata: what a reader says of bytes, in plain Lean. -/
namespace Go.Proofs.Ytbjaphldncagjaa

/-- A type's shape. -/
structure Shp where
  bytes : Int
  host : Bool
  mail : Bool
  short : Bool
  nums : Int
  size : Int
  texts : Bool
  first : Bool
def shpA : Shp := ⟨4, false, false, false, 0, 0, false, false⟩
def shpT : Shp := ⟨0, false, false, false, 0, 0, true, false⟩
def shpQ : Shp := ⟨16, false, false, false, 0, 0, false, false⟩
def shpN : Shp := ⟨0, true, false, true, 0, 0, false, false⟩
def shpM : Shp := ⟨0, true, false, true, 1, 2, false, true⟩
def shpS : Shp := ⟨0, true, true, true, 5, 4, false, false⟩
def shpV3 : Shp := ⟨0, true, false, false, 3, 2, false, true⟩
def shpB : Shp := ⟨-1, false, false, false, 0, 0, false, false⟩
/-- The shape of a type. -/
def shapeP (k : Int) : Shp :=
  if k = 1 then shpA else if k = 28 then shpQ else if k = 2 ∨ k = 5 ∨ k = 12 then shpN else if k = 15 then shpM else if k = 6 then shpS else if k = 33 then shpV3 else if k = 16 then shpT else shpB
theorem shape_cases (k : Int) : shapeP k = shpA ∨ shapeP k = shpQ ∨ shapeP k = shpN ∨ shapeP k = shpM ∨ shapeP k = shpS ∨ shapeP k = shpV3 ∨ shapeP k = shpT ∨ shapeP k = shpB := by
  unfold shapeP
  split
  · exact .inl rfl
  split
  · exact .inr (.inl rfl)
  split
  · exact .inr (.inr (.inl rfl))
  split
  · exact .inr (.inr (.inr (.inl rfl)))
  split
  · exact .inr (.inr (.inr (.inr (.inl rfl))))
  split
  · exact .inr (.inr (.inr (.inr (.inr (.inl rfl)))))
  split
  · exact .inr (.inr (.inr (.inr (.inr (.inr (.inl rfl))))))
  · exact .inr (.inr (.inr (.inr (.inr (.inr (.inr rfl))))))

/-- A number: it, and the place behind it; or the error that is given up with. -/
def numR (b : List UInt8) (pos en size : Nat) : Except Int (Nat × Nat) := if en < pos + size then .error 3 else .ok (val ((b.drop pos).take size), pos + size)
def nameX (b : List UInt8) (pos en : Nat) : Except Int (List (List UInt8) × Nat) :=
  if (getP b pos pos 0 []).2.2 = 0 then (if en < (getP b pos pos 0 []).2.1.toNat then .error 3 else .ok ((getP b pos pos 0 []).1, (getP b pos pos 0 []).2.1.toNat)) else .error (getP b pos pos 0 []).2.2
def bytesR (b : List UInt8) (pos en n : Nat) : Except Int (List UInt8 × Nat) := if en < pos + n then .error 3 else .ok ((b.drop pos).take n, pos + n)
/-- So many numbers more, behind those that are there. -/
def numsR (b : List UInt8) (en size : Nat) : Nat → Nat → List Int → Except Int (List Int × Nat)
  | 0, pos, acc => .ok (acc, pos)
  | k + 1, pos, acc => match numR b pos en size with
    | .error e => .error e
    | .ok (n, q) => numsR b en size k q (acc ++ [(n : Int)])
/-- All texts that are left; at most so many more. -/
def textsR (b : List UInt8) (en : Nat) : Nat → Nat → List (List UInt8) → Except Int (List (List UInt8) × Nat)
  | 0, pos, acc => if pos < en then .error 4 else if acc.length = 0 then .error 2 else .ok (acc, pos)
  | k + 1, pos, acc => if pos < en then
      (match numR b pos en 1 with
      | .error e => .error e
      | .ok (n, q) => match bytesR b q en n with
        | .error e => .error e
        | .ok (t, r) => textsR b en k r (acc ++ [t]))
    else if acc.length = 0 then .error 2 else .ok (acc, pos)
def Da.zero : Da := ⟨[], [], [], [], []⟩

theorem getP_nn (b : List UInt8) (a g n : Nat) (ls : List (List UInt8)) : 0 ≤ (getP b a g n ls).2.1 := by
  fun_induction getP b a g n ls <;> first | assumption | (simp only; omega)
theorem numR_le {b : List UInt8} {pos en size n q : Nat} (h : numR b pos en size = .ok (n, q)) : pos + size = q ∧ q ≤ en := by
  unfold numR at h
  split at h
  · cases h
  · injection h with h
    injection h with h1 h2
    omega
theorem bytesR_le {b l : List UInt8} {pos en n q : Nat} (h : bytesR b pos en n = .ok (l, q)) : pos + n = q ∧ q ≤ en := by
  unfold bytesR at h
  split at h
  · cases h
  · injection h with h
    injection h with h1 h2
    omega
theorem nameX_le {b : List UInt8} {pos en q : Nat} {n : List (List UInt8)} (h : nameX b pos en = .ok (n, q)) : q ≤ en := by
  unfold nameX at h
  split at h
  · split at h
    · cases h
    · injection h with h
      injection h with h1 h2
      omega
  · cases h
theorem numsR_le {b : List UInt8} {en size : Nat} {l : List Int} {q : Nat} : ∀ {k pos : Nat} {acc : List Int}, pos ≤ en → numsR b en size k pos acc = .ok (l, q) → q ≤ en
  | 0, pos, acc, hp, h => by
    injection h with h
    injection h with h1 h2
    omega
  | k + 1, pos, acc, hp, h => by
    rw [numsR] at h
    cases hn : numR b pos en size with
    | error e => rw [hn] at h; cases h
    | ok r =>
      obtain ⟨n, p⟩ := r
      rw [hn] at h
      exact numsR_le (numR_le hn).2 h
theorem textsR_le {b : List UInt8} {en : Nat} {l : List (List UInt8)} {q : Nat} : ∀ {k pos : Nat} {acc : List (List UInt8)}, pos ≤ en → textsR b en k pos acc = .ok (l, q) → q = en
  | 0, pos, acc, hp, h => by
    rw [textsR] at h
    split at h
    · cases h
    · split at h
      · cases h
      · injection h with h
        injection h with h1 h2
        omega
  | k + 1, pos, acc, hp, h => by
    rw [textsR] at h
    split at h
    · cases hn : numR b pos en 1 with
      | error e => rw [hn] at h; cases h
      | ok r =>
        obtain ⟨n, p⟩ := r
        rw [hn] at h
        simp only at h
        cases hb : bytesR b p en n with
        | error e => rw [hb] at h; cases h
        | ok r2 =>
          obtain ⟨t, p2⟩ := r2
          rw [hb] at h
          exact textsR_le (bytesR_le hb).2 h
    · split at h
      · cases h
      · injection h with h
        injection h with h1 h2
        omega
theorem numR_get {b : List UInt8} {pos en size : Nat} (h1 : 1 ≤ size) (h7 : size ≤ 7) (hp : pos ≤ en) (he : en ≤ b.length) : getN (b.take en) (pos : Int) (size : Int) = match numR b pos en size with | .error e => (0, e) | .ok (n, _) => ((n : Int), 0) := by
  unfold getN numR
  rw [if_neg (by omega), List.length_take, Nat.min_eq_left he]
  by_cases h : en < pos + size
  · rw [if_pos (by omega), if_pos h]
  · rw [if_neg (by omega), if_neg h]
    simp only [Int.toNat_natCast]
    rw [List.drop_take, List.take_take, Nat.min_eq_left (by omega)]
theorem numR_err {b : List UInt8} {pos en size : Nat} {e : Int} (h : numR b pos en size = .error e) : e = 3 ∧ en < pos + size := by
  unfold numR at h
  split at h
  · injection h with h
    exact ⟨h.symm, by assumption⟩
  · cases h
theorem bytesR_err {b : List UInt8} {pos en size : Nat} {e : Int} (h : bytesR b pos en size = .error e) : e = 3 ∧ en < pos + size := by
  unfold bytesR at h
  split at h
  · injection h with h
    exact ⟨h.symm, by assumption⟩
  · cases h

/-- What a type says: the parts one behind the other. -/
def dataR (b : List UInt8) (pos en : Nat) (s : Shp) : Except Int (Da × Nat) :=
  if s.bytes = 4 then (match bytesR b pos en 4 with | .error e => .error e | .ok (x, q) => .ok ({ Da.zero with bytes := x }, q))
  else if s.bytes = 16 then (match bytesR b pos en 16 with | .error e => .error e | .ok (x, q) => .ok ({ Da.zero with bytes := x }, q))
  else if s.bytes < 0 then (match bytesR b pos en (en - pos) with | .error e => .error e | .ok (x, q) => .ok ({ Da.zero with bytes := x }, q))
  else if s.texts = true then (match textsR b en 64 pos [] with | .error e => .error e | .ok (x, q) => .ok ({ Da.zero with texts := x }, q))
  else if s.first = true then
    (match numsR b en s.size.toNat s.nums.toNat pos [] with
    | .error e => .error e
    | .ok (x, q) => match nameX b q en with
      | .error e => .error e
      | .ok (n, r) => .ok ({ Da.zero with nums := x, host := n }, r))
  else if s.mail = true then
    (match nameX b pos en with
    | .error e => .error e
    | .ok (n, q) => match nameX b q en with
      | .error e => .error e
      | .ok (m, r) => match numsR b en s.size.toNat s.nums.toNat r [] with
        | .error e => .error e
        | .ok (x, t) => .ok ({ Da.zero with nums := x, host := n, mail := m }, t))
  else (match nameX b pos en with | .error e => .error e | .ok (n, q) => .ok ({ Da.zero with host := n }, q))
/-- What stands at a place for a type: the data and the error. -/
def getD (b : List UInt8) (at_ size k : Int) : Da × Int :=
  if at_ < 0 ∨ size < 0 ∨ k < 1 ∨ 65535 < k then (Da.zero, 1)
  else if (b.length : Int) < at_ ∨ (b.length : Int) - at_ < size then (Da.zero, 3)
  else match dataR b at_.toNat (at_.toNat + size.toNat) (shapeP k) with
    | .error e => (Da.zero, e)
    | .ok (d, q) => if q < at_.toNat + size.toNat then (Da.zero, 7) else (d, 0)
end Go.Proofs.Ytbjaphldncagjaa

/- rdata: which data may be, in plain Lean. -/
namespace Go.Proofs.Ytbjaphldncagjaa

def hostP (yes : Bool) (n : List (List UInt8)) : Prop := if yes = true then SoundN n else n = []
def textsP (yes : Bool) (t : List (List UInt8)) : Prop := if yes = true then (1 ≤ t.length ∧ t.length ≤ 64 ∧ ∀ l ∈ t, l.length ≤ 255) else t = []
def FineS (s : Shp) (d : Da) : Prop :=
  (0 ≤ s.bytes → (d.bytes.length : Int) = s.bytes) ∧ d.bytes.length ≤ 65535 ∧ (d.nums.length : Int) = s.nums ∧ hostP s.host d.host ∧ hostP s.mail d.mail ∧ (∀ n ∈ d.nums, fitsB n s.size = true) ∧ textsP s.texts d.texts
/-- May a type say so? -/
def FineD (k : Int) (d : Da) : Prop := (1 ≤ k ∧ k ≤ 65535) ∧ FineS (shapeP k) d
noncomputable def fineB (k : Int) (d : Da) : Bool := @decide (FineD k d) (Classical.propDecidable _)
theorem fineB_true {k : Int} {d : Da} (h : FineD k d) : fineB k d = true := by unfold fineB; simpa using h
theorem fineB_false {k : Int} {d : Da} (h : ¬ FineD k d) : fineB k d = false := by unfold fineB; simpa using h
theorem fineB_iff {k : Int} {d : Da} : fineB k d = true ↔ FineD k d := by unfold fineB; simp
end Go.Proofs.Ytbjaphldncagjaa

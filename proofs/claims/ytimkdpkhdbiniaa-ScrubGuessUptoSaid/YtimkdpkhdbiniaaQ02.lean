/- Parts of a proof, joined: WtrMem, Tac, Num, Put, Wtr1, Strs, Wtr2, RName, Same, Eqs, Wtr3, Small, EqN, Da, Clone1, RegInv, Strs2, OwnD, RdPlain, RrPlain, Get. -/
import Derived.Maps.Own
import Derived.Maps.OwnSet
import Derived.Maps.Views
import Derived.StringKeys
import Derived.Deep.Cut
import Derived.Deep.CutBlock
import Derived.Deep.DeepCutAuto
import Derived.Deep.DeepMust
import Derived.Deep.DeepFit
import Derived.Deep.RegionHeld3
import Derived.Deep.LoopGhost
import Derived.Outline
import Derived.Test.YtimkdpkhdbiniaaChecked
import Derived.Laws.BitsLemmas
import Derived.Lib.ConvBytes
import Derived.Deep.AppendLies
import Derived.StillTail
import Derived.Test.YtimkdpkhdbiniaaQ01
/- wname: how a writer lies in memory. -/
namespace Go.Proofs.Ytimkdpkhdbiniaa
open Go.RowKit Go.Maps
set_option maxRecDepth 100000

theorem OwnB.chgv {w w' : World} {base : Nat} {v : Value} {F : Nat → Prop} {bs : List UInt8} (h : OwnB w base v bs) (hc : Chg F w w') (hv : ∀ k, v.ownBlock = some k → ¬ F k) : OwnB w' base v bs := by
  refine ⟨h.1, ?_⟩
  rcases h.2 with h0 | ⟨g, cap, cur, rfl, h1, h2, h3⟩
  · exact .inl h0
  · exact .inr ⟨g, cap, cur, rfl, h1, hc.heap h2 (hv g rfl), h3⟩

/-- Block mb is a map from strings to ints that says what rs says. -/
def MapIs (w : World) (mb : Nat) (rs : List (List UInt8 × Nat)) : Prop :=
  ∃ D : DataW Unit, w.ownsMap Try.prog 9 (plainElem Try.prog 3) mb rs.length D ∧ IsMap D ∧ ∀ k, Maps.has D (.string k) = (lookR rs k).isSome ∧ ∀ p, lookR rs k = some p → ∀ z, D.atKey (.string k) z = .lit (.int .i64 (p : Int))

theorem MapIs.keep {w w' : World} {mb : Nat} {rs : List (List UInt8 × Nat)} (h : MapIs w mb rs) (hk : w'.heap[mb]? = w.heap[mb]?) : MapIs w' mb rs := by
  obtain ⟨D, ⟨es, clock, h1, h2⟩, h3⟩ := h
  exact ⟨D, ⟨es, clock, hk.trans h1, h2⟩, h3⟩
theorem MapIs.made (w : World) : MapIs (w.alloc (.map #[] 0)) w.heap.size [] :=
  ⟨.map [], World.ownsMap_made _ _ _ _, isMap_empty, fun k => ⟨rfl, fun p h => by cases h⟩⟩
theorem MapIs.lt {w : World} {mb : Nat} {rs : List (List UInt8 × Nat)} (h : MapIs w mb rs) : mb < w.heap.size := by
  obtain ⟨D, h1, _⟩ := h
  exact h1.lt

theorem str_keyed : Keyed Try.prog 9 := string_keyed Try.underlying9
theorem int_zero (w : World) : (zeroValue 3).run Try.prog w = .ok (.int .i64 0) w := by kernel_rfl
theorem key_str {k : List UInt8} (hk : k.length ≤ maxLen) : keyOf Try.prog 9 (.string (bstr k)) = some (.string k) := by
  have := Go.WideMaps.keyOf_string_mk (P := Try.prog) Try.underlying9 (s := bstr k) (by rw [bstr_size]; exact hk)
  rw [this]
  congr 2
theorem isKey_str (k : List UInt8) : WideAt.IsKeyLit (.string k) := by trivial

/-- m[k] = p. -/
theorem MapIs.put {w : World} {mb : Nat} {rs : List (List UInt8 × Nat)} (h : MapIs w mb rs) {k : List UInt8} (hk : k.length ≤ maxLen) {p : Nat} (hp : p ≤ 1000000000000) (hn : rs.length < maxLen) :
    ∃ w', (Instr.mapUpdate 174 (.map (some mb)) (.string (bstr k)) (.int .i64 (p : Int))).run Try.prog w = .ok () w' ∧ MapIs w' mb ((k, p) :: rs) ∧ w.grownBy w' (some mb) := by
  obtain ⟨D, h1, h2, h3⟩ := h
  obtain ⟨w', hrun, ho, hg⟩ := h1.update str_keyed Try.underlying174 hn (key_str hk) (plainElem_int Try.underlying3 (a := (p : Int)) (WalkArith.wf_i64 ⟨by omega, by omega⟩))
  refine ⟨w', hrun, ⟨_, ho, h2.put _ _, fun k' => ?_⟩, hg⟩
  by_cases e : k' = k
  · subst e
    refine ⟨by rw [has_put_same h2 (isKey_str _)]; simp [lookR], fun q hq z => ?_⟩
    simp only [lookR, if_pos] at hq
    injection hq with hq
    subst hq
    exact atKey_put_same h2 (isKey_str _) _ _
  · have hne : (Lit.string k') ≠ .string k := fun h => e (by injection h)
    have hl : lookR ((k, p) :: rs) k' = lookR rs k' := by simp only [lookR]; rw [if_neg (fun h => e h.symm)]
    rw [hl, has_put_other hne]
    exact ⟨(h3 k').1, fun q hq z => by rw [atKey_put_other hne]; exact (h3 k').2 q hq z⟩

/-- p, there := m[k]. -/
theorem wpL_look {w : World} {mb : Nat} {rs : List (List UInt8 × Nat)} (h : MapIs w mb rs) {ops : Array Oper} {rest : List Oper} {o : Oper} {a : Act} {Q : Exit → Act → World → Prop} (hg : o.guard = none) (m x : Operand) (hop : o.op = Op.lookup 174 m x true)
    (hm : a.eval m = .map (some mb)) {k : List UInt8} (hx : a.eval x = .string (bstr k)) (hk : k.length ≤ maxLen)
    (hsome : ∀ p, lookR rs k = some p → wpList Try.prog ops Q rest (a.put o.dst (.tuple #[.int .i64 (p : Int), .bool true])) w)
    (hnone : lookR rs k = none → ∀ c : Int, wpList Try.prog ops Q rest (a.put o.dst (.tuple #[.int .i64 c, .bool false])) w) : wpList Try.prog ops Q (o :: rest) a w := by
  obtain ⟨D, h1, h2, h3⟩ := h
  refine wpList_lookup_own_ok_int w hg m x 174 hop 9 3 .i64 str_keyed Try.underlying174 Try.underlying3 (int_zero w) mb rs.length D hm h1 (.string (bstr k)) (.string k) hx (key_str hk) (fun c hc _ => ?_)
  rw [(h3 k).1]
  cases hl : lookR rs k with
  | none => exact hnone hl c
  | some p =>
    rw [(h3 k).2 p hl] at hc
    injection hc with hc
    injection hc with _ hc
    rw [← hc]
    exact hsome p hl

/-- The writer at block g reads as x; what it leads to lies in blocks of F. -/
def Wtr (w : World) (B : Nat) (F : Nat → Prop) (g : Nat) (x : Wr) : Prop :=
  x.Near ∧ ∃ bv mb, w.heap[g]? = some (.cells #[bv, .map (some mb)] 176 (0, 0)) ∧ OwnB w B bv x.b ∧ MapIs w mb x.rests ∧ (F g ∧ B ≤ g) ∧ (∀ k, bv.ownBlock = some k → F k ∧ k ≠ g ∧ k ≠ mb) ∧ (F mb ∧ mb ≠ g) ∧ ∀ k, F k → B ≤ k ∧ k < w.heap.size

section
variable {w w' : World} {B g : Nat} {F G : Nat → Prop} {x : Wr}
theorem Wtr.near (h : Wtr w B F g x) : x.Near := h.1
theorem Wtr.F_lt (h : Wtr w B F g x) : ∀ k, F k → B ≤ k ∧ k < w.heap.size := by obtain ⟨_, _, _, _, _, _, _, _, _, h⟩ := h; exact h
theorem Wtr.chg (h : Wtr w B F g x) (hc : Chg G w w') (hd : ∀ k, F k → ¬ G k) : Wtr w' B F g x := by
  obtain ⟨hn, bv, mb, hg, hb, hm, hgF, hbF, hmF, hF⟩ := h
  exact ⟨hn, bv, mb, hc.heap hg (hd g hgF.1), hb.chgv hc (fun k hk => hd k (hbF k hk).1), hm.keep (hc.block mb hm.lt (hd mb hmF.1)), hgF, hbF, hmF, fun k hk => ⟨(hF k hk).1, Nat.lt_of_lt_of_le (hF k hk).2 hc.size⟩⟩
theorem Wtr.below (h : Wtr w B F g x) (hb : Below w.heap.size w w') : Wtr w' B F g x := h.chg (G := fun _ => False) (Chg.of_below hb) (fun _ _ h => h)
theorem Wtr.base_le {B' : Nat} (h : Wtr w B F g x) (hB : B' ≤ B) : Wtr w B' F g x := by
  obtain ⟨hn, bv, mb, hg, hb, hm, hgF, hbF, hmF, hF⟩ := h
  exact ⟨hn, bv, mb, hg, hb.mono hB, hm, ⟨hgF.1, by omega⟩, hbF, hmF, fun k hk => ⟨Nat.le_trans hB (hF k hk).1, (hF k hk).2⟩⟩
theorem Wtr.bw {w0 : World} (hb : Below w0.heap.size w0 w) (h : Wtr w B F g x) (hB : w0.heap.size ≤ B) (hc : Chg F w w') : Below w0.heap.size w0 w' :=
  hb.trans (hc.below (fun x hx => Nat.le_trans hB (h.F_lt x hx).1) hb.size)
end

/-- A writer's call: what it returns, and what the writer is then. -/
def RetX (w : World) (B : Nat) (F : Nat → Prop) (g : Nat) (y : Wr) (v : Value) (e : Ending) (w' : World) : Prop :=
  e = .returned v ∧ ∃ F', Wtr w' B F' g y ∧ Chg F w w' ∧ ∀ z, F' z → F z ∨ w.heap.size ≤ z
end Go.Proofs.Ytimkdpkhdbiniaa

/- The tactics that the walks use, in one place. -/
namespace Go.Proofs.Ytimkdpkhdbiniaa
open Go.RowKit
section
variable {P : Program} {f : FuncId} {args : Array Value} {w : World} {n a : Nat} {v : Value}
end
end Go.Proofs.Ytimkdpkhdbiniaa

/- num.Fits, num.Put, num.Get and the reference's, each once: what it computes. -/
namespace Go.Proofs.Ytimkdpkhdbiniaa
open Go.RowKit

theorem fits_eq {n size : Int} (h1 : 1 ≤ size) (h2 : size ≤ 7) (h3 : 0 ≤ n) : (n / 2 ^ (8 * size).toNat == 0) = fitsB n size := by
  have e : (8 * size).toNat = 8 * size.toNat := by omega
  have e2 : (2 : Int) ^ (8 * size.toNat) = 256 ^ size.toNat := by rw [Int.pow_mul]; rfl
  rw [e, e2]
  have hp : (0 : Int) < 256 ^ size.toNat := Int.pow_pos (by decide)
  unfold fitsB
  rw [Bool.eq_iff_iff, beq_iff_eq, decide_eq_true_iff]
  constructor
  · intro h
    refine ⟨h1, h2, h3, ?_⟩
    have := Int.emod_add_mul_ediv n (256 ^ size.toNat)
    have h4 := Int.emod_lt_of_pos n hp
    rw [h] at this
    omega
  · rintro ⟨_, _, _, h⟩
    exact Int.ediv_eq_zero_of_lt h3 h

set_option maxHeartbeats 400000 in
theorem fits_any (n size : Int) (w : World) :
    Calls Try.prog 88 #[.int .i64 n, .int .i64 size] w (Ret (.bool (fitsB n size)) w) := by
  by_cases h1 : 1 ≤ size
  · by_cases h2 : size ≤ 7
    · by_cases h3 : 0 ≤ n
      · have he := Lib.hid (fits_eq h1 h2 h3)
        go_enter Try.func88, Try.ntmps88
        go_wp2
        go_ret
        exact ⟨ret_bool he.out, rfl⟩
      · have he : Hid (false = fitsB n size) := by unfold fitsB; exact (decide_eq_false fun h => h3 h.2.2.1).symm
        go_enter Try.func88, Try.ntmps88
        go_wp2
        go_ret
        exact ⟨ret_bool he.out, rfl⟩
    · have he : Hid (false = fitsB n size) := by unfold fitsB; exact (decide_eq_false fun h => h2 h.2.1).symm
      go_enter Try.func88, Try.ntmps88
      go_wp2
      go_ret
      exact ⟨ret_bool he.out, rfl⟩
  · have he : Hid (false = fitsB n size) := by unfold fitsB; exact (decide_eq_false fun h => h1 h.1).symm
    go_enter Try.func88, Try.ntmps88
    go_wp2
    go_ret
    exact ⟨ret_bool he.out, rfl⟩

theorem rfits_eq {n size : Int} (h1 : 1 ≤ size) (h2 : size ≤ 7) (h3 : 0 ≤ n) : (n / 256 ^ size.toNat == 0) = fitsB n size := by
  rw [← fits_eq h1 h2 h3]
  have e : (8 * size).toNat = 8 * size.toNat := by omega
  have e2 : (2 : Int) ^ (8 * size.toNat) = 256 ^ size.toNat := by rw [Int.pow_mul]; rfl
  rw [e, e2]

set_option maxHeartbeats 400000 in
theorem rfits_any (n size : Int) (w : World) (hm : n ≤ 9223372036854775807) :
    Calls Try.prog 90 #[.int .i64 n, .int .i64 size] w (Ret (.bool (fitsB n size)) w) := by
  by_cases h1 : 1 ≤ size
  · by_cases h2 : size ≤ 7
    · by_cases h3 : 0 ≤ n
      · have he := Lib.hid (rfits_eq h1 h2 h3)
        go_enter Try.func90, Try.ntmps90
        go_wp2
        go_loop [0, 5] (fun m i => ∃ k : Nat, i = .int .i64 k ∧ (k : Int) ≤ size ∧ m = .int .i64 (n / 256 ^ k)) (fun _ i => (size - intOf i).toNat)
        case atStart => exact ⟨0, rfl, by omega, by simp⟩
        case round =>
          obtain ⟨k, rfl, hk, rfl⟩ := hrel
          have hp : (0 : Int) < 256 ^ k := Int.pow_pos (by decide)
          have h4 : 0 ≤ n / 256 ^ k := Int.ediv_nonneg h3 (by omega)
          have HS : Hid (n / 256 ^ k / 256 = n / 256 ^ (k + 1)) := by
            show _ = _
            rw [Int.ediv_ediv_of_nonneg (by omega), Int.pow_succ]
          have h5 : n / 256 ^ k ≤ 9223372036854775807 := Int.le_trans (Int.ediv_le_self _ h3) hm
          clear hp
          obtain ⟨q, hq⟩ : ∃ q, q = n / 256 ^ k := ⟨_, rfl⟩
          rw [← hq] at h4 h5 HS ⊢
          have HQ := Lib.hid hq
          clear hq
          by_cases hlt : (k : Int) < size
          · go_wp2
            go_round
            case rel => exact ⟨k + 1, by go_num, by omega, by rw [← HS.out]⟩
            case measure => simp [intOf]; omega
          · go_wp2
            go_ret
            refine ⟨ret_bool ?_, rfl⟩
            rw [← he.out, HQ.out]
            have : size.toNat = k := by omega
            rw [this]
      · have he : Hid (false = fitsB n size) := by unfold fitsB; exact (decide_eq_false fun h => h3 h.2.2.1).symm
        go_enter Try.func90, Try.ntmps90
        go_wp2
        go_ret
        exact ⟨ret_bool he.out, rfl⟩
    · have he : Hid (false = fitsB n size) := by unfold fitsB; exact (decide_eq_false fun h => h2 h.2.1).symm
      go_enter Try.func90, Try.ntmps90
      go_wp2
      go_ret
      exact ⟨ret_bool he.out, rfl⟩
  · have he : Hid (false = fitsB n size) := by unfold fitsB; exact (decide_eq_false fun h => h1 h.1).symm
    go_enter Try.func90, Try.ntmps90
    go_wp2
    go_ret
    exact ⟨ret_bool he.out, rfl⟩
end Go.Proofs.Ytimkdpkhdbiniaa

/- num.Put: a number behind bytes. -/
namespace Go.Proofs.Ytimkdpkhdbiniaa
open Go.RowKit

set_option maxHeartbeats 400000 in
theorem put_any (A : Option Addr) (m c : Nat) (bs : List UInt8) (n size : Int) (w : World) (hb : RdB w A m bs) (hm : m ≤ 140737488355000) :
    Calls Try.prog 149 #[.slice A m c, .int .i64 n, .int .i64 size] w (RetP (fun v w' => OwnB w' w.heap.size v (putB bs n size)) w) := by
  have hlb := Lib.hid hb.len
  obtain ⟨X, hX⟩ : ∃ X : Array Value, X = madeCells #[.int .u8 0] (m + 7) := ⟨_, rfl⟩
  have hmk := mkB m (m + 7) (by omega) (by omega)
  rw [show ((m + 7 : Nat) : Int) = (m : Int) + 7 from rfl, ← hX] at hmk
  have hXs : Hid (X.size = m + 7) := by rw [hX]; exact mkB_size _
  clear hX
  by_cases hf : fitsB n size = true
  · obtain ⟨f1, f2, f3, f4⟩ := fitsB_true hf
    have F4 := Lib.hid f4
    clear f4
    obtain ⟨z, rfl⟩ := Int.eq_ofNat_of_zero_le (Int.le_trans (by decide) f1)
    obtain ⟨q, rfl⟩ := Int.eq_ofNat_of_zero_le f3
    have hbl : Hid (putB bs q z = bs ++ be q z) := by unfold putB; rw [if_pos hf]; rfl
    go_enter Try.func149, Try.ntmps149
    go_wp2_with (first
      | ((with_reducible show wpList _ _ _ (⟨some 17, _, _, _, _, _⟩ :: _) _ _); refine wpL_copyB rfl (.tmp 15) (.tmp 16) rfl w.heap.size m (m + 7) rfl A c rfl X (heap_alloc_new _ _) hXs.out (by omega) (by unfold maxLen; omega) bs (hb.alloc _) w.heap.size (Nat.le_refl _) ?_
         intro w1 hown1 hg1)
      | (go_at_call 88; refine (fits_any _ _ _).mono ?_; rintro e w' ⟨rfl, rfl⟩))
    have hb1 : Below w.heap.size w w1 := ((Below.refl _ _).alloc (Nat.le_refl _) _).grown hg1 (by simp) (fun k hk => by injection hk; omega)
    clear hg1
    go_loopw [7, 8] (fun v i wr => ∃ j : Nat, i = .int .i64 ((j : Int) - 1) ∧ j ≤ z ∧ OwnB wr w.heap.size v (bs ++ be (q / 256 ^ j) (z - j)) ∧ Below w.heap.size w wr) (fun _ i _ => (intOf i + 1).toNat)
    case atStart => exact ⟨z, by first | rfl | rw [IntWalk.wrap64_in _ (by omega)], Nat.le_refl _, by rw [be_first, List.append_nil, ← hlb.out] at *; exact hown1, hb1⟩
    case round =>
      obtain ⟨j, rfl, hj, hown, hbw⟩ := hrel
      rcases j with _ | i
      · go_wp2
        go_ret
        exact ⟨_, rfl, by rw [hbl.out]; rwa [be_last] at hown, hbw⟩
      · go_wp2_with (at_builtin; refine wpL_pushB rfl (.tmp 29) (.tmp 35) rfl w.heap.size _ _ rfl hown _ (UInt8.ofNat (q / 256 ^ i)) ?hn rfl ?hb hbw.size ?_; rotate_right; intro v2 w2 hown2 hg2 _)
        case hn => exact shr_byte q i
        case hb => rw [List.length_append, length_be, hlb.out]; omega
        have hbw2 : Below w.heap.size w w2 := hbw.grown hg2 hbw.size fun k hk => (World.ownsRow.lt hown k hk).1
        have HO := Lib.hid hown2
        clear hown2 hown hg2
        go_wp2
        go_roundw
        case rel => exact ⟨i, by go_num, by omega, by have := HO.out; rwa [List.append_assoc, be_next _ _ _ hj] at this, hbw2⟩
        case measure => simp [intOf]
  · have hfe : fitsB n size = false := by simpa using hf
    have hbl : Hid (putB bs n size = bs) := by unfold putB; rw [if_neg hf]; rfl
    clear hf
    go_enter Try.func149, Try.ntmps149
    go_wp2_with (first
      | ((with_reducible show wpList _ _ _ (⟨some 17, _, _, _, _, _⟩ :: _) _ _); refine wpL_copyB rfl (.tmp 15) (.tmp 16) rfl w.heap.size m (m + 7) rfl A c rfl X (heap_alloc_new _ _) hXs.out (by omega) (by unfold maxLen; omega) bs (hb.alloc _) w.heap.size (Nat.le_refl _) ?_
         intro w1 hown1 hg1)
      | (go_at_call 88; refine (fits_any _ _ _).mono ?_; rintro e w' ⟨rfl, rfl⟩))
    go_ret
    exact ⟨_, rfl, by rw [hbl.out]; exact hown1, ((Below.refl _ _).alloc (Nat.le_refl _) _).grown hg1 (by simp) (fun k hk => by injection hk; omega)⟩
end Go.Proofs.Ytimkdpkhdbiniaa

/- wname: New, Len, Bytes, Raw, Num. -/
namespace Go.Proofs.Ytimkdpkhdbiniaa
open Go.RowKit Go.Maps

set_option maxHeartbeats 400000 in
theorem sclone_any (A : Option Addr) (m c : Nat) (bs : List UInt8) (w : World) (hb : RdB w A m bs) (hm : m ≤ 140737488355328) :
    Calls Try.prog 152 #[.slice A m c] w (RetP (fun v w' => OwnB w' w.heap.size v bs) w) := by
  have hlb := hb.len
  subst hlb
  rcases A with _ | ad
  · have hn : bs = [] := by
      rcases bs with _ | ⟨x, bs⟩
      · rfl
      · obtain ⟨b, off, e, _⟩ := hb.2 (by simp); cases e
    subst hn
    have he := fun W : World => Lib.run_eql_slice_nil (P := Try.prog) W 22 5 none ([] : List UInt8).length c 0 0 Try.underlying22
    simp only [List.length_nil, Option.isNone_none] at he
    go_enter Try.func152, Try.ntmps152
    go_wp2
    go_ret
    exact ⟨_, rfl, OwnB.nil _ _, bl⟩
  · have he := fun W : World => Lib.run_eql_slice_nil (P := Try.prog) W 22 5 (some ad) bs.length c 0 0 Try.underlying22
    simp only [Option.isNone_some] at he
    go_enter Try.func152, Try.ntmps152
    go_wp2_with ((with_reducible show wpList _ _ _ (⟨some 7, _, _, _, _, _⟩ :: _) _ _); refine wpL_cloneB rfl (.tmp 5) (.tmp 6) rfl rfl _ _ c bs rfl hb hm ?_; intro v2 w2 hown2 hb2)
    go_ret
    exact ⟨_, rfl, hown2, hb2⟩

theorem heap_alloc2_old' (w : World) (o o' : Obj) : ((w.alloc o).alloc o').heap[w.heap.size]? = (w.alloc o).heap[w.heap.size]? := Below.heap_alloc _ _ _ (by simp)

/-- The writer's bytes have been appended to, and stored. -/
theorem put_b {w w2 : World} {B g mb : Nat} {F : Nat → Prop} {x : Wr} {bv v2 r : Value} {bs : List UInt8} (hn : x.Near) (hg : w.heap[g]? = some (.cells #[bv, .map (some mb)] 176 (0, 0))) (hm : MapIs w mb x.rests) (hgF : F g ∧ B ≤ g)
    (hbF : ∀ k, bv.ownBlock = some k → F k ∧ k ≠ g ∧ k ≠ mb) (hmF : F mb ∧ mb ≠ g) (hF : ∀ k, F k → B ≤ k ∧ k < w.heap.size) (hown : OwnB w2 B v2 (x.b ++ bs)) (hgr : w.grownBy w2 bv.ownBlock) (hv : v2.ownBlock = bv.ownBlock ∨ v2.ownBlock = some w.heap.size) :
    RetX w B F g (x.raw bs) r (.returned r) (w2.setCell ⟨g, 0, none⟩ v2) := by
  have hgl := (hF g hgF.1).2
  have hml := (hF mb hmF.1).2
  have hsz := hgr.size
  have hc : Chg F w w2 := (Chg.refl F w).grown hgr (fun k hk => .inl (hbF k hk).1)
  have hgw : w2.heap[g]? = some (.cells #[bv, .map (some mb)] 176 (0, 0)) := (hgr.block g hgl (fun e => (hbF g e.symm).2.1 rfl)).trans hg
  have hcg : Chg (fun k => k = g) w2 (w2.setCell ⟨g, 0, none⟩ v2) := (Chg.refl (fun k => k = g) w2).setCell (p := ⟨g, 0, none⟩) (Or.inl rfl) v2
  have hv2 : ∀ k, v2.ownBlock = some k → (F k ∨ (w.heap.size ≤ k ∧ k < w2.heap.size)) ∧ k ≠ g ∧ k ≠ mb := fun k hk => by
    rcases hv with e | e
    · rw [e] at hk
      exact ⟨.inl (hbF k hk).1, (hbF k hk).2⟩
    · have hl := (World.ownsRow.lt hown k hk).2
      rw [e] at hk
      injection hk with hk
      exact ⟨.inr ⟨by omega, hl⟩, by omega, by omega⟩
  refine ⟨rfl, fun k => F k ∨ (w.heap.size ≤ k ∧ k < w2.heap.size), ⟨hn.raw bs, v2, mb, (heap_setCell_same _ _ _ _ _ _ hgw).trans rfl, hown.chgv hcg (fun k hk e => (hv2 k hk).2.1 e), (hm.keep (hgr.block mb hml (fun e => (hbF mb e.symm).2.2 rfl))).keep (hcg.block mb (by omega) hmF.2), ⟨.inl hgF.1, hgF.2⟩, hv2, ⟨.inl hmF.1, hmF.2⟩, fun k hk => ?_⟩, hc.setCell (p := ⟨g, 0, none⟩) (Or.inl hgF.1) _, fun k hk => hk.imp id (·.1)⟩
  have hz : (w2.setCell ⟨g, 0, none⟩ v2).heap.size = w2.heap.size := by simp
  rw [hz]
  rcases hk with hk | hk
  · exact ⟨(hF k hk).1, by have := (hF k hk).2; omega⟩
  · exact ⟨by omega, hk.2⟩

set_option maxHeartbeats 400000 in
theorem wnew_any (w : World) : Calls Try.prog 100 #[] w (fun e w' => ∃ g F, e = .returned (.pointer (some ⟨g, 0, none⟩)) ∧ Wtr w' w.heap.size F g Wr.nil ∧ Below w.heap.size w w') := by
  have hmm := @run_makeMap Try.prog
  go_enter Try.func100, Try.ntmps100
  go_wp2
  go_ret
  refine ⟨w.heap.size + 1, fun k => w.heap.size ≤ k ∧ k < w.heap.size + 2, rfl, ⟨Wr.near_nil, .slice none 0 0, w.heap.size, heap_alloc2_new w _ _, OwnB.nil _ _, (MapIs.made w).keep (heap_alloc2_old' w _ _), ⟨⟨by omega, by omega⟩, by omega⟩, fun k hk => by simp [Value.ownBlock] at hk, ⟨⟨by omega, by omega⟩, by omega⟩, fun k hk => ⟨hk.1, by simp; omega⟩⟩, (bl.alloc (Nat.le_refl _) _).alloc (by simp) _⟩

set_option maxHeartbeats 400000 in
theorem wlen_any (w : World) (B g : Nat) (F : Nat → Prop) (x : Wr) (h : Wtr w B F g x) :
    Calls Try.prog 184 #[.pointer (some ⟨g, 0, none⟩)] w (Ret (.int .i64 (x.b.length : Int)) w) := by
  obtain ⟨hn, bv, mb, hg, hb, _⟩ := h
  obtain ⟨A, c, rfl, _⟩ := hb.form
  have c0 : w.cell? ⟨g, 0, none⟩ = some (.slice A x.b.length c) := (cell_of_row _ _ _ _ _ _ hg).trans rfl
  clear hg hb
  go_enter Try.func184, Try.ntmps184
  go_wp2
  go_ret
  exact ⟨rfl, rfl⟩

set_option maxHeartbeats 400000 in
theorem wbytes_any (w : World) (B g : Nat) (F : Nat → Prop) (x : Wr) (h : Wtr w B F g x) (hx : x.b.length ≤ 1000000000) :
    Calls Try.prog 104 #[.pointer (some ⟨g, 0, none⟩)] w (RetP (fun v w' => OwnB w' w.heap.size v x.b) w) := by
  obtain ⟨hn, bv, mb, hg, hb, _⟩ := h
  obtain ⟨A, c, rfl, hr, _⟩ := hb.form
  have c0 : w.cell? ⟨g, 0, none⟩ = some (.slice A x.b.length c) := (cell_of_row _ _ _ _ _ _ hg).trans rfl
  clear hg hb
  go_enter Try.func104, Try.ntmps104
  go_wp2_with (go_at_call 152; refine (sclone_any _ _ _ x.b _ hr (by omega)).mono ?_; rintro e w2 ⟨v2, rfl, hown2, hb2⟩)
  go_ret
  exact ⟨_, rfl, hown2, hb2⟩

set_option maxHeartbeats 400000 in
theorem wraw_any (w : World) (B g : Nat) (F : Nat → Prop) (x : Wr) (A : Option Addr) (n c : Nat) (bs : List UInt8) (h : Wtr w B F g x) (hb : RdB w A n bs) (hx : x.b.length + n ≤ 1000000000) :
    Calls Try.prog 148 #[.pointer (some ⟨g, 0, none⟩), .slice A n c] w (RetX w B F g (x.raw bs) (.tuple #[])) := by
  have hlb := hb.len
  subst hlb
  obtain ⟨hn, bv, mb, hg, hbv, hm, hgF, hbF, hmF, hF⟩ := h
  obtain ⟨A1, c1, rfl, hr1, _⟩ := hbv.form
  have c0 : w.cell? ⟨g, 0, none⟩ = some (.slice A1 x.b.length c1) := (cell_of_row _ _ _ _ _ _ hg).trans rfl
  have HG := Lib.hid hg
  have hgl := (hF g hgF.1).2
  clear hg
  go_enter Try.func148, Try.ntmps148
  go_wp2_with ((with_reducible show wpList _ _ _ (⟨some 12, _, _, _, _, _⟩ :: _) _ _); refine wpL_appB rfl (.tmp 10) (.tmp 11) rfl B (.slice A1 x.b.length c1) x.b rfl hbv A _ c bs rfl hb (by omega) (Nat.le_trans hgF.2 (Nat.le_of_lt hgl)) ?_; intro v2 w2 hown2 hg2 hv2; obtain ⟨A2, c2, rfl, _⟩ := hown2.form; rw [List.length_append] at hown2 hv2 ⊢; have hgw := (hg2.block g hgl (fun e => (hbF g e.symm).2.1 rfl)).trans HG.out; have d0 := (cell_of_row _ _ 0 _ _ _ hgw).trans rfl; have f0 : ∀ k, w2.frozen? ⟨g, k, none⟩ = false := fun k => frozen_of_row _ _ _ _ _ hgw)
  go_end0
  exact put_b hn HG.out hm hgF hbF hmF hF hown2 hg2 hv2

theorem putB_nil_le (n size : Int) : (putB [] n size).length ≤ 7 := by
  unfold putB
  split
  · rename_i h
    obtain ⟨_, h2, _⟩ := fitsB_true h
    simp [length_be]
    omega
  · simp
set_option maxHeartbeats 400000 in
theorem wnum_any (w : World) (B g : Nat) (F : Nat → Prop) (x : Wr) (n size : Int) (h : Wtr w B F g x) (hx : x.b.length ≤ 100000000) :
    Calls Try.prog 101 #[.pointer (some ⟨g, 0, none⟩), .int .i64 n, .int .i64 size] w (RetX w B F g (x.raw (putB [] n size)) (.tuple #[])) := by
  have hl := putB_nil_le n size
  have H := Lib.hid h
  clear h
  go_enter Try.func101, Try.ntmps101
  go_wp2_with (first
    | (go_at_call 149; refine (put_any none 0 0 [] n size _ (Rd.nil _ _ _) (by omega)).mono ?_; rintro e w2 ⟨v2, rfl, hown2, hb2⟩; obtain ⟨A2, c2, rfl, hr2, _⟩ := hown2.form)
    | (go_at_call 148; refine (wraw_any w2 B g F x _ _ _ _ (H.out.below hb2) hr2 (by omega)).mono ?_; rintro e w3 ⟨rfl, F3, h3, hc3, hF3⟩))
  go_end0
  exact ⟨rfl, F3, h3, (Chg.of_below hb2).trans hc3 (fun k hk => .inl hk), fun k hk => (hF3 k hk).imp id (Nat.le_trans hb2.size)⟩
end Go.Proofs.Ytimkdpkhdbiniaa

/- Slices of strings of the call's own, over this seat's type numbers. -/
namespace Go.Proofs.Ytimkdpkhdbiniaa
open Go.RowKit

theorem elS : ElT Try.prog 23 9 encS 16 := ElT.mk Try.underlying23 (.string ByteArray.empty) 1 (by kernel_rfl) rfl rfl

/-- A slice of strings of the call's own. -/
def OwnS (w : World) (base : Nat) (v : Value) (l : List (List UInt8)) : Prop := OwnE encS 9 noS w base v l
theorem OwnS.nil (w : World) (base : Nat) : OwnS w base (.slice none 0 0) [] := OwnE.nil _ _ _ _

/-- append(s, x): one string. -/
theorem wpL_pushS {w : World} {ops : Array Oper} {rest : List Oper} {o : Oper} {a : Act} {Q : Exit → Act → World → Prop} (hgd : Region.wanted o (yielded ops a.tmps) = true) (s x : Operand)
    (ho : o.op = .call { callee := .builtin .append, args := #[s, x], argTypes := #[23, 23] })
    (base : Nat) (v : Value) (xs : List (List UInt8)) (hs : a.eval s = v) (hown : OwnS w base v xs) (y : List UInt8) (hy : y.length ≤ maxLen)
    {g : Nat} (hx : a.eval x = .slice (some ⟨g, 0, none⟩) 1 1) (hb : xs.length + 1 ≤ 8796093022208) (hbase : base ≤ w.heap.size)
    (h : ∀ v' w', OwnS w' base v' (xs ++ [y]) → w.grownBy w' v.ownBlock → (v'.ownBlock = v.ownBlock ∨ v'.ownBlock = some (w.heap.size + 1)) → wpList Try.prog ops Q rest (a.put o.dst v') w') (hgs : g = w.heap.size := by simp) :
    wpList Try.prog ops Q (o :: rest) a (w.alloc (.cells #[.string (bstr y)] 9)) := by
  refine wpL_pushE (S' := noS) elS hgd s x ho base v xs hs hown [.string (bstr y)] y ⟨rfl, hy⟩ (fun b hb => hb.elim) hx (by omega) (by unfold maxLen; omega) hbase (fun v' w' h1 h2 h3 => h v' w' ?_ h2 h3) hgs
  obtain ⟨cells, h4, h5, _⟩ := h1
  exact ⟨cells, h4, fun i x hx => E_noS (h5 i x hx), fun b hb => hb.elim⟩
where
  E_noS {S : Nat → Prop} {w : World} {r : List Value} {x : List UInt8} (h : encS.R S w r x) : encS.R noS w r x := h
end Go.Proofs.Ytimkdpkhdbiniaa

/- wname: rest; name: Size, Sound. -/
namespace Go.Proofs.Ytimkdpkhdbiniaa
open Go.RowKit

/-- A slice of strings, its element. -/
theorem strs_at {So Si : Nat → Prop} {w : World} {A : Option Addr} {n : Nat} {ns : List (List UInt8)} (h : Els encS So Si w A n ns) {k : Nat} {l : List UInt8} (hx : ns[k]? = some l) :
    ∃ b off, A = some ⟨b, off, none⟩ ∧ So b ∧ w.cell? ⟨b, off + k, none⟩ = some (.string (bstr l)) ∧ l.length ≤ maxLen := by
  obtain ⟨b, off, rfl, hs, hat⟩ := h.flat (by rw [← h.len]; exact Nat.lt_of_le_of_lt (Nat.zero_le k) (List.getElem?_eq_some_iff.1 hx).1)
  obtain ⟨r, ⟨rfl, hl⟩, hc⟩ := hat k l hx
  exact ⟨b, off, rfl, hs, by simpa [encS, flatE] using hc 0 _ rfl, hl⟩

theorem sizeN_take {ns : List (List UInt8)} {k : Nat} {l : List UInt8} (hx : ns[k]? = some l) : sizeN (ns.take (k + 1)) = sizeN (ns.take k) + l.length + 1 := by
  rw [List.take_add_one, hx, Option.toList_some, sizeN_snoc]
theorem restB_snoc (n : List (List UInt8)) (l : List UInt8) : restB (n ++ [l]) = restB n ++ (UInt8.ofNat l.length :: l) := by
  induction n with
  | nil => simp [restB]
  | cons x n ih => simp only [List.cons_append, restB, ih, List.append_assoc]
theorem restB_take {ns : List (List UInt8)} {k : Nat} {l : List UInt8} (hx : ns[k]? = some l) : restB (ns.take (k + 1)) = restB (ns.take k) ++ [UInt8.ofNat l.length] ++ l := by
  rw [List.take_add_one, hx, Option.toList_some, restB_snoc, List.append_assoc]
  rfl
theorem sizeN_take_le (ns : List (List UInt8)) (k : Nat) : sizeN (ns.take k) ≤ sizeN ns := by
  have := sizeN_append (ns.take k) (ns.drop k)
  rw [List.take_append_drop] at this
  have := sizeN_length (ns.drop k)
  omega

set_option maxHeartbeats 400000 in
theorem size_any (A : Option Addr) (n c : Nat) (ns : List (List UInt8)) (w : World) {So Si : Nat → Prop} (h : Els encS So Si w A n ns) (hs : sizeN ns ≤ 1000000000000) :
    Calls Try.prog 112 #[.slice A n c] w (Ret (.int .i64 (sizeN ns : Int)) w) := by
  have hl := h.len
  subst hl
  have hsl := sizeN_length ns
  go_enter Try.func112, Try.ntmps112
  go_wp2
  go_loop [3, 8] (fun sv iv => ∃ k : Nat, iv = .int .i64 k ∧ k ≤ ns.length ∧ sv = .int .i64 (sizeN (ns.take k) : Nat)) (fun _ iv => ns.length - (intOf iv).toNat)
  case atStart => exact ⟨0, rfl, Nat.zero_le _, rfl⟩
  case round =>
    obtain ⟨k, rfl, hk, rfl⟩ := hrel
    have ht := sizeN_take_le ns k
    by_cases hlt : k < ns.length
    · obtain ⟨l, hx⟩ : ∃ l, ns[k]? = some l := ⟨_, List.getElem?_eq_getElem hlt⟩
      obtain ⟨b, off, rfl, _, hc, hll⟩ := strs_at h hx
      have hst := sizeN_take hx
      have ht2 := sizeN_take_le ns (k + 1)
      have hle : sizeN (ns.take k) + l.length + 1 ≤ 1000000000000 := by omega
      have HS := Lib.hid hst
      clear hx hst ht2
      generalize sizeN (ns.take k) = z at HS ht hle ⊢
      have hbs := bstr_size l
      go_wp2
      go_round
      case rel => exact ⟨k + 1, by go_num, by omega, by rw [HS.out]; go_num⟩
      case measure => simp [intOf]; omega
    · obtain rfl : k = ns.length := by omega
      rw [List.take_length]
      go_wp2
      go_ret
      exact ⟨rfl, rfl⟩

set_option maxRecDepth 100000 in
set_option maxHeartbeats 1000000 in
theorem rest_any (A : Option Addr) (n c : Nat) (ns : List (List UInt8)) (w : World) {So Si : Nat → Prop} (h : Els encS So Si w A n ns) (hs : sizeN ns ≤ 1000000) (hl2 : ∀ l ∈ ns, l.length < 256) :
    Calls Try.prog 151 #[.slice A n c] w (RetP (fun v _ => v = .string (bstr (restB ns))) w) := by
  have hl := h.len
  subst hl
  have hsl := sizeN_length ns
  have HL := Lib.hid hl2
  clear hl2
  go_enter Try.func151, Try.ntmps151
  go_wp2
  go_loopw [3, 8] (fun bv iv wr => ∃ k : Nat, iv = .int .i64 k ∧ k ≤ ns.length ∧ OwnB wr w.heap.size bv (restB (ns.take k)) ∧ Below w.heap.size w wr) (fun _ iv _ => ns.length - (intOf iv).toNat)
  case atStart => exact ⟨0, rfl, Nat.zero_le _, OwnB.nil _ _, bl⟩
  case round =>
    obtain ⟨k, rfl, hk, hown, hbw⟩ := hrel
    have ht := sizeN_take_le ns k
    have htr := restB_length (ns.take k)
    by_cases hlt : k < ns.length
    · obtain ⟨l, hx⟩ : ∃ l, ns[k]? = some l := ⟨_, List.getElem?_eq_getElem hlt⟩
      obtain ⟨b, off, rfl, _, hc0, hll⟩ := strs_at h hx
      have hc := below_cell hbw hc0
      have hst := restB_take hx
      have hll := HL.out l (List.mem_of_getElem? hx)
      have hof : (UInt8.ofNat l.length).toNat = l.length := by simp; omega
      have HOF := Lib.hid hof
      have ht2 := sizeN_take_le ns (k + 1)
      have HS := Lib.hid hst
      have hlen : (restB (ns.take k)).length ≤ 1000000 := by omega
      obtain ⟨A1, c1, rfl, _⟩ := hown.form
      clear hx hst ht2 hof htr
      generalize restB (ns.take k) = z at HS hown hlen ⊢
      have hbs := bstr_size l
      go_wp2_with (first
        | ((with_reducible show wpList _ _ _ (⟨some 17, _, _, _, _, _⟩ :: _) _ _); refine wpL_pushB rfl (.tmp 12) (.tmp 16) rfl w.heap.size (.slice A1 z.length c1) z rfl hown _ (UInt8.ofNat l.length) (by have := HOF.out; omega) rfl (by omega) hbw.size ?_; intro v2 w2 hown2 hg2 _; have hb2 := hbw.grown hg2 hbw.size (fun k hk => (World.ownsRow.lt hown k hk).1); obtain ⟨A2, c2, rfl, _⟩ := hown2.form; rw [List.length_append, List.length_singleton] at hown2 ⊢)
        | ((with_reducible show wpList _ _ _ (⟨some 20, _, _, _, _, _⟩ :: _) _ _); refine wpL_appS rfl (.tmp 18) (.tmp 19) rfl w.heap.size (.slice A2 (z.length + 1) c2) (z ++ [UInt8.ofNat l.length]) rfl hown2 l rfl (by simp; omega) hb2.size ?_; intro v3 w3 hown3 hg3 _; have hb3 := hb2.grown hg3 hb2.size (fun k hk => (World.ownsRow.lt hown2 k hk).1)))
      go_roundw
      case rel => exact ⟨k + 1, by go_num, by omega, by rw [HS.out]; exact hown3, hb3⟩
      case measure => simp [intOf]; omega
    · obtain rfl : k = ns.length := by omega
      rw [List.take_length] at hown
      obtain ⟨A1, c1, rfl, hr1, _⟩ := hown.form
      have cx := conv_str (P := Try.prog) _ _ _ Try.underlying22 Try.underlying5 Try.underlying9 wr A1 _ c1 _ hr1
      go_wp2
      go_ret
      exact ⟨_, rfl, rfl, hbw⟩

set_option maxRecDepth 100000 in
set_option maxHeartbeats 400000 in
theorem badlabel_any (l : List UInt8) (w : World) : Calls Try.prog 111 #[.string (bstr l)] w (Ret (.bool (decide (¬ (1 ≤ l.length ∧ l.length ≤ 63)))) w) := by
  have hbs := bstr_size l
  by_cases h0 : l = []
  · subst h0
    have he : (bstr ([] : List UInt8)).toList = [] := bstr_toList []
    go_enter Try.func111, Try.ntmps111
    go_wp2
    go_ret
    exact ⟨ret_bool rfl, rfl⟩
  · have hp : 0 < l.length := List.length_pos_iff.2 h0
    have he : (bstr l).toList.isEmpty = false := by rw [bstr_toList]; simpa using h0
    have he2 : (bstr l).toList = [] ↔ False := by rw [bstr_toList]; simp [h0]
    go_enter Try.func111, Try.ntmps111
    go_wp2
    go_ret
    refine ⟨ret_bool ?_, rfl⟩
    show decide (63 < (l.length : Int)) = _
    rw [Bool.eq_iff_iff, decide_eq_true_iff, decide_eq_true_iff]
    omega

/-- Some label may not be. -/
def BadLab (ns : List (List UInt8)) : Prop := ¬ ∀ l ∈ ns, 1 ≤ l.length ∧ l.length ≤ 63
/-- A place, or one below 0. -/
def RetIdx (bad : Prop) (w : World) (e : Ending) (w' : World) : Prop := ∃ i : Int, e = .returned (.int .i64 i) ∧ (0 ≤ i ↔ bad) ∧ w = w'

set_option maxRecDepth 100000 in
set_option maxHeartbeats 1000000 in
theorem index_any (A : Option Addr) (n c : Nat) (ns : List (List UInt8)) (w : World) {So Si : Nat → Prop} (h : Els encS So Si w A n ns) (hn : n ≤ 1000000000) :
    Calls Try.prog 160 #[.slice A n c, .func (.func 111) #[] #[]] w (RetIdx (BadLab ns) w) := by
  have hl := h.len
  subst hl
  go_enter Try.func160, Try.ntmps160
  go_wp2
  go_loop [5, 8] (fun _ iv => ∃ k : Nat, iv = .int .i64 k ∧ k ≤ ns.length ∧ Hid (∀ l ∈ ns.take k, 1 ≤ l.length ∧ l.length ≤ 63)) (fun _ iv => ns.length - (intOf iv).toNat)
  case atStart => exact ⟨0, rfl, Nat.zero_le _, fun l hl => by simp at hl⟩
  case round =>
    obtain ⟨k, rfl, hk, HK⟩ := hrel
    by_cases hlt : k < ns.length
    · obtain ⟨l, hx⟩ : ∃ l, ns[k]? = some l := ⟨_, List.getElem?_eq_getElem hlt⟩
      obtain ⟨b, off, rfl, _, hc, hll⟩ := strs_at h hx
      have HX := Lib.hid hx
      clear hx
      by_cases hb : 1 ≤ l.length ∧ l.length ≤ 63
      · have hq := Lib.hid (badlabel_any l w)
        rw [show decide (¬ (1 ≤ l.length ∧ l.length ≤ 63)) = false by simp [hb]] at hq
        go_wp2_with (go_at_call 111; refine hq.out.mono ?_; rintro e w1 ⟨rfl, rfl⟩)
        go_round
        case rel => exact ⟨k + 1, by go_num, by omega, fun m hm => by rw [List.take_add_one, HX.out, Option.toList_some, List.mem_append, List.mem_singleton] at hm; exact hm.elim (HK.out m) (fun e => by rw [e]; exact hb)⟩
        case measure => simp [intOf]; omega
      · have hq := Lib.hid (badlabel_any l w)
        rw [show decide (¬ (1 ≤ l.length ∧ l.length ≤ 63)) = true by simp [hb]] at hq
        have HB := Lib.hid hb
        clear hb
        go_wp2_with (go_at_call 111; refine hq.out.mono ?_; rintro e w1 ⟨rfl, rfl⟩)
        go_ret
        exact ⟨_, rfl, ⟨fun _ ha => HB.out (ha l (List.mem_of_getElem? HX.out)), fun _ => Int.natCast_nonneg _⟩, rfl⟩
    · obtain rfl : k = ns.length := by omega
      rw [List.take_length] at HK
      go_wp2
      go_ret
      exact ⟨-1, rfl, ⟨fun h => absurd h (by decide), fun h => absurd HK.out h⟩, rfl⟩

set_option maxRecDepth 100000 in
set_option maxHeartbeats 400000 in
theorem contains_any (A : Option Addr) (n c : Nat) (ns : List (List UInt8)) (w : World) {So Si : Nat → Prop} (h : Els encS So Si w A n ns) (hn : n ≤ 1000000000) (b : Bool) (hb : b = true ↔ BadLab ns) :
    Calls Try.prog 110 #[.slice A n c, .func (.func 111) #[] #[]] w (Ret (.bool b) w) := by
  have HB := Lib.hid hb
  clear hb
  go_enter Try.func110, Try.ntmps110
  go_wp2_with (go_at_call 160; refine (index_any A n c ns _ h hn).mono ?_; rintro e w1 ⟨i, rfl, hi, rfl⟩; have HI := Lib.hid hi; clear hi)
  go_ret
  refine ⟨ret_bool ?_, rfl⟩
  show decide (0 ≤ i) = b
  rw [Bool.eq_iff_iff, decide_eq_true_iff, HI.out, HB.out]

theorem sizeN_le {ns : List (List UInt8)} (h : ∀ l ∈ ns, l.length ≤ 63) : sizeN ns ≤ 64 * ns.length + 1 := by
  induction ns with
  | nil => simp [sizeN]
  | cons l n ih =>
    have h1 := ih (fun x hx => h x (List.mem_cons_of_mem _ hx))
    have h2 := h l (List.mem_cons_self ..)
    simp only [sizeN, List.length_cons]
    omega

set_option maxRecDepth 100000 in
set_option maxHeartbeats 1000000 in
theorem sound_any (A : Option Addr) (n c : Nat) (ns : List (List UInt8)) (w : World) {So Si : Nat → Prop} (h : Els encS So Si w A n ns) (hn : n ≤ 1000000000) :
    Calls Try.prog 61 #[.slice A n c] w (Ret (.bool (soundB ns)) w) := by
  have hl := h.len
  subst hl
  have hsl := sizeN_length ns
  by_cases h1 : ns.length ≤ 255
  · by_cases h2 : ∀ l ∈ ns, 1 ≤ l.length ∧ l.length ≤ 63
    · have h3 := sizeN_le (fun l hl => (h2 l hl).2)
      have hq : soundB ns = decide ((sizeN ns : Int) ≤ 255) := by
        rw [Bool.eq_iff_iff, soundB_iff, decide_eq_true_iff]
        exact ⟨fun h => by have := h.2; omega, fun h => ⟨h2, by omega⟩⟩
      have HQ := Lib.hid hq
      have hcf := Lib.hid (contains_any A ns.length c ns w h hn false ⟨(fun h => by cases h), fun h => absurd h2 h⟩)
      clear h2 hq
      go_enter Try.func61, Try.ntmps61
      go_wp2_with (first
        | (go_at_call 110; refine hcf.out.mono ?_; rintro e w1 ⟨rfl, rfl⟩)
        | (go_at_call 112; refine (size_any A ns.length c ns _ h (by omega)).mono ?_; rintro e w1 ⟨rfl, rfl⟩))
      go_ret
      exact ⟨ret_bool HQ.out.symm, rfl⟩
    · have hq := Lib.hid (soundB_false (fun h => h2 h.1))
      have hcf := Lib.hid (contains_any A ns.length c ns w h hn true ⟨fun _ => h2, fun _ => rfl⟩)
      clear h2
      go_enter Try.func61, Try.ntmps61
      go_wp2_with (go_at_call 110; refine hcf.out.mono ?_; rintro e w1 ⟨rfl, rfl⟩)
      go_ret
      exact ⟨ret_bool hq.out.symm, rfl⟩
  · have hq := Lib.hid (soundB_false (n := ns) (fun h => h1 (by have := h.2; omega)))
    have hd : decide ((ns.length : Int) ≤ 255) = false := by simp; omega
    go_enter Try.func61, Try.ntmps61
    go_wp2
    go_ret
    exact ⟨ret_bool hq.out.symm, rfl⟩
end Go.Proofs.Ytimkdpkhdbiniaa

/- The reference's Size, Sound, Exact of names. -/
namespace Go.Proofs.Ytimkdpkhdbiniaa
open Go.RowKit

set_option maxHeartbeats 400000 in
theorem rsize_any (A : Option Addr) (n c : Nat) (ns : List (List UInt8)) (w : World) {So Si : Nat → Prop} (h : Els encS So Si w A n ns) (hs : sizeN ns ≤ 1000000000000) :
    Calls Try.prog 66 #[.slice A n c] w (Ret (.int .i64 (sizeN ns : Int)) w) := by
  have hl := h.len
  subst hl
  have hsl := sizeN_length ns
  go_enter Try.func66, Try.ntmps66
  go_wp2
  go_loop [3, 4] (fun sv iv => ∃ k : Nat, iv = .int .i64 k ∧ k ≤ ns.length ∧ sv = .int .i64 (sizeN (ns.take k) : Nat)) (fun _ iv => ns.length - (intOf iv).toNat)
  case atStart => exact ⟨0, rfl, Nat.zero_le _, rfl⟩
  case round =>
    obtain ⟨k, rfl, hk, rfl⟩ := hrel
    have ht := sizeN_take_le ns k
    by_cases hlt : k < ns.length
    · obtain ⟨l, hx⟩ : ∃ l, ns[k]? = some l := ⟨_, List.getElem?_eq_getElem hlt⟩
      obtain ⟨b, off, rfl, _, hc, hll⟩ := strs_at h hx
      have hst := sizeN_take hx
      have ht2 := sizeN_take_le ns (k + 1)
      have hle : sizeN (ns.take k) + l.length + 1 ≤ 1000000000000 := by omega
      have HS := Lib.hid hst
      clear hx hst ht2
      generalize sizeN (ns.take k) = z at HS ht hle ⊢
      have hbs := bstr_size l
      go_wp2
      go_round
      case rel => exact ⟨k + 1, by go_num, by omega, by rw [HS.out]; go_num⟩
      case measure => simp [intOf]; omega
    · obtain rfl : k = ns.length := by omega
      rw [List.take_length]
      go_wp2
      go_ret
      exact ⟨rfl, rfl⟩

theorem sizeN_labels (ns : List (List UInt8)) (h : ∀ l ∈ ns, 1 ≤ l.length ∧ l.length ≤ 63) : 2 * ns.length + 1 ≤ sizeN ns ∧ sizeN ns ≤ 64 * ns.length + 1 := by
  induction ns with
  | nil => simp [sizeN]
  | cons l n ih =>
    have h1 := h l (List.mem_cons_self ..)
    have h2 := ih (fun m hm => h m (List.mem_cons_of_mem _ hm))
    simp only [sizeN, List.length_cons]
    omega

set_option maxRecDepth 100000 in
set_option maxHeartbeats 1000000 in
theorem rsound_any (A : Option Addr) (n c : Nat) (ns : List (List UInt8)) (w : World) {So Si : Nat → Prop} (h : Els encS So Si w A n ns) :
    Calls Try.prog 27 #[.slice A n c] w (Ret (.bool (soundB ns)) w) := by
  have hl := h.len
  subst hl
  by_cases h127 : 127 < ns.length
  · have hb : soundB ns = false := soundB_false fun hs => by have := sizeN_labels ns hs.1; have := hs.2; omega
    rw [hb]
    clear hb
    go_enter Try.func27, Try.ntmps27
    go_wp2
    go_ret
    exact ⟨rfl, rfl⟩
  · go_enter Try.func27, Try.ntmps27
    go_wp2
    go_loop [3] (fun iv => ∃ k : Nat, iv = .int .i64 k ∧ k ≤ ns.length ∧ Hid (∀ l ∈ ns.take k, 1 ≤ l.length ∧ l.length ≤ 63)) (fun iv => ns.length - (intOf iv).toNat)
    case atStart => exact ⟨0, rfl, Nat.zero_le _, fun l hl => by simp at hl⟩
    case round =>
      obtain ⟨k, rfl, hk, HK⟩ := hrel
      by_cases hlt : k < ns.length
      · obtain ⟨l, hx⟩ : ∃ l, ns[k]? = some l := ⟨_, List.getElem?_eq_getElem hlt⟩
        obtain ⟨b, off, rfl, _, hc, hll⟩ := strs_at h hx
        have HX := Lib.hid hx
        have hbs := bstr_size l
        clear hx
        by_cases hb : 1 ≤ l.length ∧ l.length ≤ 63
        · obtain ⟨h1, h2⟩ := hb
          go_wp2
          go_round
          case rel => exact ⟨k + 1, by go_num, by omega, fun m hm => by
            rw [List.take_add_one, HX.out, Option.toList_some, List.mem_append, List.mem_singleton] at hm
            rcases hm with hm | rfl
            · exact HK.out m hm
            · exact ⟨h1, h2⟩⟩
          case measure => simp [intOf]; omega
        · have hf : soundB ns = false := soundB_false fun hs => hb (hs.1 l (List.mem_of_getElem? HX.out))
          rw [hf]
          clear hf
          by_cases h1 : l.length < 1
          · go_wp2
            go_ret
            exact ⟨rfl, rfl⟩
          · have h2 : 63 < l.length := by omega
            go_wp2
            go_ret
            exact ⟨rfl, rfl⟩
      · obtain rfl : k = ns.length := by omega
        have hlab := HK.out
        rw [List.take_length] at hlab
        have hz := sizeN_labels ns hlab
        have HB := Lib.hid (show soundB ns = decide ((sizeN ns : Int) ≤ 255) by
          rw [Bool.eq_iff_iff, soundB_iff, decide_eq_true_iff]
          exact ⟨fun hs => by have := hs.2; omega, fun hs => ⟨hlab, by omega⟩⟩)
        clear hlab
        go_wp2_with (go_at_call 66; refine (rsize_any _ _ _ ns _ h (by omega)).mono ?_; rintro e w1 ⟨rfl, rfl⟩)
        go_ret
        exact ⟨ret_bool HB.out.symm, rfl⟩

set_option maxRecDepth 100000 in
set_option maxHeartbeats 1000000 in
theorem rexact_any (A A' : Option Addr) (n c n' c' : Nat) (xs ys : List (List UInt8)) (w : World) {So Si So' Si' : Nat → Prop} (hx : Els encS So Si w A n xs) (hy : Els encS So' Si' w A' n' ys) (hn : n ≤ maxLen) (hn' : n' ≤ maxLen) :
    Calls Try.prog 28 #[.slice A n c, .slice A' n' c'] w (RetN (.bool (decide (xs = ys))) w) := by
  unfold maxLen at hn hn'
  have hlx := Lib.hid hx.len
  have hly := Lib.hid hy.len
  by_cases hnn : n = n'
  · subst hnn
    go_enter Try.func28, Try.ntmps28
    go_wp2
    go_loopw [5] (fun i wr => ∃ k m : Nat, i = .int .i64 k ∧ k ≤ n ∧ wr = w.drewN m ∧ xs.take k = ys.take k) (fun i _ => n - (intOf i).toNat)
    case atStart => exact ⟨0, 0, rfl, Nat.zero_le _, rfl, rfl⟩
    case round =>
      obtain ⟨k, m, rfl, hk, rfl, ht⟩ := hrel
      have HT := Lib.hid ht
      clear ht
      by_cases hlt : k < n
      · obtain ⟨x, gx⟩ : ∃ x, xs[k]? = some x := ⟨_, List.getElem?_eq_getElem (by rw [hlx.out]; exact hlt)⟩
        obtain ⟨y, gy⟩ : ∃ y, ys[k]? = some y := ⟨_, List.getElem?_eq_getElem (by rw [hly.out]; exact hlt)⟩
        obtain ⟨b, off, rfl, _, cx, _⟩ := strs_at hx gx
        obtain ⟨b', off', rfl, _, cy, _⟩ := strs_at hy gy
        have GX := Lib.hid gx
        have GY := Lib.hid gy
        clear gx gy
        by_cases hxy : x = y
        · subst hxy
          go_wp2
          go_quiet (fail)
          go_wp2
          go_roundw
          case rel => exact ⟨k + 1, _, by go_num, by omega, rfl, take_eq_succ HT.out GX.out GY.out rfl⟩
          case measure => simp [intOf]; omega
        · have hbne : ((bstr x).toList == (bstr y).toList) = false := by rw [bstr_toList, bstr_toList, beq_eq_false_iff_ne]; exact hxy
          go_wp2
          go_quiet (fail)
          go_wp2
          go_ret
          exact ⟨ret_bool (decide_eq_false (ne_of_get GX.out GY.out hxy)).symm, _, World.drewN_drewN _ _ _⟩
      · go_wp2
        go_ret
        have hk' : k = n := by omega
        refine ⟨ret_bool (decide_eq_true ?_).symm, _, rfl⟩
        have := HT.out
        rwa [hk', List.take_of_length_le (by rw [hlx.out]; omega), List.take_of_length_le (by rw [hly.out]; omega)] at this
  · have hb : ((n : Int) != (n' : Int)) = true := by rw [bne_iff_ne]; omega
    go_enter Try.func28, Try.ntmps28
    go_wp2
    go_ret
    refine ⟨ret_bool (decide_eq_false ?_).symm, 0, rfl⟩
    rintro rfl
    exact hnn (hlx.out.symm.trans hly.out)
end Go.Proofs.Ytimkdpkhdbiniaa

/- gazetteerref01.Same: are two lists of bytes the same. -/
namespace Go.Proofs.Ytimkdpkhdbiniaa
open Go.RowKit

end Go.Proofs.Ytimkdpkhdbiniaa

/- slices.Equal of bytes, numbers, strings; the reference's Ints and texts. -/
namespace Go.Proofs.Ytimkdpkhdbiniaa
open Go.RowKit
set_option maxRecDepth 100000

theorem ints_at {So Si : Nat → Prop} {w : World} {A : Option Addr} {n : Nat} {ns : List Int} (h : Els encI So Si w A n ns) {k : Nat} {l : Int} (hx : ns[k]? = some l) :
    ∃ b off, A = some ⟨b, off, none⟩ ∧ So b ∧ w.cell? ⟨b, off + k, none⟩ = some (.int .i64 l) ∧ -9223372036854775808 ≤ l ∧ l ≤ 9223372036854775807 := by
  obtain ⟨b, off, rfl, hs, hat⟩ := h.flat (by rw [← h.len]; exact Nat.lt_of_le_of_lt (Nat.zero_le k) (List.getElem?_eq_some_iff.1 hx).1)
  obtain ⟨r, ⟨rfl, hl⟩, hc⟩ := hat k l hx
  exact ⟨b, off, rfl, hs, by simpa [encI, flatE] using hc 0 _ rfl, hl⟩

end Go.Proofs.Ytimkdpkhdbiniaa

/- wname: Name. -/
namespace Go.Proofs.Ytimkdpkhdbiniaa
open Go.RowKit Go.Maps

theorem or_ptr (p : Nat) (hp : p < 16384) : bits .or .i64 49152 (p : Int) = 49152 + (p : Int) := by
  rw [bits_join .i64 63 (by decide) (fun n h0 h1 => by rw [IntKind.wrap_i64]; omega) 14 49152 p (by decide) (by decide) (by decide) (by omega) (by omega) (by omega)]
theorem put_ptr (p : Nat) (hp : p < 16384) : putB [] (49152 + (p : Int)) 2 = ptrB p := by
  rw [show (49152 + (p : Int)) = ((49152 + p : Nat) : Int) by omega]
  unfold putB
  rw [if_pos (by unfold fitsB; rw [decide_eq_true_iff]; refine ⟨by decide, by decide, by omega, ?_⟩; rw [show (256 : Int) ^ (2 : Int).toNat = 65536 by decide]; omega)]
  show be (49152 + p) 2 = ptrB p
  unfold ptrB
  simp only [be, List.nil_append, List.cons_append]
  congr 1
  · apply UInt8.toNat_inj.1
    simp only [UInt8.toNat_ofNat']
    omega
  · congr 1
    apply UInt8.toNat_inj.1
    simp only [UInt8.toNat_ofNat']
    omega
theorem put_len (l : List UInt8) (h : l.length ≤ 63) : putB [] (l.length : Int) 1 = [UInt8.ofNat l.length] := by
  unfold putB
  rw [if_pos (by unfold fitsB; rw [decide_eq_true_iff]; refine ⟨by decide, by decide, by omega, ?_⟩; rw [show (256 : Int) ^ (1 : Int).toNat = 256 by decide]; omega)]
  show be l.length 1 = _
  simp only [be, List.nil_append]
theorem put_zero : putB [] 0 1 = [0] := by decide

/-- []byte(s). -/
theorem conv_rd (w : World) (l : List UInt8) : RdB (Lib.bytesWorld w 5 (bstr l)) (some ⟨w.heap.size, 0, none⟩) l.length l ∧ Below w.heap.size w (Lib.bytesWorld w 5 (bstr l)) := by
  refine ⟨⟨by simp, fun _ => ⟨w.heap.size, 0, rfl, fun j u hu => ?_⟩⟩, ⟨rfl, rfl, rfl, by rw [Lib.bytesWorld_size]; omega, fun k hk => Lib.bytesWorld_at_old w _ _ k hk⟩⟩
  rw [List.getElem?_map] at hu
  cases hj : l[j]? with
  | none => rw [hj] at hu; cases hu
  | some y =>
    rw [hj] at hu
    injection hu with hu
    subst hu
    have hjl : j < l.length := (List.getElem?_eq_some_iff.1 hj).1
    have := Lib.bytesWorld_cell w 5 (bstr l) j (by rw [bstr_size]; exact hjl)
    rw [Nat.zero_add, this]
    have e : (bstr l).data.toList = l := by simp [bstr]
    rw [e]
    unfold bV
    rw [List.getD_eq_getElem?_getD, hj]
    rfl
end Go.Proofs.Ytimkdpkhdbiniaa

/- Small letters: the program's and the reference's; names that are the same but for their letters' cases. -/
namespace Go.Proofs.Ytimkdpkhdbiniaa
open Go.RowKit
set_option maxRecDepth 100000

def smallC (c : UInt8) : UInt8 := if 65 ≤ c.toNat ∧ c.toNat ≤ 90 then UInt8.ofNat (c.toNat + 32) else c
def smallL (l : List UInt8) : List UInt8 := l.map smallC
def lowN (n : List (List UInt8)) : List (List UInt8) := n.map smallL

theorem heap_set_any {w : World} {g : Nat} {cur : Array Value} {e : TypeId} {fz : Nat × Nat} (hg : w.heap[g]? = some (.cells cur e fz)) (k : Nat) (v : Value) : (w.setCell ⟨g, k, none⟩ v).heap[g]? = some (.cells (cur.setIfInBounds k v) e fz) := by
  simp [World.setCell, Array.getElem?_modify, hg]
/-- A row of bytes that a conversion made. -/
def BRow (w : World) (g : Nat) (bs : List UInt8) : Prop :=
  ∃ (cur : Array Value) (lo hi : Nat), w.heap[g]? = some (.cells cur 5 (lo, hi)) ∧ bs.length ≤ lo ∧ bs.length ≤ cur.size ∧ ∀ (j : Nat) (x : UInt8), bs[j]? = some x → cur[j]? = some (.int .u8 (x.toNat : Int))
section
variable {w w' : World} {g : Nat} {bs : List UInt8}
theorem BRow.made (w : World) (l : List UInt8) : BRow (Lib.bytesWorld w 5 (bstr l)) w.heap.size l := by
  have hz : (Lib.bytesCells w 5 (bstr l)).size = l.length + (grownCap w (bstr l).size 0 5 - (bstr l).size) := by
    have := bstr_size l
    unfold ByteArray.size at this
    simp [Lib.bytesCells, this]
  refine ⟨_, _, _, Lib.bytesWorld_at_new w _ _, by omega, by omega, fun j x hx => ?_⟩
  have hj : j < l.length := (List.getElem?_eq_some_iff.1 hx).1
  have h := Lib.bytesWorld_cell w 5 (bstr l) j (by rw [bstr_size]; exact hj)
  have e : (bstr l).data.toList = l := by simp [bstr]
  rw [e, List.getD_eq_getElem?_getD, hx] at h
  unfold World.cell? at h
  rw [Lib.bytesWorld_at_new] at h
  exact h
theorem BRow.cell (h : BRow w g bs) {j : Nat} {x : UInt8} (hx : bs[j]? = some x) : w.cell? ⟨g, j, none⟩ = some (.int .u8 (x.toNat : Int)) := by
  obtain ⟨cur, lo, hi, hg, _, _, hc⟩ := h
  unfold World.cell?
  rw [hg]
  exact hc j x hx
theorem BRow.free (h : BRow w g bs) {j : Nat} (hj : j < bs.length) : w.frozen? ⟨g, j, none⟩ = false := by
  obtain ⟨cur, lo, hi, hg, hl, _⟩ := h
  unfold World.frozen?
  rw [hg]
  show (decide (lo ≤ j) && _) = false
  rw [decide_eq_false (by omega), Bool.false_and]
theorem BRow.rd (h : BRow w g bs) : RdB w (some ⟨g, 0, none⟩) bs.length bs := by
  refine ⟨by simp, fun _ => ⟨g, 0, rfl, fun j u hu => ?_⟩⟩
  rw [List.getElem?_map] at hu
  obtain ⟨x, hx, rfl⟩ := Option.map_eq_some_iff.1 hu
  rw [Nat.zero_add]
  exact h.cell hx
theorem BRow.set (h : BRow w g bs) (k : Nat) (y : UInt8) : BRow (w.setCell ⟨g, k, none⟩ (.int .u8 (y.toNat : Int))) g (bs.set k y) := by
  obtain ⟨cur, lo, hi, hg, hl, hs, hc⟩ := h
  refine ⟨cur.setIfInBounds k (.int .u8 (y.toNat : Int)), lo, hi, heap_set_any hg k _, by rw [List.length_set]; exact hl, by rw [List.length_set, Array.size_setIfInBounds]; exact hs, fun j x hx => ?_⟩
  rw [List.getElem?_set] at hx
  by_cases e : k = j
  · subst e
    rw [if_pos rfl] at hx
    by_cases hk : k < bs.length
    · rw [if_pos hk] at hx
      injection hx with hx
      subst hx
      rw [Array.getElem?_setIfInBounds_self_of_lt (by omega)]
    · rw [if_neg hk] at hx
      cases hx
  · rw [if_neg e] at hx
    rw [Array.getElem?_setIfInBounds_ne e]
    exact hc j x hx
theorem BRow.below (h : BRow w g bs) (hb : Below w.heap.size w w') : BRow w' g bs := by
  obtain ⟨cur, lo, hi, hg, h1⟩ := h
  exact ⟨cur, lo, hi, (hb.block g (Array.getElem?_eq_some_iff.1 hg).1).trans hg, h1⟩
end
/-- The first few letters are small. -/
def someL (l : List UInt8) (k : Nat) : List UInt8 := (l.take k).map smallC ++ l.drop k
theorem someL_all (l : List UInt8) : someL l l.length = smallL l := by simp [someL, smallL]
theorem someL_length (l : List UInt8) (k : Nat) (hk : k ≤ l.length) : (someL l k).length = l.length := by simp [someL]; omega
theorem someL_at {l : List UInt8} {k : Nat} {x : UInt8} (hx : l[k]? = some x) : (someL l k)[k]? = some x := by
  have hk := (List.getElem?_eq_some_iff.1 hx).1
  unfold someL
  rw [List.getElem?_append_right (by simp; omega), List.length_map, List.length_take, Nat.min_eq_left (by omega), Nat.sub_self, List.getElem?_drop, Nat.add_zero, hx]
theorem someL_succ {l : List UInt8} {k : Nat} {x : UInt8} (hx : l[k]? = some x) : (someL l k).set k (smallC x) = someL l (k + 1) := by
  have hk := (List.getElem?_eq_some_iff.1 hx).1
  unfold someL
  rw [List.set_append_right _ _ (by simp; omega), List.length_map, List.length_take, Nat.min_eq_left (by omega), Nat.sub_self, List.drop_eq_getElem_cons hk, List.set_cons_zero, List.take_add_one, hx]
  simp
theorem someL_same {l : List UInt8} {k : Nat} {x : UInt8} (hx : l[k]? = some x) (h : smallC x = x) : someL l (k + 1) = someL l k := by
  have h1 := someL_at hx
  rw [← someL_succ hx, h]
  obtain ⟨hk, e⟩ := List.getElem?_eq_some_iff.1 h1
  rw [← e]
  exact List.set_getElem_self hk
theorem smallC_hi {x : UInt8} (h1 : 65 ≤ x.toNat) (h2 : x.toNat ≤ 90) : ((smallC x).toNat : Int) = x.toNat + 97 - 65 := by
  unfold smallC
  rw [if_pos ⟨h1, h2⟩, UInt8.toNat_ofNat']
  omega
theorem smallC_lo {x : UInt8} (h : ¬ (65 ≤ x.toNat ∧ x.toNat ≤ 90)) : smallC x = x := by unfold smallC; rw [if_neg h]

set_option maxHeartbeats 1000000 in
theorem small_any (l : List UInt8) (hl : l.length ≤ 9223372036854775807) (w : World) :
    Calls Try.prog 99 #[.string (bstr l)] w (RetP (fun v _ => v = .string (bstr (smallL l))) w) := by
  have hcb := fun W : World => Lib.run_convert_string_bytes (P := Try.prog) W 9 22 5 (bstr l) Try.underlying9 Try.underlying22 Try.underlying5
  have hbs := bstr_size l
  obtain ⟨w1, hw1⟩ : ∃ w1, w1 = Lib.bytesWorld w 5 (bstr l) := ⟨_, rfl⟩
  have HB1 : Hid (BRow w1 w.heap.size l) := by show BRow _ _ _; rw [hw1]; exact BRow.made w l
  have hb1 : Below w.heap.size w w1 := by rw [hw1]; exact (conv_rd w l).2
  go_enter Try.func99, Try.ntmps99
  go_upto_region 2 with (fail)
  rw [← hw1]
  clear hw1 hcb
  go_wp2
  go_loopw [10] (fun iv wr => ∃ k : Nat, iv = .int .i64 k ∧ k ≤ l.length ∧ Hid (BRow wr w.heap.size (someL l k)) ∧ Below w.heap.size w wr) (fun iv _ => l.length - (intOf iv).toNat)
  case atStart => exact ⟨0, rfl, Nat.zero_le _, HB1, hb1⟩
  case round =>
    obtain ⟨k, rfl, hk, HB, hbw⟩ := hrel
    clear HB1 hb1
    have hsl := Lib.hid (someL_length l k hk)
    by_cases hlt : k < l.length
    · obtain ⟨x, hx⟩ : ∃ x, l[k]? = some x := ⟨_, List.getElem?_eq_getElem hlt⟩
      have hcx := HB.out.cell (someL_at hx)
      have hfx := HB.out.free (j := k) (by rw [hsl.out]; exact hlt)
      have HX := Lib.hid hx
      have hx8 := x.toNat_lt
      clear hx
      by_cases h1 : 65 ≤ x.toNat ∧ x.toNat ≤ 90
      · obtain ⟨h1, h2⟩ := h1
        have HE := Lib.hid (smallC_hi h1 h2)
        have hset := HB.out.set k (smallC x)
        rw [HE.out, someL_succ HX.out] at hset
        have HS := Lib.hid hset
        clear hset
        go_wp2
        go_roundw
        case rel => exact ⟨k + 1, by go_num, by omega, HS.out, hbw.setCell (Nat.le_refl _) _⟩
        case measure => simp [intOf]; omega
      · have HS := Lib.hid (someL_same HX.out (smallC_lo h1))
        by_cases h2 : x.toNat < 65
        · clear h1
          go_wp2
          go_roundw
          case rel => exact ⟨k + 1, by go_num, by omega, by rw [HS.out]; exact HB, hbw⟩
          case measure => simp [intOf]; omega
        · have h3 : 90 < x.toNat := by omega
          clear h1
          go_wp2
          go_roundw
          case rel => exact ⟨k + 1, by go_num, by omega, by rw [HS.out]; exact HB, hbw⟩
          case measure => simp [intOf]; omega
    · have hke : k = l.length := by omega
      have hrd := HB.out.rd
      rw [hsl.out, hke, someL_all] at hrd
      have hcv := fun (c : Nat) => conv_str (P := Try.prog) _ _ _ Try.underlying22 Try.underlying5 Try.underlying9 wr (some ⟨w.heap.size, 0, none⟩) l.length c (smallL l) hrd
      go_wp2
      go_ret
      exact ⟨_, rfl, rfl, hbw⟩
end Go.Proofs.Ytimkdpkhdbiniaa

/- Names that are the same but for their letters' cases. -/
namespace Go.Proofs.Ytimkdpkhdbiniaa
open Go.RowKit
set_option maxRecDepth 100000

theorem bstr_beq (x y : List UInt8) : ((bstr x).toList == (bstr y).toList) = decide (x = y) := by
  rw [bstr_toList, bstr_toList]
  by_cases h : x = y
  · rw [h, decide_eq_true rfl]; simp
  · rw [decide_eq_false h, beq_eq_false_iff_ne]; exact h

theorem nameEq1_any (x y : List UInt8) (hx : x.length ≤ maxLen) (hy : y.length ≤ maxLen) (w : World) :
    Calls Try.prog 98 #[.string (bstr x), .string (bstr y)] w (RetP (fun v _ => v = .bool (decide (smallL x = smallL y))) w) := by
  unfold maxLen at hx hy
  have hq := bstr_beq (smallL x) (smallL y)
  go_enter Try.func98, Try.ntmps98
  go_wp2_with (first
    | (go_at_call 99; refine (small_any y hy w1).mono ?_; rintro e w2 ⟨v2, rfl, rfl, hb2⟩)
    | (go_at_call 99; refine (small_any x hx w).mono ?_; rintro e w1 ⟨v1, rfl, rfl, hb1⟩)
    | fail)
  go_ret
  exact ⟨_, rfl, rfl, nx hb1 hb2⟩

theorem low_at {xs : List (List UInt8)} {k : Nat} {x : List UInt8} (hx : xs[k]? = some x) : (lowN xs)[k]? = some (smallL x) := by
  unfold lowN; rw [List.getElem?_map, hx]; rfl
theorem low_len (xs : List (List UInt8)) : (lowN xs).length = xs.length := List.length_map _

set_option maxHeartbeats 1000000 in
theorem eqFunc_any (A A' : Option Addr) (n c n' c' : Nat) (xs ys : List (List UInt8)) (w : World) (hx : RdE encS w A n xs) (hy : RdE encS w A' n' ys) (hn : n ≤ maxLen) (hn' : n' ≤ maxLen) :
    Calls Try.prog 97 #[.slice A n c, .slice A' n' c', .func (.func 98) #[] #[]] w (RetP (fun v _ => v = .bool (decide (lowN xs = lowN ys))) w) := by
  unfold maxLen at hn hn'
  have hlx := Lib.hid hx.len
  have hly := Lib.hid hy.len
  by_cases hnn : n = n'
  · subst hnn
    go_enter Try.func97, Try.ntmps97
    go_wp2
    go_loopw [17] (fun i wr => ∃ k : Nat, i = .int .i64 k ∧ k ≤ n ∧ Below w.heap.size w wr ∧ Hid ((lowN xs).take k = (lowN ys).take k)) (fun i _ => n - (intOf i).toNat)
    case atStart => exact ⟨0, rfl, Nat.zero_le _, bl, rfl⟩
    case round =>
      obtain ⟨k, rfl, hk, hbw, HT⟩ := hrel
      by_cases hlt : k < n
      · obtain ⟨x, gx⟩ : ∃ x, xs[k]? = some x := ⟨_, List.getElem?_eq_getElem (by rw [hlx.out]; exact hlt)⟩
        obtain ⟨y, gy⟩ : ∃ y, ys[k]? = some y := ⟨_, List.getElem?_eq_getElem (by rw [hly.out]; exact hlt)⟩
        obtain ⟨b, off, rfl, _, cx, mx⟩ := strs_at (hx.below hbw) gx
        obtain ⟨b', off', rfl, _, cy, my⟩ := strs_at (hy.below hbw) gy
        have GX := Lib.hid (low_at gx)
        have GY := Lib.hid (low_at gy)
        clear gx gy
        by_cases hxy : smallL x = smallL y
        · have HX := Lib.hid hxy
          clear hxy
          go_wp2_with (first
            | (go_at_call 98; refine (nameEq1_any x y mx my _).mono ?_; rw [decide_eq_true HX.out]; rintro e w2 ⟨v2, rfl, rfl, hb2⟩)
            | fail)
          go_roundw
          case rel => exact ⟨k + 1, by go_num, by omega, nx hbw hb2, take_eq_succ HT.out GX.out GY.out HX.out⟩
          case measure => simp [intOf]; omega
        · have HX := Lib.hid hxy
          clear hxy
          go_wp2_with (first
            | (go_at_call 98; refine (nameEq1_any x y mx my _).mono ?_; rw [decide_eq_false HX.out]; rintro e w2 ⟨v2, rfl, rfl, hb2⟩)
            | fail)
          go_ret
          exact ⟨_, rfl, by rw [decide_eq_false (ne_of_get GX.out GY.out HX.out)]; rfl, nx hbw hb2⟩
      · go_wp2
        go_ret
        have hk' : k = n := by omega
        have he := HT.out
        rw [hk', List.take_of_length_le (by rw [low_len, hlx.out]; omega), List.take_of_length_le (by rw [low_len, hly.out]; omega)] at he
        exact ⟨_, rfl, by rw [decide_eq_true he]; rfl, hbw⟩
  · have hb : ((n : Int) != (n' : Int)) = true := by rw [bne_iff_ne]; omega
    go_enter Try.func97, Try.ntmps97
    go_wp2
    go_ret
    have he : lowN xs ≠ lowN ys := fun e => by
      have := congrArg List.length e
      rw [low_len, low_len, hlx.out, hly.out] at this
      exact hnn this
    exact ⟨_, rfl, by rw [decide_eq_false he]; rfl, bl⟩

theorem nequal_any (A A' : Option Addr) (n c n' c' : Nat) (xs ys : List (List UInt8)) (w : World) (hx : RdE encS w A n xs) (hy : RdE encS w A' n' ys) (hn : n ≤ maxLen) (hn' : n' ≤ maxLen) :
    Calls Try.prog 55 #[.slice A n c, .slice A' n' c'] w (RetP (fun v _ => v = .bool (decide (lowN xs = lowN ys))) w) := by
  go_enter Try.func55, Try.ntmps55
  go_wp2_with (go_at_call 97; refine (eqFunc_any _ _ _ _ _ _ xs ys _ hx hy hn hn').mono ?_; rintro e w1 ⟨v1, rfl, rfl, hb1⟩)
  go_ret
  exact ⟨_, rfl, rfl, hb1⟩

end Go.Proofs.Ytimkdpkhdbiniaa

/- What a record says, in memory; whether two say the same: the program's and the reference's. -/
namespace Go.Proofs.Ytimkdpkhdbiniaa
open Go.RowKit
set_option maxRecDepth 100000

structure Da where
  bytes : List UInt8
  host : List (List UInt8)
  mail : List (List UInt8)
  nums : List Int
  texts : List (List UInt8)
/-- Where its five slices lead, and their capacities. -/
structure DS where
  A0 : Option Addr
  A1 : Option Addr
  A2 : Option Addr
  A3 : Option Addr
  A4 : Option Addr
  c0 : Nat
  c1 : Nat
  c2 : Nat
  c3 : Nat
  c4 : Nat
def dsV (s : DS) (x : Da) : Value := .agg #[.slice s.A0 x.bytes.length s.c0, .slice s.A1 x.host.length s.c1, .slice s.A2 x.mail.length s.c2, .slice s.A3 x.nums.length s.c3, .slice s.A4 x.texts.length s.c4]
structure DRd (w : World) (s : DS) (x : Da) : Prop where
  b : RdB w s.A0 x.bytes.length x.bytes
  h : RdE encS w s.A1 x.host.length x.host
  m : RdE encS w s.A2 x.mail.length x.mail
  n : RdE encI w s.A3 x.nums.length x.nums
  t : RdE encS w s.A4 x.texts.length x.texts
  cb : x.bytes.length ≤ s.c0 ∧ s.c0 ≤ maxLen
  ch : x.host.length ≤ s.c1 ∧ s.c1 ≤ maxLen
  cm : x.mail.length ≤ s.c2 ∧ s.c2 ≤ maxLen
  cn : x.nums.length ≤ s.c3 ∧ s.c3 ≤ maxLen
  ct : x.texts.length ≤ s.c4 ∧ s.c4 ≤ maxLen
theorem DRd.below {w w' : World} {s : DS} {x : Da} (h : DRd w s x) (hb : Below w.heap.size w w') : DRd w' s x :=
  ⟨h.b.below hb, h.h.below hb, h.m.below hb, h.n.below hb, h.t.below hb, h.cb, h.ch, h.cm, h.cn, h.ct⟩
/-- It lies in a block of its own. -/
def DBox (w : World) (q : Nat) (s : DS) (x : Da) : Prop :=
  w.cell? ⟨q, 0, none⟩ = some (.slice s.A0 x.bytes.length s.c0) ∧ w.cell? ⟨q, 1, none⟩ = some (.slice s.A1 x.host.length s.c1) ∧ w.cell? ⟨q, 2, none⟩ = some (.slice s.A2 x.mail.length s.c2) ∧ w.cell? ⟨q, 3, none⟩ = some (.slice s.A3 x.nums.length s.c3) ∧ w.cell? ⟨q, 4, none⟩ = some (.slice s.A4 x.texts.length s.c4)
theorem DBox.made (w : World) (s : DS) (x : Da) (e : TypeId) : DBox (w.alloc (.cells #[.slice s.A0 x.bytes.length s.c0, .slice s.A1 x.host.length s.c1, .slice s.A2 x.mail.length s.c2, .slice s.A3 x.nums.length s.c3, .slice s.A4 x.texts.length s.c4] e)) w.heap.size s x :=
  ⟨new_cell w _ _ 0, new_cell w _ _ 1, new_cell w _ _ 2, new_cell w _ _ 3, new_cell w _ _ 4⟩
theorem DBox.below {w w' : World} {q : Nat} {s : DS} {x : Da} (h : DBox w q s x) (hb : Below w.heap.size w w') : DBox w' q s x := by
  obtain ⟨h0, h1, h2, h3, h4⟩ := h
  exact ⟨below_cell hb h0, below_cell hb h1, below_cell hb h2, below_cell hb h3, below_cell hb h4⟩
theorem DBox.lt {w : World} {q : Nat} {s : DS} {x : Da} (h : DBox w q s x) : q < w.heap.size := by
  have := World.block_lt_of_cell? w _ h.1
  exact this

end Go.Proofs.Ytimkdpkhdbiniaa

/- append([]T{}, s...): the call on a row that is empty. No program in it. -/
namespace Go.Proofs.Ytimkdpkhdbiniaa
open Go.RowKit

end Go.Proofs.Ytimkdpkhdbiniaa

/- A region that draws its order, by what each operation leaves: whichever order, at the end each has left it. No program in it. -/
namespace Go.Proofs.Ytimkdpkhdbiniaa
open Go.RowKit

section
variable {P : Program} {ops : Array Oper} {Q : Exit → Act → World → Prop} {md : Region.Mode} {n : Nat}

/-- The frame but for what the operations leave. -/
structure Same (d : Nat → Tmp) (n : Nat) (a0 a : Act) : Prop where
  defers : a.defers = a0.defers
  size : a.tmps.size = a0.tmps.size
  other : ∀ t, (∀ j, j < n → d j ≠ t) → a.tmps[t]? = a0.tmps[t]?
theorem Same.put {d : Nat → Tmp} {n i : Nat} {a0 a : Act} (h : Same d n a0 a) (hi : i < n) (v : Value) : Same d n a0 (a.put (some (d i)) v) :=
  ⟨h.defers, by simp [Act.put, h.size], fun t ht => by
    show (a.tmps.setIfInBounds (d i) v)[t]? = _
    rw [Array.getElem?_setIfInBounds_ne (ht i hi)]
    exact h.other t ht⟩

end
end Go.Proofs.Ytimkdpkhdbiniaa

/- append([]string{}, s...). -/
namespace Go.Proofs.Ytimkdpkhdbiniaa
open Go.RowKit

def strV (l : List UInt8) : Value := .string (bstr l)
theorem strs_rd {So Si : Nat → Prop} {w : World} {A : Option Addr} {n : Nat} {ns : List (List UInt8)} (h : Els encS So Si w A n ns) : Rd w 1 A n (ns.map strV) := by
  have hl := h.len
  refine ⟨by rw [List.length_map, hl, Nat.mul_one], fun hn => ?_⟩
  rw [List.length_map] at hn
  obtain ⟨l, hx⟩ : ∃ l, ns[0]? = some l := ⟨_, List.getElem?_eq_getElem hn⟩
  obtain ⟨b, off, rfl, _⟩ := strs_at h hx
  refine ⟨b, off, rfl, fun j u hu => ?_⟩
  rw [List.getElem?_map] at hu
  obtain ⟨y, hy, rfl⟩ := Option.map_eq_some_iff.1 hu
  obtain ⟨b', off', e, _, hc, _⟩ := strs_at h hy
  injection e with e
  injection e with e1 e2
  subst e1 e2
  exact hc
set_option maxRecDepth 100000 in
theorem wpL_cloneS {w : World} {So Si : Nat → Prop} {ops : Array Oper} {rest : List Oper} {o : Oper} {a : Act} {Q : Exit → Act → World → Prop} (hgd : Region.wanted o (yielded ops a.tmps) = true) (s x : Operand)
    (ho : o.op = .call { callee := .builtin .append, args := #[s, x], argTypes := #[23, 23] })
    {g : Nat} (hs : a.eval s = .slice (some ⟨g, 0, none⟩) 0 0) (A : Option Addr) (n c : Nat) (ns : List (List UInt8)) (hx : a.eval x = .slice A n c) (hr : Els encS So Si w A n ns) (hn : n ≤ 8796093022208)
    (h : ∀ v' w', OwnS w' w.heap.size v' ns → Below w.heap.size w w' → wpList Try.prog ops Q rest (a.put o.dst v') w') (hgs : g = w.heap.size := by simp) : wpList Try.prog ops Q (o :: rest) a (w.alloc (.cells #[] 9)) := by
  subst hgs
  obtain ⟨hT, i, z, hi, hz, hsz, hby, hzc⟩ := elS
  have hl := hr.len
  subst hl
  have hone : ∀ u ∈ ns.map strV, u.oneCell' = true := fun u hu => by
    obtain ⟨y, _, rfl⟩ := List.mem_map.1 hu
    rfl
  have hown0 : (w.alloc (.cells #[] 9)).ownsRow w.heap.size 9 1 (.slice (some ⟨w.heap.size, 0, none⟩) 0 0) 0 [] := World.ownsRow_lit (e := 9) (size := 1) w #[] 0 (Nat.le_refl _) (by simp) rfl
  refine wpList_want hgd fun K hK => ?_
  refine wp_append_any (P := Try.prog) s x _ ho w.heap.size 9 i z 1 16 hT hi hz hsz hby hzc (by decide) _ 0 [] hs hown0 A ns.length c (ns.map strV) hx ((strs_rd hr).below (bl.alloc (Nat.le_refl _) _)) hone (by unfold maxLen; omega) (by omega) (by simp) fun v' w' h1 h2 h3 => hK _ _ (h v' w' ?_ ?_)
  · rw [Nat.zero_add, List.nil_append] at h1
    refine ⟨ns.map strV, h1, fun j y hy => ?_, fun b hb => hb.elim⟩
    obtain ⟨_, _, _, _, _, hm⟩ := strs_at hr hy
    have hjl : j < ns.length := (List.getElem?_eq_some_iff.1 hy).1
    have e : List.take encS.size (List.drop (j * encS.size) (ns.map strV)) = [strV y] := by
      show List.take 1 (List.drop (j * 1) (ns.map strV)) = _
      rw [Nat.mul_one, List.drop_eq_getElem_cons (by rw [List.length_map]; exact hjl), List.take_succ_cons, List.take_zero, List.getElem_map]
      rw [List.getElem?_eq_getElem hjl] at hy
      injection hy with hy
      rw [hy]
    rw [e]
    exact ⟨rfl, hm⟩
  · exact (bl.alloc (Nat.le_refl _) _).grown h2 (by simp) (fun k hk => by simp [Value.ownBlock] at hk; omega)
end Go.Proofs.Ytimkdpkhdbiniaa

/- The reference's OwnData: data that shares nothing. -/
namespace Go.Proofs.Ytimkdpkhdbiniaa
open Go.RowKit
set_option maxRecDepth 100000

end Go.Proofs.Ytimkdpkhdbiniaa

/- rdata: what a reader says of bytes, in plain Lean. -/
namespace Go.Proofs.Ytimkdpkhdbiniaa

/-- A type's shape. -/
structure Shp where
  bytes : Int
  host : Bool
  mail : Bool
  short : Bool
  nums : Int
  size : Int
  texts : Bool
  first : Bool
def shpA : Shp := ⟨4, false, false, false, 0, 0, false, false⟩
def shpT : Shp := ⟨0, false, false, false, 0, 0, true, false⟩
def shpQ : Shp := ⟨16, false, false, false, 0, 0, false, false⟩
def shpN : Shp := ⟨0, true, false, true, 0, 0, false, false⟩
def shpM : Shp := ⟨0, true, false, true, 1, 2, false, true⟩
def shpS : Shp := ⟨0, true, true, true, 5, 4, false, false⟩
def shpV3 : Shp := ⟨0, true, false, false, 3, 2, false, true⟩
def shpB : Shp := ⟨-1, false, false, false, 0, 0, false, false⟩
/-- The shape of a type. -/
def shapeP (k : Int) : Shp :=
  if k = 1 then shpA else if k = 28 then shpQ else if k = 2 ∨ k = 5 ∨ k = 12 then shpN else if k = 15 then shpM else if k = 6 then shpS else if k = 33 then shpV3 else if k = 16 then shpT else shpB
theorem shape_cases (k : Int) : shapeP k = shpA ∨ shapeP k = shpQ ∨ shapeP k = shpN ∨ shapeP k = shpM ∨ shapeP k = shpS ∨ shapeP k = shpV3 ∨ shapeP k = shpT ∨ shapeP k = shpB := by
  unfold shapeP
  split
  · exact .inl rfl
  split
  · exact .inr (.inl rfl)
  split
  · exact .inr (.inr (.inl rfl))
  split
  · exact .inr (.inr (.inr (.inl rfl)))
  split
  · exact .inr (.inr (.inr (.inr (.inl rfl))))
  split
  · exact .inr (.inr (.inr (.inr (.inr (.inl rfl)))))
  split
  · exact .inr (.inr (.inr (.inr (.inr (.inr (.inl rfl))))))
  · exact .inr (.inr (.inr (.inr (.inr (.inr (.inr rfl))))))

/-- A number: it, and the place behind it; or the error that is given up with. -/
def numR (b : List UInt8) (pos en size : Nat) : Except Int (Nat × Nat) := if en < pos + size then .error 3 else .ok (val ((b.drop pos).take size), pos + size)
def nameX (b : List UInt8) (pos en : Nat) : Except Int (List (List UInt8) × Nat) :=
  if (getP b pos pos 0 []).2.2 = 0 then (if en < (getP b pos pos 0 []).2.1.toNat then .error 3 else .ok ((getP b pos pos 0 []).1, (getP b pos pos 0 []).2.1.toNat)) else .error (getP b pos pos 0 []).2.2
def bytesR (b : List UInt8) (pos en n : Nat) : Except Int (List UInt8 × Nat) := if en < pos + n then .error 3 else .ok ((b.drop pos).take n, pos + n)
/-- So many numbers more, behind those that are there. -/
def numsR (b : List UInt8) (en size : Nat) : Nat → Nat → List Int → Except Int (List Int × Nat)
  | 0, pos, acc => .ok (acc, pos)
  | k + 1, pos, acc => match numR b pos en size with
    | .error e => .error e
    | .ok (n, q) => numsR b en size k q (acc ++ [(n : Int)])
/-- All texts that are left; at most so many more. -/
def textsR (b : List UInt8) (en : Nat) : Nat → Nat → List (List UInt8) → Except Int (List (List UInt8) × Nat)
  | 0, pos, acc => if pos < en then .error 4 else if acc.length = 0 then .error 2 else .ok (acc, pos)
  | k + 1, pos, acc => if pos < en then
      (match numR b pos en 1 with
      | .error e => .error e
      | .ok (n, q) => match bytesR b q en n with
        | .error e => .error e
        | .ok (t, r) => textsR b en k r (acc ++ [t]))
    else if acc.length = 0 then .error 2 else .ok (acc, pos)
def Da.zero : Da := ⟨[], [], [], [], []⟩

theorem getP_nn (b : List UInt8) (a g n : Nat) (ls : List (List UInt8)) : 0 ≤ (getP b a g n ls).2.1 := by
  fun_induction getP b a g n ls <;> first | assumption | (simp only; omega)
theorem numR_le {b : List UInt8} {pos en size n q : Nat} (h : numR b pos en size = .ok (n, q)) : pos + size = q ∧ q ≤ en := by
  unfold numR at h
  split at h
  · cases h
  · injection h with h
    injection h with h1 h2
    omega
theorem bytesR_le {b l : List UInt8} {pos en n q : Nat} (h : bytesR b pos en n = .ok (l, q)) : pos + n = q ∧ q ≤ en := by
  unfold bytesR at h
  split at h
  · cases h
  · injection h with h
    injection h with h1 h2
    omega
theorem nameX_le {b : List UInt8} {pos en q : Nat} {n : List (List UInt8)} (h : nameX b pos en = .ok (n, q)) : q ≤ en := by
  unfold nameX at h
  split at h
  · split at h
    · cases h
    · injection h with h
      injection h with h1 h2
      omega
  · cases h
theorem numsR_le {b : List UInt8} {en size : Nat} {l : List Int} {q : Nat} : ∀ {k pos : Nat} {acc : List Int}, pos ≤ en → numsR b en size k pos acc = .ok (l, q) → q ≤ en
  | 0, pos, acc, hp, h => by
    injection h with h
    injection h with h1 h2
    omega
  | k + 1, pos, acc, hp, h => by
    rw [numsR] at h
    cases hn : numR b pos en size with
    | error e => rw [hn] at h; cases h
    | ok r =>
      obtain ⟨n, p⟩ := r
      rw [hn] at h
      exact numsR_le (numR_le hn).2 h
theorem textsR_le {b : List UInt8} {en : Nat} {l : List (List UInt8)} {q : Nat} : ∀ {k pos : Nat} {acc : List (List UInt8)}, pos ≤ en → textsR b en k pos acc = .ok (l, q) → q = en
  | 0, pos, acc, hp, h => by
    rw [textsR] at h
    split at h
    · cases h
    · split at h
      · cases h
      · injection h with h
        injection h with h1 h2
        omega
  | k + 1, pos, acc, hp, h => by
    rw [textsR] at h
    split at h
    · cases hn : numR b pos en 1 with
      | error e => rw [hn] at h; cases h
      | ok r =>
        obtain ⟨n, p⟩ := r
        rw [hn] at h
        simp only at h
        cases hb : bytesR b p en n with
        | error e => rw [hb] at h; cases h
        | ok r2 =>
          obtain ⟨t, p2⟩ := r2
          rw [hb] at h
          exact textsR_le (bytesR_le hb).2 h
    · split at h
      · cases h
      · injection h with h
        injection h with h1 h2
        omega
theorem numR_get {b : List UInt8} {pos en size : Nat} (h1 : 1 ≤ size) (h7 : size ≤ 7) (hp : pos ≤ en) (he : en ≤ b.length) : getN (b.take en) (pos : Int) (size : Int) = match numR b pos en size with | .error e => (0, e) | .ok (n, _) => ((n : Int), 0) := by
  unfold getN numR
  rw [if_neg (by omega), List.length_take, Nat.min_eq_left he]
  by_cases h : en < pos + size
  · rw [if_pos (by omega), if_pos h]
  · rw [if_neg (by omega), if_neg h]
    simp only [Int.toNat_natCast]
    rw [List.drop_take, List.take_take, Nat.min_eq_left (by omega)]
theorem numR_err {b : List UInt8} {pos en size : Nat} {e : Int} (h : numR b pos en size = .error e) : e = 3 ∧ en < pos + size := by
  unfold numR at h
  split at h
  · injection h with h
    exact ⟨h.symm, by assumption⟩
  · cases h
theorem bytesR_err {b : List UInt8} {pos en size : Nat} {e : Int} (h : bytesR b pos en size = .error e) : e = 3 ∧ en < pos + size := by
  unfold bytesR at h
  split at h
  · injection h with h
    exact ⟨h.symm, by assumption⟩
  · cases h

/-- What a type says: the parts one behind the other. -/
def dataR (b : List UInt8) (pos en : Nat) (s : Shp) : Except Int (Da × Nat) :=
  if s.bytes = 4 then (match bytesR b pos en 4 with | .error e => .error e | .ok (x, q) => .ok ({ Da.zero with bytes := x }, q))
  else if s.bytes = 16 then (match bytesR b pos en 16 with | .error e => .error e | .ok (x, q) => .ok ({ Da.zero with bytes := x }, q))
  else if s.bytes < 0 then (match bytesR b pos en (en - pos) with | .error e => .error e | .ok (x, q) => .ok ({ Da.zero with bytes := x }, q))
  else if s.texts = true then (match textsR b en 64 pos [] with | .error e => .error e | .ok (x, q) => .ok ({ Da.zero with texts := x }, q))
  else if s.first = true then
    (match numsR b en s.size.toNat s.nums.toNat pos [] with
    | .error e => .error e
    | .ok (x, q) => match nameX b q en with
      | .error e => .error e
      | .ok (n, r) => .ok ({ Da.zero with nums := x, host := n }, r))
  else if s.mail = true then
    (match nameX b pos en with
    | .error e => .error e
    | .ok (n, q) => match nameX b q en with
      | .error e => .error e
      | .ok (m, r) => match numsR b en s.size.toNat s.nums.toNat r [] with
        | .error e => .error e
        | .ok (x, t) => .ok ({ Da.zero with nums := x, host := n, mail := m }, t))
  else (match nameX b pos en with | .error e => .error e | .ok (n, q) => .ok ({ Da.zero with host := n }, q))
/-- What stands at a place for a type: the data and the error. -/
def getD (b : List UInt8) (at_ size k : Int) : Da × Int :=
  if at_ < 0 ∨ size < 0 ∨ k < 1 ∨ 65535 < k then (Da.zero, 1)
  else if (b.length : Int) < at_ ∨ (b.length : Int) - at_ < size then (Da.zero, 3)
  else match dataR b at_.toNat (at_.toNat + size.toNat) (shapeP k) with
    | .error e => (Da.zero, e)
    | .ok (d, q) => if q < at_.toNat + size.toNat then (Da.zero, 7) else (d, 0)
end Go.Proofs.Ytimkdpkhdbiniaa

/- rr: records, in plain Lean; what stands at a place. -/
namespace Go.Proofs.Ytimkdpkhdbiniaa

structure RR where
  name : List (List UInt8)
  type : Int
  cls : Int
  ttl : Int
  data : Da
def RR.zero : RR := ⟨[], 0, 0, 0, Da.zero⟩
/-- A number of bytes at a place. -/
def numA (b : List UInt8) (p k : Nat) : Nat := val ((b.drop p).take k)
def ttlA (b : List UInt8) (p : Nat) : Int := if 2147483648 ≤ numA b (p + 4) 4 then 0 else (numA b (p + 4) 4 : Int)
/-- Behind the name. -/
def getRR1 (b : List UInt8) (ls : List (List UInt8)) (p : Nat) : RR × Int × Int :=
  if b.length < p + 10 then (RR.zero, 0, 3)
  else if numA b p 2 = 0 then (RR.zero, 0, 2)
  else if (getD b ((p + 10 : Nat) : Int) (numA b (p + 8) 2 : Int) (numA b p 2 : Int)).2 ≠ 0 then (RR.zero, 0, (getD b ((p + 10 : Nat) : Int) (numA b (p + 8) 2 : Int) (numA b p 2 : Int)).2)
  else (⟨ls, (numA b p 2 : Int), (numA b (p + 2) 2 : Int), ttlA b p, (getD b ((p + 10 : Nat) : Int) (numA b (p + 8) 2 : Int) (numA b p 2 : Int)).1⟩, ((p + 10 + numA b (p + 8) 2 : Nat) : Int), 0)
/-- The name at a place, as the program reads it. -/
def nameA (b : List UInt8) (a : Int) : List (List UInt8) × Int × Int := if a < 0 then ([], 0, 1) else getP b a.toNat a.toNat 0 []
/-- The record at a place, the place behind it, and the error. -/
def getRR (b : List UInt8) (a : Int) : RR × Int × Int :=
  if (nameA b a).2.2 ≠ 0 then (RR.zero, 0, (nameA b a).2.2) else getRR1 b (nameA b a).1 (nameA b a).2.1.toNat

theorem numA_get {b : List UInt8} {p k : Nat} (h : p + k ≤ b.length) (h1 : 1 ≤ k) (h7 : k ≤ 7) : getN b (p : Int) (k : Int) = ((numA b p k : Int), 0) := by
  unfold getN numA
  rw [if_neg (by omega), if_neg (by omega)]
  simp
theorem numA_lt {b : List UInt8} {p k : Nat} : numA b p k < 256 ^ k := by
  have h := val_lt ((b.drop p).take k)
  have h2 : 256 ^ ((b.drop p).take k).length ≤ 256 ^ k := Nat.pow_le_pow_right (by decide) (by rw [List.length_take]; omega)
  exact Nat.lt_of_lt_of_le h h2
theorem numA_2 {b : List UInt8} {p : Nat} : numA b p 2 < 65536 := numA_lt (k := 2)
theorem numA_4 {b : List UInt8} {p : Nat} : numA b p 4 < 4294967296 := numA_lt (k := 4)
theorem getP_le (b : List UInt8) (a g n : Nat) (ls : List (List UInt8)) (h : (getP b a g n ls).2.2 = 0) (hn : n ≤ b.length) : (getP b a g n ls).2.1 ≤ (b.length : Int) := by
  fun_induction getP b a g n ls with
  | case1 => simp at h
  | case2 at_ beg nx ls c hc h0 =>
    have := (List.getElem?_eq_some_iff.1 hc).1
    simp only
    omega
  | case3 => simp at h
  | case4 at_ beg nx ls c hc h0 h1 d hd hb ih =>
    have := (List.getElem?_eq_some_iff.1 hd).1
    exact ih h (by omega)
  | case5 => simp at h
  | case6 => simp at h
  | case7 => simp at h
  | case8 => simp at h
  | case9 at_ beg nx ls c hc h0 h1 h2 h3 h4 ih => exact ih h hn
theorem nameA_nn (b : List UInt8) (a : Int) : 0 ≤ (nameA b a).2.1 := by
  unfold nameA
  split
  · simp
  · exact getP_nn _ _ _ _ _
theorem nameA_le (b : List UInt8) (a : Int) (h : (nameA b a).2.2 = 0) : (nameA b a).2.1 ≤ (b.length : Int) := by
  unfold nameA at h ⊢
  split
  · rename_i h0
    rw [if_pos h0] at h
    cases h
  · rename_i h0
    rw [if_neg h0] at h
    exact getP_le _ _ _ _ _ h (Nat.zero_le _)
end Go.Proofs.Ytimkdpkhdbiniaa

/- num.Get and the reference's: the number at a place. -/
namespace Go.Proofs.Ytimkdpkhdbiniaa
open Go.RowKit

def RetG (r : Int × Int) (w : World) (e : Ending) (w' : World) : Prop := e = .returned (.tuple #[.int .i64 r.1, .int .i64 r.2]) ∧ w = w'

set_option maxHeartbeats 400000 in
theorem get_any (A : Option Addr) (m c : Nat) (bs : List UInt8) (p size : Int) (w : World) (hb : RdB w A m bs) (hm : m ≤ c) (hc : m ≤ 140737488355328) :
    Calls Try.prog 161 #[.slice A m c, .int .i64 p, .int .i64 size] w (RetG (getN bs p size) w) := by
  have hlb := Lib.hid hb.len
  by_cases h1 : size < 1 ∨ 7 < size ∨ p < 0
  · have hr : Hid (getN bs p size = (0, 1)) := by unfold getN; rw [if_pos h1]; rfl
    by_cases g1 : size < 1
    · clear h1
      go_enter Try.func161, Try.ntmps161
      go_wp2
      go_ret2
      exact ⟨by rw [hr.out]; rfl, rfl⟩
    · by_cases g2 : 7 < size
      · clear h1
        go_enter Try.func161, Try.ntmps161
        go_wp2
        go_ret2
        exact ⟨by rw [hr.out]; rfl, rfl⟩
      · have g3 : p < 0 := by omega
        clear h1
        go_enter Try.func161, Try.ntmps161
        go_wp2
        go_ret2
        exact ⟨by rw [hr.out]; rfl, rfl⟩
  · have g1 : 1 ≤ size := by omega
    have g2 : size ≤ 7 := by omega
    have g3 : 0 ≤ p := by omega
    obtain ⟨z, rfl⟩ := Int.eq_ofNat_of_zero_le (Int.le_trans (by decide) g1)
    obtain ⟨q, rfl⟩ := Int.eq_ofNat_of_zero_le g3
    by_cases h2 : m < q
    · have hr : Hid (getN bs q z = (0, 3)) := by unfold getN; rw [if_neg h1, if_pos (by rw [hlb.out]; omega)]; rfl
      clear h1
      go_enter Try.func161, Try.ntmps161
      go_wp2
      go_ret2
      exact ⟨by rw [hr.out]; rfl, rfl⟩
    · by_cases h3 : m - q < z
      · have hr : Hid (getN bs q z = (0, 3)) := by unfold getN; rw [if_neg h1, if_pos (by rw [hlb.out]; omega)]; rfl
        clear h1
        have h4 : (m : Int) - q < z := by omega
        go_enter Try.func161, Try.ntmps161
        go_wp2
        go_ret2
        exact ⟨by rw [hr.out]; rfl, rfl⟩
      · have hr : Hid (getN bs q z = ((val ((bs.drop q).take z) : Int), 0)) := by unfold getN; rw [if_neg h1, if_neg (by rw [hlb.out]; omega)]; rfl
        clear h1
        have h4 : ¬ (m : Int) - q < z := by omega
        obtain ⟨b, off, rfl, hcell⟩ := hb.flat (by omega)
        have HC := Lib.hid hcell
        clear hcell
        obtain ⟨seg, hseg⟩ : ∃ seg, seg = (bs.drop q).take z := ⟨_, rfl⟩
        rw [← hseg] at hr
        have hsl : Hid (seg.length = z) := by rw [hseg]; show _ = _; rw [List.length_take, List.length_drop, hlb.out]; omega
        have HS := Lib.hid hseg
        clear hseg
        go_enter Try.func161, Try.ntmps161
        go_wp2
        go_loop [8, 10, 42] (fun nn _ i => ∃ k : Nat, k ≤ z ∧ i = .int .i64 k ∧ nn = .int .i64 (val (seg.take k) : Int)) (fun _ _ i => z - (intOf i).toNat)
        case atStart => exact ⟨0, Nat.zero_le _, rfl, rfl⟩
        case round =>
          obtain ⟨k, hk, rfl, rfl⟩ := hrel
          by_cases hlt : k < z
          · obtain ⟨x, hx⟩ : ∃ x, seg[k]? = some x := ⟨_, List.getElem?_eq_getElem (by rw [hsl.out]; exact hlt)⟩
            have hxb : bs[q + k]? = some x := by
              have h := hx
              rw [HS.out, List.getElem?_take, if_pos hlt, List.getElem?_drop] at h
              exact h
            have hc1 := HC.out _ _ hxb
            rw [← Nat.add_assoc] at hc1
            have hv := val_lt_of (l := seg.take k) (k := 6) (by rw [List.length_take]; omega)
            rw [pow256_6] at hv
            have HV := Lib.hid (val_take seg k x hx)
            clear hx hxb
            obtain ⟨v, hv'⟩ : ∃ v, v = val (seg.take k) := ⟨_, rfl⟩
            rw [← hv'] at hv HV ⊢
            clear hv'
            have hx8 := x.toNat_lt
            go_wp2
            go_round
            case rel => exact ⟨k + 1, by omega, by go_num, by rw [or_byte _ _ hv hx8, HV.out]⟩
            case measure => simp [intOf]; omega
          · go_wp2
            go_ret2
            refine ⟨?_, rfl⟩
            obtain rfl : k = z := by omega
            rw [hr.out, List.take_of_length_le (by rw [hsl.out]; omega)]
            rfl
end Go.Proofs.Ytimkdpkhdbiniaa

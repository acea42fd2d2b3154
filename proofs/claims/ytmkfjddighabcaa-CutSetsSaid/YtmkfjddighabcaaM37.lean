/- Parts of a proof, joined: SetsP, Law07S. -/
import Derived.Test.YtmkfjddighabcaaM27
import Derived.Test.YtmkfjddighabcaaM19
import Derived.Test.YtmkfjddighabcaaM12
import Derived.Test.YtmkfjddighabcaaM21
import Derived.Test.YtmkfjddighabcaaM05
/- CutSets' message, in plain Lean: addresses of one name, then of another. No program in it. -/
namespace Go.Proofs.Ytmkfjddighabcaa
open Go.RowKit
set_option maxRecDepth 100000

def csR (n : List UInt8) (x : UInt8) (j : Nat) : RR := ⟨[n], 1, 1, 0, ⟨[1, 2, x, UInt8.ofNat j], [], [], [], []⟩⟩
def csN1 : List UInt8 := [102, 105, 114, 115, 116]
def csN2 : List UInt8 := [115, 101, 99, 111, 110, 100]
def csL (n : List UInt8) (x : UInt8) (k : Nat) : List RR := (List.range k).map (csR n x)
def csX (l : List RR) : Ms := ⟨0, true, 0, false, false, false, false, 0, [], l, [], [], false, 0⟩
theorem csL_len (n : List UInt8) (x : UInt8) (k : Nat) : (csL n x k).length = k := by unfold csL; rw [List.length_map, List.length_range]
theorem csL_succ (n : List UInt8) (x : UInt8) (k : Nat) : csL n x (k + 1) = csL n x k ++ [csR n x k] := by unfold csL; rw [List.range_succ, List.map_append]; rfl
theorem csL_at {n : List UInt8} {x : UInt8} {k j : Nat} (h : j < k) : (csL n x k)[j]? = some (csR n x j) := by unfold csL; rw [List.getElem?_map, List.getElem?_range h]; rfl
theorem csN1_sound : SoundN [csN1] := soundB_iff.1 (by unfold soundB; simp [csN1, SoundN, sizeN])
theorem csN2_sound : SoundN [csN2] := soundB_iff.1 (by unfold soundB; simp [csN2, SoundN, sizeN])
theorem csR_fine {n : List UInt8} (hn : SoundN [n]) (x : UInt8) (j : Nat) : FineK (csR n x j) := by
  refine ⟨by show (1 : Int) ≠ 41; decide, hn, ⟨⟨by show (1 : Int) ≤ 1; decide, by show (1 : Int) ≤ 65535; decide⟩, ?_⟩, by show fitsB 1 2 = true; decide, by show (0 : Int) ≤ 0; decide, by show (0 : Int) < 2147483648; decide⟩
  show FineS shpA _
  exact ⟨fun _ => rfl, by show 4 ≤ 65535; decide, rfl, rfl, rfl, fun _ h => (List.not_mem_nil h).elim, rfl⟩
/-- A record of the two. -/
def csOk (r : RR) : Prop := ∃ j, r = csR csN1 3 j ∨ r = csR csN2 4 j
theorem csOk.fine {r : RR} (h : csOk r) : FineK r := by
  obtain ⟨j, rfl | rfl⟩ := h
  · exact csR_fine csN1_sound 3 j
  · exact csR_fine csN2_sound 4 j
def csA (a b : Nat) : List RR := csL csN1 3 a ++ csL csN2 4 b
theorem csA_len (a b : Nat) : (csA a b).length = a + b := by unfold csA; rw [List.length_append, csL_len, csL_len]
theorem csA_zero (a : Nat) : csA a 0 = csL csN1 3 a := List.append_nil _
theorem csA_succ (a b : Nat) : csA a (b + 1) = csA a b ++ [csR csN2 4 b] := by unfold csA; rw [csL_succ, List.append_assoc]
theorem csA_ok {a b : Nat} {r : RR} (h : r ∈ csA a b) : csOk r := by
  unfold csA csL at h
  rcases List.mem_append.1 h with h | h
  · obtain ⟨j, _, rfl⟩ := List.mem_map.1 h; exact ⟨j, .inl rfl⟩
  · obtain ⟨j, _, rfl⟩ := List.mem_map.1 h; exact ⟨j, .inr rfl⟩
theorem csX_fine {a b : Nat} (h : a + b ≤ 512) : FineM (csX (csA a b)) :=
  ⟨by show 0 + (csA a b).length + 0 + 0 ≤ 512; rw [csA_len]; omega, by show fitsB 0 2 = true; decide, Int.le_refl _, by show (0 : Int) < 16; decide, Int.le_refl _, by show (0 : Int) < 16; decide, by show fitsB 0 2 = true; decide, .inr rfl, fun _ h => (List.not_mem_nil h).elim, fun r hr => (csA_ok hr).fine, fun _ h => (List.not_mem_nil h).elim, fun _ h => (List.not_mem_nil h).elim⟩
theorem csX_bytes {l : List RR} (h : ∀ r ∈ l, csOk r) : bytesM (csX l) = 4 * l.length := by
  have h1 : bytesL l = 4 * l.length := by
    induction l with
    | nil => rfl
    | cons r l ih =>
      have h2 := ih (fun x hx => h x (List.mem_cons_of_mem _ hx))
      have h3 : bytesL (r :: l) = r.data.bytes.length + bytesL l := by
        rw [show r :: l = [r] ++ l from rfl, bytesL_append]
        rfl
      obtain ⟨j, e | e⟩ := h r (List.mem_cons_self ..) <;> rw [h3, h2, e, List.length_cons] <;> show 4 + _ = _ <;> omega
  show bytesL l + bytesL [] + bytesL [] = _
  rw [h1]
  rfl
theorem csX_lt {l : List RR} (h : ∀ r ∈ l, csOk r) (hl : l.length ≤ 1000000) : LtM (csX l) := by
  have hx : ∀ j, ∀ r ∈ secL (csX l) j, r ∈ l := fun j r hr => by
    match j, hr with
    | 0, hr => exact hr
    | 1, hr => cases hr
    | n + 2, hr => cases hr
  refine ⟨by show 0 ≤ _; omega, fun j => ?_, (fun x hx => (by cases hx)), fun j r hr => ?_⟩
  · match j with
    | 0 => exact hl
    | 1 => show 0 ≤ _; omega
    | n + 2 => show 0 ≤ _; omega
  · have h1 := (h r (hx j r hr)).fine.2
    exact ⟨h1.lt9, by have := h1.small.2.2.2.2.2; omega⟩
/-- A message of a head and records alone: something of it is left at any size. -/
theorem cut_some {N : Int} (hN : 42 ≤ N) : ∀ (c : Nat) (m : Ms), cntM m = c → m.qs = [] → m.edns = false → ∃ x, cutT N m = some x := by
  intro c
  induction c using Nat.strongRecOn with
  | ind c ih =>
    intro m hc hq he
    by_cases hf : ((msW m).b.length : Int) ≤ N
    · exact ⟨m, cutT_fits hf⟩
    · cases hl : lessM m with
      | some m' =>
        rw [cutT_less hf hl]
        have hm : m'.qs = [] ∧ m'.edns = false := by
          unfold lessM at hl
          split at hl
          · injection hl with hl; rw [← hl]; exact ⟨hq, he⟩
          · split at hl
            · injection hl with hl; rw [← hl]; exact ⟨hq, he⟩
            · split at hl
              · cases hl
              · injection hl with hl; rw [← hl]; exact ⟨hq, he⟩
        exact ih (cntM m') (by rw [← hc]; exact lessM_cnt hl) m' rfl hm.1 hm.2
      | none =>
        exfalso
        unfold lessM at hl
        split at hl
        · cases hl
        rename_i h1
        split at hl
        · cases hl
        rename_i h2
        split at hl
        · rename_i h3
          have ex : m.ex = [] := List.eq_nil_of_length_eq_zero (by omega)
          have au : m.au = [] := List.eq_nil_of_length_eq_zero (by omega)
          have an : m.an = [] := by
            rcases Nat.eq_zero_or_pos m.an.length with h | h
            · exact List.eq_nil_of_length_eq_zero h
            · rw [List.getElem?_eq_getElem (by omega)] at h3; cases h3
          have h4 := (head_bnd m 6).1
          rw [head_all] at h4
          have h5 : msW m = Wr.nil.nums2 (headN m) := by
            unfold msW Wr.opt
            rw [hq, an, au, ex, he]
            rfl
          rw [h5] at hf
          omega
        · cases hl
/-- All of the first name, or none; all of the other one, or none. -/
theorem cs_sets {a b : Nat} {x : Ms} {k j i : Nat} (h : Part (csX (csA a b)) x k j i) : (k = 0 ∨ k = a ∨ k = a + b) ∧ x.tc = decide (k < a + b) := by
  have hl := csA_len a b
  have hk : k ≤ a + b := by have := h.hk; rw [← hl]; exact this
  constructor
  · rcases h.bnd with h1 | h1 | h1
    · exact .inr (.inr (h1.trans hl))
    · exact .inl h1
    · by_cases h0 : k = 0
      · exact .inl h0
      by_cases he : k = a + b
      · exact .inr (.inr he)
      right; left
      have hat : ∀ p, p < a → (csA a b)[p]? = some (csR csN1 3 p) := fun p hp => by
        unfold csA; rw [List.getElem?_append_left (by rw [csL_len]; exact hp)]; exact csL_at hp
      have hbt : ∀ p, a ≤ p → p < a + b → (csA a b)[p]? = some (csR csN2 4 (p - a)) := fun p hp hq => by
        unfold csA; rw [List.getElem?_append_right (by rw [csL_len]; exact hp), csL_len]; exact csL_at (by omega)
      rcases Nat.lt_trichotomy k a with hlt | heq | hgt
      · have := h1 _ _ (hat k hlt) (hat (k - 1) (by omega))
        cases this
      · exact heq
      · have := h1 _ _ (hbt k (by omega) (by omega)) (hbt (k - 1) (by omega) (by omega))
        cases this
  · rw [h.tc]
    have hj : j = 0 := by have := h.hj; exact Nat.le_zero.1 this
    show (false || !(decide (k = (csA a b).length) && decide (j = 0))) = _
    rw [hl, hj]
    by_cases he : k = a + b
    · simp [he]
    · have : k < a + b := by omega
      simp [he, this]
end Go.Proofs.Ytmkfjddighabcaa

/- CutSets: the law's walk. -/
namespace Go.Proofs.Ytmkfjddighabcaa
open Go.RowKit
set_option maxRecDepth 100000
set_option linter.unusedVariables false

theorem ownB_bltS {w : World} {B : Nat} {A : Option Addr} {n c : Nat} {bs : List UInt8} (h : OwnB w B (.slice A n c) bs) : ∀ b off, A = some ⟨b, off, none⟩ → b < w.heap.size := by
  intro b off e
  subst e
  have hl := World.ownsRow.lt h
  rcases h.2 with ⟨e0, _⟩ | ⟨g, cap, cur, e0, h3, _⟩
  · injection e0 with e0
    cases e0
  · injection e0 with e0
    injection e0 with e0
    injection e0 with e0
    subst e0
    exact (hl _ rfl).2
/-- The message while its records are appended. -/
structure CsSt (w wr : World) (q : Nat) (A : Option Addr) (c : Nat) (L : List RR) : Prop where
  R : MRow wr q ⟨none, 0, A, c, none, 0, none, 0⟩ (csX L)
  O : NewE encRR 44 (q + 1) wr (.slice A L.length c) L
  bw : Below w.heap.size w wr
  ge : w.heap.size ≤ q
theorem CsSt.cells {w wr : World} {q : Nat} {A : Option Addr} {c : Nat} {L : List RR} (h : CsSt w wr q A c L) {n : Nat} (hn : L.length = n) : wr.cell? ⟨q, 9, none⟩ = some (.slice A n c) ∧ wr.frozen? ⟨q, 9, none⟩ = false := by
  subst hn
  exact ⟨(h.R.cell 9).trans rfl, h.R.free 9⟩
theorem CsSt.push {w wr w3 w5 : World} {q : Nat} {A A5 : Option Addr} {c c5 : Nat} {L : List RR} {r : RR} {S S' : Nat → Prop} (h : CsSt w wr q A c L) (hb3 : Below wr.heap.size wr w3) (ho : OwnE encRR 44 S w3 (q + 1) (.slice A L.length c) L) (hS : ∀ b, S b → q + 1 ≤ b) (hS' : ∀ b, S' b → q + 1 ≤ b) (hown5 : OwnE encRR 44 (orS S S') w5 (q + 1) (.slice A5 (L.length + 1) c5) (L ++ [r])) (hg5 : w3.grownBy w5 (Value.slice A L.length c).ownBlock) :
    CsSt w (w5.setCell ⟨q, 9, none⟩ (.slice A5 (L.length + 1) c5)) q A5 c5 (L ++ [r]) := by
  have hch : Chg (fun z => (Value.slice A L.length c).ownBlock = some z) w3 w5 := (Chg.refl _ _).grown hg5 (fun k hk => .inl hk)
  have hlt := ho.lt
  have hR5 : MRow w5 q ⟨none, 0, A, c, none, 0, none, 0⟩ (csX L) := hch.heap (h.R.below hb3) (fun e1 => by have := (hlt q e1).1; omega)
  have hcu : Chg (fun z => z = q) w5 (w5.setCell ⟨q, 9, none⟩ (.slice A5 (L.length + 1) c5)) := chg_g1 _ _ _ _
  have hS5 : ∀ b, orS S S' b → q + 1 ≤ b := fun b hb => hb.elim (hS b) (hS' b)
  have hb3' := nx h.bw hb3
  refine ⟨hR5.put 9 _ _ _ ?_, ⟨orS S S', ?_, hS5⟩, ?_, h.ge⟩
  · show (mCells _ (csX L)).setIfInBounds 9 _ = mCells _ (csX (L ++ [r]))
    unfold mCells csX
    simp only [List.length_append, List.length_singleton]
    rfl
  · rw [List.length_append, List.length_singleton]
    exact hown5.chg hcu (fun z hz e1 => by have := (hown5.lt z hz).1; omega) (fun z hz e1 => by have := hS5 z hz; omega)
  · have h1 := h.ge
    exact (hb3'.trans (hch.below (fun z hz => by have := (hlt z hz).1; omega) hb3'.size)).trans (hcu.below (fun z hz => by omega) (Nat.le_trans hb3'.size hch.size))
theorem csM_in {w wr : World} {q : Nat} {A : Option Addr} {c : Nat} {L : List RR} (h : CsSt w wr q A c L) : MIn (geS (q + 1) wr) wr ⟨none, 0, A, c, none, 0, none, 0⟩ (csX L) := by
  obtain ⟨A', c', hv, hel, h1, h2⟩ := h.O.rd
  injection hv with e1 e2 e3
  subst e1 e3
  have l : (0 : Nat) ≤ 0 ∧ 0 ≤ maxLen := ⟨Nat.le_refl _, Nat.zero_le _⟩
  have z : i64S 0 := ⟨by omega, by omega⟩
  exact ⟨Els.nil _ _ _ _ _, hel, Els.nil _ _ _ _ _, Els.nil _ _ _ _ _, l, ⟨h1, h2⟩, l, l, z, z, z, z⟩
/-- The two rows that a record leads to. -/
theorem cs_rows (wr : World) (n : List UInt8) (x : UInt8) (j : Nat) (hn : n.length ≤ maxLen) (hj : j < 256) :
    let w3 := (wr.alloc (.cells #[.string (bstr n)] 9)).alloc (.cells #[.int .u8 1, .int .u8 2, .int .u8 (x.toNat : Int), .int .u8 (j : Int)] 5)
    Below wr.heap.size wr w3 ∧ encRR.R (fun b => wr.heap.size ≤ b ∧ b < w3.heap.size) w3 [.slice (some ⟨wr.heap.size, 0, none⟩) 1 1, .int .i64 1, .int .i64 1, .int .i64 0, .slice (some ⟨wr.heap.size + 1, 0, none⟩) 4 4, .slice none 0 0, .slice none 0 0, .slice none 0 0, .slice none 0 0] (csR n x j) := by
  intro w3
  obtain ⟨w2, hw2⟩ : ∃ w2, w2 = wr.alloc (.cells #[.string (bstr n)] 9) := ⟨_, rfl⟩
  have hz2 : w2.heap.size = wr.heap.size + 1 := by rw [hw2]; simp
  have hb2 : Below wr.heap.size wr w2 := by rw [hw2]; exact bl.alloc (Nat.le_refl _) _
  have hw3 : w3 = w2.alloc (.cells #[.int .u8 1, .int .u8 2, .int .u8 (x.toNat : Int), .int .u8 (j : Int)] 5) := by rw [hw2]
  have hb3 : Below w2.heap.size w2 w3 := by rw [hw3]; exact bl.alloc (Nat.le_refl _) _
  have hz3 : w3.heap.size = wr.heap.size + 2 := by rw [hw3]; simp; omega
  have hc2 : w3.cell? ⟨wr.heap.size, 0, none⟩ = some (.string (bstr n)) := by
    have h : w2.cell? ⟨wr.heap.size, 0, none⟩ = some (.string (bstr n)) := by rw [hw2]; exact (new_cell wr _ _ 0).trans rfl
    exact below_cell hb3 h
  have hlit : RdB w3 (some ⟨wr.heap.size + 1, 0, none⟩) 4 [1, 2, x, UInt8.ofNat j] := by
    have h := lit_rd w2 [1, 2, x, UInt8.ofNat j] (by show 4 ≤ maxLen; decide)
    rw [hz2] at h
    have e : (([1, 2, x, UInt8.ofNat j] : List UInt8).map bV).toArray = #[.int .u8 1, .int .u8 2, .int .u8 (x.toNat : Int), .int .u8 (j : Int)] := by
      have hm : (UInt8.ofNat j).toNat = j := by rw [UInt8.toNat_ofNat']; omega
      simp [bV, hm]
    rw [e, ← hw3] at h
    exact h
  have l : (0 : Nat) ≤ 0 ∧ 0 ≤ maxLen := ⟨Nat.le_refl _, Nat.zero_le _⟩
  refine ⟨nx hb2 hb3, ⟨⟨some ⟨wr.heap.size, 0, none⟩, 1, ⟨some ⟨wr.heap.size + 1, 0, none⟩, none, none, none, none, 4, 0, 0, 0, 0⟩⟩, rfl, ⟨?_, ⟨Nat.le_refl _, show (1 : Nat) ≤ maxLen by decide⟩, ⟨?_, Els.nil _ _ _ _ _, Els.nil _ _ _ _ _, Els.nil _ _ _ _ _, Els.nil _ _ _ _ _, ⟨Nat.le_refl _, show (4 : Nat) ≤ maxLen by decide⟩, l, l, l, l⟩, ?_, ?_, ?_⟩⟩⟩
  · refine ⟨rfl, fun _ => ⟨wr.heap.size, 0, rfl, ⟨Nat.le_refl _, by rw [hz3]; omega⟩, fun i y hy => ?_⟩⟩
    match i, hy with
    | 0, hy =>
      injection hy with hy
      subst hy
      refine ⟨[.string (bstr n)], ⟨rfl, hn⟩, fun k u hu => ?_⟩
      match k, hu with
      | 0, hu =>
        injection hu with hu
        subst hu
        exact hc2
  · refine ⟨rfl, fun _ => ⟨wr.heap.size + 1, 0, rfl, ⟨Nat.le_succ _, by rw [hz3]; omega⟩, fun i y hy => ?_⟩⟩
    have hy' : ([1, 2, x, UInt8.ofNat j] : List UInt8)[i]? = some y := hy
    obtain ⟨b, off, e, hr⟩ := hlit.2 (by show 0 < 4; omega)
    injection e with e
    injection e with e1 e2
    subst e1 e2
    refine ⟨[.int .u8 (y.toNat : Int)], ⟨rfl, trivial⟩, fun k u hu => ?_⟩
    match k, hu with
    | 0, hu =>
      injection hu with hu
      subst hu
      have := hr i _ (by rw [List.getElem?_map, hy']; rfl)
      rw [show 0 + (i * encB.size + 0) = 0 + i from by show 0 + (i * 1 + 0) = 0 + i; omega]
      exact this
  · exact ⟨by show (-9223372036854775808 : Int) ≤ 1; omega, by show (1 : Int) ≤ 9223372036854775807; omega⟩
  · exact ⟨by show (-9223372036854775808 : Int) ≤ 1; omega, by show (1 : Int) ≤ 9223372036854775807; omega⟩
  · exact ⟨by show (-9223372036854775808 : Int) ≤ 0; omega, by show (0 : Int) ≤ 9223372036854775807; omega⟩

set_option maxHeartbeats 16000000 in
theorem cutSets_walk (a b s : Nat) (w : World) (ha : a < 256) (hb : b < 256) (hs : s < 65536) :
    Calls Try.prog 12 #[.int .u8 (a : Int), .int .u8 (b : Int), .int .u16 (s : Int)] w (LawT w) := by
  obtain ⟨na, hna⟩ : ∃ n, n = a % 120 := ⟨_, rfl⟩
  obtain ⟨nb, hnb⟩ : ∃ n, n = b % 120 := ⟨_, rfl⟩
  obtain ⟨N, hN⟩ : ∃ n, n = 512 + s % 3000 := ⟨_, rfl⟩
  have hN1 : (512 : Int) + (s : Int) % 3000 = (N : Int) := by omega
  have hN2 : (512 : Int) + Int.tmod (s : Int) 3000 = (N : Int) := by rw [show Int.tmod (s : Int) 3000 = ((s % 3000 : Nat) : Int) from rfl]; omega
  have ha1 : (a : Int) % 120 = (na : Int) := by omega
  have hb1 : (b : Int) % 120 = (nb : Int) := by omega
  have ha2 : Int.tmod (a : Int) 120 = (na : Int) := by rw [show Int.tmod (a : Int) 120 = ((a % 120 : Nat) : Int) from rfl]; omega
  have hb2 : Int.tmod (b : Int) 120 = (nb : Int) := by rw [show Int.tmod (b : Int) 120 = ((b % 120 : Nat) : Int) from rfl]; omega
  have hA : na < 120 ∧ nb < 120 := by omega
  have hwa : wrap64 (a : Int) = (a : Int) := by unfold wrap64; omega
  have hwb : wrap64 (b : Int) = (b : Int) := by unfold wrap64; omega
  have HNB : Hid (512 ≤ N ∧ N ≤ 3511) := by have h1 : 512 ≤ N ∧ N ≤ 3511 := by omega
                                            exact h1
  obtain ⟨w1, hw1⟩ : ∃ w1, w1 = w.alloc (.cells (mCells MS.nil (csX [])) 25) := ⟨_, rfl⟩
  have HST1 : Hid (CsSt w w1 w.heap.size none 0 []) := by
    show CsSt _ _ _ _ _ _
    refine ⟨by rw [hw1]; exact MRow.made w _ _, NewE.nil _ _ _ _, by rw [hw1]; exact bl.alloc (Nat.le_refl _) _, Nat.le_refl _⟩
  unfold mCells at hw1
  simp only [MS.nil, csX, List.length_nil] at hw1
  have HAB : Hid (na < 120 ∧ nb < 120) := hA
  have hNi : (N : Int) ≤ 3511 := by omega
  clear hna hnb hN hA
  go_enter Try.func12, Try.ntmps12
  go_upto_region 4 with (fail)
  rw [← hw1]
  clear hw1 hN1 hN2 hNi hs
  have HQS : Hid (w.heap.size < w1.heap.size) := HST1.out.R.lt
  generalize hq : w.heap.size = q at HST1 ⊢
  have HQ := Lib.hid hq
  clear hq
  go_wp2
  go_loopw [9] (fun i wr => ∃ (j : Nat) (A : Option Addr) (c : Nat), i = .int .i64 (j : Int) ∧ j ≤ na ∧ Hid (CsSt w wr q A c (csL csN1 3 j))) (fun i _ => na - (intOf i).toNat)
  case atStart => exact ⟨0, none, 0, rfl, Nat.zero_le _, HST1⟩
  case round =>
    obtain ⟨j, A, c, rfl, hj, HST⟩ := hrel
    by_cases hlt : j < na
    · have hln : (csL csN1 3 j).length = j := csL_len _ _ _
      obtain ⟨e9, f9⟩ := HST.out.cells hln
      obtain ⟨S, hown, hS⟩ := HST.out.O
      rw [hln] at hown
      have HS : Hid (∀ b, S b → q + 1 ≤ b) := hS
      have hqs : q + 1 ≤ wr.heap.size := HST.out.R.lt
      obtain ⟨w3, hw3⟩ : ∃ w3, w3 = (wr.alloc (.cells #[.string ⟨#[102, 105, 114, 115, 116]⟩] 9)).alloc (.cells #[.int .u8 1, .int .u8 2, .int .u8 3, .int .u8 (j : Int)] 5) := ⟨_, rfl⟩
      obtain ⟨hb3, hrow⟩ := cs_rows wr csN1 3 j (by decide) (by have := HAB.out; omega)
      have hw3' : (wr.alloc (.cells #[.string (bstr csN1)] 9)).alloc (.cells #[.int .u8 1, .int .u8 2, .int .u8 ((3 : UInt8).toNat : Int), .int .u8 (j : Int)] 5) = w3 := by rw [hw3]; rfl
      rw [hw3'] at hb3 hrow
      have hown3 := hown.below hb3
      have hwr : IntKind.u8.wrap (j : Int) = (j : Int) := by rw [IntKind.wrap_u8]; have := HAB.out; omega
      have hlti : (j : Int) < (na : Int) := by omega
      have hltd : decide ((j : Int) < (na : Int)) = true := decide_eq_true hlti
      have HOL := Lib.hid hown.lt
      have HWS := Lib.hid hqs
      have HB3 := Lib.hid hb3
      have HL3 := Lib.hid hown3.lt
      have HZ3 : Hid (wr.heap.size + 1 + 1 = w3.heap.size) := by show _ = _; rw [hw3]; simp
      clear hS hw3' hqs
      go_wp2_with (first
        | ((with_reducible show wpList _ _ _ (⟨some 38, _, _, _, _, _⟩ :: _) _ _); rw [← hw3]; refine wpL_pushE elRR rfl (.tmp 30) (.tmp 37) rfl (q + 1) _ (csL csN1 3 j) rfl hown3 _ (csR csN1 3 j) hrow ?hS rfl ?hb ?hl ?hbase ?_ HZ3.out; rotate_right; intro v5 w5 hown5 hg5 hat5; have hch5 : Chg (fun z => (Value.slice A j c).ownBlock = some z) w3 w5 := (Chg.refl _ _).grown hg5 (fun k hk => .inl hk); have y9 := hch5.cell (below_cell HB3.out e9) (fun e1 => by have h1 : q + 1 ≤ q := (HL3.out _ e1).1; omega); have g9 : w5.frozen? ⟨q, 9, none⟩ = false := frozen_of_row _ _ _ _ _ (hch5.heap (HST.out.R.below HB3.out) (fun e1 => by have h1 : q + 1 ≤ q := (HL3.out _ e1).1; omega)); obtain ⟨A5, c5, hv5, -⟩ := hown5.form; rw [List.length_append, hln, List.length_singleton] at hv5; subst hv5)
        | fail)
      · have HN := Lib.hid (CsSt.push HST.out HB3.out (by rw [hln]; exact hown3) HS.out (S' := fun b => wr.heap.size ≤ b ∧ b < w3.heap.size) (fun b hb => Nat.le_trans HWS.out hb.1) (r := csR csN1 3 j) (A5 := A5) (c5 := c5) (by rw [hln]; exact hown5) (by rw [hln]; exact hg5))
        rw [hln, ← csL_succ] at HN
        clear hown5 hg5 hat5 y9 g9 hch5 e9 f9 hown hrow hown3 hwr hwa hwb ha1 ha2 hb1 hb2
        go_roundw
        case rel => exact ⟨j + 1, A5, c5, by go_num, by omega, HN.out⟩
        case measure => simp [intOf]; omega
      case hS => exact fun b hb => ⟨hb.2, fun e => by have h1 := (HOL.out b e.symm).2; have h2 := hb.1; omega⟩
      case hb => rw [hln]; have := HAB.out; omega
      case hl => rw [hln]; have := HAB.out; unfold maxLen; omega
      case hbase => exact Nat.le_trans HWS.out HB3.out.size
    · obtain rfl : na = j := by omega
      have HST2 : Hid (CsSt w wr q A c (csA na 0)) := by show CsSt _ _ _ _ _ _; rw [csA_zero]; exact HST.out
      obtain ⟨e9, f9⟩ := HST2.out.cells (show (csA na 0).length = na by rw [csA_len]; rfl)
      have hnlt : ¬ (na : Int) < (na : Int) := by omega
      clear hj hlt HST HST1
      go_upto_region 9 with (fail)
      clear e9 f9 hnlt
      go_wp2
      go_loopw [11] (fun i wr => ∃ (j : Nat) (A : Option Addr) (c : Nat), i = .int .i64 (j : Int) ∧ j ≤ nb ∧ Hid (CsSt w wr q A c (csA na j))) (fun i _ => nb - (intOf i).toNat)
      case atStart => exact ⟨0, A, c, rfl, Nat.zero_le _, HST2⟩
      case round =>
        clear HST2
        obtain ⟨j, A, c, rfl, hj, HST⟩ := hrel
        by_cases hlt : j < nb
        · obtain ⟨n2, hn2⟩ : ∃ n2, n2 = na + j := ⟨_, rfl⟩
          have hln : (csA na j).length = n2 := by rw [csA_len, hn2]
          have hn2b : n2 < 240 := by have := HAB.out; omega
          obtain ⟨e9, f9⟩ := HST.out.cells hln
          obtain ⟨S, hown, hS⟩ := HST.out.O
          rw [hln] at hown
          have HS : Hid (∀ b, S b → q + 1 ≤ b) := hS
          have hqs : q + 1 ≤ wr.heap.size := HST.out.R.lt
          obtain ⟨w3, hw3⟩ : ∃ w3, w3 = (wr.alloc (.cells #[.string ⟨#[115, 101, 99, 111, 110, 100]⟩] 9)).alloc (.cells #[.int .u8 1, .int .u8 2, .int .u8 4, .int .u8 (j : Int)] 5) := ⟨_, rfl⟩
          obtain ⟨hb3, hrow⟩ := cs_rows wr csN2 4 j (by decide) (by have := HAB.out; omega)
          have hw3' : (wr.alloc (.cells #[.string (bstr csN2)] 9)).alloc (.cells #[.int .u8 1, .int .u8 2, .int .u8 ((4 : UInt8).toNat : Int), .int .u8 (j : Int)] 5) = w3 := by rw [hw3]; rfl
          rw [hw3'] at hb3 hrow
          have hown3 := hown.below hb3
          have hwr : IntKind.u8.wrap (j : Int) = (j : Int) := by rw [IntKind.wrap_u8]; have := HAB.out; omega
          have hlti : (j : Int) < (nb : Int) := by omega
          have hltd : decide ((j : Int) < (nb : Int)) = true := decide_eq_true hlti
          have HOL := Lib.hid hown.lt
          have HWS := Lib.hid hqs
          have HB3 := Lib.hid hb3
          have HL3 := Lib.hid hown3.lt
          have HZ3 : Hid (wr.heap.size + 1 + 1 = w3.heap.size) := by show _ = _; rw [hw3]; simp
          clear hS hw3' hqs hn2
          go_wp2_with (first
            | ((with_reducible show wpList _ _ _ (⟨some 59, _, _, _, _, _⟩ :: _) _ _); rw [← hw3]; refine wpL_pushE elRR rfl (.tmp 51) (.tmp 58) rfl (q + 1) _ (csA na j) rfl hown3 _ (csR csN2 4 j) hrow ?hS rfl ?hb ?hl ?hbase ?_ HZ3.out; rotate_right; intro v5 w5 hown5 hg5 hat5; have hch5 : Chg (fun z => (Value.slice A n2 c).ownBlock = some z) w3 w5 := (Chg.refl _ _).grown hg5 (fun k hk => .inl hk); have y9 := hch5.cell (below_cell HB3.out e9) (fun e1 => by have h1 : q + 1 ≤ q := (HL3.out _ e1).1; omega); have g9 : w5.frozen? ⟨q, 9, none⟩ = false := frozen_of_row _ _ _ _ _ (hch5.heap (HST.out.R.below HB3.out) (fun e1 => by have h1 : q + 1 ≤ q := (HL3.out _ e1).1; omega)); obtain ⟨A5, c5, hv5, -⟩ := hown5.form; rw [List.length_append, hln, List.length_singleton] at hv5; subst hv5)
            | fail)
          · have HN := Lib.hid (CsSt.push HST.out HB3.out (by rw [hln]; exact hown3) HS.out (S' := fun b => wr.heap.size ≤ b ∧ b < w3.heap.size) (fun b hb => Nat.le_trans HWS.out hb.1) (r := csR csN2 4 j) (A5 := A5) (c5 := c5) (by rw [hln]; exact hown5) (by rw [hln]; exact hg5))
            rw [hln, ← csA_succ] at HN
            clear hown5 hg5 hat5 y9 g9 hch5 e9 f9 hown hrow hown3 hwr hwa hwb ha1 ha2 hb1 hb2
            go_roundw
            case rel => exact ⟨j + 1, A5, c5, by go_num, by omega, HN.out⟩
            case measure => simp [intOf]; omega
          case hS => exact fun b hb => ⟨hb.2, fun e => by have h1 := (HOL.out b e.symm).2; have h2 := hb.1; omega⟩
          case hb => rw [hln]; omega
          case hl => rw [hln]; unfold maxLen; omega
          case hbase => exact Nat.le_trans HWS.out HB3.out.size
        · obtain rfl : nb = j := by omega
          have hab := HAB.out
          obtain ⟨t, ht⟩ : ∃ t, t = na + nb := ⟨_, rfl⟩
          have hlen : (csA na nb).length = t := by rw [csA_len, ht]
          have hL : LtM (csX (csA na nb)) := csX_lt (fun r hr => csA_ok hr) (by rw [hlen]; omega)
          have hB : bytesM (csX (csA na nb)) ≤ 200000 := by rw [csX_bytes (fun r hr => csA_ok hr), hlen]; omega
          have hfit := cutFit_any _ (csX (csA na nb)) (N : Int) wr (csM_in HST.out) (fun b hb => hb.2) hL hB
          have hfine := csX_fine (a := na) (b := nb) (by omega)
          have hTN := fitP_T hfine (show (512 : Int) ≤ (N : Int) by have := HNB.out; omega) (show (N : Int) ≤ 65535 by have := HNB.out; omega)
          obtain ⟨x, hx⟩ := cut_some (N := (N : Int)) (by have := HNB.out; omega) _ (csX (csA na nb)) rfl rfl rfl
          rw [hx] at hTN
          dsimp only at hTN
          have hxl := (cutT_part (Part.whole _) hx).2
          obtain ⟨k, j, i, hp, -, -, -, -⟩ := (cutT_part (Part.whole _) hx).1
          obtain ⟨hk3, htc⟩ := cs_sets hp
          rw [← ht] at hk3 htc
          have pa : x.an.length = k := hp.lens.1
          have hfx := (cutT_fine hfine hx).1
          rw [hTN] at hfit
          obtain ⟨X, hX⟩ : ∃ X, X = (msW x).b := ⟨_, rfl⟩
          have hdx := decode_back hfx (by have := HNB.out; omega)
          rw [← hX] at hfit hdx hxl
          have HDX := Lib.hid (decV_ok hdx)
          obtain ⟨n, hn⟩ : ∃ n, n = X.length := ⟨_, rfl⟩
          rw [← hn] at hxl
          have HN := Lib.hid hn
          have hR := HST.out.R
          have HCQ : Hid (∀ u, Below wr.heap.size wr u → u.cell? ⟨q, 9, none⟩ = some (.slice A t c)) := fun u hu => by have h := (hR.below hu).cell 9; exact h.trans (by rw [← hlen]; rfl)
          have HF : Hid (Calls Try.prog 31 #[.agg #[.int .i64 0, .bool true, .int .i64 0, .bool false, .bool false, .bool false, .bool false, .int .i64 0, .slice none 0 0, .slice A t c, .slice none 0 0, .slice none 0 0, .bool false, .int .i64 0], .int .i64 (N : Int)] wr (RetP (fun v w' => ∃ bv, v = .tuple #[bv, .int .i64 0] ∧ OwnB w' wr.heap.size bv X) wr)) := by
            show Calls _ _ _ _ _
            rw [← hlen]
            exact hfit
          obtain ⟨c0, c1, c2, c3, c4, c5, c6, c7, c8, -, c10, c11, c12, c13⟩ := hR.cells
          have c9 : wr.cell? ⟨q, 9, none⟩ = some (.slice A t c) := HCQ.out wr bl
          have d0 : wr.cell? ⟨q, 0, none⟩ = some (.int .i64 0) := c0
          have d1 : wr.cell? ⟨q, 1, none⟩ = some (.bool true) := c1
          have d2 : wr.cell? ⟨q, 2, none⟩ = some (.int .i64 0) := c2
          have d3 : wr.cell? ⟨q, 3, none⟩ = some (.bool false) := c3
          have d4 : wr.cell? ⟨q, 4, none⟩ = some (.bool false) := c4
          have d5 : wr.cell? ⟨q, 5, none⟩ = some (.bool false) := c5
          have d6 : wr.cell? ⟨q, 6, none⟩ = some (.bool false) := c6
          have d7 : wr.cell? ⟨q, 7, none⟩ = some (.int .i64 0) := c7
          have d8 : wr.cell? ⟨q, 8, none⟩ = some (.slice none 0 0) := c8
          have d10 : wr.cell? ⟨q, 10, none⟩ = some (.slice none 0 0) := c10
          have d11 : wr.cell? ⟨q, 11, none⟩ = some (.slice none 0 0) := c11
          have d12 : wr.cell? ⟨q, 12, none⟩ = some (.bool false) := c12
          have d13 : wr.cell? ⟨q, 13, none⟩ = some (.int .i64 0) := c13
          have HBWR := Lib.hid HST.out.bw
          have HK3 := Lib.hid hk3
          have HTC := Lib.hid htc
          have HPA := Lib.hid pa
          have hnN : (n : Int) ≤ (N : Int) := hxl
          have HNN : Hid (n ≤ 4000) := by show n ≤ 4000; have := HNB.out; omega
          clear c0 c1 c2 c3 c4 c5 c6 c7 c8 c10 c11 c12 c13 hR hxl hn hdx hX hTN hfx pa hp hk3 htc hx hfine hfit hB hL hlen hab HST hj hlt
          have HTT := Lib.hid ht
          clear ht
          have hnlt : ¬ (nb : Int) < (nb : Int) := by omega
          go_upto_region 12 with (fail)
          clear ha1 ha2 hb1 hb2 hwa hwb hnlt
          go_upto_region 13 with (first
            | (go_at_call 31; refine HF.out.mono ?_; rintro e w6 ⟨v6, rfl, ⟨bv6, rfl, ho6⟩, hb6⟩; obtain ⟨A6, c6, hv6, -, hl6, hm6⟩ := OwnB.form ho6; rw [← HN.out] at hv6 hl6; subst hv6; have HRX : Hid (RdB w6 A6 n X) := (by show RdB _ _ _ _; rw [HN.out]; exact (OwnB.rd (by rw [HN.out] at ho6; exact ho6)).1); have HLX := Lib.hid (ownB_bltS ho6); have HC6 := Lib.hid (And.intro hl6 hm6); have HB6 := Lib.hid hb6; clear ho6 hl6 hm6 hb6)
            | fail)
          clear c9 d0 d1 d2 d3 d4 d5 d6 d7 d8 d10 d11 d12 d13 HF
          go_upto_region 14 with (first
            | (go_at_call 19; refine (decode_any w6 A6 n c6 X HRX.out HLX.out HC6.out.1 HC6.out.2 (by have := HNN.out; omega)).mono ?_; unfold goodV; rw [HDX.out]; rintro e w8 ⟨v8, rfl, ⟨s8, rfl, hm8⟩, hb8⟩; unfold msV mCells; have HB8 := Lib.hid (nx HB6.out hb8); clear hm8 hb8)
            | fail)
          obtain ⟨w9, hw9⟩ : ∃ u, u = w8.alloc (.cells (mCells s8 x) 25) := ⟨_, rfl⟩
          have HR9 : Hid (MRow w9 w8.heap.size s8 x) := by show MRow _ _ _ _; rw [hw9]; exact MRow.made w8 s8 x
          have HB9 : Hid (Below wr.heap.size wr w9) := by show Below _ _ _; rw [hw9]; exact nx HB8.out (bl.alloc (Nat.le_refl _) _)
          unfold mCells at hw9
          rw [← hw9]
          clear hw9 HDX HRX HLX HC6
          generalize w8.heap.size = q9 at HR9 ⊢
          have HCS : Hid (∀ u, Below w9.heap.size w9 u → u.cell? ⟨q9, 9, none⟩ = some (.slice s8.A k s8.ac) ∧ u.cell? ⟨q9, 4, none⟩ = some (.bool (decide (k < t))) ∧ u.cell? ⟨q, 9, none⟩ = some (.slice A t c)) := fun u hu => by
            have h1 := (HR9.out.below hu).cell 9
            have h2 := (HR9.out.below hu).cell 4
            refine ⟨h1.trans (by rw [← HPA.out]; rfl), h2.trans (by rw [← HTC.out]; rfl), HCQ.out u (nx HB9.out hu)⟩
          obtain ⟨y9, y4, yq⟩ := HCS.out w9 bl
          go_upto_region 15 with (fail)
          clear y9 y4 yq
          have hnD : decide ((n : Int) ≤ (N : Int)) = true := decide_eq_true hnN
          have hnE : decide (n ≤ N) = true := decide_eq_true (by omega)
          obtain ⟨g, hg⟩ : ∃ g, g = decide (k < t) := ⟨_, rfl⟩
          have hgi : decide ((k : Int) < (t : Int)) = g := by rw [hg]; exact decide_eq_decide.2 (by omega)
          rw [← hg] at HCS
          have hgn : decide (k < t) = g := hg.symm
          clear hg hnN
          have HW := Lib.hid HQ.out
          by_cases hk0 : k = 0
          · have t0 : ((k : Int) == 0) = true := by rw [hk0]; rfl
            clear hk0
            cases g with
            | true =>
              go_wp2_with (first
                | (go_at_call 29; refine (answers07_any w9).mono ?_; rintro e1 w10 ⟨rfl, hb10⟩; have HB10 := Lib.hid (nx HB9.out hb10); obtain ⟨y9, y4, yq⟩ := HCS.out w10 hb10)
                | fail)
              go_ret
              exact ⟨rfl, nx HBWR.out HB10.out⟩
            | false =>
              go_wp2_with (first
                | (go_at_call 29; refine (answers07_any w9).mono ?_; rintro e1 w10 ⟨rfl, hb10⟩; have HB10 := Lib.hid (nx HB9.out hb10); obtain ⟨y9, y4, yq⟩ := HCS.out w10 hb10)
                | fail)
              go_ret
              exact ⟨rfl, nx HBWR.out HB10.out⟩
          · have t0 : ((k : Int) == 0) = false := by simp; omega
            by_cases hk1 : k = na
            · have t1 : ((k : Int) == (na : Int)) = true := by rw [hk1]; simp
              clear hk0 hk1
              cases g with
              | true =>
                go_wp2_with (first
                  | (go_at_call 29; refine (answers07_any w9).mono ?_; rintro e1 w10 ⟨rfl, hb10⟩; have HB10 := Lib.hid (nx HB9.out hb10); obtain ⟨y9, y4, yq⟩ := HCS.out w10 hb10)
                  | fail)
                go_ret
                exact ⟨rfl, nx HBWR.out HB10.out⟩
              | false =>
                go_wp2_with (first
                  | (go_at_call 29; refine (answers07_any w9).mono ?_; rintro e1 w10 ⟨rfl, hb10⟩; have HB10 := Lib.hid (nx HB9.out hb10); obtain ⟨y9, y4, yq⟩ := HCS.out w10 hb10)
                  | fail)
                go_ret
                exact ⟨rfl, nx HBWR.out HB10.out⟩
            · have hkt : k = t := by rcases HK3.out with h | h | h <;> omega
              have t1 : ((k : Int) == (na : Int)) = false := by simp; omega
              have t2 : ((k : Int) == (t : Int)) = true := by rw [hkt]; simp
              clear hk0 hk1 hkt
              cases g with
              | true =>
                go_wp2_with (first
                  | (go_at_call 29; refine (answers07_any w9).mono ?_; rintro e1 w10 ⟨rfl, hb10⟩; have HB10 := Lib.hid (nx HB9.out hb10); obtain ⟨y9, y4, yq⟩ := HCS.out w10 hb10)
                  | fail)
                go_ret
                exact ⟨rfl, nx HBWR.out HB10.out⟩
              | false =>
                go_wp2_with (first
                  | (go_at_call 29; refine (answers07_any w9).mono ?_; rintro e1 w10 ⟨rfl, hb10⟩; have HB10 := Lib.hid (nx HB9.out hb10); obtain ⟨y9, y4, yq⟩ := HCS.out w10 hb10)
                  | fail)
                go_ret
                exact ⟨rfl, nx HBWR.out HB10.out⟩
end Go.Proofs.Ytmkfjddighabcaa

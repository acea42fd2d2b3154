/- Parts of a proof, joined: Ans13, Light13. -/
import Derived.Test.YtimkdpkhdbiniaaZDF03
import Derived.Test.YtimkdpkhdbiniaaZDM02b
import Derived.Test.YtimkdpkhdbiniaaZDM03r
import Derived.Test.YtimkdpkhdbiniaaZDM12
import Derived.Test.YtimkdpkhdbiniaaZDM16
/- gazetteerlaw13.answers. -/
namespace Go.Proofs.Ytimkdpkhdbiniaa
open Go.RowKit
set_option maxRecDepth 100000
set_option linter.unusedVariables false

def daA : Da := ⟨[1, 2, 3, 4], [], [], [], []⟩
def faA : Fa := ⟨[], 1, 1, 1, 0, 0, [daA], [], Da.zero⟩
theorem daA_fine : fineB 1 daA = true := fineB_true ⟨⟨by decide, by decide⟩, ⟨fun _ => rfl, by show 4 ≤ 65535; decide, rfl, rfl, rfl, fun _ h => (List.not_mem_nil h).elim, rfl⟩⟩
theorem faA_fine : fineF faA = true := by
  have h1 : soundB [] = true := soundB_iff.2 ⟨fun _ h => (List.not_mem_nil h).elim, by show sizeN [] ≤ 255; decide⟩
  have h2 : oneP 1 [daA] 0 = true := by rw [oneP_at (d := daA) rfl, daA_fine]; rfl
  have h3 : distP 1 [daA] 1 = true := by show (distP 1 [daA] 0 && oneP 1 [daA] 0) = true; rw [h2]; rfl
  have h4 : fineH faA = true := by
    show (typedB 1 && decide (1 ≤ 1) && decide (1 ≤ 64) && distP 1 [daA] 1 && decide (0 = 0) && noneD Da.zero) = true
    rw [h3]
    rfl
  show (soundB [] && decide ((1 : Int) ≤ 1) && decide ((1 : Int) ≤ 4) && timeB 0 && decide ((0 : Int) ≤ 0) && decide ((0 : Int) ≤ 604800) && (if (1 : Int) = 1 then fineH faA else fineN faA)) = true
  rw [if_pos rfl, h4, h1]
  rfl
set_option maxHeartbeats 4000000 in
theorem answers13_any (w : World) : Calls Try.prog 30 #[] w (LawT w) := by
  obtain ⟨w1, hw1⟩ : ∃ w1, w1 = w.alloc (.cells #[.int .u8 1, .int .u8 2, .int .u8 3, .int .u8 4] 5) := ⟨_, rfl⟩
  obtain ⟨w2, hw2⟩ : ∃ w2, w2 = w1.alloc (.cells #[.slice (some ⟨w.heap.size, 0, none⟩) 4 4, .slice none 0 0, .slice none 0 0, .slice none 0 0, .slice none 0 0] 46) := ⟨_, rfl⟩
  have hb1 : Below w.heap.size w w1 := by rw [hw1]; exact bl.alloc (Nat.le_refl _) _
  have hb2 : Below w1.heap.size w1 w2 := by rw [hw2]; exact bl.alloc (Nat.le_refl _) _
  have hz1 : w1.heap.size = w.heap.size + 1 := by rw [hw1]; simp
  have hz2 : w2.heap.size = w.heap.size + 2 := by rw [hw2]; simp; omega
  have hlit : RdB w1 (some ⟨w.heap.size, 0, none⟩) 4 [1, 2, 3, 4] := by rw [hw1]; exact lit_rd w [1, 2, 3, 4] (Nat.le_of_ble_eq_true rfl)
  have l : (0 : Nat) ≤ 0 ∧ 0 ≤ maxLen := ⟨Nat.le_refl _, Nat.zero_le _⟩
  have hd : DIn (ltS w2) w2 ⟨some ⟨w.heap.size, 0, none⟩, none, none, none, none, 4, 0, 0, 0, 0⟩ daA := ⟨bytes_rdE (hlit.below hb2), Els.nil _ _ _ _ _, Els.nil _ _ _ _ _, Els.nil _ _ _ _ _, Els.nil _ _ _ _ _, ⟨Nat.le_refl _, show (4 : Nat) ≤ maxLen by decide⟩, l, l, l, l⟩
  have hl : Els encDa (ltS w2) (ltS w2) w2 (some ⟨w.heap.size + 1, 0, none⟩) 1 [daA] := by
    refine ⟨rfl, fun _ => ⟨w.heap.size + 1, 0, rfl, by show _ < _; omega, fun i x hx => ?_⟩⟩
    match i, hx with
    | 0, hx =>
      injection hx with hx
      subst hx
      refine ⟨(dCells ⟨some ⟨w.heap.size, 0, none⟩, none, none, none, none, 4, 0, 0, 0, 0⟩ daA).toList, ⟨_, rfl, hd⟩, fun j u hu => ?_⟩
      have := new_cell w1 #[.slice (some ⟨w.heap.size, 0, none⟩) 4 4, .slice none 0 0, .slice none 0 0, .slice none 0 0, .slice none 0 0] 46 j
      rw [← hw2, hz1] at this
      rw [Nat.zero_mul, Nat.zero_add, Nat.zero_add]
      rw [this]
      have h2 : ([.slice (some ⟨w.heap.size, 0, none⟩) 4 4, .slice none 0 0, .slice none 0 0, .slice none 0 0, .slice none 0 0] : List Value)[j]? = some u := hu
      simpa using h2
  have hi : ∀ n : Int, 0 ≤ n ∧ n ≤ 1 → i64S n := fun n h => ⟨by omega, by omega⟩
  have hin : FaIn (ltS w2) w2 ⟨none, 0, some ⟨w.heap.size + 1, 0, none⟩, 1, none, 0, ⟨none, none, none, none, none, 0, 0, 0, 0, 0⟩⟩ faA := ⟨Els.nil _ _ _ _ _, hl, Els.nil _ _ _ _ _, ⟨Els.nil _ _ _ _ _, Els.nil _ _ _ _ _, Els.nil _ _ _ _ _, Els.nil _ _ _ _ _, Els.nil _ _ _ _ _, l, l, l, l, l⟩, l, ⟨Nat.le_refl _, show (1 : Nat) ≤ maxLen by decide⟩, l, hi 1 (by decide), hi 1 (by decide), hi 1 (by decide), hi 0 (by decide), hi 0 (by decide)⟩
  have hlt : LtF faA := ⟨by decide, by decide, by decide, fun d hd => by rw [show d = daA from List.mem_singleton.1 hd]; decide, by decide⟩
  have hc := psoundF_any _ faA w2 hin (fun b hb => hb) hlt
  rw [faA_fine] at hc
  have HC : Hid (Calls Try.prog 59 #[.agg #[.slice none 0 0, .int .i64 1, .int .i64 1, .int .i64 1, .int .i64 0, .int .i64 0, .slice (some ⟨w.heap.size + 1, 0, none⟩) 1 1, .slice none 0 0, .slice none 0 0, .slice none 0 0, .slice none 0 0, .slice none 0 0, .slice none 0 0]] w2 (RetP (fun v _ => v = .bool true) w2)) := hc
  have HB := Lib.hid (nx hb1 hb2)
  have HW : Hid (w2 = (w.alloc (.cells #[.int .u8 1, .int .u8 2, .int .u8 3, .int .u8 4] 5)).alloc (.cells #[.slice (some ⟨w.heap.size, 0, none⟩) 4 4, .slice none 0 0, .slice none 0 0, .slice none 0 0, .slice none 0 0] 46)) := by show _ = _; rw [hw2, hw1]
  clear hb1 hb2 hz1 hz2 hlit hd hl hi hin hlt hc hw1 hw2
  go_enter Try.func30, Try.ntmps30
  go_wp2_with (first
    | (go_at_call 59; rw [← HW.out]; refine HC.out.mono ?_; rintro e w3 ⟨v3, rfl, rfl, hb3⟩)
    | fail)
  go_ret
  exact ⟨rfl, nx HB.out hb3⟩
end Go.Proofs.Ytimkdpkhdbiniaa

/- gazetteerlaw13.lightMsg: is a message not too large? -/
namespace Go.Proofs.Ytimkdpkhdbiniaa
open Go.RowKit
set_option maxRecDepth 100000

def Lt13 (r : RR) : Prop := r.name.length ≤ 200 ∧ r.data.bytes.length ≤ 3000 ∧ r.data.host.length ≤ 200 ∧ r.data.mail.length ≤ 200 ∧ r.data.texts.length ≤ 100 ∧ r.data.nums.length ≤ 100
structure LtMsg13 (m : Ms) : Prop where
  all : (m.an ++ m.au ++ m.ex).length ≤ 150
  qs : m.qs.length ≤ 50
  r : ∀ r ∈ m.an ++ m.au ++ m.ex, Lt13 r
open Classical in
noncomputable def ltM13 (m : Ms) : Bool := decide (LtMsg13 m)
open Classical in
theorem ltM13_yes {m : Ms} (h : LtMsg13 m) : ltM13 m = true := decide_eq_true h
open Classical in
theorem ltM13_no {m : Ms} (h : ¬ LtMsg13 m) : ltM13 m = false := decide_eq_false h

set_option maxHeartbeats 8000000 in
theorem light13_any (s : MS) (m : Ms) (w : World) {S : Nat → Prop} (h : MIn S w s m) (hS : ∀ b, S b → b < w.heap.size) (hq : m.qs.length ≤ 140737488355328) (hlen : (m.an.length + m.au.length + m.ex.length) * 168 ≤ 140737488355328) :
    Calls Try.prog 31 #[msV s m] w (RetP (fun v _ => v = .bool (ltM13 m)) w) := by
  obtain ⟨w1, hw1⟩ : ∃ w1, w1 = w.alloc (.cells (mCells s m) 31) := ⟨_, rfl⟩
  have hb1 : Below w.heap.size w w1 := by rw [hw1]; exact bl.alloc (Nat.le_refl _) _
  have HRW : Hid (MRow w1 w.heap.size s m) := by show MRow _ _ _ _; rw [hw1]; exact MRow.made w s m
  have HI := Lib.hid (h.below hb1 hS)
  have HSW : Hid (∀ b, S b → b < w1.heap.size) := fun b hb => Nat.lt_of_lt_of_le (hS b hb) hb1.size
  have HBW1 := Lib.hid hb1
  have HLEN := Lib.hid hlen
  unfold msV
  unfold mCells at hw1 ⊢
  clear h hS hb1 hlen
  go_enter Try.func31, Try.ntmps31
  go_upto_region 1 with (fail)
  rw [← hw1]
  clear hw1
  generalize w.heap.size = q at HRW ⊢
  have k0 : ∀ w', Below w1.heap.size w1 w' → w'.cell? ⟨q, 9, none⟩ = some (.slice s.A m.an.length s.ac) ∧ w'.cell? ⟨q, 10, none⟩ = some (.slice s.U m.au.length s.uc) ∧ w'.cell? ⟨q, 11, none⟩ = some (.slice s.X m.ex.length s.xc) := fun w' hb => ⟨((HRW.out.below hb).cell 9).trans rfl, ((HRW.out.below hb).cell 10).trans rfl, ((HRW.out.below hb).cell 11).trans rfl⟩
  have z0 := k0 w1 bl
  have z1 := k0 w1.drew bl.drew
  have z2 := k0 (w1.alloc (.cells #[] 84)) (bl.alloc (Nat.le_refl _) _)
  have z3 := k0 (w1.alloc (.cells #[] 84)).drew (bl.alloc (Nat.le_refl _) _).drew
  have KK := Lib.hid k0
  have hbase0 : w1.heap.size ≤ (w1.alloc (.cells #[] 84)).drew.heap.size := (bl.alloc (Nat.le_refl _) (.cells #[] 84)).drew.size
  have hown0 : OwnE encRR 84 noS (w1.alloc (.cells #[] 84)).drew w1.heap.size (.slice (some ⟨w1.heap.size, 0, none⟩) 0 0) [] := (ownE_lit0 (fun _ h => h.elim) (Nat.le_refl _)).below bl.drew
  have HBX : Hid (Below w1.heap.size w1 (w1.alloc (.cells #[] 84)).drew) := (bl.alloc (Nat.le_refl _) _).drew
  have hsS : ∀ (w' : World) (v : Value), Below w1.heap.size w1 w' → (∀ k, v.ownBlock = some k → w1.heap.size ≤ k) → ∀ b, S b → b < w'.heap.size ∧ some b ≠ v.ownBlock := fun w' v hb hv b hs => ⟨Nat.lt_of_lt_of_le (HSW.out b hs) hb.size, fun he => by have h1 := hv b he.symm; have h2 := HSW.out b hs; omega⟩
  have HSS := Lib.hid hsS
  have HHO := Lib.hid hown0
  have hA1 : (([] : List RR).length + m.an.length) * 168 ≤ 140737488355328 := by have := HLEN.out; simp; omega
  have hA2 : ([] ++ m.an).length * 168 + m.au.length * 168 ≤ 140737488355328 := by have := HLEN.out; simp; omega
  have hA3 : ([] ++ m.an ++ m.au).length * 168 + m.ex.length * 168 ≤ 140737488355328 := by have := HLEN.out; simp; omega
  have hM1 : ([] : List RR).length + m.an.length ≤ maxLen := by have := HLEN.out; simp [maxLen]; omega
  have hM2 : ([] ++ m.an).length + m.au.length ≤ maxLen := by have := HLEN.out; simp [maxLen]; omega
  have hM3 : ([] ++ m.an ++ m.au).length + m.ex.length ≤ maxLen := by have := HLEN.out; simp [maxLen]; omega
  have HA := Lib.hid (And.intro hA1 (And.intro hA2 hA3))
  have HM := Lib.hid (And.intro hM1 (And.intro hM2 hM3))
  clear k0 hsS hA1 hA2 hA3 hM1 hM2 hM3
  go_upto_region 1 with (fail)
  go_region_held3 (fun w' => w'.cell? ⟨q, 9, none⟩ = some (.slice s.A m.an.length s.ac) ∧ w'.cell? ⟨q, 10, none⟩ = some (.slice s.U m.au.length s.uc) ∧ w'.cell? ⟨q, 11, none⟩ = some (.slice s.X m.ex.length s.xc))
    (first | with_reducible exact z0 | with_reducible exact z1 | with_reducible exact z2 | with_reducible exact z3 | with_reducible exact z4 | with_reducible exact z5 | with_reducible exact z6 | fail)
    (first
      | (refine step_appE (w := u2) elRR (by rfl) (.tmp 12) (.tmp 14) (by rfl) w1.heap.size v2 ([] ++ m.an ++ m.au) (by rfl) hown2 s.X m.ex.length s.xc m.ex (HI.out.x.keep (fun b hb => HB2.out.block b (HSW.out b hb)) (fun b hb => HB2.out.block b (HSW.out b hb))) (HSS.out _ _ HB2.out (fun k hk => (OwnE.lt hown2 k hk).1)) (by rfl) (by have h := HA.out.2.2; rw [Nat.add_mul]; exact h) HM.out.2.2 (Nat.le_trans (Nat.le_refl _) HB2.out.size) ?_; intro v3 u3 hown3 hg3 hat3; have HB3 : Hid (Below w1.heap.size w1 u3) := (Below.grown HB2.out hg3 HB2.out.size (fun k hk => (OwnE.lt hown2 k hk).1)); have z6 := KK.out u3 HB3.out; clear hat3 hg3)
      | (refine step_appE (w := u1) elRR (by rfl) (.tmp 9) (.tmp 11) (by rfl) w1.heap.size v1 ([] ++ m.an) (by rfl) hown1 s.U m.au.length s.uc m.au (HI.out.u.keep (fun b hb => HB1.out.block b (HSW.out b hb)) (fun b hb => HB1.out.block b (HSW.out b hb))) (HSS.out _ _ HB1.out (fun k hk => (OwnE.lt hown1 k hk).1)) (by rfl) (by have h := HA.out.2.1; rw [Nat.add_mul]; exact h) HM.out.2.1 (Nat.le_trans (Nat.le_refl _) HB1.out.size) ?_; intro v2 u2 hown2 hg2 hat2; have HB2 : Hid (Below w1.heap.size w1 u2) := (Below.grown HB1.out hg2 HB1.out.size (fun k hk => (OwnE.lt hown1 k hk).1)); have z5 := KK.out u2 HB2.out; clear hat2 hg2)
      | (refine step_appE (w := (w1.alloc (.cells #[] 84)).drew) elRR (by rfl) (.tmp 6) (.tmp 8) (by rfl) w1.heap.size (.slice (some ⟨w1.heap.size, 0, none⟩) 0 0) ([]) (by rfl) HHO.out s.A m.an.length s.ac m.an (HI.out.a.keep (fun b hb => HBX.out.block b (HSW.out b hb)) (fun b hb => HBX.out.block b (HSW.out b hb))) (HSS.out _ _ HBX.out (fun k hk => (OwnE.lt HHO.out k hk).1)) (by rfl) HA.out.1 HM.out.1 (Nat.le_trans (Nat.le_refl _) HBX.out.size) ?_; intro v1 u1 hown1 hg1 hat1; have HB1 : Hid (Below w1.heap.size w1 u1) := (Below.grown HBX.out hg1 HBX.out.size (fun k hk => (OwnE.lt HHO.out k hk).1)); have z4 := KK.out u1 HB1.out; clear hat1 hg1)
      | fail)
  rw [List.nil_append] at hown3
  obtain ⟨A3, c3, hv3, hr3, _, _⟩ := OwnE.rdE hown3
  obtain ⟨n, hn⟩ : ∃ n, n = (m.an ++ m.au ++ m.ex).length := ⟨_, rfl⟩
  have HN := Lib.hid hn
  have hn2 : n * 168 ≤ 140737488355328 := by rw [hn, List.length_append, List.length_append]; exact HLEN.out
  rw [← hn] at hv3 hr3
  subst hv3
  have HR3 := Lib.hid hr3
  have HLT : Hid (∀ h : LtMsg13 m, ∀ r ∈ m.an ++ m.au ++ m.ex, Lt13 r) := fun h => h.r
  have HLA : Hid (LtMsg13 m → n ≤ 150) := fun h => by rw [hn]; exact h.all
  have HYES : Hid (n ≤ 150 → m.qs.length ≤ 50 → (∀ r ∈ m.an ++ m.au ++ m.ex, Lt13 r) → LtMsg13 m) := fun h1 h2 h3 => ⟨by rw [← hn]; exact h1, h2, h3⟩
  clear z0 z1 z2 z3 z4 z5 z6 hown0 hown1 hown2 hown3 hr3 hn HA HHO HSS HBX hbase0 HB1 HB2
  generalize m.an ++ m.au ++ m.ex = l at HN HR3 HLT HYES

  clear HLEN
  have HB0 := Lib.hid (nx HBW1.out HB3.out)
  have HR1 := Lib.hid (HRW.out.below HB3.out)
  go_upto_region 2 with (fail)
  go_wp2
  go_loopw [4] (fun iv wr => ∃ k : Nat, iv = .int .i64 k ∧ k ≤ n ∧ Hid (∀ r ∈ l.take k, Lt13 r) ∧ Hid (Below u3.heap.size u3 wr)) (fun iv _ => n - (intOf iv).toNat)
  case atStart => exact ⟨0, rfl, Nat.zero_le _, fun r hr => by simp at hr, bl⟩
  case round =>
    obtain ⟨k, rfl, hk, HF, HBR⟩ := hrel
    by_cases hlt : k < n
    · obtain ⟨r, hr⟩ : ∃ r, l[k]? = some r := ⟨_, List.getElem?_eq_getElem (by rw [← HN.out]; exact hlt)⟩
      have HX := Lib.hid hr
      have HMEM := Lib.hid (List.mem_of_getElem? hr)
      obtain ⟨b, off, t, hA, hb0, hri, hrc⟩ := rr_at HR3.out hr
      rw [hA]
      have hbx : Below wr.heap.size wr (wr.alloc (.cells #[.slice t.d.A0 r.data.bytes.length t.d.c0, .slice t.d.A1 r.data.host.length t.d.c1, .slice t.d.A2 r.data.mail.length t.d.c2, .slice t.d.A3 r.data.nums.length t.d.c3, .slice t.d.A4 r.data.texts.length t.d.c4] 46)) := bl.alloc (Nat.le_refl _) _
      have hrc1 := hrc.below HBR.out
      have hrc2 := hrc1.below hbx
      obtain ⟨d0, d1, d2, d3, d4, d5, d6, d7, d8⟩ := hrc1
      obtain ⟨e0, e1, e2, e3, e4, e5, e6, e7, e8⟩ := hrc2
      have HBX := Lib.hid (nx HBR.out hbx)
      have HBB := Lib.hid (nx HB0.out (nx HBR.out hbx))
      clear hr hri hrc hA hb0 hbx
      by_cases t0 : (r.name.length : Int) ≤ 200
      · skip
        by_cases t1 : (r.data.bytes.length : Int) ≤ 3000
        · skip
          by_cases t2 : (r.data.host.length : Int) ≤ 200
          · skip
            by_cases t3 : (r.data.mail.length : Int) ≤ 200
            · skip
              by_cases t4 : (r.data.texts.length : Int) ≤ 100
              · skip
                by_cases t5 : (r.data.nums.length : Int) ≤ 100
                · skip
                  go_wp2
                  go_roundw
                  case rel => exact ⟨k + 1, by go_num, by omega, allp_take HX.out HF.out ⟨by omega, by omega, by omega, by omega, by omega, by omega⟩, HBX.out⟩
                  case measure => simp [intOf]; omega
                · skip
                  have HNO : Hid (¬ LtMsg13 m) := fun h => by have h1 := (HLT.out h r HMEM.out).2.2.2.2.2; omega
                  go_wp2
                  go_ret
                  exact ⟨_, rfl, by show Value.bool _ = Value.bool _; rw [ltM13_no HNO.out], HBB.out⟩
              · skip
                have HNO : Hid (¬ LtMsg13 m) := fun h => by have h1 := (HLT.out h r HMEM.out).2.2.2.2.1; omega
                go_wp2
                go_ret
                exact ⟨_, rfl, by show Value.bool _ = Value.bool _; rw [ltM13_no HNO.out], HBB.out⟩
            · skip
              have HNO : Hid (¬ LtMsg13 m) := fun h => by have h1 := (HLT.out h r HMEM.out).2.2.2.1; omega
              go_wp2
              go_ret
              exact ⟨_, rfl, by show Value.bool _ = Value.bool _; rw [ltM13_no HNO.out], HBB.out⟩
          · skip
            have HNO : Hid (¬ LtMsg13 m) := fun h => by have h1 := (HLT.out h r HMEM.out).2.2.1; omega
            go_wp2
            go_ret
            exact ⟨_, rfl, by show Value.bool _ = Value.bool _; rw [ltM13_no HNO.out], HBB.out⟩
        · skip
          have HNO : Hid (¬ LtMsg13 m) := fun h => by have h1 := (HLT.out h r HMEM.out).2.1; omega
          go_wp2
          go_ret
          exact ⟨_, rfl, by show Value.bool _ = Value.bool _; rw [ltM13_no HNO.out], HBB.out⟩
      · skip
        have HNO : Hid (¬ LtMsg13 m) := fun h => by have h1 := (HLT.out h r HMEM.out).1; omega
        go_wp2
        go_ret
        exact ⟨_, rfl, by show Value.bool _ = Value.bool _; rw [ltM13_no HNO.out], HBB.out⟩
    · obtain rfl : k = n := by omega
      have htk : l.take k = l := by rw [HN.out, List.take_length]
      rw [htk] at HF
      have z8 : wr.cell? ⟨q, 8, none⟩ = some (.slice s.Q m.qs.length s.qc) := ((HR1.out.below HBR.out).cell 8).trans rfl
      have HBB := Lib.hid (nx HB0.out HBR.out)
      clear htk hlt hk
      by_cases a0 : (k : Int) ≤ 150
      · have a0d : decide ((k : Int) ≤ 150) = true := decide_eq_true a0
        by_cases a1 : (m.qs.length : Int) ≤ 50
        · have a1d : decide ((m.qs.length : Int) ≤ 50) = true := decide_eq_true a1
          have HY := Lib.hid (HYES.out (by omega) (by omega) HF.out)
          go_wp2
          go_ret
          exact ⟨_, rfl, by show Value.bool _ = Value.bool _; rw [ltM13_yes HY.out], HBB.out⟩
        · have HNO : Hid (¬ LtMsg13 m) := fun h => by have h1 := h.qs; omega
          have a1d : decide ((m.qs.length : Int) ≤ 50) = false := decide_eq_false a1
          go_wp2
          go_ret
          exact ⟨_, rfl, by show Value.bool _ = Value.bool _; rw [ltM13_no HNO.out], HBB.out⟩
      · have HNO : Hid (¬ LtMsg13 m) := fun h => by have h1 := HLA.out h; omega
        have a0d : decide ((k : Int) ≤ 150) = false := decide_eq_false a0
        go_wp2
        go_ret
        exact ⟨_, rfl, by show Value.bool _ = Value.bool _; rw [ltM13_no HNO.out], HBB.out⟩
end Go.Proofs.Ytimkdpkhdbiniaa

/- Parts of a proof, joined: Zn4, Zn5, Zn6. -/
import Derived.Test.YtimkdpkhdbiniaaZADZ2
import Derived.Test.YtimkdpkhdbiniaaZADZ1
import Derived.Test.YtimkdpkhdbiniaaZADF01
/- Zone.there, Zone.cut (printed by gen/zn4.py). -/
namespace Go.Proofs.Ytimkdpkhdbiniaa
open Go.RowKit
set_option maxRecDepth 100000
set_option linter.unusedVariables false

set_option maxHeartbeats 2000000 in
theorem zthereC_any (q : Nat) (s : RS) (r : RR) (A' : Option Addr) (n' c' : Nat) (ns : List (List UInt8)) (w : World) {S : Nat → Prop} (hr : RIn S w s r) (hS : ∀ k, S k → k < w.heap.size) (hns : RdE encS w A' n' ns) (hn : r.name.length ≤ 1000000000) (hn' : n' ≤ 1000000000) (hq : w.cell? ⟨q, 0, none⟩ = some (.slice A' n' c')) :
    Calls Try.prog 179 #[rrV s r, .pointer (some ⟨q, 0, none⟩)] w (RetP (fun v _ => v = .bool (underB r.name ns)) w) := by
  obtain ⟨w1, hw1⟩ : ∃ w1, w1 = w.alloc (.cells #[.slice s.A r.name.length s.c, .int .i64 r.type, .int .i64 r.cls, .int .i64 r.ttl, .slice s.d.A0 r.data.bytes.length s.d.c0, .slice s.d.A1 r.data.host.length s.d.c1, .slice s.d.A2 r.data.mail.length s.d.c2, .slice s.d.A3 r.data.nums.length s.d.c3, .slice s.d.A4 r.data.texts.length s.d.c4] 84) := ⟨_, rfl⟩
  have hb1 : Below w.heap.size w w1 := by rw [hw1]; exact bl.alloc (Nat.le_refl _) _
  have HW := Lib.hid hb1
  have HA : Hid (RRow w1 w.heap.size s r) := by show _ = _; rw [hw1]; exact heap_alloc_new w _
  obtain ⟨x0, x1, x2, x3, x4, x5, x6, x7, x8⟩ := HA.out.cells
  have y0 := below_cell hb1 hq
  have HU := Lib.hid (nunder_any s.A A' r.name.length s.c n' c' r.name ns w1 ((hr.below hb1 hS).n.mono (fun k hk => Nat.lt_of_lt_of_le (hS k hk) hb1.size) (fun k hk => Nat.lt_of_lt_of_le (hS k hk) hb1.size)) (hns.below hb1) hn hn' hr.cn.1)
  unfold rrV rrCells
  clear hr hS hns hb1 hq hn hn'
  go_enter Try.func179, Try.ntmps179
  go_upto_region 1 with (fail)
  rw [← hw1]
  clear hw1
  go_wp2_with (go_at_call 83; refine HU.out.mono ?_; rintro e w2 ⟨v2, rfl, rfl, hb2⟩)
  go_ret
  exact ⟨_, rfl, rfl, nx HW.out hb2⟩

set_option maxHeartbeats 2000000 in
theorem zthere_any (zA RA : Option Addr) (zn zc rn rc : Nat) (rs : List RR) (A' : Option Addr) (n' c' : Nat) (ns : List (List UInt8)) (w : World) (h : RdE encRR w RA rn rs) (hns : RdE encS w A' n' ns) (hn : rn ≤ 1000000) (hn' : n' ≤ 1000000000) (hL : ∀ r ∈ rs, r.name.length ≤ 1000000000) :
    Calls Try.prog 141 #[.agg #[.slice zA zn zc, .slice RA rn rc], .slice A' n' c'] w (RetP (fun v _ => v = .bool (rs.any fun r => underB r.name ns)) w) := by
  obtain ⟨w1, hw1⟩ : ∃ w1, w1 = w.alloc (.cells #[.slice zA zn zc, .slice RA rn rc] 75) := ⟨_, rfl⟩
  obtain ⟨w2, hw2⟩ : ∃ w2, w2 = w1.alloc (.cells #[.slice A' n' c'] 23) := ⟨_, rfl⟩
  have hb1 : Below w.heap.size w w1 := by rw [hw1]; exact bl.alloc (Nat.le_refl _) _
  have hb2 : Below w1.heap.size w1 w2 := by rw [hw2]; exact bl.alloc (Nat.le_refl _) _
  have hz1 : w1.heap.size = w.heap.size + 1 := by rw [hw1]; simp
  have z0 : w2.cell? ⟨w.heap.size, 1, none⟩ = some (.slice RA rn rc) := below_cell hb2 (by rw [hw1]; exact new_cell w _ _ 1)
  have y0 : w2.cell? ⟨w.heap.size + 1, 0, none⟩ = some (.slice A' n' c') := by rw [hw2, ← hz1]; exact new_cell w1 _ _ 0
  have HB := Lib.hid (nx hb1 hb2)
  have hmf : ∀ (fn : Fn) (first cap : Array Value) (w : World), (Instr.makeFunc fn first cap).run Try.prog w = .ok (.func fn first cap) w := fun _ _ _ _ => rfl
  have HT := Lib.hid (hasZt_any (w.heap.size + 1) (fun r => underB r.name ns) RA rn rc rs w2 (h.below HB.out) (fun b hb => hb) (by omega) (fun s x W hx hW hi => zthereC_any (w.heap.size + 1) s x A' n' c' ns W hi (fun k hk => Nat.lt_of_lt_of_le hk hW.size) ((hns.below HB.out).below hW) (hL x hx) hn' (below_cell hW y0)))
  clear h hns hn hn' hL hb1 hb2 y0
  go_enter Try.func141, Try.ntmps141
  go_upto_region 1 with (fail)
  rw [← hw1]
  try rw [hz1]
  rw [← hw2]
  clear hw1 hw2 hz1
  go_wp2_with (go_at_call 135; refine HT.out.mono ?_; rintro e w3 ⟨v3, rfl, rfl, hb3⟩)
  go_ret
  exact ⟨_, rfl, rfl, nx HB.out hb3⟩
end Go.Proofs.Ytimkdpkhdbiniaa

/- Zone.cut: the topmost cut at or above a name (printed by gen/zn5.py). -/
namespace Go.Proofs.Ytimkdpkhdbiniaa
open Go.RowKit
set_option maxRecDepth 100000
set_option linter.unusedVariables false

/-- The topmost cut among the first so many places. -/
def cutAt (rs : List RR) (ns : List (List UInt8)) : Nat → Option Nat
  | 0 => none
  | j + 1 => if 0 < (ofP rs (ns.drop j) 2).length then some j else cutAt rs ns j
def cutP (rs : List RR) (zl : Nat) (ns : List (List UInt8)) : Option Nat := cutAt rs ns (ns.length - zl)
/-- What Zone.cut tells. -/
def CutR (So Si : Nat → Prop) (w : World) (n' : Nat) (ns : List (List UInt8)) : Option Nat → Value → Prop
  | none, v => v = .tuple #[.slice none 0 0, .bool false]
  | some j, v => ∃ A2 c2, v = .tuple #[.slice A2 (n' - j) c2, .bool true] ∧ j < n' ∧ Els encS So Si w A2 (n' - j) (ns.drop j) ∧ n' - j ≤ c2 ∧ c2 ≤ maxLen

set_option maxHeartbeats 8000000 in
theorem cut_any (zA RA : Option Addr) (zn zc rn rc : Nat) (rs : List RR) (A' : Option Addr) (n' c' : Nat) (ns : List (List UInt8)) (w : World) {So Si : Nat → Prop} (h : RdE encRR w RA rn rs) (hns : Els encS So Si w A' n' ns) (hSo : ∀ b, So b → b < w.heap.size) (hSi : ∀ b, Si b → b < w.heap.size) (hn : rn ≤ 1000000) (hn' : n' ≤ 1000000000) (hc' : n' ≤ c' ∧ c' ≤ maxLen) (hz : zn ≤ 1000000000) (hL : ∀ r ∈ rs, LightR r) :
    Calls Try.prog 138 #[.agg #[.slice zA zn zc, .slice RA rn rc], .slice A' n' c'] w (RetP (fun v w' => CutR So Si w n' ns (cutP rs zn ns) v) w) := by
  obtain ⟨w1, hw1⟩ : ∃ w1, w1 = w.alloc (.cells #[.slice zA zn zc, .slice RA rn rc] 75) := ⟨_, rfl⟩
  obtain ⟨g, hg⟩ : ∃ g, g = w.heap.size := ⟨_, rfl⟩
  have hb1 : Below w.heap.size w w1 := by rw [hw1]; exact bl.alloc (Nat.le_refl _) _
  have z0 : w1.cell? ⟨g, 0, none⟩ = some (.slice zA zn zc) := by rw [hw1, hg]; exact new_cell w _ _ 0
  have HZ0 := Lib.hid z0
  have HZ1 : Hid (w1.cell? ⟨g, 1, none⟩ = some (.slice RA rn rc)) := by show _ = _; rw [hw1, hg]; exact new_cell w _ _ 1
  have hl := hns.len
  have H := Lib.hid h
  have HN := Lib.hid hns
  have HSS : Hid ((∀ b, So b → b < w.heap.size) ∧ ∀ b, Si b → b < w.heap.size) := ⟨hSo, hSi⟩
  have HL := Lib.hid hL
  have HM := Lib.hid hn'
  have HC := Lib.hid hc'
  have HB1 := Lib.hid hb1
  have HRN := Lib.hid hn
  have HLL := Lib.hid hl
  clear h hns hL hb1 hSo hSi hc' hn
  go_enter Try.func138, Try.ntmps138
  go_upto_region 1 with (fail)
  rw [← hw1]
  clear hw1
  rw [← hg]
  clear hg
  go_upto_region 2 with (fail)
  clear z0
  go_loopw [6] (fun iv wr => ∃ i : Int, iv = .int .i64 i ∧ i < (n' : Int) ∧ -1000000001 ≤ i ∧ Hid (cutP rs zn ns = cutAt rs ns (i + 1).toNat) ∧ Hid (Below w1.heap.size w1 wr)) (fun iv _ => (intOf iv + 1).toNat)
  case atStart => exact ⟨(n' : Int) - (zn : Int) - 1, by go_num, by omega, by omega, by show cutAt _ _ _ = _; congr 1; rw [HLL.out]; omega, bl⟩
  case round =>
    obtain ⟨i, rfl, hi1, hi2, HP, HBW⟩ := hrel
    by_cases hpos : 0 ≤ i
    rotate_left
    · have h0 : (i + 1).toNat = 0 := by omega
      rw [h0] at HP
      clear h0
      go_wp2
      refine bodyPost_ret (v := .tuple #[.slice none 0 0, .bool false]) ?_ rfl ⟨_, rfl, by rw [HP.out]; rfl, nx HB1.out HBW.out⟩
      simp [results, Try.results138, go_sem]
    obtain ⟨j, rfl⟩ : ∃ j : Nat, i = j := ⟨i.toNat, by omega⟩
    have hj : j < n' := by omega
    have hj1 : ((j : Int) + 1).toNat = j + 1 := by omega
    rw [hj1] at HP
    clear hj1
    have hcut := Els.cut HN.out j c' (Nat.le_of_lt hj) HC.out.1
    have hne : ¬ c' = j := by have := HC.out.1; omega
    rw [if_neg hne, show j * encS.size = j from Nat.mul_one j] at hcut
    obtain ⟨b, off, hA, _, _⟩ := Els.flat HN.out (by omega)
    rw [hA]
    rw [hA] at hcut
    simp only [Option.map_some] at hcut
    rw [add_flat] at hcut
    have HCUT : Hid (Els encS So Si w (some ⟨b, off + j, none⟩) (n' - j) (ns.drop j)) := hcut
    have hjc : (j : Int) ≤ (n' : Int) := by omega
    have hcc : n' ≤ c' := HC.out.1
    have HBD : Hid (Below w.heap.size w wr.drew) := (nx HB1.out HBW.out).drew
    have HZD : Hid (wr.drew.cell? ⟨g, 0, none⟩ = some (.slice zA zn zc) ∧ wr.drew.cell? ⟨g, 1, none⟩ = some (.slice RA rn rc)) := ⟨below_cell HBW.out.drew HZ0.out, below_cell HBW.out.drew HZ1.out⟩
    have HOF := Lib.hid (of_any zA RA zn zc rn rc rs (some ⟨b, off + j, none⟩) (n' - j) (c' - j) (ns.drop j) 2 wr.drew (H.out.below HBD.out) ((HCUT.out.below HBD.out HSS.out.1 HSS.out.2).mono (fun b hb => Nat.lt_of_lt_of_le (HSS.out.1 b hb) HBD.out.size) (fun b hb => Nat.lt_of_lt_of_le (HSS.out.2 b hb) HBD.out.size)) HRN.out (by have := HM.out; unfold maxLen; omega) HL.out)
    have hS : wr.drew.cell? ⟨g, 0, none⟩ = some (.slice zA zn zc) ∧ wr.drew.cell? ⟨g, 1, none⟩ = some (.slice RA rn rc) := HZD.out
    clear hcut hA
    go_upto_region 4 with (fail)
    refine wp_region_any (by kernel_rfl) ?_
    change wpAny _ _ _ _ _ _ _ (World.drew wr)
    refine wpAny_of_P (S := fun W => W.cell? ⟨g, 0, none⟩ = some (.slice zA zn zc) ∧ W.cell? ⟨g, 1, none⟩ = some (.slice RA rn rc)) (dem := fun _ => true) _ _ _ _ ?_
    refine wpAnyP_take (i := 0) (v := .agg #[.slice zA zn zc, .slice RA rn rc]) rfl (by kernel_rfl) (by kernel_rfl) (by kernel_rfl) (by kernel_rfl) (by kernel_rfl) (fun _ _ _ h => h) (Or.inl ⟨by kernel_rfl, by (intro W hW; have c0 := hW.1; have c1 := hW.2; go_simp)⟩) hS ?_
    refine wpAnyP_take (i := 1) (v := .slice (some ⟨b, off, none⟩) n' c') rfl (by kernel_rfl) (by kernel_rfl) (by kernel_rfl) (by kernel_rfl) (by kernel_rfl) (fun _ _ _ h => h) (Or.inl ⟨by kernel_rfl, by (intro W hW; go_simp)⟩) hS ?_
    refine wpAnyP_take (i := 2) (v := .int .i64 (j : Int)) rfl (by kernel_rfl) (by kernel_rfl) (by kernel_rfl) (by kernel_rfl) (by kernel_rfl) (fun _ _ _ h => h) (Or.inl ⟨by kernel_rfl, by (intro W hW; go_simp)⟩) hS ?_
    refine wpAnyP_take (i := 3) (v := .slice (some ⟨b, off + j, none⟩) (n' - j) (c' - j)) rfl (by kernel_rfl) (by kernel_rfl) (by kernel_rfl) (by kernel_rfl) (by kernel_rfl) (fun _ _ _ h => h) (Or.inl ⟨by kernel_rfl, by (intro W hW; go_simp)⟩) hS ?_
    refine wpAnyP_one (i := 4) rfl (by kernel_rfl) fun K hK => ?_
    go_simp
    refine HOF.out.mono ?_
    rintro e w3 ⟨v3, rfl, ho3, hb3⟩
    obtain ⟨So3, ho⟩ := ho3
    obtain ⟨A3, c3, hv3, _, hl3, hm3⟩ := OwnE.form ho
    obtain ⟨L, hL⟩ : ∃ L, L = (ofP rs (ns.drop j) 2).length := ⟨_, rfl⟩
    rw [← hL] at hv3
    subst hv3
    have HL3 := Lib.hid hL
    have HB3 : Hid (Below wr.drew.heap.size wr.drew w3) := hb3
    have hS3 : w3.cell? ⟨g, 0, none⟩ = some (.slice zA zn zc) ∧ w3.cell? ⟨g, 1, none⟩ = some (.slice RA rn rc) := ⟨below_cell (w := wr.drew) hb3 hS.1, below_cell (w := wr.drew) hb3 hS.2⟩
    refine hK _ _ (fun _ => hS3) ?_
    clear hK ho hl3 hm3 hb3 hL
    by_cases h0 : 0 < L
    · have h0' : (0 : Int) < (L : Int) := by omega
      refine wpAnyP_take (i := 5) (v := .int .i64 (L : Int)) rfl (by kernel_rfl) (by kernel_rfl) (by kernel_rfl) (by kernel_rfl) (by kernel_rfl) (fun _ _ _ h => h) (Or.inl ⟨by kernel_rfl, by (intro W hW; go_simp)⟩) hS3 ?_
      refine wpAnyP_one (i := 6) rfl (by kernel_rfl) fun K hK => ?_
      go_simp
      refine hK _ _ (fun h => absurd h (by rw [show needS _ _ _ = false from by kernel_rfl]; decide)) ?_
      clear hK
      refine wpAnyP_done (by kernel_rfl) ?_ _
      have HP2 : Hid (cutP rs zn ns = some j) := by show _ = _; rw [HP.out]; show (if 0 < (ofP rs (ns.drop j) 2).length then some j else _) = _; rw [if_pos (by rw [← HL3.out]; exact h0)]
      clear h0
      go_wp2
      refine bodyPost_ret (v := .tuple #[.slice (some ⟨b, off + j, none⟩) (n' - j) (c' - j), .bool true]) ?_ rfl ⟨_, rfl, by rw [HP2.out]; exact ⟨_, _, rfl, hj, HCUT.out, by have := HC.out.1; omega, by have := HC.out.2; omega⟩, nx HBD.out HB3.out⟩
      simp [results, Try.results138, go_sem]
    · have h0' : ¬ (0 : Int) < (L : Int) := by omega
      refine wpAnyP_take (i := 5) (v := .int .i64 (L : Int)) rfl (by kernel_rfl) (by kernel_rfl) (by kernel_rfl) (by kernel_rfl) (by kernel_rfl) (fun _ _ _ h => h) (Or.inl ⟨by kernel_rfl, by (intro W hW; go_simp)⟩) hS3 ?_
      refine wpAnyP_one (i := 6) rfl (by kernel_rfl) fun K hK => ?_
      go_simp
      refine hK _ _ (fun h => absurd h (by rw [show needS _ _ _ = false from by kernel_rfl]; decide)) ?_
      clear hK
      refine wpAnyP_done (by kernel_rfl) ?_ _
      have HP2 : Hid (cutP rs zn ns = cutAt rs ns j) := by show _ = _; rw [HP.out]; show (if 0 < (ofP rs (ns.drop j) 2).length then some j else _) = _; rw [if_neg (by rw [← HL3.out]; exact h0)]
      go_wp2
      go_roundw
      case rel => exact ⟨(j : Int) - 1, by go_num, by omega, by omega, by show _ = _; rw [HP2.out]; congr 1; omega, (HBW.out.drew).trans (HB3.out.mono HBW.out.drew.size)⟩
      case measure => simp [intOf]
end Go.Proofs.Ytimkdpkhdbiniaa

/- Zone.refer's closure (printed by gen/zn6.py). -/
namespace Go.Proofs.Ytimkdpkhdbiniaa
open Go.RowKit
set_option maxRecDepth 100000
set_option linter.unusedVariables false

/-- Such a row is read. -/
theorem LsE.rd {B : Nat} {w : World} {v : Value} {xs : List RR} (h : LsE B w v xs) : ∃ A c, v = .slice A xs.length c ∧ Els encRR (geS B w) (geS B w) w A xs.length xs ∧ xs.length ≤ c ∧ c ≤ maxLen := by
  obtain ⟨S, ho⟩ := h
  obtain ⟨A, c, hv, he, h1, h2⟩ := OwnE.form ho
  have hlt := OwnE.lt ho
  have hsl := OwnE.S_lt ho
  refine ⟨A, c, hv, ?_, h1, h2⟩
  refine ⟨he.1, fun hn => ?_⟩
  obtain ⟨b, off, e, hb, hx⟩ := he.2 hn
  refine ⟨b, off, e, hlt b hb, fun i x hi => ?_⟩
  obtain ⟨r, ⟨s, rfl, hr⟩, hc⟩ := hx i x hi
  exact ⟨_, ⟨s, rfl, hr.mono (fun b hb => ⟨hb.2.1, (hsl b hb.1).1⟩)⟩, hc⟩

set_option maxHeartbeats 2000000 in
theorem zreferC_any (q : Nat) (s t : RS) (a b : RR) (w : World) {S T : Nat → Prop} (ha : RIn S w s a) (hb : RIn T w t b) (hS : ∀ k, S k → k < w.heap.size) (hT : ∀ k, T k → k < w.heap.size) (hq : RRow w q t b) :
    Calls Try.prog 177 #[rrV s a, .pointer (some ⟨q, 0, none⟩)] w (RetP (fun v _ => v = .bool (decide (lowN a.data.host = lowN b.name))) w) := by
  obtain ⟨w1, hw1⟩ : ∃ w1, w1 = w.alloc (.cells #[.slice s.A a.name.length s.c, .int .i64 a.type, .int .i64 a.cls, .int .i64 a.ttl, .slice s.d.A0 a.data.bytes.length s.d.c0, .slice s.d.A1 a.data.host.length s.d.c1, .slice s.d.A2 a.data.mail.length s.d.c2, .slice s.d.A3 a.data.nums.length s.d.c3, .slice s.d.A4 a.data.texts.length s.d.c4] 84) := ⟨_, rfl⟩
  have hb1 : Below w.heap.size w w1 := by rw [hw1]; exact bl.alloc (Nat.le_refl _) _
  have HW := Lib.hid hb1
  have HA : Hid (RRow w1 w.heap.size s a) := by show _ = _; rw [hw1]; exact heap_alloc_new w _
  obtain ⟨x0, x1, x2, x3, x4, x5, x6, x7, x8⟩ := HA.out.cells
  obtain ⟨y0, y1, y2, y3, y4, y5, y6, y7, y8⟩ := (RRow.below hq hb1).cells
  have hla : ∀ k, S k → k < w1.heap.size := fun k hk => Nat.lt_of_lt_of_le (hS k hk) hb1.size
  have hlb : ∀ k, T k → k < w1.heap.size := fun k hk => Nat.lt_of_lt_of_le (hT k hk) hb1.size
  have HE := Lib.hid (nequal_any s.d.A1 t.A a.data.host.length s.d.c1 b.name.length t.c a.data.host b.name w1 ((ha.below hb1 hS).d.h.mono hla hla) ((hb.below hb1 hT).n.mono hlb hlb) (Nat.le_trans ha.d.ch.1 ha.d.ch.2) (Nat.le_trans hb.cn.1 hb.cn.2))
  unfold rrV rrCells
  clear ha hb hS hT hb1 hq hla hlb
  go_enter Try.func177, Try.ntmps177
  go_upto_region 1 with (fail)
  rw [← hw1]
  clear hw1
  go_wp2_with (go_at_call 55; refine HE.out.mono ?_; rintro e w2 ⟨v2, rfl, rfl, hb2⟩)
  go_ret
  exact ⟨_, rfl, rfl, nx HW.out hb2⟩
end Go.Proofs.Ytimkdpkhdbiniaa

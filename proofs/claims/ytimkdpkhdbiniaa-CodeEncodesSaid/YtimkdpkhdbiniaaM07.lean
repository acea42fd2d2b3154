/- Parts of a proof, joined: RWName2, RWName3. -/
import Derived.Deep.RegionLaw
import Derived.Test.YtimkdpkhdbiniaaM06
import Derived.Test.YtimkdpkhdbiniaaM03
import Derived.Test.YtimkdpkhdbiniaaM02b
/- The reference's writer: Name. -/
namespace Go.Proofs.Ytimkdpkhdbiniaa
open Go.RowKit
set_option maxRecDepth 100000

theorem step_cloneS {w : World} {So Si : Nat → Prop} {ops : Array Oper} {o : Oper} {a : Act} {K : Act → World → Prop} {Q : Exit → Act → World → Prop} {X : Prop} (hgd : Region.wanted o (yielded ops a.tmps) = true) (s x : Operand)
    (ho : o.op = .call { callee := .builtin .append, args := #[s, x], argTypes := #[23, 23] })
    {g : Nat} (hs : a.eval s = .slice (some ⟨g, 0, none⟩) 0 0) (A : Option Addr) (n c : Nat) (ns : List (List UInt8)) (hx : a.eval x = .slice A n c) (hr : Els encS So Si w A n ns) (hn : n ≤ 8796093022208)
    (h : ∀ v' w', OwnS w' w.heap.size v' ns → Below w.heap.size w w' → K (a.put o.dst v') w') (hgs : g = w.heap.size) : if Region.wanted o (yielded ops a.tmps) = true then Oper.wp Try.prog o a (w.alloc (.cells #[] 9)) K Q else X := by
  rw [if_pos hgd]
  subst hgs
  obtain ⟨hT, i, z, hi, hz, hsz, hby, hzc⟩ := elS
  have hl := hr.len
  subst hl
  have hone : ∀ u ∈ ns.map strV, u.oneCell' = true := fun u hu => by
    obtain ⟨y, _, rfl⟩ := List.mem_map.1 hu
    rfl
  have hown0 : (w.alloc (.cells #[] 9)).ownsRow w.heap.size 9 1 (.slice (some ⟨w.heap.size, 0, none⟩) 0 0) 0 [] := World.ownsRow_lit (e := 9) (size := 1) w #[] 0 (Nat.le_refl _) (by simp) rfl
  refine wp_append_any (P := Try.prog) s x _ ho w.heap.size 9 i z 1 16 hT hi hz hsz hby hzc (by decide) _ 0 [] hs hown0 A ns.length c (ns.map strV) hx ((strs_rd hr).below (bl.alloc (Nat.le_refl _) _)) hone (by unfold maxLen; omega) (by omega) (by simp) fun v' w' h1 h2 h3 => (h v' w' ?_ ?_)
  · rw [Nat.zero_add, List.nil_append] at h1
    refine ⟨ns.map strV, h1, fun j y hy => ?_, fun b hb => hb.elim⟩
    obtain ⟨_, _, _, _, _, hm⟩ := strs_at hr hy
    have hjl : j < ns.length := (List.getElem?_eq_some_iff.1 hy).1
    have e : List.take encS.size (List.drop (j * encS.size) (ns.map strV)) = [strV y] := by
      show List.take 1 (List.drop (j * 1) (ns.map strV)) = _
      rw [Nat.mul_one, List.drop_eq_getElem_cons (by rw [List.length_map]; exact hjl), List.take_succ_cons, List.take_zero, List.getElem_map]
      rw [List.getElem?_eq_getElem hjl] at hy
      injection hy with hy
      rw [hy]
    rw [e]
    exact ⟨rfl, hm⟩
  · exact (bl.alloc (Nat.le_refl _) _).grown h2 (by simp) (fun k hk => by simp [Value.ownBlock] at hk; omega)

/-- A row of rests has one more. -/
theorem RWtr.noted {w w4 w5 : World} {B g : Nat} {F S S' : Nat → Prop} {x : RW} {bv rv v5 : Value} {y : Nat × List (List UInt8)} (hg : w.heap[g]? = some (.cells #[bv, rv] 103 (0, 0))) (hbv : OwnB w B bv x.b) (hgF : F g ∧ B ≤ g) (hbF : ∀ k, bv.ownBlock = some k → F k ∧ k ≠ g)
    (hrF : ∀ k, rv.ownBlock = some k → F k ∧ k ≠ g ∧ bv.ownBlock ≠ some k) (hSF : ∀ k, S k → F k ∧ k ≠ g ∧ bv.ownBlock ≠ some k) (hF : ∀ k, F k → B ≤ k ∧ k < w.heap.size) (hb4 : Below w.heap.size w w4) (hown5 : OwnE encRest 151 (orS S S') w5 B v5 (x.rests ++ [y]))
    (hg5 : w4.grownBy w5 rv.ownBlock) (hv5 : v5.ownBlock = rv.ownBlock ∨ v5.ownBlock = some (w4.heap.size + 1)) (hS' : ∀ b, S' b → w.heap.size ≤ b ∧ b < w4.heap.size) :
    RWtr (w5.setCell ⟨g, 1, none⟩ v5) B (fun k => F k ∨ (w.heap.size ≤ k ∧ k < w5.heap.size)) g { x with rests := x.rests ++ [y] } ∧ Chg F w (w5.setCell ⟨g, 1, none⟩ v5) := by
  have hgl := (hF g hgF.1).2
  have hc5 : Chg (fun b => rv.ownBlock = some b) w w5 := (Chg.of_below hb4).grown hg5 (fun k hk => .inl hk)
  have hgw := hc5.heap hg (fun e => (hrF g e).2.1 rfl)
  have hcg : Chg (fun k => k = g) w5 (w5.setCell ⟨g, 1, none⟩ v5) := (Chg.refl (fun k => k = g) w5).setCell (p := ⟨g, 1, none⟩) (Or.inl rfl) v5
  have hz4 := hb4.size
  have hz5 := hg5.size
  have hv : ∀ k, v5.ownBlock = some k → (F k ∨ (w.heap.size ≤ k ∧ k < w5.heap.size)) ∧ k ≠ g ∧ bv.ownBlock ≠ some k := fun k hk => by
    have hl := (hown5.lt k hk).2
    rcases hv5 with e | e
    · rw [e] at hk
      exact ⟨.inl (hrF k hk).1, (hrF k hk).2⟩
    · rw [e] at hk
      injection hk with hk
      exact ⟨.inr ⟨by omega, hl⟩, by omega, fun e => by have := (hF k (hbF k e).1).2; omega⟩
  have hS : ∀ k, orS S S' k → (F k ∨ (w.heap.size ≤ k ∧ k < w5.heap.size)) ∧ k ≠ g ∧ bv.ownBlock ≠ some k := fun k hk => by
    rcases hk with hk | hk
    · exact ⟨.inl (hSF k hk).1, (hSF k hk).2⟩
    · have h1 := hS' k hk
      exact ⟨.inr ⟨h1.1, by omega⟩, by omega, fun e => by have := (hF k (hbF k e).1).2; omega⟩
  refine ⟨⟨bv, v5, orS S S', (heap_setCell_same _ _ _ _ _ _ hgw).trans rfl, (hbv.chgv hc5 (fun k hk e => (hrF k e).2.2 hk)).chgv hcg (fun k hk e => (hbF k hk).2 e), hown5.chg hcg (fun k hk e => (hv k hk).2.1 e) (fun k hk e => (hS k hk).2.1 e), ⟨.inl hgF.1, hgF.2⟩, fun k hk => ⟨.inl (hbF k hk).1, (hbF k hk).2⟩, hv, hS, fun k hk => ?_⟩, ?_⟩
  · have hz : (w5.setCell ⟨g, 1, none⟩ v5).heap.size = w5.heap.size := by simp
    rw [hz]
    rcases hk with hk | hk
    · exact ⟨(hF k hk).1, by have := (hF k hk).2; omega⟩
    · exact ⟨by omega, hk.2⟩
  · exact (hc5.mono (G := F) (fun k hk => .inl (hrF k hk).1)).setCell (p := ⟨g, 1, none⟩) (Or.inl hgF.1) _
end Go.Proofs.Ytimkdpkhdbiniaa

/- The reference's writer: Name's walk. -/
namespace Go.Proofs.Ytimkdpkhdbiniaa
open Go.RowKit

theorem findR_mem {rs : List (Nat × List (List UInt8))} {n : List (List UInt8)} {p : Nat} (h : findR rs n = some p) : ∃ r ∈ rs, r.1 = p := by
  induction rs with
  | nil => cases h
  | cons r rs ih =>
    simp only [findR] at h
    split at h
    · injection h with h
      exact ⟨r, List.mem_cons_self .., h⟩
    · obtain ⟨r', h1, h2⟩ := ih h
      exact ⟨r', List.mem_cons_of_mem _ h1, h2⟩
theorem rw_label (x : RW) (l : List UInt8) : (x.raw [UInt8.ofNat l.length]).raw l = x.label l := by simp [RW.raw, RW.label]
theorem rest_own {w : World} {base g n c p : Nat} {ns : List (List UInt8)} (h : OwnS w base (.slice (some ⟨g, 0, none⟩) n c) ns) (hn : ns.length = n) (hc : n ≤ c) (hm : c ≤ maxLen) : encRest.R (fun b => b = g) w [.int .i64 (p : Int), .slice (some ⟨g, 0, none⟩) n c] (p, ns) := by
  subst hn
  obtain ⟨A, c', e, he, _⟩ := OwnE.form h
  injection e with e1 e2 e3
  subst e1 e3
  exact ⟨_, _, rfl, he.mono (fun b hb => by simp [Value.ownBlock] at hb; exact hb.symm) (fun b hb => hb.elim), hc, hm⟩
theorem RWtr.noted_cells {w w4 w5 : World} {B g : Nat} {F : Nat → Prop} {bv rv : Value} (hg : w.heap[g]? = some (.cells #[bv, rv] 103 (0, 0))) (hgF : F g ∧ B ≤ g) (hrF : ∀ k, rv.ownBlock = some k → F k ∧ k ≠ g ∧ bv.ownBlock ≠ some k) (hF : ∀ k, F k → B ≤ k ∧ k < w.heap.size)
    (hb4 : Below w.heap.size w w4) (hg5 : w4.grownBy w5 rv.ownBlock) : w5.cell? ⟨g, 0, none⟩ = some bv ∧ w5.cell? ⟨g, 1, none⟩ = some rv ∧ ∀ k, w5.frozen? ⟨g, k, none⟩ = false := by
  have hgl := (hF g hgF.1).2
  have hc5 : Chg (fun b => rv.ownBlock = some b) w w5 := (Chg.of_below hb4).grown hg5 (fun k hk => .inl hk)
  have hgw := hc5.heap hg (fun e => (hrF g e).2.1 rfl)
  exact ⟨(cell_of_row _ _ _ _ _ _ hgw).trans rfl, (cell_of_row _ _ _ _ _ _ hgw).trans rfl, fun k => frozen_of_row _ _ _ _ _ hgw⟩

set_option maxRecDepth 100000 in
set_option maxHeartbeats 4000000 in
theorem rwname_any (w : World) (B g : Nat) (F : Nat → Prop) (x : RW) (A : Option Addr) (n c : Nat) (ns : List (List UInt8)) (short : Bool) {So Si : Nat → Prop} (h : RWtr w B F g x) (hns : Els encS So Si w A n ns) (hSo : ∀ b, So b → b < w.heap.size ∧ ¬ F b) (hs : SoundN ns) (hf : x.Fine) (hnc : n ≤ c) (hcm : c ≤ maxLen)
    (hxb : x.b.length ≤ 10000000) (hxr : x.rests.length ≤ 10000000) :
    Calls Try.prog 64 #[.pointer (some ⟨g, 0, none⟩), .slice A n c, .bool short] w (RetR w B F g (x.name ns short) (.tuple #[])) := by
  have hl := hns.len
  subst hl
  have H := Lib.hid h
  have hE : Els encS So noS w A ns.length ns := ⟨hns.1, fun hn => by
    obtain ⟨b, off, e, hb, hx⟩ := hns.2 hn
    exact ⟨b, off, e, hb, fun i y hy => hx i y hy⟩⟩
  have HFI0 := Lib.hid hf
  clear h hns hf
  have hcm' : c ≤ 9223372036854775807 := hcm
  clear hcm
  have HSo := Lib.hid hSo
  have hsz := hs.2
  have hsl := sizeN_length ns
  have HS := Lib.hid hs
  clear hs hSo
  go_enter Try.func64, Try.ntmps64
  go_wp2
  go_loopw [6] (fun iv wr => ∃ (k : Nat) (Fk : Nat → Prop) (xk : RW), iv = .int .i64 k ∧ k ≤ ns.length ∧ Hid (x.name ns short = xk.name (ns.drop k) short) ∧ Hid (RWtr wr B Fk g xk) ∧ Chg F w wr ∧ Hid (∀ z, Fk z → F z ∨ w.heap.size ≤ z) ∧ Hid xk.Fine ∧ xk.b.length + sizeN (ns.drop k) ≤ x.b.length + sizeN ns ∧ xk.rests.length ≤ x.rests.length + k) (fun iv _ => ns.length - (intOf iv).toNat)
  case atStart => exact ⟨0, F, x, rfl, Nat.zero_le _, rfl, H, Chg.refl _ _, fun z hz => .inl hz, HFI0, by simp, Nat.le_refl _⟩
  case round =>
    obtain ⟨k, Fk, xk, rfl, hk, HN, HW, hch, HF, HFI, hlb, hlr⟩ := hrel
    by_cases hlt : k < ns.length
    · obtain ⟨l, hx⟩ : ∃ l, ns[k]? = some l := ⟨_, List.getElem?_eq_getElem hlt⟩
      have hdr : ns.drop k = l :: ns.drop (k + 1) := by
        rw [List.drop_eq_getElem_cons hlt]
        rw [List.getElem?_eq_getElem hlt] at hx
        injection hx with hx
        rw [hx]
      obtain ⟨bN, offN, rfl, hsN, hcN, hll⟩ := strs_at hE hx
      have hEr : Els encS So noS wr (some ⟨bN, offN, none⟩) ns.length ns := hE.keep (fun b hb => hch.block b (HSo.out b hb).1 (HSo.out b hb).2) (fun b hb => hb.elim)
      have HCN := Lib.hid hcN
      have hcut := hEr.cut k c (Nat.le_of_lt hlt) hnc
      have hck : ¬ c = k := by omega
      rw [if_neg hck, Option.map_some, add_flat, show encS.size = 1 from rfl, Nat.mul_one] at hcut
      have hsd := (HS.out.drop k)
      have hlab := hsd.1
      have hsz2 := hsd.2
      have hl13 : 1 ≤ l.length ∧ l.length ≤ 63 := hlab l (by rw [hdr]; exact List.mem_cons_self ..)
      have HDR := Lib.hid hdr
      have hbs := bstr_size l
      have hl1 := hl13.1
      have hl2 := hl13.2
      clear hx hdr hsd hlab hl13 hcN
      have hcb := fun W : World => Lib.run_convert_string_bytes (P := Try.prog) W 9 22 5 (bstr l) Try.underlying9 Try.underlying22 Try.underlying5
      have hsn : sizeN (ns.drop k) = l.length + 1 + sizeN (ns.drop (k + 1)) := by rw [HDR.out]; rfl
      have hle2 : xk.b.length + (l.length + 1 + sizeN (ns.drop (k + 1))) ≤ x.b.length + sizeN ns := by omega
      have HFL : Hid (∀ r ∈ xk.rests, r.2.length ≤ maxLen) := fun r hr => by have h1 := (HFI.out r hr).2.2; have := sizeN_length r.2; unfold maxLen; omega
      have HFP : Hid (∀ r ∈ xk.rests, r.1 < 16384) := fun r hr => (HFI.out r hr).1
      clear hsn
      rcases hlk : findR xk.rests (ns.drop k) with _ | p
      · have HLK := Lib.hid hlk
        clear hlk
        · skip
          go_upto_if 33 with (first
            | (go_at_call 114; refine (rwfind_any wr B g Fk xk _ _ _ (ns.drop k) HW.out hcut (by unfold maxLen; omega) HFL.out (by omega) HFP.out).mono ?_; rw [HLK.out, show placeR none = -1 from rfl]; rintro e w2 ⟨rfl, m2, hw2⟩; have hb2 : Below wr.heap.size wr w2 := (by rw [hw2]; exact dN bl m2); clear hw2; have HW2 := Lib.hid (HW.out.below hb2); have hch2 := hch.nx hb2; obtain ⟨bv, rv, S, hgg, hbv, hrv, hgF2, hbF, hrF, hSF, hFl⟩ := HW2.out; obtain ⟨Ab, cb, rfl, _⟩ := hbv.form; obtain ⟨Ar, cr, rfl, _⟩ := hrv.form; have HG := Lib.hid hgg; have e0 : w2.cell? ⟨g, 0, none⟩ = some (.slice Ab xk.b.length cb) := (cell_of_row _ _ _ _ _ _ hgg).trans rfl; have e1 : w2.cell? ⟨g, 1, none⟩ = some (.slice Ar xk.rests.length cr) := (cell_of_row _ _ _ _ _ _ hgg).trans rfl; clear hgg)
            | fail)
          go_cut [] (fun wc => ∃ (F5 : Nat → Prop) (y : RW), Hid (RWtr wc B F5 g y) ∧ Hid (Chg F w wc) ∧ Hid (∀ z, F5 z → F z ∨ w.heap.size ≤ z) ∧ Hid y.Fine ∧ Hid (xk.name (ns.drop k) short = (y.label l).name (ns.drop (k + 1)) short) ∧ y.b.length ≤ xk.b.length ∧ y.rests.length ≤ xk.rests.length + 1)
          case first =>
            by_cases h16 : xk.b.length < 16384
            · go_upto_region 7 with (fail)
              have hcut2 : Els encS So noS w2.drew (some ⟨bN, offN + k, none⟩) (ns.length - k) (ns.drop k) := hcut.keep (fun b hb => hb2.block b (Nat.lt_of_lt_of_le (HSo.out b hb).1 hch.size)) (fun b hb => hb.elim)
              have hlen : (ns.drop k).length = ns.length - k := List.length_drop
              have hnoF : ∀ b, Fk b → b < w2.heap.size := fun b hb => (hFl b hb).2
              go_region_law
                (first
                  | (refine step_cloneS (w := w2.drew) (by rfl) (.tmp 44) (.tmp 47) (by rfl) (by rfl) _ _ _ (ns.drop k) (by rfl) hcut2 (by omega) ?_ (by rfl); intro v4 w4 hown4 hb4'; have hb4 : Below w2.heap.size w2 w4 := bl.drew.trans hb4'; have y0 := below_cell hb4 e0; have y1 := below_cell hb4 e1; have y2 := below_cell (bl.alloc (Nat.le_refl _) (.cells #[.int .i64 (xk.b.length : Int), v4] 151)) y1; obtain ⟨g4, c4, rfl, hg4a, hg4b, hl4, hm4, _⟩ := OwnE.flat hown4 (by omega); rw [hlen] at hown4 hl4 y2 ⊢; have hS3 : ∀ b, (fun b => b = g4) b → b < w4.heap.size ∧ some b ≠ (Value.slice Ar xk.rests.length cr).ownBlock := fun b hb => by subst hb; exact ⟨hg4b, fun e => Nat.lt_irrefl _ (Nat.lt_of_lt_of_le (hrv.lt _ e.symm).2 hg4a)⟩)
                  | (refine step_pushE elRest (by rfl) (.tmp 38) (.tmp 50) (by rfl) B (.slice Ar xk.rests.length cr) xk.rests (by rfl) (hrv.below hb4) [.int .i64 (xk.b.length : Int), .slice (some ⟨g4, 0, none⟩) (ns.length - k) c4] (xk.b.length, ns.drop k) (S' := fun b => b = g4) (rest_own hown4 hlen hl4 hm4) hS3 (by rfl) (by omega) (by unfold maxLen; omega) (Nat.le_trans (Nat.le_trans hgF2.2 (Nat.le_of_lt (hnoF g hgF2.1))) hb4.size) ?_ (by rfl); intro v5 w5 hown5 hg5 hv5; obtain ⟨A5, c5, rfl, _⟩ := hown5.form; have hcells := RWtr.noted_cells HG.out hgF2 hrF hFl hb4 hg5; have z0 := hcells.1; have z1 := hcells.2.1; have z2 := hcells.2.2)
                  | fail)
              all_goals
                have hnt := RWtr.noted HG.out hbv hgF2 hbF hrF hSF hFl hb4 hown5 hg5 hv5 (fun b hb => by subst hb; exact ⟨hg4a, hg4b⟩)
                rw [show ({ xk with rests := xk.rests ++ [(xk.b.length, ns.drop k)] } : RW) = xk.note (ns.drop k) from by unfold RW.note; rw [if_pos h16]] at hnt
                simp only [List.length_append, List.length_cons, List.length_nil, Nat.zero_add] at hnt
                obtain ⟨hnt1, hnt2⟩ := hnt
                have HNT := Lib.hid hnt1
                have hcn := hch2.trans hnt2 HF.out
                have hnb := xk.note_b (ns.drop k)
                have hnr := xk.note_rests (ns.drop k)
                have HNX : Hid (xk.name (ns.drop k) short = ((xk.note (ns.drop k)).label l).name (ns.drop (k + 1)) short) := by
                  show _ = _
                  have := HLK.out
                  rw [HDR.out] at this ⊢
                  rw [RW.name, this]
                clear hnt1 hnt2
                go_wp2
                go_meet
                case rel => exact ⟨_, xk.note (ns.drop k), HNT, hcn, fun z hz => hz.elim (HF.out z) (fun h => .inr (Nat.le_trans hch2.size h.1)), HFI.out.note (HS.out.drop k), HNX, Nat.le_of_eq (by rw [hnb]), hnr⟩
            · have HNX : Hid (xk.name (ns.drop k) short = (xk.label l).name (ns.drop (k + 1)) short) := by
                show _ = _
                have := HLK.out
                rw [HDR.out] at this ⊢
                rw [RW.name, this]
                unfold RW.note
                rw [if_neg h16]
              go_wp2
              go_meet
              case rel => exact ⟨Fk, xk, HW2, hch2, HF, HFI, HNX, Nat.le_refl _, Nat.le_succ _⟩
          case rest =>
            obtain ⟨F5, y, HNT, HC, HFQ, HFY, HNX, hnb, hnr⟩ := hcut
            have hcr5 := HC.out.cell HCN.out (HSo.out bN hsN).2
            go_wp2_with (first
              | (go_at_call 94; refine (rwraw_any _ B g F6 _ _ _ _ l (H6.out.below hb6) hr6 (by simp only [RW.raw, List.length_append, List.length_singleton]; omega)).mono ?_; rintro e w7 ⟨rfl, F7, h7, hc7, hF7⟩)
              | (go_at_call 63; refine (rwnum_any _ B g F5 y l.length 1 HNT.out (by omega) (by omega)).mono ?_; rintro e w6 ⟨rfl, F6, h6, hc6, hF6⟩; rw [put_len l hl2] at h6; have H6 := Lib.hid h6; have hr6 := (conv_rd w6 l).1; have hb6 := (conv_rd w6 l).2; have hcr6 := (HC.out.trans hc6 HFQ.out).cell HCN.out (HSo.out bN hsN).2; clear h6)
              | fail)
            go_roundw
            case rel =>
              have hq6 : ∀ z, F6 z → F z ∨ w.heap.size ≤ z := fun z hz => (hF6 z hz).elim (HFQ.out z) (fun h => .inr (Nat.le_trans HC.out.size h))
              have hq7 := (HC.out.trans hc6 HFQ.out).nx hb6
              exact ⟨k + 1, F7, (y.raw [UInt8.ofNat l.length]).raw l, by go_num, by omega, HN.out.trans (HNX.out.trans (by rw [rw_label])), h7, hq7.trans hc7 hq6, fun z hz => (hF7 z hz).elim (hq6 z) (fun h => .inr (Nat.le_trans hq7.size h)), (HFY.out.raw _).raw _, by simp only [RW.raw, List.length_append, List.length_singleton]; omega, by show y.rests.length ≤ _; omega⟩
            case measure => simp [intOf]; omega
      · have HLK := Lib.hid hlk
        have hp : p < 16384 := by obtain ⟨r, hr, e⟩ := findR_mem hlk; rw [← e]; exact HFP.out r hr
        clear hlk
        rcases short with _ | _
        · skip
          go_upto_if 33 with (first
            | (go_at_call 114; refine (rwfind_any wr B g Fk xk _ _ _ (ns.drop k) HW.out hcut (by unfold maxLen; omega) HFL.out (by omega) HFP.out).mono ?_; rw [HLK.out, show placeR (some p) = (p : Int) from rfl]; rintro e w2 ⟨rfl, m2, hw2⟩; have hb2 : Below wr.heap.size wr w2 := (by rw [hw2]; exact dN bl m2); clear hw2; have HW2 := Lib.hid (HW.out.below hb2); have hch2 := hch.nx hb2; obtain ⟨bv, rv, S, hgg, hbv, hrv, hgF2, hbF, hrF, hSF, hFl⟩ := HW2.out; obtain ⟨Ab, cb, rfl, _⟩ := hbv.form; obtain ⟨Ar, cr, rfl, _⟩ := hrv.form; have HG := Lib.hid hgg; have e0 : w2.cell? ⟨g, 0, none⟩ = some (.slice Ab xk.b.length cb) := (cell_of_row _ _ _ _ _ _ hgg).trans rfl; have e1 : w2.cell? ⟨g, 1, none⟩ = some (.slice Ar xk.rests.length cr) := (cell_of_row _ _ _ _ _ _ hgg).trans rfl; clear hgg)
            | fail)
          go_cut [] (fun wc => ∃ (F5 : Nat → Prop) (y : RW), Hid (RWtr wc B F5 g y) ∧ Hid (Chg F w wc) ∧ Hid (∀ z, F5 z → F z ∨ w.heap.size ≤ z) ∧ Hid y.Fine ∧ Hid (xk.name (ns.drop k) false = (y.label l).name (ns.drop (k + 1)) false) ∧ y.b.length ≤ xk.b.length ∧ y.rests.length ≤ xk.rests.length + 1)
          case first =>
            by_cases h16 : xk.b.length < 16384
            · go_upto_region 7 with (fail)
              have hcut2 : Els encS So noS w2.drew (some ⟨bN, offN + k, none⟩) (ns.length - k) (ns.drop k) := hcut.keep (fun b hb => hb2.block b (Nat.lt_of_lt_of_le (HSo.out b hb).1 hch.size)) (fun b hb => hb.elim)
              have hlen : (ns.drop k).length = ns.length - k := List.length_drop
              have hnoF : ∀ b, Fk b → b < w2.heap.size := fun b hb => (hFl b hb).2
              go_region_law
                (first
                  | (refine step_cloneS (w := w2.drew) (by rfl) (.tmp 44) (.tmp 47) (by rfl) (by rfl) _ _ _ (ns.drop k) (by rfl) hcut2 (by omega) ?_ (by rfl); intro v4 w4 hown4 hb4'; have hb4 : Below w2.heap.size w2 w4 := bl.drew.trans hb4'; have y0 := below_cell hb4 e0; have y1 := below_cell hb4 e1; have y2 := below_cell (bl.alloc (Nat.le_refl _) (.cells #[.int .i64 (xk.b.length : Int), v4] 151)) y1; obtain ⟨g4, c4, rfl, hg4a, hg4b, hl4, hm4, _⟩ := OwnE.flat hown4 (by omega); rw [hlen] at hown4 hl4 y2 ⊢; have hS3 : ∀ b, (fun b => b = g4) b → b < w4.heap.size ∧ some b ≠ (Value.slice Ar xk.rests.length cr).ownBlock := fun b hb => by subst hb; exact ⟨hg4b, fun e => Nat.lt_irrefl _ (Nat.lt_of_lt_of_le (hrv.lt _ e.symm).2 hg4a)⟩)
                  | (refine step_pushE elRest (by rfl) (.tmp 38) (.tmp 50) (by rfl) B (.slice Ar xk.rests.length cr) xk.rests (by rfl) (hrv.below hb4) [.int .i64 (xk.b.length : Int), .slice (some ⟨g4, 0, none⟩) (ns.length - k) c4] (xk.b.length, ns.drop k) (S' := fun b => b = g4) (rest_own hown4 hlen hl4 hm4) hS3 (by rfl) (by omega) (by unfold maxLen; omega) (Nat.le_trans (Nat.le_trans hgF2.2 (Nat.le_of_lt (hnoF g hgF2.1))) hb4.size) ?_ (by rfl); intro v5 w5 hown5 hg5 hv5; obtain ⟨A5, c5, rfl, _⟩ := hown5.form; have hcells := RWtr.noted_cells HG.out hgF2 hrF hFl hb4 hg5; have z0 := hcells.1; have z1 := hcells.2.1; have z2 := hcells.2.2)
                  | fail)
              all_goals
                have hnt := RWtr.noted HG.out hbv hgF2 hbF hrF hSF hFl hb4 hown5 hg5 hv5 (fun b hb => by subst hb; exact ⟨hg4a, hg4b⟩)
                rw [show ({ xk with rests := xk.rests ++ [(xk.b.length, ns.drop k)] } : RW) = xk.note (ns.drop k) from by unfold RW.note; rw [if_pos h16]] at hnt
                simp only [List.length_append, List.length_cons, List.length_nil, Nat.zero_add] at hnt
                obtain ⟨hnt1, hnt2⟩ := hnt
                have HNT := Lib.hid hnt1
                have hcn := hch2.trans hnt2 HF.out
                have hnb := xk.note_b (ns.drop k)
                have hnr := xk.note_rests (ns.drop k)
                have HNX : Hid (xk.name (ns.drop k) false = ((xk.note (ns.drop k)).label l).name (ns.drop (k + 1)) false) := by
                  show _ = _
                  have := HLK.out
                  rw [HDR.out] at this ⊢
                  rw [RW.name, this]
                  rfl
                clear hnt1 hnt2
                go_wp2
                go_meet
                case rel => exact ⟨_, xk.note (ns.drop k), HNT, hcn, fun z hz => hz.elim (HF.out z) (fun h => .inr (Nat.le_trans hch2.size h.1)), HFI.out.note (HS.out.drop k), HNX, Nat.le_of_eq (by rw [hnb]), hnr⟩
            · have HNX : Hid (xk.name (ns.drop k) false = (xk.label l).name (ns.drop (k + 1)) false) := by
                show _ = _
                have := HLK.out
                rw [HDR.out] at this ⊢
                rw [RW.name, this]
                unfold RW.note
                rw [if_neg h16]
                rfl
              go_wp2
              go_meet
              case rel => exact ⟨Fk, xk, HW2, hch2, HF, HFI, HNX, Nat.le_refl _, Nat.le_succ _⟩
          case rest =>
            obtain ⟨F5, y, HNT, HC, HFQ, HFY, HNX, hnb, hnr⟩ := hcut
            have hcr5 := HC.out.cell HCN.out (HSo.out bN hsN).2
            go_wp2_with (first
              | (go_at_call 94; refine (rwraw_any _ B g F6 _ _ _ _ l (H6.out.below hb6) hr6 (by simp only [RW.raw, List.length_append, List.length_singleton]; omega)).mono ?_; rintro e w7 ⟨rfl, F7, h7, hc7, hF7⟩)
              | (go_at_call 63; refine (rwnum_any _ B g F5 y l.length 1 HNT.out (by omega) (by omega)).mono ?_; rintro e w6 ⟨rfl, F6, h6, hc6, hF6⟩; rw [put_len l hl2] at h6; have H6 := Lib.hid h6; have hr6 := (conv_rd w6 l).1; have hb6 := (conv_rd w6 l).2; have hcr6 := (HC.out.trans hc6 HFQ.out).cell HCN.out (HSo.out bN hsN).2; clear h6)
              | fail)
            go_roundw
            case rel =>
              have hq6 : ∀ z, F6 z → F z ∨ w.heap.size ≤ z := fun z hz => (hF6 z hz).elim (HFQ.out z) (fun h => .inr (Nat.le_trans HC.out.size h))
              have hq7 := (HC.out.trans hc6 HFQ.out).nx hb6
              exact ⟨k + 1, F7, (y.raw [UInt8.ofNat l.length]).raw l, by go_num, by omega, HN.out.trans (HNX.out.trans (by rw [rw_label])), h7, hq7.trans hc7 hq6, fun z hz => (hF7 z hz).elim (hq6 z) (fun h => .inr (Nat.le_trans hq7.size h)), (HFY.out.raw _).raw _, by simp only [RW.raw, List.length_append, List.length_singleton]; omega, by show y.rests.length ≤ _; omega⟩
            case measure => simp [intOf]; omega
        · have HNX : Hid (xk.name (ns.drop k) true = xk.raw (ptrB p)) := by
            show _ = _
            have := HLK.out
            rw [HDR.out] at this ⊢
            rw [RW.name, this]
            rfl
          have HPP := Lib.hid (put_ptr p hp)
          go_wp2_with (first
            | (go_at_call 114; refine (rwfind_any wr B g Fk xk _ _ _ (ns.drop k) HW.out hcut (by unfold maxLen; omega) HFL.out (by omega) HFP.out).mono ?_; rw [HLK.out, show placeR (some p) = (p : Int) from rfl]; rintro e w2 ⟨rfl, m2, hw2⟩; have hb2 : Below wr.heap.size wr w2 := (by rw [hw2]; exact dN bl m2); clear hw2; have HW2 := Lib.hid (HW.out.below hb2); have hch2 := hch.nx hb2; obtain ⟨bv, rv, S, hgg, hbv, hrv, hgF2, hbF, hrF, hSF, hFl⟩ := HW2.out; obtain ⟨Ab, cb, rfl, _⟩ := hbv.form; obtain ⟨Ar, cr, rfl, _⟩ := hrv.form; have HG := Lib.hid hgg; have e0 : w2.cell? ⟨g, 0, none⟩ = some (.slice Ab xk.b.length cb) := (cell_of_row _ _ _ _ _ _ hgg).trans rfl; have e1 : w2.cell? ⟨g, 1, none⟩ = some (.slice Ar xk.rests.length cr) := (cell_of_row _ _ _ _ _ _ hgg).trans rfl; clear hgg)
            | (go_at_call 63; refine (rwnum_any _ B g Fk xk (49152 + (p : Int)) 2 HW2.out (by omega) (by omega)).mono ?_; rw [HPP.out]; rintro e w6 ⟨rfl, F6, h6, hc6, hF6⟩)
            | fail)
          go_end0
          exact ⟨rfl, F6, by rw [HN.out, HNX.out]; exact h6, hch2.trans hc6 HF.out, fun z hz => (hF6 z hz).elim (HF.out z) (fun h => .inr (Nat.le_trans hch2.size h))⟩
    · have hke : k = ns.length := by omega
      have HNX : Hid (xk.name (ns.drop k) short = xk.raw [0]) := by show _ = _; rw [hke, List.drop_length]; rfl
      clear hke
      go_wp2_with (first
        | (go_at_call 63; refine (rwnum_any _ B g Fk xk 0 1 HW.out (by omega) (by omega)).mono ?_; rw [put_zero]; rintro e w6 ⟨rfl, F6, h6, hc6, hF6⟩)
        | fail)
      go_end0
      exact ⟨rfl, F6, by rw [HN.out, HNX.out]; exact h6, hch.trans hc6 HF.out, fun z hz => (hF6 z hz).elim (HF.out z) (fun h => .inr (Nat.le_trans hch.size h))⟩
end Go.Proofs.Ytimkdpkhdbiniaa

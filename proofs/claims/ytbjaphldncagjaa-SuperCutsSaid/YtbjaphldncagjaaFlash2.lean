/- flash: Write. -/
import Derived.Test.YtbjaphldncagjaaFlash1
import Derived.Test.YtbjaphldncagjaaTac
namespace Go.Proofs.Ytbjaphldncagjaa
open Go.RowKit

set_option maxHeartbeats 400000 in
theorem sclone_any (A : Option Addr) (m c : Nat) (bs : List UInt8) (w : World) (hb : RdB w A m bs) (hm : m ≤ 140737488355328) :
    Calls Try.prog 113 #[.slice A m c] w (RetP (fun v w' => OwnB w' w.heap.size v bs) w) := by
  have hlb := hb.len
  subst hlb
  rcases A with _ | ad
  · have hn : bs = [] := by
      rcases bs with _ | ⟨x, bs⟩
      · rfl
      · obtain ⟨b, off, e, _⟩ := hb.2 (by simp); cases e
    subst hn
    have he := fun W : World => Lib.run_eql_slice_nil (P := Try.prog) W 35 5 none ([] : List UInt8).length c 0 0 Try.underlying35
    simp only [List.length_nil, Option.isNone_none] at he
    go_enter Try.func113, Try.ntmps113
    go_wp2
    go_ret
    exact ⟨_, rfl, OwnB.nil _ _, bl⟩
  · have he := fun W : World => Lib.run_eql_slice_nil (P := Try.prog) W 35 5 (some ad) bs.length c 0 0 Try.underlying35
    simp only [Option.isNone_some] at he
    go_enter Try.func113, Try.ntmps113
    go_wp2_with ((with_reducible show wpList _ _ _ (⟨some 7, _, _, _, _, _⟩ :: _) _ _); refine wpL_cloneB rfl (.tmp 5) (.tmp 6) rfl rfl _ _ c bs rfl hb hm ?_; intro v2 w2 hown2 hb2)
    go_ret
    exact ⟨_, rfl, hown2, hb2⟩

theorem pad_eq {bs : List UInt8} : bs ++ zero512.drop bs.length = pad bs := by
  unfold pad zero512
  rw [List.drop_replicate]

/-- copy(dst, src): src no longer than dst, which is a row of the call's own. -/
theorem wpL_copyH {w : World} {ops : Array Oper} {rest : List Oper} {o : Oper} {a : Act} {Q : Exit → Act → World → Prop} (hgd : Region.wanted o (yielded ops a.tmps) = true) (d s : Operand)
    (ho : o.op = .call { callee := .builtin .copy, args := #[d, s], argTypes := #[35, 35] })
    (g m cap : Nat) (hd : a.eval d = .slice (some ⟨g, 0, none⟩) m cap) (A : Option Addr) (n c : Nat) (hs : a.eval s = .slice A n c)
    (base : Nat) (xs : List UInt8) (hown : OwnB w base (.slice (some ⟨g, 0, none⟩) m cap) xs) (bs : List UInt8) (hb : RdB w A n bs) (hnm : n ≤ m)
    (h : ∀ w', OwnB w' base (.slice (some ⟨g, 0, none⟩) m cap) (bs ++ xs.drop n) → w.grownBy w' (some g) → wpList Try.prog ops Q rest (a.put o.dst (goInt n)) w') : wpList Try.prog ops Q (o :: rest) a w := by
  have hl := hb.len
  have hxl := hown.rd.2
  by_cases h0 : n = 0
  · subst h0
    obtain rfl : bs = [] := List.eq_nil_of_length_eq_zero hl
    refine wpList_want hgd fun K hK => ?_
    refine wp_copy_nothing d s _ _ ho 5 Try.underlying35 sizeB _ _ _ _ _ _ hd hs (by simp) (hK _ _ (h w (by simpa using hown) (World.grownBy.refl w _)))
  · obtain ⟨b, off, rfl, hc⟩ := hb.2 (by simp; omega)
    obtain ⟨hl1, h2⟩ := hown
    rcases h2 with ⟨hv, _⟩ | ⟨g', cap', cur, hv, hbg, hg, hnc, hcm, hcs, htake⟩
    · cases hv
    · injection hv with e1 e2 e3
      injection e1 with e1
      injection e1 with e1
      subst e1 e3
      refine wpList_want hgd fun K hK => ?_
      have h1 := wp_copy_own (P := Try.prog) (K := K) (Q := Q) d s _ _ ho 5 Try.underlying35 sizeB g 0 m cap ⟨b, off, none⟩ n c hd hs cur _ hg (bs.map bV) (by simp [hl, Nat.min_eq_left hnm])
        (by intro j v hv; have := hc j v hv; simp only [Addr.add]; split
            · rename_i e; subst e; simpa using this
            · simpa using this) (by simp [hl]; omega) (bV_one bs)
      refine h1 (hK _ _ ?_)
      simp only [List.length_map, hl]
      have hml : m = xs.length := hxl
      have htake' : cur.toList.take m = xs.map bV := by rw [hml]; simpa using htake
      refine h _ ⟨by simp, .inr ⟨g, cap, _, by rw [List.length_append, List.length_drop, hl]; congr 1; omega, hbg, setRow_heap w g cur _ _ _ hg, by simp [hl]; omega, hcm, ?_, ?_⟩⟩ ⟨rfl, rfl, rfl, by simp, fun k _ hk => setRow_other w g k _ (fun e => hk (by simp [e]))⟩
      · simp only [List.size_toArray, List.length_append, List.length_take, List.length_map, List.length_drop, Array.length_toList, hl]
        omega
      · simp only [List.take_zero, List.nil_append, Nat.zero_add, Nat.mul_one, List.length_append, List.length_drop, hl, List.map_append, List.map_drop]
        rw [← htake', show n + (xs.length - n) = m by omega, List.take_append, List.length_map, hl, List.take_of_length_le (by simp [hl]; omega)]
        congr 1
        rw [List.drop_take]

theorem encW_own {w : World} {base gd c : Nat} {k : Int} {bs : List UInt8} (h : OwnB w base (.slice (some ⟨gd, 0, none⟩) 512 c) bs) : encW.R (fun b => b = gd) w [.int .i64 k, .slice (some ⟨gd, 0, none⟩) 512 c] (k, bs) := by
  have e := h.rd.2
  refine ⟨gd, c, ?_, rfl, ?_⟩
  · rw [e]
  · show OwnB w 0 (.slice (some ⟨gd, 0, none⟩) bs.length c) bs
    rw [← e]
    exact h.mono (Nat.zero_le _)

set_option maxRecDepth 100000 in
set_option maxHeartbeats 1000000 in
theorem write_any (w : World) (B g : Nat) (F : Nat → Prop) (d : Dv) (k : Int) (A : Option Addr) (n c : Nat) (bs : List UInt8) (h : Dev w B F g d) (hb : RdB w A n bs) (hA : ∀ b off, A = some ⟨b, off, none⟩ → b ≠ g) (hu : d.unsure.length ≤ 1000000) :
    Calls Try.prog 76 #[.pointer (some ⟨g, 0, none⟩), .int .i64 k, .slice A n c] w (fun e w' => e = .returned (.int .i64 (d.write k bs).2) ∧ ∃ F', Dev w' B F' g (d.write k bs).1 ∧ Chg F w w' ∧ (∀ x, F x → F' x) ∧ ∀ x, F' x → F x ∨ w.heap.size ≤ x) := by
  have hlb := hb.len
  subst hlb
  have hF : ∀ x, F x → F x ∨ w.heap.size ≤ x := fun x hx => .inl hx
  rcases d.chk_cases k with ⟨_, h2⟩ | ⟨_, _, h2⟩ | ⟨_, h3, h4, h2⟩
  · have hw : d.write k bs = (d, 8) := by unfold Dv.write; rw [h2, if_neg (by decide)]
    rw [hw]
    go_enter Try.func76, Try.ntmps76
    go_wp2_with (go_at_call 123; refine (check_any _ _ _ _ _ _ h).mono ?_; rw [h2]; rintro e w1 ⟨rfl, rfl⟩; have H := Lib.hid h; clear h hw h2)
    go_ret
    exact ⟨rfl, F, H.out, Chg.refl _ _, fun x hx => hx, hF⟩
  · have hw : d.write k bs = (d, 1) := by unfold Dv.write; rw [h2, if_neg (by decide)]
    rw [hw]
    go_enter Try.func76, Try.ntmps76
    go_wp2_with (go_at_call 123; refine (check_any _ _ _ _ _ _ h).mono ?_; rw [h2]; rintro e w1 ⟨rfl, rfl⟩; have H := Lib.hid h; clear h hw h2)
    go_ret
    exact ⟨rfl, F, H.out, Chg.refl _ _, fun x hx => hx, hF⟩
  · by_cases hl : 512 < bs.length
    · have hw : d.write k bs = (d, 1) := by unfold Dv.write; rw [h2, if_pos rfl, if_pos hl]
      rw [hw]
      go_enter Try.func76, Try.ntmps76
      go_wp2_with (go_at_call 123; refine (check_any _ _ _ _ _ _ h).mono ?_; rw [h2]; rintro e w1 ⟨rfl, rfl⟩; have H := Lib.hid h; clear h hw h2)
      go_ret
      exact ⟨rfl, F, H.out, Chg.refl _ _, fun x hx => hx, hF⟩
    · by_cases hst : d.stays = true
      · have hw : Hid (d.write k bs = ({ d.spent with unsure := d.unsure ++ [(k, pad bs)] }, 0)) := by show _ = _; unfold Dv.write; rw [h2, if_pos rfl, if_neg hl, if_pos hst]
        have hus := Lib.hid (congrArg List.length (Dv.spent_unsure (d := d)))
        have hmk : ∀ W : World, (Instr.makeSlice 35 (.int .i64 512) (.int .i64 512)).run Try.prog W = .ok (.slice (some ⟨W.heap.size, 0, none⟩) 512 512) (W.alloc (.cells (madeCells #[.int .u8 0] 512) 5)) := mkB 512 512 (Nat.le_refl _) (by omega)
        go_enter Try.func76, Try.ntmps76
        go_wp2_with (first
          | (go_at_call 123; refine (check_any _ _ _ _ _ _ h).mono ?_; rw [h2]; rintro e w1 ⟨rfl, rfl⟩; have H := Lib.hid h; clear h h2)
          | (go_at_call 122; refine (spend_any _ _ _ _ _ H.out).mono ?_; rw [hst]; rintro e w1 ⟨rfl, hd1, hc1⟩; obtain ⟨hf1, sv, uv, S, hgg, hs1, hu1, hgF, hs1F, hu1F, hSF, hFl⟩ := hd1; have HG := Lib.hid hgg; have hgl : g < w1.heap.size := (hFl g hgF.1).2; clear hgg; have ho1 : OwnB (w1.alloc (.cells (madeCells #[.int .u8 0] 512) 5)) w1.heap.size (.slice (some ⟨w1.heap.size, 0, none⟩) 512 512) zero512 := OwnB.made w1 512 (by unfold maxLen; omega); have hb1 := (hb.chg hc1 (fun b off e => hA b off e)).below (bl.alloc (Nat.le_refl _) (.cells (madeCells #[.int .u8 0] 512) 5)); have hba := (bl (w := w1)).alloc (Nat.le_refl _) (.cells (madeCells #[.int .u8 0] 512) 5); clear hst)
          | ((with_reducible show wpList _ _ _ (⟨some 27, _, _, _, _, _⟩ :: _) _ _); refine wpL_copyH rfl (.tmp 25) (.tmp 26) rfl w1.heap.size 512 512 rfl A _ c rfl w1.heap.size zero512 ho1 bs hb1 (by omega) ?_; intro w2 ho2 hg2; rw [pad_eq] at ho2; have hb2 := hba.grown hg2 hba.size (fun k hk => by injection hk with hk; omega); have c1 := (cell_of_row _ _ 1 _ _ _ ((hb2.block g hgl).trans HG.out)).trans rfl)
          | ((with_reducible show wpList _ _ _ (⟨some 37, _, _, _, _, _⟩ :: _) _ _); refine wpL_pushE elW rfl (.tmp 32) (.tmp 36) rfl B uv d.spent.unsure rfl (hu1.below hb2) [.int .i64 k, .slice (some ⟨w1.heap.size, 0, none⟩) 512 512] (k, pad bs) (S' := fun b => b = w1.heap.size) (encW_own ho2) (fun b hb => ⟨by rw [hb]; exact ho2.lt.2, fun e => by have := (hu1.lt b e.symm).2; omega⟩) rfl (by rw [hus.out]; omega) (by rw [hus.out]; unfold maxLen; omega) (by have := hb2.size; omega) ?_; intro v3 w3 hown3 hg3 hv3; obtain ⟨A3, c3, rfl, _⟩ := hown3.form; have hgw3 := (hg3.block g (Nat.lt_of_lt_of_le hgl hb2.size) (fun e => (hu1F g e.symm).2.1 rfl)).trans ((hb2.block g hgl).trans HG.out); have c13 := (cell_of_row _ _ 1 _ _ _ hgw3).trans rfl; have f3 : ∀ k, w3.frozen? ⟨g, k, none⟩ = false := fun k => frozen_of_row _ _ _ _ _ hgw3))
        go_ret
        rw [hw.out]
        have hc13 : Chg (fun x => uv.ownBlock = some x) w1 w3 := (Chg.of_below hb2).grown hg3 (fun x hx => .inl hx)
        have hww : w.heap.size ≤ w1.heap.size := hc1.size
        have hB : B ≤ w.heap.size := by have := H.out.F_lt g H.out.g_F; omega
        have hcF : Chg F w w3 := (hc1.mono (fun x hx => by subst hx; exact .inl hgF.1)).trans hc13 (fun x hx => .inl (hu1F x hx).1)
        have hw23 := hg3.size
        have hln : (d.spent.unsure ++ [(k, pad bs)]).length = d.spent.unsure.length + 1 := by simp
        rw [hln] at hown3 hv3
        have hown4 := hown3
        rw [show d.spent.unsure ++ [(k, pad bs)] = d.unsure ++ [(k, pad bs)] by rw [Dv.spent_unsure]] at hown4
        have hw12 := hb2.size
        refine ⟨rfl, fun x => F x ∨ (w.heap.size ≤ x ∧ x < w3.heap.size), ?_, hcF.setCell (p := ⟨g, 1, none⟩) (.inl hgF.1) _, fun x hx => .inl hx, fun x hx => hx.imp id (·.1)⟩
        refine Dev.own_cells (w := w3) (sv := sv) (S := orS S fun b => b = w1.heap.size) ?_ ((heap_setCell_same _ _ _ _ _ _ hgw3).trans rfl) (chg_g1 w3 g 1 _) (hs1.chg hc13 (fun x hx e => (hu1F x e).2.2 hx) (fun _ hb => hb.elim)) hown4 ⟨.inl hgF.1, hgF.2⟩ (fun x hx => ⟨.inl (hs1F x hx).1, (hs1F x hx).2⟩) (fun x hx => ?_) (fun x hx => ?_) (fun x hx => ?_)
        · have := H.out.fine.write k bs
          rw [hw.out] at this
          exact this
        · rcases hv3 with e | e
          · rw [e] at hx
            exact ⟨.inl (hu1F x hx).1, (hu1F x hx).2⟩
          · have hxl := (hown3.lt x hx).2
            rw [e] at hx
            injection hx with hx
            exact ⟨.inr ⟨by omega, hxl⟩, by omega, fun e2 => by have := (hFl x (hs1F x e2).1).2; omega⟩
        · rcases hx with hx | hx
          · exact ⟨.inl (hSF x hx).1, (hSF x hx).2⟩
          · have := ho2.lt.2
            exact ⟨.inr ⟨by omega, by omega⟩, by omega, fun e2 => by have := (hFl x (hs1F x e2).1).2; omega⟩
        · rcases hx with hx | hx
          · exact ⟨(hFl x hx).1, by have := (hFl x hx).2; omega⟩
          · exact ⟨by omega, hx.2⟩
      · have hw : d.write k bs = (d.spent, 8) := by unfold Dv.write; rw [h2, if_pos rfl, if_neg hl, if_neg hst]
        rw [hw]
        have hst' : d.stays = false := by simpa using hst
        clear hst
        go_enter Try.func76, Try.ntmps76
        go_wp2_with (first
          | (go_at_call 123; refine (check_any _ _ _ _ _ _ h).mono ?_; rw [h2]; rintro e w1 ⟨rfl, rfl⟩; have H := Lib.hid h; clear h hw h2)
          | (go_at_call 122; refine (spend_any _ _ _ _ _ H.out).mono ?_; rw [hst']; rintro e w1 ⟨rfl, hd1, hc1⟩; have HD1 := Lib.hid hd1; clear hd1 hst'))
        go_ret
        exact ⟨rfl, F, HD1.out, hc1.mono (fun x hx => by subst hx; exact .inl H.out.g_F), fun x hx => hx, hF⟩
end Go.Proofs.Ytbjaphldncagjaa

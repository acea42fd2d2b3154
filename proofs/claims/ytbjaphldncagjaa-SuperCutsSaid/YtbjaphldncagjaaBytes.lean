/- Slices of bytes that the call itself made, over this seat's type numbers: make, append, copy. -/
import Derived.Test.YtbjaphldncagjaaChecked
import Derived.Test.YtbjaphldncagjaaLib
import Derived.Test.YtbjaphldncagjaaAppend2
namespace Go.Proofs.Ytbjaphldncagjaa
open Go.RowKit

theorem infoB : (Try.prog.info? 5).map (fun i => (i.zero, i.size, i.bytes)) = some (some (.int .u8 0), 1, 1) := by kernel_rfl
theorem sizeB : (Try.prog.info? 5).map (·.size) = some 1 := by kernel_rfl

/-- The slice value v, of the call's own making, holds the bytes bs. -/
def OwnB (w : World) (base : Nat) (v : Value) (bs : List UInt8) : Prop := w.ownsRow base 5 1 v bs.length (bs.map bV)

theorem bV_one (l : List UInt8) : ∀ u ∈ l.map bV, u.oneCell' = true := by
  intro u hu
  obtain ⟨x, _, rfl⟩ := List.mem_map.1 hu
  rfl

theorem mkB (n c : Nat) (hnc : n ≤ c) (hc : c ≤ 281474976710656) (w : World) :
    (Instr.makeSlice 35 (.int .i64 (n : Int)) (.int .i64 (c : Int))).run Try.prog w = .ok (.slice (some ⟨w.heap.size, 0, none⟩) n c) (w.alloc (.cells (madeCells #[.int .u8 0] c) 5)) := by
  obtain ⟨i0, hi, hz, hs, hb⟩ := info_parts infoB
  have h := run_make (P := Try.prog) w 35 5 i0 _ Try.underlying35 hi hz .i64 .i64 n c (by omega) (by omega) (by rw [hb]; omega) (by omega)
  simp only [Int.toNat_natCast, hs, Nat.mul_one] at h
  exact h

theorem mkB_size (n : Nat) : (madeCells #[.int .u8 0] n).size = n := by simp [size_madeCells]

/-- copy(dst, src), both of m bytes, dst the whole head of a row of the call's own. -/
theorem wpL_copyB {w : World} {ops : Array Oper} {rest : List Oper} {o : Oper} {a : Act} {Q : Exit → Act → World → Prop} (hgd : Region.wanted o (yielded ops a.tmps) = true) (d s : Operand)
    (ho : o.op = .call { callee := .builtin .copy, args := #[d, s], argTypes := #[35, 35] })
    (g m cap : Nat) (hd : a.eval d = .slice (some ⟨g, 0, none⟩) m cap) (A : Option Addr) (c : Nat) (hs : a.eval s = .slice A m c)
    (cur : Array Value) (hg : w.heap[g]? = some (.cells cur 5 (0, 0))) (hcur : cur.size = cap) (hmc : m ≤ cap) (hcap : cap ≤ maxLen) (bs : List UInt8) (hb : RdB w A m bs) (base : Nat) (hbase : base ≤ g)
    (h : ∀ w', OwnB w' base (.slice (some ⟨g, 0, none⟩) m cap) bs → w.grownBy w' (some g) → wpList Try.prog ops Q rest (a.put o.dst (goInt m)) w') : wpList Try.prog ops Q (o :: rest) a w := by
  have hl := hb.len
  by_cases h0 : m = 0
  · subst h0
    obtain rfl : bs = [] := List.eq_nil_of_length_eq_zero hl
    refine wpList_want hgd fun K hK => ?_
    refine wp_copy_nothing d s _ _ ho 5 Try.underlying35 sizeB _ _ _ _ _ _ hd hs (by simp) (hK _ _ (h w ⟨by simp, .inr ⟨g, cap, cur, rfl, hbase, hg, by omega, hcap, by omega, by simp⟩⟩ (World.grownBy.refl w _)))
  · obtain ⟨b, off, rfl, hc⟩ := hb.2 (by simp; omega)
    refine wpList_want hgd fun K hK => ?_
    have h1 := wp_copy_own (P := Try.prog) (K := K) (Q := Q) d s _ _ ho 5 Try.underlying35 sizeB g 0 m cap ⟨b, off, none⟩ m c hd hs cur _ hg (bs.map bV) (by simp [hl])
      (by intro j v hv; have := hc j v hv; simp only [Addr.add]; split
          · rename_i e; subst e; simpa using this
          · simpa using this) (by simp [hl]; omega) (bV_one bs)
    refine h1 (hK _ _ ?_)
    simp only [List.length_map, hl]
    refine h _ ⟨by simp, .inr ⟨g, cap, _, by rw [hl], hbase, setRow_heap w g cur _ _ _ hg, by omega, hcap, ?_, ?_⟩⟩ ⟨rfl, rfl, rfl, by simp, fun k _ hk => setRow_other w g k _ (fun e => hk (by simp [e]))⟩
    · simp [hl]; omega
    · simp [hl]

section
variable {w : World} {base n' c' : Nat} {v : Value} {bs : List UInt8} {A' : Option Addr}
theorem OwnB.alloc (h : OwnB w base v bs) (o : Obj) : OwnB (w.alloc o) base v bs := World.ownsRow.alloc h o
theorem OwnB.below {w' : World} (h : OwnB w base v bs) (hb : Below w.heap.size w w') : OwnB w' base v bs :=
  World.ownsRow.kept h (row := none) ⟨hb.os, hb.tape, hb.output, hb.size, fun k hk _ => hb.block k hk⟩ (by cases v.ownBlock <;> simp)
theorem OwnB.mono {base' : Nat} (h : OwnB w base v bs) (hb : base' ≤ base) : OwnB w base' v bs := by
  refine ⟨h.1, ?_⟩
  rcases h.2 with h2 | ⟨g, cap, cur, h1, h2, h3⟩
  · exact .inl h2
  · exact .inr ⟨g, cap, cur, h1, by omega, h3⟩
theorem OwnB.nil (w : World) (base : Nat) : OwnB w base (.slice none 0 0) [] := World.ownsRow_nil _ _ _ _
/-- An owned slice of bytes as a value, and how it reads. -/
theorem OwnB.form (h : OwnB w base v bs) : ∃ A c, v = .slice A bs.length c ∧ RdB w A bs.length bs ∧ bs.length ≤ c ∧ c ≤ maxLen := by
  rcases h.2 with ⟨rfl, h0⟩ | ⟨g, cap, cur, rfl, h2, h3, h4, h5, _⟩
  · have : bs = [] := List.eq_nil_of_length_eq_zero h0
    subst this
    exact ⟨none, 0, rfl, Rd.nil _ _ _, Nat.le_refl _, by simp [maxLen]⟩
  · exact ⟨_, cap, rfl, Rd.of_own h, h4, h5⟩
theorem OwnB.rd (h : OwnB w base (.slice A' n' c') bs) : RdB w A' n' bs ∧ n' = bs.length := by
  obtain ⟨A, c, hv, hr, _⟩ := h.form
  injection hv with h1 h2 h3
  subst h1
  subst h2
  exact ⟨hr, rfl⟩
end

section
variable {w : World} {base g n c : Nat} {bs : List UInt8}
theorem OwnB.cell (h : OwnB w base (.slice (some ⟨g, 0, none⟩) n c) bs) {k : Nat} (hk : k < bs.length) : w.cell? ⟨g, k, none⟩ = some (.int .u8 ((bs[k]).toNat : Int)) := by
  obtain ⟨A, c', hv, hr, _⟩ := h.form
  injection hv with h1 h2 h3
  subst h1
  obtain ⟨b, off, x, e, hx, hc⟩ := hr.at_ hk
  injection e with e
  injection e with e1 e2
  subst e1
  subst e2
  rw [List.getElem?_eq_getElem hk] at hx
  injection hx with hx
  rw [hx]
  simpa using hc
theorem OwnB.free (h : OwnB w base (.slice (some ⟨g, 0, none⟩) n c) bs) (k : Nat) : w.frozen? ⟨g, k, none⟩ = false := by
  obtain ⟨A, c', hv, _⟩ := h.form
  injection hv with h1 h2 h3
  subst h2
  exact World.ownsRow.frozenAt h k
theorem OwnB.lt (h : OwnB w base (.slice (some ⟨g, 0, none⟩) n c) bs) : base ≤ g ∧ g < w.heap.size := World.ownsRow.lt h g rfl
theorem OwnB.set (h : OwnB w base (.slice (some ⟨g, 0, none⟩) n c) bs) (k : Nat) (y : UInt8) : OwnB (w.setCell ⟨g, k, none⟩ (.int .u8 (y.toNat : Int))) base (.slice (some ⟨g, 0, none⟩) n c) (bs.set k y) := by
  obtain ⟨A, c', hv, _⟩ := h.form
  injection hv with h1 h2 h3
  subst h2
  have := (World.ownsRow.stored h k (.int .u8 (y.toNat : Int))).1
  unfold OwnB
  rw [List.length_set, List.map_set]
  exact this
theorem OwnB.made (w : World) (n : Nat) (hn : n ≤ maxLen) : OwnB (w.alloc (.cells (madeCells #[.int .u8 0] n) 5)) w.heap.size (.slice (some ⟨w.heap.size, 0, none⟩) n n) (List.replicate n 0) := by
  have h := World.ownsRow_lit (e := 5) (size := 1) w (madeCells #[.int .u8 0] n) n (Nat.le_refl _) hn (by simp [size_madeCells])
  unfold OwnB
  rw [List.length_replicate, List.map_replicate]
  rw [toList_madeCells_one] at h
  exact h
end

theorem OwnB.flat {w : World} {base : Nat} {v : Value} {bs : List UInt8} (h : OwnB w base v bs) (hn : 0 < bs.length) : ∃ g c, v = .slice (some ⟨g, 0, none⟩) bs.length c ∧ base ≤ g ∧ g < w.heap.size ∧ bs.length ≤ c ∧ c ≤ maxLen ∧
    ∀ k x, bs[k]? = some x → w.cell? ⟨g, k, none⟩ = some (.int .u8 (x.toNat : Int)) := by
  rcases h.2 with ⟨rfl, h0⟩ | ⟨g, cap, cur, rfl, h2, h3, h4, h5, _⟩
  · omega
  · refine ⟨g, cap, rfl, h2, h.lt.2, h4, h5, fun k x hx => ?_⟩
    have hk : k < bs.length := (List.getElem?_eq_some_iff.1 hx).1
    rw [h.cell hk]
    rw [List.getElem?_eq_getElem hk] at hx
    injection hx with hx
    rw [hx]

theorem lit_rd (w : World) (bs : List UInt8) (hn : bs.length ≤ maxLen) : RdB (w.alloc (.cells (bs.map bV).toArray 5)) (some ⟨w.heap.size, 0, none⟩) bs.length bs :=
  Rd.of_own (base := w.heap.size) (e := 5) (c := bs.length) (by
    have h := World.ownsRow_lit (base := w.heap.size) (e := 5) (size := 1) w (bs.map bV).toArray bs.length (Nat.le_refl _) (by
      exact hn) (by simp)
    simpa using h)

/-- append(s, x...): s of the call's own. -/
theorem wpL_appB {w : World} {ops : Array Oper} {rest : List Oper} {o : Oper} {a : Act} {Q : Exit → Act → World → Prop} (hgd : Region.wanted o (yielded ops a.tmps) = true) (s x : Operand)
    (ho : o.op = .call { callee := .builtin .append, args := #[s, x], argTypes := #[35, 35] })
    (base : Nat) (v : Value) (bs : List UInt8) (hs : a.eval s = v) (hown : OwnB w base v bs) (A : Option Addr) (m c : Nat) (news : List UInt8) (hx : a.eval x = .slice A m c) (hr : RdB w A m news)
    (hb : bs.length + m ≤ 140737488355328) (hbase : base ≤ w.heap.size)
    (h : ∀ v' w', OwnB w' base v' (bs ++ news) → w.grownBy w' v.ownBlock → (v'.ownBlock = v.ownBlock ∨ v'.ownBlock = some w.heap.size) → wpList Try.prog ops Q rest (a.put o.dst v') w') : wpList Try.prog ops Q (o :: rest) a w := by
  obtain ⟨i0, hi, hz, hsz, hby⟩ := info_parts infoB
  refine wpList_want hgd fun K hK => ?_
  refine wp_append_any (P := Try.prog) s x _ ho base 5 i0 _ 1 1 Try.underlying35 hi hz hsz hby rfl (by decide) v bs.length _ hs hown A m c _ hx hr (bV_one news) (by unfold maxLen; omega) (by omega) hbase fun v' w' h1 h2 h3 => hK _ _ (h v' w' ?_ h2 h3)
  unfold OwnB
  rw [List.length_append, List.map_append, hr.len]
  exact h1

theorem own_empty (w : World) : OwnB (w.alloc (.cells #[] 5)) w.heap.size (.slice (some ⟨w.heap.size, 0, none⟩) 0 0) [] := World.ownsRow_lit (e := 5) (size := 1) w #[] 0 (Nat.le_refl _) (by simp) rfl
theorem OwnB.drew {w : World} {base : Nat} {v : Value} {bs : List UInt8} (h : OwnB w base v bs) : OwnB w.drew base v bs := h
theorem OwnB.drewN {w : World} {base : Nat} {v : Value} {bs : List UInt8} (h : OwnB w base v bs) (k : Nat) : OwnB (w.drewN k) base v bs := h
/-- append(s, x...), as a step of a region that draws its order. -/
theorem step_appB {w : World} {ops : Array Oper} {o : Oper} {a : Act} {K : Act → World → Prop} {Q : Exit → Act → World → Prop} {E : Prop} (hgd : Region.wanted o (yielded ops a.tmps) = true) (s x : Operand)
    (ho : o.op = .call { callee := .builtin .append, args := #[s, x], argTypes := #[35, 35] })
    (base : Nat) (v : Value) (bs : List UInt8) (hs : a.eval s = v) (hown : OwnB w base v bs) (A : Option Addr) (m c : Nat) (news : List UInt8) (hx : a.eval x = .slice A m c) (hr : RdB w A m news)
    (hb : bs.length + m ≤ 140737488355328) (hbase : base ≤ w.heap.size)
    (h : ∀ v' w', OwnB w' base v' (bs ++ news) → w.grownBy w' v.ownBlock → (v'.ownBlock = v.ownBlock ∨ v'.ownBlock = some w.heap.size) → K (a.put o.dst v') w') :
    if Region.wanted o (yielded ops a.tmps) = true then Oper.wp Try.prog o a w K Q else E := by
  rw [if_pos hgd]
  obtain ⟨i0, hi, hz, hsz, hby⟩ := info_parts infoB
  refine wp_append_any (P := Try.prog) s x _ ho base 5 i0 _ 1 1 Try.underlying35 hi hz hsz hby rfl (by decide) v bs.length _ hs hown A m c _ hx hr (bV_one news) (by unfold maxLen; omega) (by omega) hbase fun v' w' h1 h2 h3 => h v' w' ?_ h2 h3
  unfold OwnB
  rw [List.length_append, List.map_append, hr.len]
  exact h1

/-- append(s, x...), x a string. -/
theorem wpL_appS {w : World} {ops : Array Oper} {rest : List Oper} {o : Oper} {a : Act} {Q : Exit → Act → World → Prop} (hgd : Region.wanted o (yielded ops a.tmps) = true) (s x : Operand)
    (ho : o.op = .call { callee := .builtin .append, args := #[s, x], argTypes := #[35, 9] })
    (base : Nat) (v : Value) (bs : List UInt8) (hs : a.eval s = v) (hown : OwnB w base v bs) (news : List UInt8) (hx : a.eval x = .string (bstr news))
    (hb : bs.length + news.length ≤ 140737488355328) (hbase : base ≤ w.heap.size)
    (h : ∀ v' w', OwnB w' base v' (bs ++ news) → w.grownBy w' v.ownBlock → (v'.ownBlock = v.ownBlock ∨ v'.ownBlock = some w.heap.size) → wpList Try.prog ops Q rest (a.put o.dst v') w') : wpList Try.prog ops Q (o :: rest) a w := by
  obtain ⟨i0, hi, hz, hsz, hby⟩ := info_parts infoB
  refine wpList_want hgd fun K hK => ?_
  obtain ⟨v', w', hrun, h2, h3, h4⟩ := run_append_string (P := Try.prog) w base 35 9 o.type 5 i0 Try.underlying35 Try.underlying9 hi hz hsz hby v bs.length _ hown (bstr news) (by rw [bstr_size]; omega) hbase
  unfold Oper.wp execOp
  simp only [ho, resolve, invoke, builtin, Sem.run_bind, Sem.run_pure, Result.andThen_ok, List.map_toArray, List.map_cons, List.map_nil, hs, hx, hrun]
  refine hK _ _ (h v' w' ?_ h3 h4)
  unfold OwnB
  rw [List.length_append, List.map_append]
  rw [bstr_size] at h2
  have : (bstr news).data.toList = news := by simp [bstr]
  rw [this] at h2
  exact h2
/-- append(s, make([]byte, m)...). -/
theorem wpL_zerosB {w : World} {ops : Array Oper} {rest : List Oper} {o : Oper} {a : Act} {Q : Exit → Act → World → Prop} (hgd : Region.wanted o (yielded ops a.tmps) = true) (s x : Operand)
    (ho : o.op = .call { callee := .builtin .append, args := #[s, x], argTypes := #[35, 3] })
    (base : Nat) (v : Value) (bs : List UInt8) (hs : a.eval s = v) (hown : OwnB w base v bs) (m : Nat) (z : Int) (hx : a.eval x = .int .i64 z) (hz0 : z = (m : Int))
    (hb : bs.length + m ≤ 140737488355328) (hbase : base ≤ w.heap.size)
    (h : ∀ v' w', OwnB w' base v' (bs ++ List.replicate m 0) → w.grownBy w' v.ownBlock → (v'.ownBlock = v.ownBlock ∨ v'.ownBlock = some w.heap.size) → wpList Try.prog ops Q rest (a.put o.dst v') w') : wpList Try.prog ops Q (o :: rest) a w := by
  subst hz0
  obtain ⟨i0, hi, hz, hsz, hby⟩ := info_parts infoB
  refine wpList_want hgd fun K hK => ?_
  by_cases hm0 : m = 0
  · subst hm0
    have hrun := run_append_zeros0 (P := Try.prog) w base 35 3 o.type 5 i0 Try.underlying35 Try.underlying3 hi v bs.length _ hown
    unfold Oper.wp execOp
    simp only [ho, resolve, invoke, builtin, Sem.run_bind, Sem.run_pure, Result.andThen_ok, List.map_toArray, List.map_cons, List.map_nil, hs, hx]
    rw [show ((0 : Nat) : Int) = 0 from rfl, hrun]
    exact hK _ _ (h v w (by simpa using hown) (World.grownBy.refl w _) (.inl rfl))
  · obtain ⟨v', w', hrun, h2, h3, h4⟩ := run_append_zeros (P := Try.prog) w base 35 3 o.type 5 i0 Try.underlying35 Try.underlying3 hi hz hsz hby v bs.length _ hown m hm0 hb hbase
    unfold Oper.wp execOp
    simp only [ho, resolve, invoke, builtin, Sem.run_bind, Sem.run_pure, Result.andThen_ok, List.map_toArray, List.map_cons, List.map_nil, hs, hx, hrun]
    refine hK _ _ (h v' w' ?_ h3 h4)
    unfold OwnB
    rw [List.length_append, List.map_append, List.length_replicate, List.map_replicate]
    exact h2

/-- append([]byte{}, x...). -/
theorem wpL_cloneB {w : World} {ops : Array Oper} {rest : List Oper} {o : Oper} {a : Act} {Q : Exit → Act → World → Prop} (hgd : Region.wanted o (yielded ops a.tmps) = true) (s x : Operand)
    (ho : o.op = .call { callee := .builtin .append, args := #[s, x], argTypes := #[35, 35] })
    {g : Nat} (hs : a.eval s = .slice (some ⟨g, 0, none⟩) 0 0) (A : Option Addr) (m c : Nat) (news : List UInt8) (hx : a.eval x = .slice A m c) (hr : RdB w A m news)
    (hb : m ≤ 140737488355328)
    (h : ∀ v' w', OwnB w' w.heap.size v' news → Below w.heap.size w w' → wpList Try.prog ops Q rest (a.put o.dst v') w') (hgs : g = w.heap.size := by simp) : wpList Try.prog ops Q (o :: rest) a (w.alloc (.cells #[] 5)) := by
  subst hgs
  refine wpL_appB hgd s x ho w.heap.size _ [] hs ?_ A m c news hx (hr.below ((Below.refl _ _).alloc (Nat.le_refl _) _)) (by simpa using hb) (by simp) fun v' w' h1 h2 h3 => h v' w' h1 ?_
  · exact World.ownsRow_lit (e := 5) (size := 1) w #[] 0 (Nat.le_refl _) (by simp) rfl
  · exact ((Below.refl _ _).alloc (Nat.le_refl _) _).grown h2 (by simp) (fun k hk => by simp [Value.ownBlock] at hk; omega)

/-- append(s, x): one byte. -/
theorem wpL_pushB {w : World} {ops : Array Oper} {rest : List Oper} {o : Oper} {a : Act} {Q : Exit → Act → World → Prop} (hgd : Region.wanted o (yielded ops a.tmps) = true) (s x : Operand)
    (ho : o.op = .call { callee := .builtin .append, args := #[s, x], argTypes := #[35, 35] })
    (base : Nat) (v : Value) (bs : List UInt8) (hs : a.eval s = v) (hown : OwnB w base v bs) (n : Int) (y : UInt8) (hn : n = (y.toNat : Int)) {g : Nat} (hx : a.eval x = .slice (some ⟨g, 0, none⟩) 1 1)
    (hb : bs.length + 1 ≤ 140737488355328) (hbase : base ≤ w.heap.size)
    (h : ∀ v' w', OwnB w' base v' (bs ++ [y]) → w.grownBy w' v.ownBlock → (v'.ownBlock = v.ownBlock ∨ v'.ownBlock = some (w.heap.size + 1)) → wpList Try.prog ops Q rest (a.put o.dst v') w') (hgs : g = w.heap.size := by simp) :
    wpList Try.prog ops Q (o :: rest) a (w.alloc (.cells #[.int .u8 n] 5)) := by
  subst hgs
  subst hn
  refine wpL_appB hgd s x ho base v bs hs (hown.alloc _) _ 1 1 [y] hx ?_ hb (by simp; omega) fun v' w' h1 h2 h3 => h v' w' h1 ((World.grownBy_alloc w _ _).trans h2) (by simpa using h3)
  refine ⟨by simp, fun _ => ⟨w.heap.size, 0, rfl, fun j u hu => ?_⟩⟩
  have := cell_one_new w (.int .u8 (y.toNat : Int)) 5 j u hu
  rwa [add_flat] at this
end Go.Proofs.Ytbjaphldncagjaa

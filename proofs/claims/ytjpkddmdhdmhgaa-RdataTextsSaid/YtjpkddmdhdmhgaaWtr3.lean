/- wname: Name. -/
import Derived.Test.YtjpkddmdhdmhgaaWtr2
import Derived.Laws.BitsLemmas
import Derived.Lib.ConvBytes
namespace Go.Proofs.Ytjpkddmdhdmhgaa
open Go.RowKit Go.Maps

theorem or_ptr (p : Nat) (hp : p < 16384) : bits .or .i64 49152 (p : Int) = 49152 + (p : Int) := by
  rw [bits_join .i64 63 (by decide) (fun n h0 h1 => by rw [IntKind.wrap_i64]; omega) 14 49152 p (by decide) (by decide) (by decide) (by omega) (by omega) (by omega)]
theorem put_ptr (p : Nat) (hp : p < 16384) : putB [] (49152 + (p : Int)) 2 = ptrB p := by
  rw [show (49152 + (p : Int)) = ((49152 + p : Nat) : Int) by omega]
  unfold putB
  rw [if_pos (by unfold fitsB; rw [decide_eq_true_iff]; refine ⟨by decide, by decide, by omega, ?_⟩; rw [show (256 : Int) ^ (2 : Int).toNat = 65536 by decide]; omega)]
  show be (49152 + p) 2 = ptrB p
  unfold ptrB
  simp only [be, List.nil_append, List.cons_append]
  congr 1
  · apply UInt8.toNat_inj.1
    simp only [UInt8.toNat_ofNat']
    omega
  · congr 1
    apply UInt8.toNat_inj.1
    simp only [UInt8.toNat_ofNat']
    omega
theorem put_len (l : List UInt8) (h : l.length ≤ 63) : putB [] (l.length : Int) 1 = [UInt8.ofNat l.length] := by
  unfold putB
  rw [if_pos (by unfold fitsB; rw [decide_eq_true_iff]; refine ⟨by decide, by decide, by omega, ?_⟩; rw [show (256 : Int) ^ (1 : Int).toNat = 256 by decide]; omega)]
  show be l.length 1 = _
  simp only [be, List.nil_append]
theorem put_zero : putB [] 0 1 = [0] := by decide

/-- m[k] = p, as a step of a region that draws its order. -/
theorem step_mapPut {w : World} {mb : Nat} {rs : List (List UInt8 × Nat)} (h : MapIs w mb rs) {ops : Array Oper} {o : Oper} {a : Act} {K : Act → World → Prop} {Q : Exit → Act → World → Prop} {X : Prop} (hgd : Region.wanted o (yielded ops a.tmps) = true) (m x v : Operand)
    (hop : o.op = Op.mapUpdate 125 m x v) (hm : a.eval m = .map (some mb)) {k : List UInt8} (hx : a.eval x = .string (bstr k)) (hk : k.length ≤ maxLen) {p : Nat} (hv : a.eval v = .int .i64 (p : Int)) (hp : p ≤ 1000000000000) (hn : rs.length < maxLen)
    (hK : ∀ w', MapIs w' mb ((k, p) :: rs) → w.grownBy w' (some mb) → K (a.put o.dst undef) w') : if Region.wanted o (yielded ops a.tmps) = true then Oper.wp Try.prog o a w K Q else X := by
  rw [if_pos hgd]
  obtain ⟨w', hrun, r1, r2⟩ := h.put hk hp hn
  unfold Oper.wp
  simp [execOp, hop, hm, hx, hv, hrun, Result.andThen]
  exact hK w' r1 r2

/-- []byte(s). -/
theorem conv_rd (w : World) (l : List UInt8) : RdB (Lib.bytesWorld w 5 (bstr l)) (some ⟨w.heap.size, 0, none⟩) l.length l ∧ Below w.heap.size w (Lib.bytesWorld w 5 (bstr l)) := by
  refine ⟨⟨by simp, fun _ => ⟨w.heap.size, 0, rfl, fun j u hu => ?_⟩⟩, ⟨rfl, rfl, rfl, by rw [Lib.bytesWorld_size]; omega, fun k hk => Lib.bytesWorld_at_old w _ _ k hk⟩⟩
  rw [List.getElem?_map] at hu
  cases hj : l[j]? with
  | none => rw [hj] at hu; cases hu
  | some y =>
    rw [hj] at hu
    injection hu with hu
    subst hu
    have hjl : j < l.length := (List.getElem?_eq_some_iff.1 hj).1
    have := Lib.bytesWorld_cell w 5 (bstr l) j (by rw [bstr_size]; exact hjl)
    rw [Nat.zero_add, this]
    have e : (bstr l).data.toList = l := by simp [bstr]
    rw [e]
    unfold bV
    rw [List.getD_eq_getElem?_getD, hj]
    rfl
end Go.Proofs.Ytjpkddmdhdmhgaa

/- Part 17 of the proof of laws of this seat: lemmas on the model's code, on this program's functions, on numbers. No condition. -/
import Derived.Test.YtigddjlhncnnoaaGreatDoorZGap
set_option linter.unusedVariables false
set_option linter.unusedSimpArgs false
open Nat renaming reduceEqDiff → J0, reduceLeDiff → J1, reduceMul → J2, reduceAdd → J3, reduceSub → J4, reduceLT → J5
open Int renaming reduceToNat → J6, reducePow → J7, reduceNeg → J8, reduceLT → J9, reduceLE → Ja, reduceEq → Jb
open And renaming intro → Jc
open Go.IntKind renaming bits → Jd
open Go.PW renaming dig_length → Je
namespace Go.Proofs.YtigddjlhncnnoaaGreatDoor
open Go.AL Go.RowKit
abbrev fltBlk (op : ByteArray) (n : Int) : Blk := ⟨[.str op, .ifc 114 (.int .i64 n)], .own, 195⟩
abbrev J0a (n : Int) : Blk := ⟨[.int .i64 n], .own, 114⟩
def Noted (H : Hp) : Prop := ∃ k e, X3 H k = some ⟨[], .glob 0 230 3 31, e⟩
theorem Noted.ext {H H' : Hp} (h : Noted H) (x : Ext H H') : Noted H' := by
  obtain ⟨k, e, h⟩ := h
  exact ⟨k, e, Qy h x⟩
theorem Noted.push {H : Hp} (h : Noted H) (b : Blk) : Noted (H ++ [b]) := h.ext (Ext.push _ _)
theorem Noted.set {H : Hp} (h : Noted H) {p : Nat} {b b' : Blk} (hp : X3 H p = some b) (hb : b.kind = .own) : Noted (H.set p b') := by
  obtain ⟨k, e, h⟩ := h
  refine ⟨k, e, ?_⟩
  rw [Qv (X6 hp), if_neg]
  · exact h
  · rintro rfl
    rw [hp] at h
    cases h
    cases hb
end Go.Proofs.YtigddjlhncnnoaaGreatDoor
namespace Go.Proofs.YtigddjlhncnnoaaGreatDoor
open Go.AL
theorem tf109ErD : type_of% (Jc @tyb9 (Jc @U1 (Jc @U0 (Jc @tyb193 (Jc @tyb194 (@tyb195)))))) := Jc @tyb9 (Jc @U1 (Jc @U0 (Jc @tyb193 (Jc @tyb194 (@tyb195)))))
theorem tf116ErD : type_of% (Jc @tyb9 (Jc @U1 (Jc @U0 (Jc @J02 (Jc @tyb193 (Jc @tyb194 (Jc @tyb195 (Jc @tyb196 (@tyb199))))))))) := Jc @tyb9 (Jc @U1 (Jc @U0 (Jc @J02 (Jc @tyb193 (Jc @tyb194 (Jc @tyb195 (Jc @tyb196 (@tyb199))))))))
set_option maxRecDepth 8000
def Err (H : Hp) (v : AV) (op : ByteArray) (n : Int) : Prop := ∃ h, v = .ifc 193 (.ptr h 0) ∧ X3 H h = some (fltBlk op n)
theorem Err.ext {H H' : Hp} {v : AV} {op : ByteArray} {n : Int} (h : Err H v op n) (x : Ext H H') : Err H' v op n := by
  obtain ⟨k, e, g⟩ := h
  exact ⟨k, e, Qy g x⟩
theorem Err.push {H : Hp} {v : AV} {op : ByteArray} {n : Int} (h : Err H v op n) (b : Blk) : Err (H ++ [b]) v op n := h.ext (Ext.push _ _)
theorem Err.lt {H : Hp} {v : AV} {op : ByteArray} {n : Int} (h : Err H v op n) : v.lt H.length := by
  obtain ⟨k, rfl, g⟩ := h
  simpa [AV.lt] using X6 g
theorem Yd {P : Program} {t u : TypeId} {ms : Array (String × TypeId)} {x : AV} (hu : P.underlying t = some (.interface ms)) : Xm P Op.maxDepth t (.ifc u x) .nilI = some false := W9 (b := false) fun d => by simp [Xm, hu]
theorem Vd {P : Program} {t : TypeId} {ms : Array (String × TypeId)} (hu : P.underlying t = some (.interface ms)) : Xm P Op.maxDepth t .nilI .nilI = some true := W9 (b := true) fun d => by simp [Xm, hu]
theorem ta_lacks {P : Program} {t asserted : TypeId} {want : Array (String × TypeId)} {v z : AV} (hu : P.underlying asserted = some (.interface want)) (h : (P.info? t).map (fun i => (lacking want i.methods).isEmpty) = some false) (hz : Z2 P asserted = some z) :
    Va P (.ifc t v) asserted true = some (.tup [z, .bool false]) := by
  obtain ⟨i, hi, hl⟩ := Option.map_eq_some_iff.1 h
  obtain ⟨m, hm⟩ := missingMethod_some (want := want) (got := i.methods) (fun e => by rw [e] at hl; cases hl)
  simp [Va, hu, hi, hm, hz]
theorem ta_same {P : Program} {t e : TypeId} {v : AV} (hu : P.underlying t = some (.pointer e)) : Va P (.ifc t v) t true = some (.tup [v, .bool true]) := by
  simp [Va, hu]
theorem ta_fault (v : AV) : Va Tryz.prog (.ifc 193 v) 193 true = some (.tup [v, .bool true]) := ta_same und193
theorem ta_fault_no (v : AV) : Va Tryz.prog (.ifc 193 v) 196 true = some (.tup [.nilI, .bool false]) := ta_lacks und196 (by kernel_rfl) zero196
theorem ta_num_no (v : AV) : Va Tryz.prog (.ifc 114 v) 196 true = some (.tup [.nilI, .bool false]) := ta_lacks und196 (by kernel_rfl) zero196
theorem ta_num_not (v : AV) : Va Tryz.prog (.ifc 114 v) 193 true = some (.tup [.nilP, .bool false]) := by
  simp [Va, und193, zero193]
theorem wrap_calls (op : ByteArray) (n : Int) (H : Hp) : ACalls Tryz.prog 109 [.str op, .ifc 114 (.int .i64 n)] H fun r H' => r = .ifc 193 (.ptr H.length 0) ∧ H ++ [fltBlk op n] = H' := by
  have hb : Yh Tryz.prog 195 [(0, .str op), (1, .ifc 114 (.int .i64 n))] = some (.agg [.str op, .ifc 114 (.int .i64 n)]) := by
    simp [Yh, zero195, G1, J0y, Nu, Nj, Q7, AV.solid, AV.one, AV.cells, Q2]
  refine Qo Tryz.func109 rfl (by kernel_rfl) (by kernel_rfl) ?_
  repeat' first
    | (with_reducible first | refine Jh (fun K hK => ?_) | refine Q4 ?_ | refine Qd ?_ | refine Jg ?_ | refine Jr ?_)
    | (simp only [Qb, Jo, reduceIte, J0])
    | ((with_reducible refine hK _ _ ?_); clear hK)
    | (simp only [Q9, RA, Jn, Jm, Jp, Q8, Q6, ev, ofValue, Ju, J0, J3, J2, J4, reduceCtorEq, reduceIte, Jv, Qm, Qk, Q0, aun, Qj, Jk, Ji, Jz, Jy, Jj, Qi, Jf, Q7, Q2, Js, J1, J5, Ja, J9, Jb, J6, J7, Jd, J8, RB, Jw, Je, tf109ErD, Yd Ys, hb])
  all_goals
    (
     (refine Qg (rs := [.tmp 4]) rfl ?_)
     (simp only [X5, Qf, Fr.put_some, Fr.put_none, Qp, Qq, Qt, J0, reduceIte])
     (try simp (disch := (first | omega | (simp only [RO]; done) | assumption | (simp only [RM, Je]; done) | (simp only [RL, Je]; omega))) only [RD, reduceCtorEq, reduceIte, Je, J1, J3, J2, J6, tf109ErD]))
abbrev Wh (op : ByteArray) : Blk := ⟨[.str op], .own, 9⟩
theorem within_num (n : Int) (H : Hp) : ACalls Tryz.prog 116 [.ifc 114 (.int .i64 n)] H fun r H' => r = .tup [.nilS, .nilI] ∧ H = H' := by
  refine Qo Tryz.func116 rfl (by kernel_rfl) (by kernel_rfl) ?_
  repeat' first
    | (with_reducible first | refine Jh (fun K hK => ?_) | refine Q4 ?_ | refine Qd ?_ | refine Jg ?_ | refine Jr ?_)
    | (simp only [Qb, Jo, reduceIte, J0])
    | ((with_reducible refine hK _ _ ?_); clear hK)
    | (simp only [Q9, RA, Jn, Jm, Jp, Q8, Q6, ev, ofValue, Ju, J0, J3, J2, J4, reduceCtorEq, reduceIte, Jv, Qm, Qk, Q0, aun, Qj, Jk, Ji, Jz, Jy, Jj, Qi, Jf, Q7, Q2, Js, J1, J5, Ja, J9, Jb, J6, J7, Jd, J8, RB, Jw, Je, tf116ErD, ta_num_no, ta_num_not])
  all_goals
    (
     (refine Qg (rs := [.tmp 2, .tmp 3]) rfl ?_)
     (simp only [X5, Qf, Fr.put_some, Fr.put_none, Qp, Qq, Qt, J0, reduceIte])
     (try simp (disch := (first | omega | (simp only [RO]; done) | assumption | (simp only [RM, Je]; done) | (simp only [RL, Je]; omega))) only [RD, reduceCtorEq, reduceIte, Je, J1, J3, J2, J6, tf116ErD]))
end Go.Proofs.YtigddjlhncnnoaaGreatDoor
namespace Go.Proofs.YtigddjlhncnnoaaGreatDoor
open Go.AL Go.RowKit
theorem tf68ErE : type_of% (Jc @Xw (Jc @tyb20 (Jc @U1 (Jc @U0 (Jc @Kg (@tyb173)))))) := Jc @Xw (Jc @tyb20 (Jc @U1 (Jc @U0 (Jc @Kg (@tyb173)))))
theorem tf116ErE : type_of% (Jc @tyb9 (Jc @U1 (Jc @U0 (Jc @J02 (Jc @tyb193 (Jc @tyb194 (Jc @tyb195 (Jc @tyb196 (@tyb199))))))))) := Jc @tyb9 (Jc @U1 (Jc @U0 (Jc @J02 (Jc @tyb193 (Jc @tyb194 (Jc @tyb195 (Jc @tyb196 (@tyb199))))))))
theorem Wk : type_of% (Jc @tyb9 (Jc @U1 (Jc @U0 (@J02)))) := Jc @tyb9 (Jc @U1 (Jc @U0 (@J02)))
abbrev pn116_6ErE : Plan := (.one 0 (.one 1 (.one 2 (.one 3 (.one 5 (.one 6 (.one 7 (.one 8 (.one 4 (.one 9 (.one 10 .nil)))))))))))
set_option maxRecDepth 8000
abbrev Nt : Blk := ⟨[], .glob 0 230 3 31, 0⟩
abbrev Fn (f : FuncId) (args : List AV) (res : AV) : Prop := Sure Tryz.prog Nt f args res
abbrev ErrA (op : ByteArray) (n : Int) : AV := .ifc 193 (.fp [.str op, .ifc 114 (.int .i64 n)])
theorem Err.frz {H : Hp} {v : AV} {op : ByteArray} {n : Int} (h : Err H v op n) : Frz H (ErrA op n) v := by
  obtain ⟨k, rfl, hk⟩ := h
  rw [Frz_ifc]
  exact Frz_ptr hk (fun h => by cases h) (by simp) (by simp only [List.drop_zero, List.take, List.length_cons, List.length_nil, RF])
theorem wrap_s (op : ByteArray) (n : Int) : Fn 109 [.str op, .ifc 114 (.int .i64 n)] (ErrA op n) :=
  Sure.of (by simp only [RT]) (wrap_calls op n _) (by rintro _ _ ⟨rfl, rfl⟩; exact Err.frz ⟨_, rfl, X7 rfl⟩)
theorem as_fp (op : ByteArray) (n old : Int) (p : Nat) (H : Hp) (hp : X3 H p = some (J0a old)) (hn : Noted H) :
    ACalls Tryz.prog 117 [ErrA op n, .ifc 173 (.ptr p 0)] H fun r H' => r = .bool true ∧ H.set p (J0a n) = H' := by
  refine ⟨⟨_, Tryz.func117, by kernel_rfl, by kernel_rfl⟩, ?_⟩
  intro w0 B β w vs R hv hl
  obtain ⟨vs⟩ := vs
  simp only [VRs, VR] at hv
  obtain ⟨_, _, rfl, ⟨_, rfl, x, rfl, hx⟩, _, _, rfl, ⟨_, rfl, rfl⟩, rfl⟩ := hv
  obtain ⟨gp, curp, eap, hgpB, hgpw, hgpl, hgpt⟩ := R.own p _ hp rfl
  obtain ⟨_, ⟨v1, hc1, hvr1, _⟩, _⟩ := R.fzn _ _ (hx 1 _ rfl)
  obtain ⟨v2, hc2, hvr2, _⟩ := R.cells p _ hp (fun e => by cases e) 0 _ rfl
  simp only [VR] at hvr1 hvr2
  obtain ⟨_, rfl, rfl⟩ := hvr1
  subst hvr2
  rw [eap, Addr.add_plain] at hc2
  obtain ⟨k, e, hk⟩ := hn
  obtain ⟨hg0, h0B⟩ := R.glob k _ hk 0 _ _ _ rfl
  have hg1 : w.cell? ⟨0, 0, none⟩ = _ := (R.below.cell h0B).trans hg0
  have hfr : w.frozen? ⟨gp, 0, none⟩ = false := by
    unfold World.frozen?
    simp [hgpw]
  rw [eap, Addr.add_plain]
  refine (as_two x n ⟨gp, 0, none⟩ _ w hg1 hc1 hc2 hfr).mono ?_
  rintro ev w' ⟨rfl, rfl⟩
  have b1 := (Below.refl w.heap.size w).alloc (Nat.le_refl _) (.cells #[.pointer (some ⟨gp, 0, none⟩)] 173)
  have b2 := b1.alloc (by simp) (.cells #[.pointer (some ⟨3, 173, none⟩), .pointer (some ⟨w.heap.size, 0, none⟩), .int .u64 150] 205)
  have b3 := b2.alloc (by simp; omega) (.cells #[.pointer (some ⟨3, 173, none⟩), .pointer (some ⟨w.heap.size, 0, none⟩), .int .u64 150] 205)
  have b4 := b3.alloc (by simp; omega) (.cells #[.int .i64 n] 114)
  have hpl : gp < w.heap.size := (Array.getElem?_eq_some_iff.1 hgpw).1
  have hc4 := (b4.cell (p := ⟨gp, 0, none⟩) hpl).trans hc2
  have hb4 := (b4.block gp hpl).trans hgpw
  have R4 := R.kept b4
  generalize (((w.alloc (.cells #[.pointer (some ⟨gp, 0, none⟩)] 173)).alloc (.cells #[.pointer (some ⟨3, 173, none⟩), .pointer (some ⟨w.heap.size, 0, none⟩), .int .u64 150] 205)).alloc (.cells #[.pointer (some ⟨3, 173, none⟩), .pointer (some ⟨w.heap.size, 0, none⟩), .int .u64 150] 205)).alloc (.cells #[.int .i64 n] 114) = w4 at *
  have hf4 : w4.frozen? ⟨gp, 0, none⟩ = false := by
    unfold World.frozen?
    simp [hb4]
  obtain ⟨w', hrun, R'⟩ := R4.store (P := Tryz.prog) hp rfl 0 [.int .i64 n] [.int .i64 n] (by simp [VRs, VR]) rfl (by simp [AV.lts, AV.lt]) (by simp)
  have hst : (storeCells ((β p).addr.add 0) [.int .i64 n] 0).run Tryz.prog w4 = .ok () (w4.setCell ⟨gp, 0, none⟩ (.int .i64 n)) := by
    rw [eap, Addr.add_plain]
    simp [storeCells, Addr.add]
    rw [run_store Tryz.prog w4 _ _ _ (by rfl)]
    simp [hc4, hf4]
  rw [hst] at hrun
  cases hrun
  refine ⟨β, .bool true, _, H.set p (J0a n), rfl, ⟨rfl, rfl⟩, Agree.refl _ _, by simp, rfl, trivial, ?_⟩
  simpa [Q2] using R'
theorem code_s (op : ByteArray) (n : Int) : Fn 68 [ErrA op n] (.int .i64 n) := by
  have C := as_fp op n 0 1 [Nt, J0a 0] rfl ⟨0, _, rfl⟩
  refine Sure.body (by first | (simp only [RT]; done) | simp_all only [RT]) Tryz.func68 rfl (by kernel_rfl) (by kernel_rfl) ?_
  repeat' first
    | (with_reducible first | refine Jh (fun K hK => ?_) | refine Jx ?_ | refine Q4 ?_ | refine Qc ?_ | refine Qd ?_ | refine Jg ?_ | refine Jr ?_)
    | ((with_reducible refine Q5 (C) ?_); rintro _ _ ⟨rfl, rfl⟩)
    | (with_reducible refine Jt (fun hc => ?_) (fun hc => ?_) <;> (try simp only [RC] at hc) <;> (try (exfalso; first | omega | contradiction)))
    | (with_reducible refine X4 (fun hc => ?_) (fun hc => ?_) <;> (try simp only [RC] at hc) <;> (try (exfalso; first | omega | contradiction)))
    | (simp only [Qb, Jo, reduceIte, J0])
    | ((with_reducible refine hK _ _ ?_); clear hK)
    | (clear hK; (with_reducible refine hK _ _ ?_); clear hK)
    | (clear hK; clear hK; (with_reducible refine hK _ _ ?_); clear hK)
    | (clear hK; clear hK; clear hK; (with_reducible refine hK _ _ ?_); clear hK)
    | (clear hK; clear hK; clear hK; clear hK; (with_reducible refine hK _ _ ?_); clear hK)
    | (clear hK; clear hK; clear hK; clear hK; clear hK; (with_reducible refine hK _ _ ?_); clear hK)
    | (simp only [Q9, RA, Jn, Jm, Jp, Q8, Q6, ev, ofValue, Ju, J0, J3, J2, J4, reduceCtorEq, reduceIte, Jv, Qm, Qk, Q0, aun, Qj, Jk, Ji, Jz, Jy, Jj, Qi, Jf, Q7, Js, J1, J5, Ja, J9, Jb, J6, J7, Jd, J8, RB, Jw, Je, RZ, tf68ErE, Yd Ys])
    | (simp (disch := first | omega | (simp only [RO]; done) | assumption) only [RS, RG])
    | (simp (disch := (first | omega | (simp only [RO]; done) | assumption | (simp only [RM, Je]; done) | (simp only [RL, Je]; omega))) only [RD, reduceCtorEq, reduceIte, Je, J1, J3, J2, J6, tf68ErE, Yd Ys])
  all_goals
    (
     (refine Qg (rs := [.tmp 2]) rfl ?_)
     (simp only [X5, Qf, RA, RZ, J0, J3, J1, reduceCtorEq, reduceIte, tf68ErE])
     (try simp only [RF]))
theorem code_nil : Fn 68 [.nilI] (.int .i64 0) := by
  refine Sure.body (by first | (simp only [RT]; done) | simp_all only [RT]) Tryz.func68 rfl (by kernel_rfl) (by kernel_rfl) ?_
  repeat' first
    | (with_reducible first | refine Jh (fun K hK => ?_) | refine Jx ?_ | refine Q4 ?_ | refine Qc ?_ | refine Qd ?_ | refine Jg ?_ | refine Jr ?_)
    | (with_reducible refine Jt (fun hc => ?_) (fun hc => ?_) <;> (try simp only [RC] at hc) <;> (try (exfalso; first | omega | contradiction)))
    | (with_reducible refine X4 (fun hc => ?_) (fun hc => ?_) <;> (try simp only [RC] at hc) <;> (try (exfalso; first | omega | contradiction)))
    | (simp only [Qb, Jo, reduceIte, J0])
    | ((with_reducible refine hK _ _ ?_); clear hK)
    | (clear hK; (with_reducible refine hK _ _ ?_); clear hK)
    | (clear hK; clear hK; (with_reducible refine hK _ _ ?_); clear hK)
    | (clear hK; clear hK; clear hK; (with_reducible refine hK _ _ ?_); clear hK)
    | (clear hK; clear hK; clear hK; clear hK; (with_reducible refine hK _ _ ?_); clear hK)
    | (clear hK; clear hK; clear hK; clear hK; clear hK; (with_reducible refine hK _ _ ?_); clear hK)
    | (simp only [Q9, RA, Jn, Jm, Jp, Q8, Q6, ev, ofValue, Ju, J0, J3, J2, J4, reduceCtorEq, reduceIte, Jv, Qm, Qk, Q0, aun, Qj, Jk, Ji, Jz, Jy, Jj, Qi, Jf, Q7, Js, J1, J5, Ja, J9, Jb, J6, J7, Jd, J8, RB, Jw, Je, RZ, tf68ErE, Vd Ys])
    | (simp (disch := first | omega | (simp only [RO]; done) | assumption) only [RS, RG])
    | (simp (disch := (first | omega | (simp only [RO]; done) | assumption | (simp only [RM, Je]; done) | (simp only [RL, Je]; omega))) only [RD, reduceCtorEq, reduceIte, Je, J1, J3, J2, J6, tf68ErE, Vd Ys])
  all_goals
    (
     (refine Qg (rs := [.tmp 2]) rfl ?_)
     (simp only [X5, Qf, RA, RZ, J0, J3, J1, reduceCtorEq, reduceIte, tf68ErE])
     (try simp only [RF]))
theorem within_s (op : ByteArray) (n : Int) : Fn 116 [ErrA op n] (.tup [.fz 1 [.str op], .ifc 114 (.int .i64 n)]) := by
  refine Sure.body (by first | (simp only [RT]; done) | simp_all only [RT]) Tryz.func116 rfl (by kernel_rfl) (by kernel_rfl) ?_
  repeat' first
    | (with_reducible first | refine Jh (fun K hK => ?_) | refine Jx ?_ | refine Q4 ?_ | refine Qc ?_ | refine Qd ?_ | refine Jg ?_ | refine Q1 (id := 6) [] pn116_6ErE (by kernel_rfl) (by kernel_rfl) ?_ | refine Jr ?_ | refine X8 ?_)
    | (with_reducible refine Jt (fun hc => ?_) (fun hc => ?_) <;> (try simp only [RC] at hc) <;> (try (exfalso; first | omega | contradiction)))
    | (with_reducible refine Jc ?_ ?_)
    | (with_reducible refine X4 (fun hc => ?_) (fun hc => ?_) <;> (try simp only [RC] at hc) <;> (try (exfalso; first | omega | contradiction)))
    | (simp only [Qb, Jo, reduceIte, J0])
    | ((with_reducible refine hK _ _ ?_); clear hK)
    | (clear hK; (with_reducible refine hK _ _ ?_); clear hK)
    | (clear hK; clear hK; (with_reducible refine hK _ _ ?_); clear hK)
    | (clear hK; clear hK; clear hK; (with_reducible refine hK _ _ ?_); clear hK)
    | (clear hK; clear hK; clear hK; clear hK; (with_reducible refine hK _ _ ?_); clear hK)
    | (clear hK; clear hK; clear hK; clear hK; clear hK; (with_reducible refine hK _ _ ?_); clear hK)
    | (simp only [Q9, RA, Jn, Jm, Jp, Q8, Q6, ev, ofValue, Ju, J0, J3, J2, J4, reduceCtorEq, reduceIte, Jv, Qm, Qk, Q0, aun, Qj, Jk, Ji, Jz, Jy, Jj, Qi, Jf, Q7, Js, J1, J5, Ja, J9, Jb, J6, J7, Jd, J8, RB, Jw, Je, RZ, tf116ErE, ta_fault, ta_fault_no, eqPz193])
    | (simp (disch := first | omega | (simp only [RO]; done) | assumption) only [RS, RG, Nk, Nn, Ng, six199, gix199, zix199, bst195_01])
    | (simp (disch := (first | omega | (simp only [RO]; done) | assumption | (simp only [RM, Je]; done) | (simp only [RL, Je]; omega))) only [RD, reduceCtorEq, reduceIte, Je, J1, J3, J2, J6, tf116ErE, ta_fault, ta_fault_no, eqPz193])
  all_goals
    (
     (refine Qg (rs := [.tmp 2, .tmp 3]) rfl ?_)
     (simp only [X5, Qf, RA, RZ, J0, J3, J1, reduceCtorEq, reduceIte, tf116ErE])
     (try simp only [RF]))
  all_goals exact Frz_sl (z := 1) rfl (fun h => by cases h) (by decide) (Nat.le_refl 1) (by simp only [List.drop_zero, List.take, RF])
theorem within_n (n : Int) : Fn 116 [.ifc 114 (.int .i64 n)] (.tup [.fz 0 [], .nilI]) := Sure.of (by simp only [RT]) (within_num n _) (by rintro _ _ ⟨rfl, _⟩; simp only [RF])
theorem ops_s (op : ByteArray) (n : Int) : Fn 67 [ErrA op n] (.fz 1 [.str op]) := by
  have a1 : Yf Tryz.prog [Nt] 123 .nilS (.fz 1 [.str op]) = some (.sg 1 0 1 1, [Nt, Wh op]) := append_nil (P := Tryz.prog) (Rd.fz [Nt] (n := 1) (z := 1) (cs := [.str op]) rfl) Kf Nu zero9 rfl (by decide) bytes9 rfl (by decide) (by decide) (by decide)
  have a2 : Yf Tryz.prog [Nt, Wh op] 123 (.sg 1 0 1 1) (.fz 0 []) = some (.sg 1 0 1 1, [Nt, Wh op]) := J0w (P := Tryz.prog) (Rd.fz _ (n := 0) (z := 1) (cs := []) rfl) Kf Nu zero9 rfl (by decide) bytes9 rfl (.inr (.inr ⟨_, _, _, rfl⟩))
  refine Sure.body (by first | (simp only [RT]; done) | simp_all only [RT]) Tryz.func67 rfl (by kernel_rfl) (by kernel_rfl) ?_
  repeat' first
    | (with_reducible first | refine Jh (fun K hK => ?_) | refine Jx ?_ | refine Q4 ?_ | refine Qc ?_ | refine Qd ?_ | refine Jg ?_ | refine Jr ?_)
    | (with_reducible refine Jt (fun hc => ?_) (fun hc => ?_) <;> (try simp only [RC] at hc) <;> (try (exfalso; first | omega | contradiction)))
    | (with_reducible refine X4 (fun hc => ?_) (fun hc => ?_) <;> (try simp only [RC] at hc) <;> (try (exfalso; first | omega | contradiction)))
    | (simp only [Qb, Jo, reduceIte, J0])
    | ((with_reducible refine hK _ _ ?_); clear hK)
    | (clear hK; (with_reducible refine hK _ _ ?_); clear hK)
    | (clear hK; clear hK; (with_reducible refine hK _ _ ?_); clear hK)
    | (clear hK; clear hK; clear hK; (with_reducible refine hK _ _ ?_); clear hK)
    | (clear hK; clear hK; clear hK; clear hK; (with_reducible refine hK _ _ ?_); clear hK)
    | (clear hK; clear hK; clear hK; clear hK; clear hK; (with_reducible refine hK _ _ ?_); clear hK)
    | (simp only [Q9, RA, Jn, Jm, Jp, Q8, Q6, ev, ofValue, Ju, J0, J3, J2, J4, reduceCtorEq, reduceIte, Jv, Qm, Qk, Q0, aun, Qj, Jk, Ji, Jz, Jy, Jj, Qi, Jf, Q7, Js, J1, J5, Ja, J9, Jb, J6, J7, Jd, J8, RB, Jw, Je, RZ, Wk])
    | (simp (disch := first | omega | (simp only [RO]; done) | assumption) only [RS, RG, Nk, Nn, Ng])
    | (simp (disch := (first | omega | (simp only [RO]; done) | assumption | (simp only [RM, Je]; done) | (simp only [RL, Je]; omega))) only [RD, reduceCtorEq, reduceIte, Je, J1, J3, J2, J6, Wk])
  refine Xi (fun m fr' H' => (m = 2 ∧ fr' 0 = ErrA op n ∧ fr' 3 = .nilS ∧ H' = [Nt]) ∨ (m = 1 ∧ fr' 0 = .ifc 114 (.int .i64 n) ∧ fr' 3 = .sg 1 0 1 1 ∧ H' = [Nt, Wh op]) ∨ (m = 0 ∧ fr' 0 = .nilI ∧ fr' 3 = .sg 1 0 1 1 ∧ H' = [Nt, Wh op])) (m := 2) (.inl ⟨rfl, rfl, rfl, rfl⟩) ?_
  rintro m fr' H' (⟨rfl, k0, k3, rfl⟩ | ⟨rfl, k0, k3, rfl⟩ | ⟨rfl, k0, k3, rfl⟩)
  · skip
    repeat' first
      | (with_reducible first | refine Jh (fun K hK => ?_) | refine Jx ?_ | refine Q4 ?_ | refine Qc ?_ | refine Qd ?_ | refine Jg ?_ | refine Jr ?_)
      | (with_reducible refine Q3 (within_s op n) (Jq _ _) ?_)
      | (with_reducible refine Jt (fun hc => ?_) (fun hc => ?_) <;> (try simp only [RC] at hc) <;> (try (exfalso; first | omega | contradiction)))
      | (with_reducible refine X4 (fun hc => ?_) (fun hc => ?_) <;> (try simp only [RC] at hc) <;> (try (exfalso; first | omega | contradiction)))
      | (simp only [Qb, Jo, reduceIte, J0])
      | ((with_reducible refine hK _ _ ?_); clear hK)
      | (clear hK; (with_reducible refine hK _ _ ?_); clear hK)
      | (clear hK; clear hK; (with_reducible refine hK _ _ ?_); clear hK)
      | (clear hK; clear hK; clear hK; (with_reducible refine hK _ _ ?_); clear hK)
      | (clear hK; clear hK; clear hK; clear hK; (with_reducible refine hK _ _ ?_); clear hK)
      | (clear hK; clear hK; clear hK; clear hK; clear hK; (with_reducible refine hK _ _ ?_); clear hK)
      | (simp only [Q9, RA, Jn, Jm, Jp, Q8, Q6, ev, ofValue, Ju, J0, J3, J2, J4, reduceCtorEq, reduceIte, Jv, Qm, Qk, Q0, aun, Qj, Jk, Ji, Jz, Jy, Jj, Qi, Jf, Q7, Js, J1, J5, Ja, J9, Jb, J6, J7, Jd, J8, RB, Jw, Je, RZ, Wk, k0, k3, Yd Ys, a1])
      | (simp (disch := first | omega | (simp only [RO]; done) | assumption) only [RS, RG, Nk, Nn, Ng])
      | (simp (disch := (first | omega | (simp only [RO]; done) | assumption | (simp only [RM, Je]; done) | (simp only [RL, Je]; omega))) only [RD, reduceCtorEq, reduceIte, Je, J1, J3, J2, J6, Wk, k0, k3, Yd Ys, a1])
    all_goals exact ⟨1, by omega, by simp⟩
  · skip
    repeat' first
      | (with_reducible first | refine Jh (fun K hK => ?_) | refine Jx ?_ | refine Q4 ?_ | refine Qc ?_ | refine Qd ?_ | refine Jg ?_ | refine Jr ?_)
      | (with_reducible refine Q3 (within_n n) (Jq _ _) ?_)
      | (with_reducible refine Jt (fun hc => ?_) (fun hc => ?_) <;> (try simp only [RC] at hc) <;> (try (exfalso; first | omega | contradiction)))
      | (with_reducible refine X4 (fun hc => ?_) (fun hc => ?_) <;> (try simp only [RC] at hc) <;> (try (exfalso; first | omega | contradiction)))
      | (simp only [Qb, Jo, reduceIte, J0])
      | ((with_reducible refine hK _ _ ?_); clear hK)
      | (clear hK; (with_reducible refine hK _ _ ?_); clear hK)
      | (clear hK; clear hK; (with_reducible refine hK _ _ ?_); clear hK)
      | (clear hK; clear hK; clear hK; (with_reducible refine hK _ _ ?_); clear hK)
      | (clear hK; clear hK; clear hK; clear hK; (with_reducible refine hK _ _ ?_); clear hK)
      | (clear hK; clear hK; clear hK; clear hK; clear hK; (with_reducible refine hK _ _ ?_); clear hK)
      | (simp only [Q9, RA, Jn, Jm, Jp, Q8, Q6, ev, ofValue, Ju, J0, J3, J2, J4, reduceCtorEq, reduceIte, Jv, Qm, Qk, Q0, aun, Qj, Jk, Ji, Jz, Jy, Jj, Qi, Jf, Q7, Js, J1, J5, Ja, J9, Jb, J6, J7, Jd, J8, RB, Jw, Je, RZ, Wk, k0, k3, Yd Ys, a2])
      | (simp (disch := first | omega | (simp only [RO]; done) | assumption) only [RS, RG, Nk, Nn, Ng])
      | (simp (disch := (first | omega | (simp only [RO]; done) | assumption | (simp only [RM, Je]; done) | (simp only [RL, Je]; omega))) only [RD, reduceCtorEq, reduceIte, Je, J1, J3, J2, J6, Wk, k0, k3, Yd Ys, a2])
    all_goals exact ⟨0, by omega, by simp⟩
  · skip
    repeat' first
      | (with_reducible first | refine Jh (fun K hK => ?_) | refine Jx ?_ | refine Q4 ?_ | refine Qc ?_ | refine Qd ?_ | refine Jg ?_ | refine Jr ?_)
      | (with_reducible refine Jt (fun hc => ?_) (fun hc => ?_) <;> (try simp only [RC] at hc) <;> (try (exfalso; first | omega | contradiction)))
      | (with_reducible refine X4 (fun hc => ?_) (fun hc => ?_) <;> (try simp only [RC] at hc) <;> (try (exfalso; first | omega | contradiction)))
      | (simp only [Qb, Jo, reduceIte, J0])
      | ((with_reducible refine hK _ _ ?_); clear hK)
      | (clear hK; (with_reducible refine hK _ _ ?_); clear hK)
      | (clear hK; clear hK; (with_reducible refine hK _ _ ?_); clear hK)
      | (clear hK; clear hK; clear hK; (with_reducible refine hK _ _ ?_); clear hK)
      | (clear hK; clear hK; clear hK; clear hK; (with_reducible refine hK _ _ ?_); clear hK)
      | (clear hK; clear hK; clear hK; clear hK; clear hK; (with_reducible refine hK _ _ ?_); clear hK)
      | (simp only [Q9, RA, Jn, Jm, Jp, Q8, Q6, ev, ofValue, Ju, J0, J3, J2, J4, reduceCtorEq, reduceIte, Jv, Qm, Qk, Q0, aun, Qj, Jk, Ji, Jz, Jy, Jj, Qi, Jf, Q7, Js, J1, J5, Ja, J9, Jb, J6, J7, Jd, J8, RB, Jw, Je, RZ, Wk, k0, k3, Vd Ys])
      | (simp (disch := first | omega | (simp only [RO]; done) | assumption) only [RS, RG, Nk, Nn, Ng])
      | (simp (disch := (first | omega | (simp only [RO]; done) | assumption | (simp only [RM, Je]; done) | (simp only [RL, Je]; omega))) only [RD, reduceCtorEq, reduceIte, Je, J1, J3, J2, J6, Wk, k0, k3, Vd Ys])
    all_goals
      (
       (refine Qg (rs := [.tmp 2]) rfl ?_)
       (simp only [X5, Qf, RA, RZ, J0, J3, J1, reduceCtorEq, reduceIte, Wk, k3])
       (try simp only [RF, k3]))
    all_goals exact Frz_sg (b := Wh op) rfl (fun h => by cases h) (Nat.le_refl 1) (by simp only [List.drop_zero, List.take, RF])
theorem ops_nil : Fn 67 [.nilI] (.fz 0 []) := by
  refine Sure.body (by first | (simp only [RT]; done) | simp_all only [RT]) Tryz.func67 rfl (by kernel_rfl) (by kernel_rfl) ?_
  repeat' first
    | (with_reducible first | refine Jh (fun K hK => ?_) | refine Jx ?_ | refine Q4 ?_ | refine Qc ?_ | refine Qd ?_ | refine Jg ?_ | refine Jr ?_)
    | (with_reducible refine Jt (fun hc => ?_) (fun hc => ?_) <;> (try simp only [RC] at hc) <;> (try (exfalso; first | omega | contradiction)))
    | (with_reducible refine X4 (fun hc => ?_) (fun hc => ?_) <;> (try simp only [RC] at hc) <;> (try (exfalso; first | omega | contradiction)))
    | (simp only [Qb, Jo, reduceIte, J0])
    | ((with_reducible refine hK _ _ ?_); clear hK)
    | (clear hK; (with_reducible refine hK _ _ ?_); clear hK)
    | (clear hK; clear hK; (with_reducible refine hK _ _ ?_); clear hK)
    | (clear hK; clear hK; clear hK; (with_reducible refine hK _ _ ?_); clear hK)
    | (clear hK; clear hK; clear hK; clear hK; (with_reducible refine hK _ _ ?_); clear hK)
    | (clear hK; clear hK; clear hK; clear hK; clear hK; (with_reducible refine hK _ _ ?_); clear hK)
    | (simp only [Q9, RA, Jn, Jm, Jp, Q8, Q6, ev, ofValue, Ju, J0, J3, J2, J4, reduceCtorEq, reduceIte, Jv, Qm, Qk, Q0, aun, Qj, Jk, Ji, Jz, Jy, Jj, Qi, Jf, Q7, Js, J1, J5, Ja, J9, Jb, J6, J7, Jd, J8, RB, Jw, Je, RZ, Wk])
    | (simp (disch := first | omega | (simp only [RO]; done) | assumption) only [RS, RG, Nk, Nn, Ng])
    | (simp (disch := (first | omega | (simp only [RO]; done) | assumption | (simp only [RM, Je]; done) | (simp only [RL, Je]; omega))) only [RD, reduceCtorEq, reduceIte, Je, J1, J3, J2, J6, Wk])
  refine Xi (fun m fr' H' => fr' 0 = .nilI ∧ fr' 3 = .nilS ∧ H' = [Nt]) (m := 0) ⟨rfl, rfl, rfl⟩ ?_
  rintro m fr' H' ⟨k0, k3, rfl⟩
  repeat' first
    | (with_reducible first | refine Jh (fun K hK => ?_) | refine Jx ?_ | refine Q4 ?_ | refine Qc ?_ | refine Qd ?_ | refine Jg ?_ | refine Jr ?_)
    | (with_reducible refine Jt (fun hc => ?_) (fun hc => ?_) <;> (try simp only [RC] at hc) <;> (try (exfalso; first | omega | contradiction)))
    | (with_reducible refine X4 (fun hc => ?_) (fun hc => ?_) <;> (try simp only [RC] at hc) <;> (try (exfalso; first | omega | contradiction)))
    | (simp only [Qb, Jo, reduceIte, J0])
    | ((with_reducible refine hK _ _ ?_); clear hK)
    | (clear hK; (with_reducible refine hK _ _ ?_); clear hK)
    | (clear hK; clear hK; (with_reducible refine hK _ _ ?_); clear hK)
    | (clear hK; clear hK; clear hK; (with_reducible refine hK _ _ ?_); clear hK)
    | (clear hK; clear hK; clear hK; clear hK; (with_reducible refine hK _ _ ?_); clear hK)
    | (clear hK; clear hK; clear hK; clear hK; clear hK; (with_reducible refine hK _ _ ?_); clear hK)
    | (simp only [Q9, RA, Jn, Jm, Jp, Q8, Q6, ev, ofValue, Ju, J0, J3, J2, J4, reduceCtorEq, reduceIte, Jv, Qm, Qk, Q0, aun, Qj, Jk, Ji, Jz, Jy, Jj, Qi, Jf, Q7, Js, J1, J5, Ja, J9, Jb, J6, J7, Jd, J8, RB, Jw, Je, RZ, Wk, k0, k3, Vd Ys])
    | (simp (disch := first | omega | (simp only [RO]; done) | assumption) only [RS, RG, Nk, Nn, Ng])
    | (simp (disch := (first | omega | (simp only [RO]; done) | assumption | (simp only [RM, Je]; done) | (simp only [RL, Je]; omega))) only [RD, reduceCtorEq, reduceIte, Je, J1, J3, J2, J6, Wk, k0, k3, Vd Ys])
  all_goals
    (
     (refine Qg (rs := [.tmp 2]) rfl ?_)
     (simp only [X5, Qf, RA, RZ, J0, J3, J1, reduceCtorEq, reduceIte, Wk, k3])
     (try simp only [RF, k3]))
end Go.Proofs.YtigddjlhncnnoaaGreatDoor
namespace Go.Proofs.YtigddjlhncnnoaaGreatDoor
open Go.AL Go.PW
set_option maxRecDepth 8000
def Fit (x : Int) : Prop := -1073741824 ≤ x ∧ x ≤ 1073741824
instance (x : Int) : Decidable (Fit x) := inferInstanceAs (Decidable (_ ∧ _))
def Right (n : Int) (xs : List Int) : Prop := (0 ≤ n ∧ n ≤ 8 ∧ (xs.length : Int) = n * (n + 1) / 2) ∧ ∀ x ∈ xs, Fit x
instance (n : Int) (xs : List Int) : Decidable (Right n xs) := inferInstanceAs (Decidable (_ ∧ _))
def pl (n i j : Nat) : Nat := min i j * n + max i j - min i j * (min i j - 1) / 2 - min i j
theorem pl_lt : ∀ n : Fin 9, ∀ i : Fin 9, ∀ j : Fin 9, i < n → j < n → pl n.1 i.1 j.1 < n.1 * (n.1 + 1) / 2 := by decide +kernel
theorem Right.nat {n : Int} {xs : List Int} (h : Right n xs) : ∃ k : Nat, n = k ∧ k ≤ 8 ∧ xs.length = k * (k + 1) / 2 := by
  obtain ⟨⟨h0, h8, hl⟩, _⟩ := h
  obtain ⟨k, rfl⟩ := Int.eq_ofNat_of_zero_le h0
  refine ⟨k, rfl, by omega, ?_⟩
  have : ((xs.length : Nat) : Int) = ((k * (k + 1) / 2 : Nat) : Int) := by rw [hl]; simp
  omega
theorem Gh {xs : List Int} {i : Nat} (h : i < xs.length) : xs.getD i 0 ∈ xs := by
  rw [List.getD_eq_getElem?_getD, List.getElem?_eq_getElem h]; exact List.getElem_mem h
def ent (n : Nat) (xs : List Int) (i j : Nat) : Int := xs.getD (pl n i j) 0
theorem Right.pl {n : Nat} {xs : List Int} (h : Right n xs) {i j : Nat} (hi : i < n) (hj : j < n) : n ≤ 8 ∧ pl n i j < xs.length := by
  obtain ⟨k, hk, h8, hl⟩ := h.nat
  obtain rfl : n = k := by omega
  exact ⟨h8, by rw [hl]; exact pl_lt ⟨n, by omega⟩ ⟨i, by omega⟩ ⟨j, by omega⟩ hi hj⟩
end Go.Proofs.YtigddjlhncnnoaaGreatDoor
namespace Go.Proofs.YtigddjlhncnnoaaGreatDoor
open Go.AL Go.PW
abbrev Rb (rs : List Int) : Blk := ⟨(Z9 rs).map (AV.int .u64), .own, 73⟩
def RowV (v : AV) (n : Nat) : Prop := v = .sl v.hd 0 n n ∨ v = .sg v.hd 0 n 16
theorem RowV.one {v : AV} {n : Nat} (h : RowV v n) : v.one = true := by rcases h with h | h <;> rw [h] <;> rfl
structure Mat (H : Hp) (p : Nat) (vs : List AV) (rss : List (List Int)) : Prop where
  len : rss.length ≤ vs.length
  out : X3 H p = some ⟨vs, .own, 131⟩
  row : ∀ i, i < rss.length → RowV (vs.getD i .nilS) (rss.getD i []).length ∧ X3 H (vs.getD i .nilS).hd = some (Rb (rss.getD i []))
  apart : ∀ i j, i < rss.length → j < rss.length → i ≠ j → (vs.getD i .nilS).hd ≠ (vs.getD j .nilS).hd
  off : ∀ i, i < rss.length → (vs.getD i .nilS).hd ≠ p
section
variable {H : Hp} {p : Nat} {vs : List AV} {rss : List (List Int)}
theorem Mat.push (M : Mat H p vs rss) (b : Blk) : Mat (H ++ [b]) p vs rss := by
  refine ⟨M.len, ?_, fun i hi => ⟨(M.row i hi).1, ?_⟩, M.apart, M.off⟩
  · rw [Qw (X6 M.out)]; exact M.out
  · rw [Qw (X6 (M.row i hi).2)]; exact (M.row i hi).2
theorem Mat.ext {H' : Hp} (M : Mat H p vs rss) (x : Ext H H') : Mat H' p vs rss := by
  refine ⟨M.len, Qy M.out x, fun i hi => ⟨(M.row i hi).1, Qy (M.row i hi).2 x⟩, M.apart, M.off⟩
theorem Mat.other (M : Mat H p vs rss) {h : Nat} (hl : h < H.length) (b : Blk) (hp : p ≠ h) (hv : ∀ i, i < rss.length → (vs.getD i .nilS).hd ≠ h) : Mat (H.set h b) p vs rss := by
  refine ⟨M.len, ?_, fun i hi => ⟨(M.row i hi).1, ?_⟩, M.apart, M.off⟩
  · rw [Qv hl, if_neg hp]; exact M.out
  · rw [Qv hl, if_neg (hv i hi)]; exact (M.row i hi).2
theorem RowV.at_ {v : AV} {n : Nat} (h : RowV v n) {k : IntKind} {j : Int} (h0 : 0 ≤ j) (h1 : j < (n : Int)) : Qx Tryz.prog 131 v (.int k j) = some (.ptr v.hd (j.toNat * 16)) := by
  rcases h with h | h <;> rw [h]
  · rw [Vk h0 h1, Nat.zero_add]; rfl
  · rw [Vm h0 h1, Nat.zero_add]; rfl
theorem RowV.len {v : AV} {n : Nat} (h : RowV v n) : Qn Tryz.prog .len #[131] [v] = some (.int .i64 n) := by
  rcases h with h | h <;> rw [h]
  · rw [lenS131]
  · rw [lenG131]
theorem Mat.get (M : Mat H p vs rss) {i j : Nat} (hi : i < rss.length) (hj : j < (rss.getD i []).length) : V7 Tryz.prog H 73 (.ptr (vs.getD i .nilS).hd (j * 16)) = some (W ((rss.getD i []).getD j 0)) := by
  rw [K9, (M.row i hi).2]
  simp only [agg73, Us]
  have hc := Gm (rss.getD i [])
  rw [if_neg (by decide), if_pos (by rw [V6, hc]; omega), ← List.map_drop, ← List.map_take, cellsOf_get _ _ hj]
theorem Mat.put (M : Mat H p vs rss) {i j : Nat} {x : Int} (hi : i < rss.length) (hj : j < (rss.getD i []).length) : Np Tryz.prog H 73 (.ptr (vs.getD i .nilS).hd (j * 16)) (W x) = some (H.set (vs.getD i .nilS).hd (Rb ((rss.getD i []).set j x))) := by
  rw [Um, (M.row i hi).2]
  simp only [Us]
  have hc := Gm (rss.getD i [])
  rw [if_pos ⟨trivial, by rw [G3]; exact Vg _ _, by rw [AV.cells_agg, V6, dig_length], by rw [V6, hc]; omega⟩]
  congr 3
  have hd : (dig 16 x).length = 16 := dig_length _ _
  simp only [Q2, AV.cells_agg, V6, hd]
  rw [← List.map_take, ← List.map_drop, ← List.map_append, ← List.map_append, cellsOf_set _ _ _ hj]
theorem Mat.set (M : Mat H p vs rss) {i : Nat} (hi : i < rss.length) {rs : List Int} (hl : rs.length = (rss.getD i []).length) : Mat (H.set (vs.getD i .nilS).hd (Rb rs)) p vs (rss.set i rs) := by
  have hlt := X6 (M.row i hi).2
  have hg : ∀ j, (rss.set i rs).getD j [] = if j = i then rs else rss.getD j [] := by
    intro j
    rw [List.getD_eq_getElem?_getD, List.getElem?_set, List.getD_eq_getElem?_getD]
    by_cases e : i = j
    · subst e; simp [hi]
    · rw [if_neg e, if_neg (fun h => e h.symm)]
  refine ⟨by rw [List.length_set]; exact M.len, ?_, fun j hj => ?_, fun a b ha hb => M.apart a b (by rwa [List.length_set] at ha) (by rwa [List.length_set] at hb), fun a ha => M.off a (by rwa [List.length_set] at ha)⟩
  · rw [Qv hlt, if_neg (fun e => M.off i hi e.symm)]; exact M.out
  · rw [List.length_set] at hj
    rw [hg]
    by_cases e : j = i
    · subst e
      rw [if_pos rfl, Qv hlt, if_pos rfl, hl]
      exact ⟨(M.row j hj).1, rfl⟩
    · rw [if_neg e, Qv hlt, if_neg (M.apart j i hj hi e)]
      exact M.row j hj
end
def Off (S : Nat → Prop) (H H' : Hp) : Prop := H.length ≤ H'.length ∧ ∀ k, k < H.length → ¬ S k → X3 H' k = X3 H k
theorem Off.refl (S : Nat → Prop) (H : Hp) : Off S H H := ⟨Nat.le_refl _, fun _ _ _ => rfl⟩
theorem Off.push {S : Nat → Prop} {H H' : Hp} (o : Off S H H') (b : Blk) : Off S H (H' ++ [b]) := by
  refine ⟨by have := o.1; simp; omega, fun k hk hs => ?_⟩
  rw [Qw (by have := o.1; omega)]
  exact o.2 k hk hs
theorem Off.ext {S : Nat → Prop} {H H' H'' : Hp} (o : Off S H H') (x : Ext H' H'') : Off S H H'' := by
  obtain ⟨E, rfl⟩ := x
  refine ⟨by have := o.1; simp; omega, fun k hk hs => ?_⟩
  have h := o.2 k hk hs
  have hk' : k < H'.length := by have := o.1; omega
  unfold X3 at h ⊢
  rw [List.getElem?_append_left hk']
  exact h
theorem Off.set {S : Nat → Prop} {H H' : Hp} (o : Off S H H') {h : Nat} (hl : h < H'.length) (b : Blk) (hs : S h ∨ H.length ≤ h) : Off S H (H'.set h b) := by
  refine ⟨by rw [List.length_set]; exact o.1, fun k hk hk' => ?_⟩
  rw [Qv hl, if_neg]
  · exact o.2 k hk hk'
  · rintro rfl
    rcases hs with hs | hs
    · exact hk' hs
    · omega
theorem Off.trans {S : Nat → Prop} {H H' H'' : Hp} (o : Off S H H') (o' : Off S H' H'') : Off S H H'' :=
  ⟨Nat.le_trans o.1 o'.1, fun k hk hs => (o'.2 k (Nat.lt_of_lt_of_le hk o.1) hs).trans (o.2 k hk hs)⟩
end Go.Proofs.YtigddjlhncnnoaaGreatDoor
namespace Go.Proofs.YtigddjlhncnnoaaGreatDoor
open Go.AL Go.PW
set_option maxRecDepth 8000
def stepV (rk ri : List Int) (k : Nat) (prev : Int) (j : Nat) : Int := (rk.getD k 0 * ri.getD j 0 - ri.getD k 0 * rk.getD j 0).tdiv prev
def J1w (rk ri : List Int) (k : Nat) (prev : Int) : List Int := (List.range ri.length).map fun j => if j = k then 0 else stepV rk ri k prev j
def Proc (k : Nat) (all : Bool) (i : Nat) : Prop := i ≠ k ∧ (k < i ∨ all = true)
instance (k : Nat) (all : Bool) (i : Nat) : Decidable (Proc k all i) := inferInstanceAs (Decidable (_ ∧ _))
def Yu (rss : List (List Int)) (k : Nat) (prev : Int) (all : Bool) (t : Nat) : List (List Int) := (List.range rss.length).map fun i => if i < t ∧ Proc k all i then J1w (rss.getD k []) (rss.getD i []) k prev else rss.getD i []
def stepM (rss : List (List Int)) (k : Nat) (prev : Int) (all : Bool) : List (List Int) := Yu rss k prev all rss.length
theorem Gb (rk ri : List Int) (k : Nat) (prev : Int) : (J1w rk ri k prev).length = ri.length := by simp [J1w]
theorem U2 (rss : List (List Int)) (k : Nat) (prev : Int) (all : Bool) (t : Nat) : (Yu rss k prev all t).length = rss.length := by simp [Yu]
theorem G2 (rss : List (List Int)) (k : Nat) (prev : Int) (all : Bool) (t i : Nat) (hi : i < rss.length) : (Yu rss k prev all t).getD i [] = if i < t ∧ Proc k all i then J1w (rss.getD k []) (rss.getD i []) k prev else rss.getD i [] := by
  rw [List.getD_eq_getElem?_getD, List.getElem?_eq_getElem (by rw [U2]; exact hi)]
  simp [Yu]
theorem stepRow_getD (rk ri : List Int) (k : Nat) (prev : Int) (j : Nat) (hj : j < ri.length) : (J1w rk ri k prev).getD j 0 = if j = k then 0 else stepV rk ri k prev j := by
  rw [List.getD_eq_getElem?_getD, List.getElem?_eq_getElem (by rw [Gb]; exact hj)]
  simp [J1w]
theorem Uu {α : Type} (xs : List α) (i : Nat) (y d : α) (j : Nat) (hi : i < xs.length) : (xs.set i y).getD j d = if j = i then y else xs.getD j d := by
  rw [List.getD_eq_getElem?_getD, List.getElem?_set, List.getD_eq_getElem?_getD]
  by_cases e : i = j
  · subst e; simp [hi]
  · rw [if_neg e, if_neg (fun h => e h.symm)]
end Go.Proofs.YtigddjlhncnnoaaGreatDoor
namespace Go.Proofs.YtigddjlhncnnoaaGreatDoor
open Go.AL Go.PW
set_option maxRecDepth 8000
def J14 (n : Nat) (xs : List Int) : List (List Int) := (List.range n).map fun i => (List.range n).map fun j => ent n xs i j
theorem J04 (n : Nat) (xs : List Int) : (J14 n xs).length = n := by simp [J14]
theorem rowsOf_get (n : Nat) (xs : List Int) (i : Nat) (hi : i < n) : (J14 n xs).getD i [] = (List.range n).map fun j => ent n xs i j := by
  simp [J14, List.getD, hi]
theorem rowsOf_get2 (n : Nat) (xs : List Int) (i j : Nat) (hi : i < n) (hj : j < n) : ((J14 n xs).getD i []).getD j 0 = ent n xs i j := by
  rw [rowsOf_get _ _ _ hi]
  simp [List.getD, hj]
end Go.Proofs.YtigddjlhncnnoaaGreatDoor
namespace Go.Proofs.YtigddjlhncnnoaaGreatDoor
open Go.AL Go.PW
set_option maxRecDepth 8000
def swp {α : Type} (d : α) (xs : List α) (k i : Nat) : List α := (xs.set i (xs.getD k d)).set k (xs.getD i d)
theorem V0 {α : Type} (d : α) (xs : List α) (k i : Nat) : (swp d xs k i).length = xs.length := by simp [swp]
theorem Rv {α : Type} (d : α) (xs : List α) (k i j : Nat) (hk : k < xs.length) (hi : i < xs.length) : (swp d xs k i).getD j d = if j = k then xs.getD i d else if j = i then xs.getD k d else xs.getD j d := by
  unfold swp
  rw [Uu _ _ _ _ _ (by rw [List.length_set]; exact hk), Uu _ _ _ _ _ hi]
theorem Mat.swap {H : Hp} {p : Nat} {vs : List AV} {rss : List (List Int)} (M : Mat H p vs rss) {k i : Nat} (hk : k < rss.length) (hi : i < rss.length) :
    Mat (H.set p ⟨swp .nilS vs k i, .own, 131⟩) p (swp .nilS vs k i) (swp [] rss k i) := by
  have lp := X6 M.out
  have hl := M.len
  have gv := fun j => Rv (.nilS : AV) vs k i j (by omega) (by omega)
  have gr := fun j => Rv ([] : List Int) rss k i j hk hi
  have key : ∀ j, j < rss.length → ∃ l, l < rss.length ∧ (swp .nilS vs k i).getD j .nilS = vs.getD l .nilS ∧ (swp [] rss k i).getD j [] = rss.getD l [] ∧ l = (if j = k then i else if j = i then k else j) := by
    intro j hj
    rw [gv, gr]
    by_cases e1 : j = k
    · rw [if_pos e1, if_pos e1, if_pos e1]; exact ⟨i, hi, rfl, rfl, rfl⟩
    · rw [if_neg e1, if_neg e1, if_neg e1]
      by_cases e2 : j = i
      · rw [if_pos e2, if_pos e2, if_pos e2]; exact ⟨k, hk, rfl, rfl, rfl⟩
      · rw [if_neg e2, if_neg e2, if_neg e2]; exact ⟨j, hj, rfl, rfl, rfl⟩
  refine ⟨by rw [V0, V0]; exact hl, by rw [Qv lp, if_pos rfl], fun j hj => ?_, fun a b ha hb hne => ?_, fun a ha => ?_⟩
  · rw [V0] at hj
    obtain ⟨l, hl', e1, e2, _⟩ := key j hj
    rw [e1, e2, Qv lp, if_neg (M.off l hl')]
    exact M.row l hl'
  · rw [V0] at ha hb
    obtain ⟨l, hl', e1, _, w1⟩ := key a ha
    obtain ⟨l2, hl2', e2, _, w2⟩ := key b hb
    rw [e1, e2]
    refine M.apart l l2 hl' hl2' ?_
    rw [w1, w2]
    repeat' split
    all_goals omega
  · rw [V0] at ha
    obtain ⟨l, hl', e1, _, _⟩ := key a ha
    rw [e1]; exact M.off l hl'
end Go.Proofs.YtigddjlhncnnoaaGreatDoor
namespace Go.Proofs.YtigddjlhncnnoaaGreatDoor
open Go.AL Go.PW Go.PD
set_option maxRecDepth 8000
theorem Mh_big : (2 : Int) ^ 1000 < Mh := by decide +kernel
theorem In_small {x : Int} (h : x.natAbs ≤ 2 ^ 1000) : In x := by
  have h1 := Mh_big
  have h2 : ((2 ^ 1000 : Nat) : Int) = (2 : Int) ^ 1000 := by decide +kernel
  generalize (2 ^ 1000 : Nat) = y at h h2
  rw [← h2] at h1
  unfold In
  omega
structure St (n k : Nat) (rho : Nat → Nat → Int) (rss : List (List Int)) : Prop where
  len : rss.length = n
  wid : ∀ i, i < n → (rss.getD i []).length = n
  get : ∀ i j, k ≤ i → i < n → j < n → (rss.getD i []).getD j 0 = d rho k i j
theorem St.zero (n : Nat) (xs : List Int) : St n 0 (ent n xs) (J14 n xs) := by
  refine ⟨J04 n xs, fun i hi => by rw [rowsOf_get _ _ _ hi]; simp, fun i j _ hi hj => by rw [rowsOf_get2 _ _ _ _ hi hj, d_zero]⟩
theorem St.swap {n k : Nat} {rho : Nat → Nat → Int} {rss : List (List Int)} (S : St n k rho rss) {i : Nat} (hki : k ≤ i) (hi : i < n) : St n k (swr rho k i) (swp [] rss k i) := by
  have g := fun l => Rv ([] : List Int) rss k i l (by rw [S.len]; omega) (by rw [S.len]; omega)
  refine ⟨by rw [V0]; exact S.len, fun l hl => ?_, fun l j hkl hl hj => ?_⟩
  · rw [g]
    split
    · exact S.wid i hi
    · split
      · exact S.wid k (by omega)
      · exact S.wid l hl
  · rw [g, d_swr hki]
    split
    · exact S.get i j hki hi hj
    · split
      · exact S.get k j (Nat.le_refl _) (by omega) hj
      · exact S.get l j hkl hl hj
theorem St.step {n k : Nat} {rho : Nat → Nat → Int} {rss : List (List Int)} (S : St n k rho rss) (hk : k < n) (hp : P rho k ≠ 0) : St n (k + 1) rho (stepM rss k (P rho k) false) := by
  have hl := S.len
  have g := fun i (hi : i < n) => G2 rss k (P rho k) false rss.length i (by omega)
  refine ⟨by unfold stepM; rw [U2]; exact hl, fun i hi => ?_, fun i j hki hi hj => ?_⟩
  · unfold stepM
    rw [g i hi]
    split
    · rw [Gb]; exact S.wid i hi
    · exact S.wid i hi
  · unfold stepM
    rw [g i hi, if_pos ⟨by omega, by omega, .inl (by omega)⟩, stepRow_getD _ _ _ _ _ (by rw [S.wid i hi]; exact hj)]
    split
    · rename_i e; rw [e, d_col (by omega)]
    · unfold stepV
      rw [S.get k k (Nat.le_refl _) hk hk, S.get i j (by omega) hi hj, S.get i k (by omega) hi hk, S.get k j (Nat.le_refl _) hk hj, d_step hp]
end Go.Proofs.YtigddjlhncnnoaaGreatDoor
namespace Go.Proofs.YtigddjlhncnnoaaGreatDoor
open Go.AL Go.PW Go.PD
set_option maxRecDepth 8000
theorem Right.len {n : Nat} {xs : List Int} (h : Right n xs) : n ≤ 8 ∧ xs.length < 1000000 := by
  obtain ⟨k, hk, h8, hl⟩ := h.nat
  obtain rfl : n = k := by omega
  have : n * (n + 1) ≤ 8 * 9 := Nat.mul_le_mul h8 (by omega)
  exact ⟨h8, by omega⟩
end Go.Proofs.YtigddjlhncnnoaaGreatDoor
namespace Go.Proofs.YtigddjlhncnnoaaGreatDoor
open Go.AL Go.PW Go.PD
set_option maxRecDepth 8000
def WsV (H : Hp) (v : AV) (ls : List Int) (lo : Nat) : Prop := (ls = [] ∧ v = .nilS) ∨ ∃ h, v = .sg h 0 ls.length 16 ∧ X3 H h = some (Rb ls) ∧ lo ≤ h
theorem WsV.push {H : Hp} {v : AV} {ls : List Int} {lo : Nat} (h : WsV H v ls lo) (b : Blk) : WsV (H ++ [b]) v ls lo := by
  rcases h with h | ⟨k, h1, h2, h3⟩
  · exact .inl h
  · exact .inr ⟨k, h1, by rw [Qw (X6 h2)]; exact h2, h3⟩
theorem WsV.lt {H : Hp} {v : AV} {ls : List Int} {lo : Nat} (h : WsV H v ls lo) : v.lt H.length := by
  rcases h with ⟨_, rfl⟩ | ⟨k, rfl, h2, _⟩
  · trivial
  · simpa [AV.lt] using X6 h2
theorem cellsOf_snoc (ls : List Int) (x : Int) : Z9 (ls ++ [x]) = Z9 ls ++ dig 16 x := by simp [Z9]
theorem WsV.append {H : Hp} {v : AV} {ls : List Int} {lo : Nat} (h : WsV H v ls lo) (hlo : lo ≤ H.length) (hl : ls.length < 1000000) (x : Int) :
    ∃ v' H', Yf Tryz.prog (H ++ [Wb x]) 131 v (.sl H.length 0 1 1) = some (v', H') ∧ WsV H' v' (ls ++ [x]) lo ∧ (∀ k, k < lo → X3 H' k = X3 H k) ∧ H.length ≤ H'.length := by
  have hx := Rd.lit H (n := 1) (z := 16) (cs := (dig 16 x).map (AV.int .u64)) (k := .own) (e := 73) (by decide) (by rw [V6, dig_length])
  have ho := Vg (k := .u64) (dig 16 x)
  have hc := Vg (k := .u64) (Z9 ls)
  have hzl : (AV.agg ((dig 16 0).map (AV.int .u64))).cells.length = 16 := by rw [AV.cells_agg, V6, dig_length]
  rcases h with ⟨rfl, rfl⟩ | ⟨k, rfl, hg, hk⟩
  · refine ⟨_, _, append_nil hx Wn Us zero73 hzl (by decide) bytes73 ho (by decide) (by decide) (by decide), .inr ⟨_, rfl, ?_, ?_⟩, fun k hk => ?_, by simp⟩
    · rw [X7 rfl]; simp [Z9]
    · simp; omega
    · rw [Qw (by simp; omega), Qw (by omega)]
  · have hkl := X6 hg
    have hcl := Gm ls
    have hlen : ((Z9 ls).map (AV.int .u64)).length = ls.length * 16 := by rw [V6, hcl]
    refine ⟨.sg (H ++ [Wb x]).length 0 (ls.length + 1) 16, (H ++ [Wb x]).set k ⟨[], .dead, 73⟩ ++ [Rb (ls ++ [x])], ?_, .inr ⟨(H ++ [Wb x]).length, by rw [show (ls ++ [x]).length = ls.length + 1 by simp], ?_, ?_⟩, fun j hj => ?_, by simp; omega⟩
    · have h2 : ¬ ls.length * 16 + 1 * 16 ≤ ((Z9 ls).map (AV.int .u64)).length := by omega
      have h3 : ((Z9 ls).map (AV.int .u64)).take (ls.length * 16) = (Z9 ls).map (AV.int .u64) := List.take_of_length_le (by omega)
      have h4 : ls.length * 16 ≤ ((Z9 ls).map (AV.int .u64)).length := by omega
      have h5 : (Z9 (ls ++ [x])).map (AV.int .u64) = (Z9 ls).map (AV.int .u64) ++ (dig 16 x).map (AV.int .u64) := by rw [cellsOf_snoc, List.map_append]
      have hby1 : (ls.length + 1) * 128 ≤ 140737488355328 := by omega
      have hby2 : (ls.length + 1) ≤ 140737488355328 := by omega
      have hg' : X3 (H ++ [Wb x]) k = some (Rb ls) := by rw [Qw hkl]; exact hg
      have hrow := hx.row
      unfold Yf
      simp only [Wn, Us, zero73, bytes73, hzl, hrow, hg', h2, h3, h4, ho, hc, hby1, hby2, and_self, if_true, if_false, show ¬ (1 : Nat) = 0 by decide, show (0 : Nat) < 16 by decide]
      rw [← h5]
    · rw [X7 (by simp)]
    · simp; omega
    · rw [Qw (by simp; omega), Qv (by simp; omega), if_neg (by omega), Qw (by omega)]
theorem Mat.keep {H H' : Hp} {p : Nat} {vs : List AV} {rss : List (List Int)} (M : Mat H p vs rss) {lo : Nat} (hk : ∀ k, k < lo → X3 H' k = X3 H k) (hp : p < lo) (hv : ∀ i, i < rss.length → (vs.getD i .nilS).hd < lo) : Mat H' p vs rss := by
  refine ⟨M.len, ?_, fun i hi => ⟨(M.row i hi).1, ?_⟩, M.apart, M.off⟩
  · rw [hk _ hp]; exact M.out
  · rw [hk _ (hv i hi)]; exact (M.row i hi).2
theorem Off.keep {S : Nat → Prop} {H H1 H' : Hp} (o : Off S H H1) {lo : Nat} (hlo : H.length ≤ lo) (hl : H.length ≤ H'.length) (hk : ∀ k, k < lo → X3 H' k = X3 H1 k) : Off S H H' :=
  ⟨hl, fun k h1 h2 => by rw [hk k (by omega)]; exact o.2 k h1 h2⟩
end Go.Proofs.YtigddjlhncnnoaaGreatDoor
namespace Go.Proofs.YtigddjlhncnnoaaGreatDoor
open Go.AL Go.PW Go.PD
set_option maxRecDepth 8000
theorem WsV.rd {H : Hp} {v : AV} {ls : List Int} {lo : Nat} (h : WsV H v ls lo) : Rd H 16 v ((Z9 ls).map (AV.int .u64)) ls.length := by
  rcases h with ⟨rfl, rfl⟩ | ⟨k, rfl, hg, _⟩
  · exact Rd.nil _ _
  · have hcl : ((Z9 ls).map (AV.int .u64)).length = ls.length * 16 := by rw [V6, Gm]
    refine ⟨?_, rfl⟩
    simp only [arow, hg]
    rw [if_neg (by decide), if_pos (by omega), List.drop_zero, List.take_of_length_le (by omega)]
theorem WsV.get {H : Hp} {v : AV} {ls : List Int} {lo : Nat} (h : WsV H v ls lo) {i : Nat} (hi : i < ls.length) : V7 Tryz.prog H 73 (v.pl (i * 16)) = some (W (ls.getD i 0)) := by
  rw [Rd.loads h.rd agg73 Us hi, ← List.map_drop, ← List.map_take, cellsOf_get _ _ hi]
end Go.Proofs.YtigddjlhncnnoaaGreatDoor
namespace Go.Proofs.YtigddjlhncnnoaaGreatDoor
open Go.AL Go.PW
set_option maxRecDepth 8000
structure Uv (H : Hp) (s : AV) (xs : List Int) : Prop where
  rd : Ints H .u64 s xs
  ety : (s = .nilS ∨ ∃ n cs, s = .fz n cs) ∨ ∃ b, X3 H s.hd = some b ∧ b.ety = 71
theorem Uv.ext {H H' : Hp} {s : AV} {xs : List Int} (u : Uv H s xs) (x : Ext H H') : Uv H' s xs :=
  ⟨u.rd.ext x, u.ety.imp id fun ⟨b, h1, h2⟩ => ⟨b, Qy h1 x, h2⟩⟩
theorem Uv.push {H : Hp} {s : AV} {xs : List Int} (u : Uv H s xs) (b : Blk) : Uv (H ++ [b]) s xs := u.ext (Ext.push _ _)
structure Can (xs : List Int) : Prop where
  lim : Limbs xs
  top : xs = [] ∨ xs.getD (xs.length - 1) 0 ≠ 0
  len : xs.length < 100000
structure Bs_ (H : Hp) (s : AV) (x : Int) : Prop where
  ex : ∃ xs, Uv H s xs ∧ Can xs ∧ val xs = x.natAbs
abbrev BV (x : Int) (s : AV) : AV := .agg [.bool (decide (x < 0)), s]
theorem Bs_.ext {H H' : Hp} {s : AV} {x : Int} (u : Bs_ H s x) (h : Ext H H') : Bs_ H' s x := by
  obtain ⟨xs, h1, h2⟩ := u.ex
  exact ⟨xs, h1.ext h, h2⟩
theorem Bs_.push {H : Hp} {s : AV} {x : Int} (u : Bs_ H s x) (b : Blk) : Bs_ (H ++ [b]) s x := u.ext (Ext.push _ _)
theorem val_top {xs : List Int} (h : Limbs xs) {i : Nat} (hi : xs.getD i 0 ≠ 0) : Bs ^ i ≤ val xs := by
  have hlt : i < xs.length := by
    rcases Nat.lt_or_ge i xs.length with h | h
    · exact h
    · exact absurd (by rw [List.getD_eq_getElem?_getD, List.getElem?_eq_none h]; rfl) hi
  have h1 := Xk xs hlt
  have h2 := Yq xs (i + 1)
  have h3 := Xh (h.take i)
  have h4 := Xh (h.drop (i + 1))
  have h5 := h.get i
  have hp : (0 : Int) ≤ Bs ^ i := Int.le_of_lt (Int.pow_pos (by decide))
  have hp2 : (0 : Int) ≤ Bs ^ (min (i + 1) xs.length) := Int.le_of_lt (Int.pow_pos (by decide))
  have h6 : Bs ^ i * 1 ≤ Bs ^ i * xs.getD i 0 := Int.mul_le_mul_of_nonneg_left (by omega) hp
  have h7 := Int.mul_nonneg hp2 h4.1
  omega
theorem Bs_.nil {H : Hp} {s : AV} {x : Int} {xs : List Int} (c : Can xs) (hv : val xs = x.natAbs) : xs.length = 0 ↔ x = 0 := by
  constructor
  · intro h
    have : xs = [] := List.eq_nil_of_length_eq_zero h
    subst this
    simp [val] at hv; omega
  · intro h
    subst h
    rcases c.top with h | h
    · rw [h]; rfl
    · have h1 := val_top c.lim h
      have h2 : (0 : Int) < Bs ^ (xs.length - 1) := Int.pow_pos (by decide)
      simp at hv; omega
theorem Bs_.lt {H : Hp} {s : AV} {x : Int} (h : Bs_ H s x) : s.lt H.length := by
  obtain ⟨xs, u, _⟩ := h.ex
  exact u.rd.rd.lt
theorem Bs_.neg {H : Hp} {s : AV} {x : Int} (h : Bs_ H s x) : Bs_ H s (-x) := by
  obtain ⟨xs, u, c, hv⟩ := h.ex
  exact ⟨xs, u, c, by rw [hv, Int.natAbs_neg]⟩
end Go.Proofs.YtigddjlhncnnoaaGreatDoor
namespace Go.Proofs.YtigddjlhncnnoaaGreatDoor
open Go.AL Go.PW
set_option maxRecDepth 8000
theorem Ks {a b : Nat} (h : a ≤ b) : Bs ^ a ≤ Bs ^ b := by
  obtain ⟨d, rfl⟩ := Nat.exists_eq_add_of_le h
  rw [Int.pow_add]
  have h4 : (0 : Int) < Bs ^ d := Int.pow_pos (by decide)
  have h5 : (0 : Int) ≤ Bs ^ a := Int.le_of_lt (Int.pow_pos (by decide))
  have := Int.mul_le_mul_of_nonneg_left (show (1 : Int) ≤ Bs ^ d by omega) h5
  omega
end Go.Proofs.YtigddjlhncnnoaaGreatDoor
namespace Go.Proofs.YtigddjlhncnnoaaGreatDoor
open Go.AL Go.PW
set_option maxRecDepth 8000
theorem Can.nil : Can [] := ⟨Limbs.nil, .inl rfl, by simp⟩
end Go.Proofs.YtigddjlhncnnoaaGreatDoor
namespace Go.Proofs.YtigddjlhncnnoaaGreatDoor
open Go.AL Go.PW
set_option maxRecDepth 8000
def Sm (x : Int) : Prop := (x.natAbs : Int) < Bs ^ 20
theorem arow_same {H H' : Hp} {z : Nat} {v : AV} (h : X3 H' v.hd = X3 H v.hd) : arow H' z v = arow H z v := by
  cases v <;> simp only [arow] <;> (simp only [AV.hd] at h; rw [h])
theorem Uv.other {H : Hp} {s : AV} {xs : List Int} (u : Uv H s xs) {h : Nat} {b : Blk} (hg : X3 H h = some b) (hb : b.ety ≠ 71) (b' : Blk) : Uv (H.set h b') s xs := by
  rcases u.ety with (e | ⟨n, cs, e⟩) | ⟨c, g, e⟩
  · subst e
    exact ⟨⟨u.rd.rd.row, u.rd.rd.fine⟩, .inl (.inl rfl)⟩
  · subst e
    exact ⟨⟨u.rd.rd.row, u.rd.rd.fine⟩, .inl (.inr ⟨_, _, rfl⟩)⟩
  · have hne : s.hd ≠ h := fun e2 => by
      rw [e2, hg] at g; cases g; exact hb e
    have hs : X3 (H.set h b') s.hd = X3 H s.hd := by rw [Qv (X6 hg), if_neg hne]
    exact ⟨⟨by rw [arow_same hs]; exact u.rd.rd.row, u.rd.rd.fine⟩, .inr ⟨c, by rw [hs]; exact g, e⟩⟩
end Go.Proofs.YtigddjlhncnnoaaGreatDoor
namespace Go.Proofs.YtigddjlhncnnoaaGreatDoor
open Go.AL Go.PW
set_option maxRecDepth 8000
theorem Sm.neg {x : Int} (h : Sm x) : Sm (-x) := by unfold Sm at *; rw [Int.natAbs_neg]; exact h
theorem Bs_.one {H : Hp} {s : AV} {x : Int} (h : Bs_ H s x) : s.one = true := by
  obtain ⟨xs, u, _⟩ := h.ex
  exact u.rd.rd.one
theorem Bs_.other {H : Hp} {s : AV} {x : Int} (h : Bs_ H s x) {k : Nat} {b : Blk} (hg : X3 H k = some b) (hb : b.ety ≠ 71) (b' : Blk) : Bs_ (H.set k b') s x := by
  obtain ⟨xs, u, c⟩ := h.ex
  exact ⟨xs, u.other hg hb b', c⟩
theorem Sm.int {v : Int} (hv : -9223372036854775808 ≤ v ∧ v ≤ 9223372036854775807) : Sm v := by
  unfold Sm
  have h : Bs ^ 1 ≤ Bs ^ 20 := Ks (by omega)
  have h1 : Bs ^ 1 = 18446744073709551616 := by decide
  omega
end Go.Proofs.YtigddjlhncnnoaaGreatDoor
namespace Go.Proofs.YtigddjlhncnnoaaGreatDoor
open Go.AL Go.PW
set_option maxRecDepth 8000
abbrev Ib (xs : List Int) : Blk := ⟨xs.map (AV.int .i64), .own, 2⟩
end Go.Proofs.YtigddjlhncnnoaaGreatDoor
namespace Go.Proofs.YtigddjlhncnnoaaGreatDoor
open Go.AL Go.PW Go.PD
set_option maxRecDepth 8000
structure Noughts (H0 H : Hp) (a : AV) (n : Nat) : Prop where
  ex : ∃ h, a = .sl h 0 (n * (n + 1) / 2) (n * (n + 1) / 2) ∧ X3 H h = some ⟨(List.replicate (n * (n + 1) / 2) (0 : Int)).map (AV.int .i64), .own, 2⟩ ∧ H0.length ≤ h
theorem Noughts.ints {H0 H : Hp} {a : AV} {n : Nat} (h : Noughts H0 H a n) : Ints H .i64 a (List.replicate (n * (n + 1) / 2) 0) := by
  obtain ⟨k, rfl, hg, _⟩ := h.ex
  have := Ints.blk (n := n * (n + 1) / 2) (c := n * (n + 1) / 2) (o := 0) hg (by decide) (by simp) (Nat.le_refl _)
  rwa [List.drop_zero, List.take_of_length_le (by simp)] at this
end Go.Proofs.YtigddjlhncnnoaaGreatDoor
namespace Go.Proofs.YtigddjlhncnnoaaGreatDoor
open Go.AL Go.PW Go.PD
set_option maxRecDepth 8000
theorem ints_sg {H : Hp} {h : Nat} {xs : List Int} (hg : X3 H h = some (Ib xs)) : Ints H .i64 (.sg h 0 xs.length 1) xs := by
  have hl := V6 .i64 xs
  refine ⟨?_, rfl⟩
  simp only [arow, hg]
  rw [if_neg (by decide), if_pos (by omega), List.drop_zero, List.take_of_length_le (by omega)]
def Mo (H : Hp) (a : AV) (xs : List Int) (lo : Nat) : Prop := (xs = [] ∧ a = .nilS) ∨ ∃ h, (a = .sl h 0 xs.length xs.length ∨ a = .sg h 0 xs.length 1) ∧ X3 H h = some (Ib xs) ∧ lo ≤ h
section
variable {H : Hp} {a : AV} {xs : List Int} {lo : Nat}
theorem Mo.ext {H' : Hp} (m : Mo H a xs lo) (x : Ext H H') : Mo H' a xs lo := by
  rcases m with h | ⟨h, h1, h2, h3⟩
  · exact .inl h
  · exact .inr ⟨h, h1, Qy h2 x, h3⟩
theorem Mo.push (m : Mo H a xs lo) (b : Blk) : Mo (H ++ [b]) a xs lo := m.ext (Ext.push _ _)
theorem Mo.ints (m : Mo H a xs lo) : Ints H .i64 a xs := by
  rcases m with ⟨rfl, rfl⟩ | ⟨h, h1, h2, _⟩
  · exact Ints.nil _ _
  · rcases h1 with rfl | rfl
    · have := Ints.blk (n := xs.length) (c := xs.length) (o := 0) h2 (by decide) (by simp) (Nat.le_refl _)
      rwa [List.drop_zero, List.take_length] at this
    · exact ints_sg h2
theorem Mo.one (m : Mo H a xs lo) : a.one = true := m.ints.rd.one
theorem Mo.at_ (m : Mo H a xs lo) {k : IntKind} {i : Nat} (hi : i < xs.length) : Qx Tryz.prog 38 a (.int k (i : Int)) = some (.ptr a.hd i) := by
  rcases m with ⟨rfl, rfl⟩ | ⟨h, h1, h2, _⟩
  · simp at hi
  · have h0 : (0 : Int) ≤ (i : Int) := by omega
    have h1' : (i : Int) < (xs.length : Int) := by omega
    rcases h1 with rfl | rfl
    · rw [Xx h0 h1', Int.toNat_natCast, Nat.zero_add]; rfl
    · rw [Xy h0 h1', Int.toNat_natCast, Nat.zero_add]; rfl
theorem Mo.hd (m : Mo H a xs lo) {i : Nat} (hi : i < xs.length) : X3 H a.hd = some (Ib xs) ∧ lo ≤ a.hd := by
  rcases m with ⟨rfl, rfl⟩ | ⟨h, h1, h2, h3⟩
  · simp at hi
  · rcases h1 with rfl | rfl <;> exact ⟨h2, h3⟩
theorem Mo.put (m : Mo H a xs lo) {i : Nat} (hi : i < xs.length) (v : Int) : Np Tryz.prog H 2 (.ptr a.hd i) (.int .i64 v) = some (H.set a.hd (Ib (xs.set i v))) := by
  obtain ⟨hg, _⟩ := m.hd hi
  rw [Um, hg]
  simp only [Yr]
  rw [if_pos ⟨trivial, rfl, rfl, by rw [V6]; exact hi⟩, AV.cells_int]
  congr 3
  exact Gs _ _ _ hi
theorem Mo.set (m : Mo H a xs lo) {i : Nat} (hi : i < xs.length) {ys : List Int} (hl : ys.length = xs.length) : Mo (H.set a.hd (Ib ys)) a ys lo := by
  rcases m with ⟨rfl, rfl⟩ | ⟨h, h1, h2, h3⟩
  · simp at hi
  · refine .inr ⟨h, by rw [hl]; exact h1, ?_, h3⟩
    have e : a.hd = h := by rcases h1 with rfl | rfl <;> rfl
    rw [e, Qv (X6 h2), if_pos rfl]
end
end Go.Proofs.YtigddjlhncnnoaaGreatDoor
namespace Go.Proofs.YtigddjlhncnnoaaGreatDoor
open Go.AL Go.PW Go.PD
set_option maxRecDepth 8000
theorem Right.set {n : Nat} {xs : List Int} (hr : Right n xs) (i : Nat) {v : Int} (hv : Fit v) : Right n (xs.set i v) := by
  refine ⟨by rw [List.length_set]; exact hr.1, fun x hx => ?_⟩
  rcases List.mem_or_eq_of_mem_set hx with h | h
  · exact hr.2 x h
  · rw [h]; exact hv
section
variable {H : Hp} {a : AV} {xs : List Int} {lo : Nat}
theorem Mo.other (m : Mo H a xs lo) {h : Nat} (hh : h < lo) (hl : h < H.length) (b : Blk) : Mo (H.set h b) a xs lo := by
  rcases m with e | ⟨k, h1, h2, h3⟩
  · exact .inl e
  · exact .inr ⟨k, h1, by rw [Qv hl, if_neg (by omega)]; exact h2, h3⟩
end
end Go.Proofs.YtigddjlhncnnoaaGreatDoor
namespace Go.Proofs.YtigddjlhncnnoaaGreatDoor
open Go.AL Go.PW Go.PD
set_option maxRecDepth 8000
theorem Bs_.cells {H : Hp} {s : AV} {x : Int} (h : Bs_ H s x) : s.cells = [s] := AV.cells_one h.one
end Go.Proofs.YtigddjlhncnnoaaGreatDoor
namespace Go.Proofs.YtigddjlhncnnoaaGreatDoor
open Go.AL Go.PW Go.PD
set_option maxRecDepth 8000
theorem set_same {H : Hp} {h : Nat} {b : Blk} (hg : X3 H h = some b) : H.set h b = H := by
  apply List.ext_getElem?
  intro k
  rw [List.getElem?_set]
  by_cases e : h = k
  · subst e
    have hl := X6 hg
    rw [if_pos rfl, if_pos hl]
    exact hg.symm
  · rw [if_neg e]
theorem foldr_true {α : Type} {f : α → Option Bool → Option Bool} : ∀ {l : List α}, (∀ a ∈ l, f a (some true) = some true) → l.foldr f (some true) = some true
  | [], _ => rfl
  | a :: l, h => by
    rw [List.foldr_cons, foldr_true (fun b hb => h b (by simp [hb])), h a (by simp)]
theorem eq_wide (x : Int) : Xm Tryz.prog Op.maxDepth 73 (W x) (W x) = some true := by
  have h : ∀ d, Xm Tryz.prog (d + 1 + 1) 73 (W x) (W x) = some true := by
    intro d
    unfold W
    unfold Xm
    simp only [und73, Z4]
    refine foldr_true fun i hi => ?_
    have hi := List.mem_range.1 hi
    have e : apart Tryz.prog 71 ((dig 16 x).map (AV.int .u64)) (i * 1) = some (.int .u64 ((dig 16 x).getD i 0)) := by
      unfold apart
      simp only [Yt]
      rw [Nat.mul_one]
      exact map_get (AV.int .u64) (dig 16 x) 0 (by rw [dig_length]; omega)
    rw [e]
    simp only [Xm, und71, if_true, beq_self_eq_true, Bool.and_self]
  exact h (Op.maxDepth - 2)
end Go.Proofs.YtigddjlhncnnoaaGreatDoor
namespace Go.Proofs.YtigddjlhncnnoaaGreatDoor
open Go.AL Go.PW
set_option maxRecDepth 8000
theorem Uv.nil (H : Hp) : Uv H .nilS [] := ⟨Ints.nil _ _, .inl (.inl rfl)⟩
end Go.Proofs.YtigddjlhncnnoaaGreatDoor

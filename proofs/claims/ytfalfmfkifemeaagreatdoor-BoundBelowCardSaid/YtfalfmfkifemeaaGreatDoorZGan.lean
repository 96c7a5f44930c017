/- Part 14 of the proof of laws of this seat: lemmas on the model's code, on this program's functions, on numbers. No condition. -/
import Derived.Test.YtfalfmfkifemeaaGreatDoorZGam
set_option linter.unusedVariables false
set_option linter.unusedSimpArgs false
open Nat renaming reduceEqDiff → J0, reduceLeDiff → J1, reduceMul → J2, reduceAdd → J3, reduceSub → J4, reduceLT → J5
open Int renaming reduceToNat → J6, reducePow → J7, reduceNeg → J8, reduceLT → J9, reduceLE → Ja, reduceEq → Jb
open And renaming intro → Jc
open Go.IntKind renaming bits → Jd
open Go.PW renaming dig_length → Je
namespace Go.Proofs.YtfalfmfkifemeaaGreatDoor
open Go.AL Go.RowKit
abbrev fltBlk (op : ByteArray) (n : Int) : Blk := ⟨[.str op, .ifc 78 (.int .i64 n)], .own, 112⟩
abbrev numBlk (n : Int) : Blk := ⟨[.int .i64 n], .own, 78⟩
def Noted (H : Hp) : Prop := ∃ k e, Qt H k = some ⟨[], .glob 0 165 3 35, e⟩
theorem Noted.ext {H H' : Hp} (h : Noted H) (x : Ext H H') : Noted H' := by
  obtain ⟨k, e, h⟩ := h
  exact ⟨k, e, Qh h x⟩
theorem Noted.push {H : Hp} (h : Noted H) (b : Blk) : Noted (H ++ [b]) := h.ext (Ext.push _ _)
theorem Noted.set {H : Hp} (h : Noted H) {p : Nat} {b b' : Blk} (hp : Qt H p = some b) (hb : b.kind = .own) : Noted (H.set p b') := by
  obtain ⟨k, e, h⟩ := h
  refine ⟨k, e, ?_⟩
  rw [Qk (Qr hp), if_neg]
  · exact h
  · rintro rfl
    rw [hp] at h
    cases h
    cases hb
set_option maxRecDepth 4000 in
theorem as_calls (op : ByteArray) (n old : Int) (h p : Nat) (H : Hp) (hh : Qt H h = some (fltBlk op n)) (hp : Qt H p = some (numBlk old)) (hn : Noted H) :
    ACalls Tryz.prog 79 [.ifc 110 (.ptr h 0), .ifc 123 (.ptr p 0)] H fun r H' => r = .bool true ∧ H.set p (numBlk n) = H' := by
  refine ⟨⟨_, Tryz.func79, by kernel_rfl, by kernel_rfl⟩, ?_⟩
  intro w0 B β w vs R hv hl
  obtain ⟨vs⟩ := vs
  simp only [VRs, VR] at hv
  obtain ⟨_, _, rfl, ⟨_, rfl, rfl⟩, _, _, rfl, ⟨_, rfl, rfl⟩, rfl⟩ := hv
  obtain ⟨g, cur, ea, hgB, hgw, hgl, hgt⟩ := R.own h _ hh rfl
  obtain ⟨gp, curp, eap, hgpB, hgpw, hgpl, hgpt⟩ := R.own p _ hp rfl
  obtain ⟨v1, hc1, hvr1, _⟩ := R.cells h _ hh (fun e => by cases e) 1 _ rfl
  obtain ⟨v2, hc2, hvr2, _⟩ := R.cells p _ hp (fun e => by cases e) 0 _ rfl
  simp only [VR] at hvr1 hvr2
  obtain ⟨_, rfl, rfl⟩ := hvr1
  subst hvr2
  rw [ea, Addr.add_plain] at hc1
  rw [eap, Addr.add_plain] at hc2
  obtain ⟨k, e, hk⟩ := hn
  obtain ⟨hg0, h0B⟩ := R.glob k _ hk 0 _ _ _ rfl
  have hg1 : w.cell? ⟨0, 0, none⟩ = _ := (R.below.cell h0B).trans hg0
  have hfr : w.frozen? ⟨gp, 0, none⟩ = false := by
    unfold World.frozen?
    simp [hgpw]
  rw [ea, eap, Addr.add_plain, Addr.add_plain]
  refine (as_two g n ⟨gp, 0, none⟩ _ w hg1 hc1 hc2 hfr).mono ?_
  rintro ev w' ⟨rfl, rfl⟩
  have b1 := (Below.refl w.heap.size w).alloc (Nat.le_refl _) (.cells #[.pointer (some ⟨gp, 0, none⟩)] 123)
  have b2 := b1.alloc (by simp) (.cells #[.pointer (some ⟨3, 123, none⟩), .pointer (some ⟨w.heap.size, 0, none⟩), .int .u64 150] 147)
  have b3 := b2.alloc (by simp; omega) (.cells #[.pointer (some ⟨3, 123, none⟩), .pointer (some ⟨w.heap.size, 0, none⟩), .int .u64 150] 147)
  have b4 := b3.alloc (by simp; omega) (.cells #[.int .i64 n] 78)
  have hpl : gp < w.heap.size := (Array.getElem?_eq_some_iff.1 hgpw).1
  have hc4 := (b4.cell (p := ⟨gp, 0, none⟩) hpl).trans hc2
  have hb4 := (b4.block gp hpl).trans hgpw
  have R4 := R.kept b4
  generalize (((w.alloc (.cells #[.pointer (some ⟨gp, 0, none⟩)] 123)).alloc (.cells #[.pointer (some ⟨3, 123, none⟩), .pointer (some ⟨w.heap.size, 0, none⟩), .int .u64 150] 147)).alloc (.cells #[.pointer (some ⟨3, 123, none⟩), .pointer (some ⟨w.heap.size, 0, none⟩), .int .u64 150] 147)).alloc (.cells #[.int .i64 n] 78) = w4 at *
  have hf4 : w4.frozen? ⟨gp, 0, none⟩ = false := by
    unfold World.frozen?
    simp [hb4]
  obtain ⟨w', hrun, R'⟩ := R4.store (P := Tryz.prog) hp rfl 0 [.int .i64 n] [.int .i64 n] (by simp [VRs, VR]) rfl (by simp [AV.lts, AV.lt]) (by simp)
  have hst : (storeCells ((β p).addr.add 0) [.int .i64 n] 0).run Tryz.prog w4 = .ok () (w4.setCell ⟨gp, 0, none⟩ (.int .i64 n)) := by
    rw [eap, Addr.add_plain]
    simp [storeCells, Addr.add]
    rw [run_store Tryz.prog w4 _ _ _ (by rfl)]
    simp [hc4, hf4]
  rw [hst] at hrun
  cases hrun
  refine ⟨β, .bool true, _, H.set p (numBlk n), rfl, ⟨rfl, rfl⟩, Agree.refl _ _, by simp, rfl, trivial, ?_⟩
  simpa [Jr] using R'
end Go.Proofs.YtfalfmfkifemeaaGreatDoor
namespace Go.Proofs.YtfalfmfkifemeaaGreatDoor
open Go.AL
theorem tf44ErD : type_of% (Jc @Ng (Jc @Yd (Jc @Yc (Jc @tyb110 (Jc @tyb111 (@tyb112)))))) := Jc @Ng (Jc @Yd (Jc @Yc (Jc @tyb110 (Jc @tyb111 (@tyb112)))))
theorem tf52ErD : type_of% (Jc @Xd (Jc @tyb20 (Jc @Yd (Jc @Yc (Jc @Rr (@tyb123)))))) := Jc @Xd (Jc @tyb20 (Jc @Yd (Jc @Yc (Jc @Rr (@tyb123)))))
theorem tf78ErD : type_of% (Jc @Ng (Jc @Yd (Jc @Yc (Jc @tyb87 (Jc @tyb110 (Jc @tyb111 (Jc @tyb112 (Jc @tyb138 (@tyb141))))))))) := Jc @Ng (Jc @Yd (Jc @Yc (Jc @tyb87 (Jc @tyb110 (Jc @tyb111 (Jc @tyb112 (Jc @tyb138 (@tyb141))))))))
theorem tf51ErD : type_of% (Jc @Ng (Jc @Yd (Jc @Yc (@tyb87)))) := Jc @Ng (Jc @Yd (Jc @Yc (@tyb87)))
abbrev pn78_6ErD : Plan := (.one 0 (.one 1 (.one 2 (.one 3 (.one 5 (.one 6 (.one 7 (.one 8 (.one 4 (.one 9 (.one 10 .nil)))))))))))
set_option maxRecDepth 8000
def Err (H : Hp) (v : AV) (op : ByteArray) (n : Int) : Prop := ∃ h, v = .ifc 110 (.ptr h 0) ∧ Qt H h = some (fltBlk op n)
theorem Err.ext {H H' : Hp} {v : AV} {op : ByteArray} {n : Int} (h : Err H v op n) (x : Ext H H') : Err H' v op n := by
  obtain ⟨k, e, g⟩ := h
  exact ⟨k, e, Qh g x⟩
theorem Err.push {H : Hp} {v : AV} {op : ByteArray} {n : Int} (h : Err H v op n) (b : Blk) : Err (H ++ [b]) v op n := h.ext (Ext.push _ _)
theorem Err.lt {H : Hp} {v : AV} {op : ByteArray} {n : Int} (h : Err H v op n) : v.lt H.length := by
  obtain ⟨k, rfl, g⟩ := h
  simpa [AV.lt] using Qr g
theorem Kd {P : Program} {t u : TypeId} {ms : Array (String × TypeId)} {x : AV} (hu : P.underlying t = some (.interface ms)) : Xk P Op.maxDepth t (.ifc u x) .nilI = some false := Ut (b := false) fun d => by simp [Xk, hu]
theorem Zy {P : Program} {t : TypeId} {ms : Array (String × TypeId)} (hu : P.underlying t = some (.interface ms)) : Xk P Op.maxDepth t .nilI .nilI = some true := Ut (b := true) fun d => by simp [Xk, hu]
theorem ta_lacks {P : Program} {t asserted : TypeId} {want : Array (String × TypeId)} {v z : AV} (hu : P.underlying asserted = some (.interface want)) (h : (P.info? t).map (fun i => (lacking want i.methods).isEmpty) = some false) (hz : Z5 P asserted = some z) :
    Yg P (.ifc t v) asserted true = some (.tup [z, .bool false]) := by
  obtain ⟨i, hi, hl⟩ := Option.map_eq_some_iff.1 h
  obtain ⟨m, hm⟩ := missingMethod_some (want := want) (got := i.methods) (fun e => by rw [e] at hl; cases hl)
  simp [Yg, hu, hi, hm, hz]
theorem ta_same {P : Program} {t e : TypeId} {v : AV} (hu : P.underlying t = some (.pointer e)) : Yg P (.ifc t v) t true = some (.tup [v, .bool true]) := by
  simp [Yg, hu]
theorem ta_fault (v : AV) : Yg Tryz.prog (.ifc 110 v) 110 true = some (.tup [v, .bool true]) := ta_same und110
theorem ta_fault_no (v : AV) : Yg Tryz.prog (.ifc 110 v) 138 true = some (.tup [.nilI, .bool false]) := ta_lacks und138 (by kernel_rfl) zero138
theorem ta_num_no (v : AV) : Yg Tryz.prog (.ifc 78 v) 138 true = some (.tup [.nilI, .bool false]) := ta_lacks und138 (by kernel_rfl) zero138
theorem ta_num_not (v : AV) : Yg Tryz.prog (.ifc 78 v) 110 true = some (.tup [.nilP, .bool false]) := by
  simp [Yg, und110, zero110]
theorem wrap_calls (op : ByteArray) (n : Int) (H : Hp) : ACalls Tryz.prog 44 [.str op, .ifc 78 (.int .i64 n)] H fun r H' => r = .ifc 110 (.ptr H.length 0) ∧ H ++ [fltBlk op n] = H' := by
  have hb : Va Tryz.prog 112 [(0, .str op), (1, .ifc 78 (.int .i64 n))] = some (.agg [.str op, .ifc 78 (.int .i64 n)]) := by
    simp [Va, zero112, Nc, J0c, J0j, R9, Q1, AV.solid, AV.one, AV.cells, Jr]
  refine Q7 Tryz.func44 rfl (by kernel_rfl) (by kernel_rfl) ?_
  repeat' first
    | (with_reducible first | refine Jj (fun K hK => ?_) | refine Q6 ?_ | refine Qj ?_ | refine Jg ?_ | refine Jz ?_)
    | (simp only [Q4, Jo, reduceIte, J0])
    | ((with_reducible refine hK _ _ ?_); clear hK)
    | (simp only [Q3, RA, Jn, Jm, Jp, Q2, Q0, ev, ofValue, Jt, J0, J3, J2, J4, reduceCtorEq, reduceIte, Ju, Qb, Qa, Jy, aun, Q9, Jk, Jh, Jx, Jw, Ji, Q8, Jf, Q1, Jr, Js, J1, J5, Ja, J9, Jb, J6, J7, Jd, J8, RB, Jv, Je, tf44ErD, Kd Yt, hb])
  all_goals
    (
     (refine Qg (rs := [.tmp 4]) rfl ?_)
     (simp only [Qx, Qd, Fr.put_some, Fr.put_none, Qe, Qf, Qi, J0, reduceIte])
     (try simp (disch := (first | omega | (simp only [RO]; done) | assumption | (simp only [RM, Je]; done) | (simp only [RL, Je]; omega))) only [RD, reduceCtorEq, reduceIte, Je, J1, J3, J2, J6, tf44ErD]))
theorem code_calls (op : ByteArray) (n : Int) (v : AV) (H : Hp) (hv : Err H v op n) (hn : Noted H) : ACalls Tryz.prog 52 [v] H fun r H' => r = .int .i64 n ∧ H = H' := by
  refine ACalls.drop (R := fun r => r = .int .i64 n) ?_
  obtain ⟨h, rfl, hh⟩ := hv
  have hl := Qr hh
  have g1 : Qt (H ++ [numBlk 0]) h = some (fltBlk op n) := by rw [Qp hl]; exact hh
  have g2 : Qt (H ++ [numBlk 0]) H.length = some (numBlk 0) := Qo rfl
  have n1 := hn.push (numBlk 0)
  refine Q7 Tryz.func52 rfl (by kernel_rfl) (by kernel_rfl) ?_
  repeat' first
    | (with_reducible first | refine Jj (fun K hK => ?_) | refine Qc ?_ | refine Qj ?_ | refine Jg ?_ | refine Jz ?_)
    | ((with_reducible refine Jq (as_calls op n 0 h H.length _ g1 g2 n1) ?_); rintro _ _ ⟨rfl, rfl⟩)
    | (simp only [Q4, Jo, reduceIte, J0])
    | ((with_reducible refine hK _ _ ?_); clear hK)
    | (simp only [Q3, RA, Jn, Jm, Jp, Q2, Q0, ev, ofValue, Jt, J0, J3, J2, J4, reduceCtorEq, reduceIte, Ju, Qb, Qa, Jy, aun, Q9, Jk, Jh, Jx, Jw, Ji, Q8, Jf, Q1, Jr, Js, J1, J5, Ja, J9, Jb, J6, J7, Jd, J8, RB, Jv, Je, tf52ErD, Kd Yt])
    | (simp (disch := (first | omega | (simp only [RO]; done) | assumption | (simp only [RM, Je]; done) | (simp only [RL, Je]; omega))) only [RD, reduceCtorEq, reduceIte, Je, J1, J3, J2, J6, tf52ErD, Kd Yt])
  all_goals
    (
     (refine Qg (rs := [.tmp 2]) rfl ?_)
     (simp only [Qx, Qd, Fr.put_some, Fr.put_none, Qe, Qf, Qi, J0, reduceIte])
     (try simp (disch := (first | omega | (simp only [RO]; done) | assumption | (simp only [RM, Je]; done) | (simp only [RL, Je]; omega))) only [RD, reduceCtorEq, reduceIte, Je, J1, J3, J2, J6, tf52ErD]))
  all_goals exact ⟨Ext.push _ _, trivial⟩
abbrev Ku (op : ByteArray) : Blk := ⟨[.str op], .own, 9⟩
theorem within_fault (op : ByteArray) (n : Int) (h : Nat) (H : Hp) (hh : Qt H h = some (fltBlk op n)) : ACalls Tryz.prog 78 [.ifc 110 (.ptr h 0)] H fun r H' => r = .tup [.sl H.length 0 1 1, .ifc 78 (.int .i64 n)] ∧ H ++ [Ku op] = H' := by
  have hl := Qr hh
  have f0 : Xh Tryz.prog 112 (.ptr h 0) 0 = some (.ptr h 0) := by simp [Xh, J0c, J0j]
  have f1 : Xh Tryz.prog 112 (.ptr h 0) 1 = some (.ptr h 1) := by simp [Xh, J0c, R9]
  have l0 : ∀ H', Ext H H' → Yq Tryz.prog H' 9 (.ptr h 0) = some (.str op) := fun H' x => by simp [Yq, Qh hh x, agg9]
  have l1 : ∀ H', Ext H H' → Yq Tryz.prog H' 35 (.ptr h 1) = some (.ifc 78 (.int .i64 n)) := fun H' x => by simp [Yq, Qh hh x, agg35]
  have l0' := l0 _ (Ext.refl _)
  have l1' := l1 _ (Ext.refl _)
  have l1'' := l1 _ (Ext.push H (Ku op))
  have l0'' := l0 _ (Ext.push H (Ku op))
  refine Q7 Tryz.func78 rfl (by kernel_rfl) (by kernel_rfl) ?_
  repeat' first
    | (with_reducible first | refine Jj (fun K hK => ?_) | refine Q6 ?_ | refine Qj ?_ | refine Jg ?_ | refine Qw (id := 6) [] pn78_6ErD (by kernel_rfl) (by kernel_rfl) ?_ | refine Jz ?_)
    | (simp only [Q4, Jo, reduceIte, J0])
    | ((with_reducible refine hK _ _ ?_); clear hK)
    | (simp only [Q3, RA, Jn, Jm, Jp, Q2, Q0, ev, ofValue, Jt, J0, J3, J2, J4, reduceCtorEq, reduceIte, Ju, Qb, Qa, Jy, aun, Q9, Jk, Jh, Jx, Jw, Ji, Q8, Jf, Q1, Jr, Js, J1, J5, Ja, J9, Jb, J6, J7, Jd, J8, RB, Jv, Je, tf78ErD, ta_fault, ta_fault_no, eqPn110, f0, f1, l0', l1', l0'', l1''])
  all_goals
    (
     (refine Qg (rs := [.tmp 2, .tmp 3]) rfl ?_)
     (simp only [Qx, Qd, Fr.put_some, Fr.put_none, Qe, Qf, Qi, J0, reduceIte])
     (try simp (disch := (first | omega | (simp only [RO]; done) | assumption | (simp only [RM, Je]; done) | (simp only [RL, Je]; omega))) only [RD, reduceCtorEq, reduceIte, Je, J1, J3, J2, J6, tf78ErD]))
theorem within_num (n : Int) (H : Hp) : ACalls Tryz.prog 78 [.ifc 78 (.int .i64 n)] H fun r H' => r = .tup [.nilS, .nilI] ∧ H = H' := by
  refine Q7 Tryz.func78 rfl (by kernel_rfl) (by kernel_rfl) ?_
  repeat' first
    | (with_reducible first | refine Jj (fun K hK => ?_) | refine Q6 ?_ | refine Qj ?_ | refine Jg ?_ | refine Jz ?_)
    | (simp only [Q4, Jo, reduceIte, J0])
    | ((with_reducible refine hK _ _ ?_); clear hK)
    | (simp only [Q3, RA, Jn, Jm, Jp, Q2, Q0, ev, ofValue, Jt, J0, J3, J2, J4, reduceCtorEq, reduceIte, Ju, Qb, Qa, Jy, aun, Q9, Jk, Jh, Jx, Jw, Ji, Q8, Jf, Q1, Jr, Js, J1, J5, Ja, J9, Jb, J6, J7, Jd, J8, RB, Jv, Je, tf78ErD, ta_num_no, ta_num_not])
  all_goals
    (
     (refine Qg (rs := [.tmp 2, .tmp 3]) rfl ?_)
     (simp only [Qx, Qd, Fr.put_some, Fr.put_none, Qe, Qf, Qi, J0, reduceIte])
     (try simp (disch := (first | omega | (simp only [RO]; done) | assumption | (simp only [RM, Je]; done) | (simp only [RL, Je]; omega))) only [RD, reduceCtorEq, reduceIte, Je, J1, J3, J2, J6, tf78ErD]))
theorem ops_calls (op : ByteArray) (n : Int) (v : AV) (H : Hp) (hv : Err H v op n) : ACalls Tryz.prog 51 [v] H fun r H' => r = .sg (H.length + 1) 0 1 1 ∧ H ++ [Ku op] ++ [Ku op] = H' := by
  obtain ⟨h, rfl, hh⟩ := hv
  have a1 : Y2 Tryz.prog (H ++ [Ku op]) 87 .nilS (.sl H.length 0 1 1) = some (.sg (H.length + 1) 0 1 1, H ++ [Ku op] ++ [Ku op]) := by
    have := append_nil (P := Tryz.prog) (Rd.lit H (n := 1) (z := 1) (cs := [.str op]) (k := .own) (e := 9) (by decide) rfl) Rq J0j zero9 rfl (by decide) bytes9 rfl (by decide) (by decide) (by decide)
    rwa [Qm] at this
  have a2 : ∀ H', Y2 Tryz.prog H' 87 (.sg (H.length + 1) 0 1 1) .nilS = some (.sg (H.length + 1) 0 1 1, H') := fun H' =>
    J0z (P := Tryz.prog) (Rd.nil H' 1) Rq J0j zero9 rfl (by decide) bytes9 rfl (.inr (.inr ⟨_, _, _, rfl⟩))
  refine Q7 Tryz.func51 rfl (by kernel_rfl) (by kernel_rfl) ?_
  repeat' first
    | (with_reducible first | refine Jj (fun K hK => ?_) | refine Qc ?_ | refine Jg ?_)
    | (simp only [Q4, Jo, reduceIte, J0])
    | ((with_reducible refine hK _ _ ?_); clear hK)
    | (simp only [Q3, RA, Jn, Jm, Jp, Q2, Q0, ev, ofValue, Jt, J0, J3, J2, J4, reduceCtorEq, reduceIte, Ju, Qb, Qa, Jy, aun, Q9, Jk, Jh, Jx, Jw, Ji, Q8, Jf, Q1, Jr, Js, J1, J5, Ja, J9, Jb, J6, J7, Jd, J8, RB, Jv, Je, tf51ErD])
  refine X2 (fun m fr' H' => (m = 2 ∧ fr' 0 = .ifc 110 (.ptr h 0) ∧ fr' 3 = .nilS ∧ H = H') ∨ (m = 1 ∧ fr' 0 = .ifc 78 (.int .i64 n) ∧ fr' 3 = .sg (H.length + 1) 0 1 1 ∧ H ++ [Ku op] ++ [Ku op] = H') ∨ (m = 0 ∧ fr' 0 = .nilI ∧ fr' 3 = .sg (H.length + 1) 0 1 1 ∧ H ++ [Ku op] ++ [Ku op] = H')) (m := 2) (.inl ⟨rfl, rfl, rfl, rfl⟩) ?_
  rintro m fr' H' (⟨rfl, k0, k3, rfl⟩ | ⟨rfl, k0, k3, rfl⟩ | ⟨rfl, k0, k3, rfl⟩)
  · skip
    repeat' first
      | (with_reducible first | refine Jj (fun K hK => ?_) | refine Qc ?_ | refine Q6 ?_ | refine Jg ?_ | refine Jz ?_)
      | ((with_reducible refine Jq (within_fault op n h _ hh) ?_); rintro _ _ ⟨rfl, rfl⟩)
      | (simp only [Q4, Jo, reduceIte, J0])
      | ((with_reducible refine hK _ _ ?_); clear hK)
      | (simp only [Q3, RA, Jn, Jm, Jp, Q2, Q0, ev, ofValue, Jt, J0, J3, J2, J4, reduceCtorEq, reduceIte, Ju, Qb, Qa, Jy, aun, Q9, Jk, Jh, Jx, Jw, Ji, Q8, Jf, Q1, Jr, Js, J1, J5, Ja, J9, Jb, J6, J7, Jd, J8, RB, Jv, Je, tf51ErD, k0, k3, Kd Yt, Zy Yt, a1])
    exact ⟨1, by omega, rfl⟩
  · skip
    repeat' first
      | (with_reducible first | refine Jj (fun K hK => ?_) | refine Qc ?_ | refine Q6 ?_ | refine Jg ?_ | refine Jz ?_)
      | ((with_reducible refine Jq (within_num n _) ?_); rintro _ _ ⟨rfl, rfl⟩)
      | (simp only [Q4, Jo, reduceIte, J0])
      | ((with_reducible refine hK _ _ ?_); clear hK)
      | (simp only [Q3, RA, Jn, Jm, Jp, Q2, Q0, ev, ofValue, Jt, J0, J3, J2, J4, reduceCtorEq, reduceIte, Ju, Qb, Qa, Jy, aun, Q9, Jk, Jh, Jx, Jw, Ji, Q8, Jf, Q1, Jr, Js, J1, J5, Ja, J9, Jb, J6, J7, Jd, J8, RB, Jv, Je, tf51ErD, k0, k3, Kd Yt, Zy Yt, a2])
    exact ⟨0, by omega, rfl⟩
  · skip
    repeat' first
      | (with_reducible first | refine Jj (fun K hK => ?_) | refine Qz ?_ | refine Qj ?_ | refine Jg ?_ | refine Jz ?_)
      | (simp only [Q4, Jo, reduceIte, J0])
      | ((with_reducible refine hK _ _ ?_); clear hK)
      | (clear hK; (with_reducible refine hK _ _ ?_); clear hK)
      | (simp only [Q3, RA, Jn, Jm, Jp, Q2, Q0, ev, ofValue, Jt, J0, J3, J2, J4, reduceCtorEq, reduceIte, Ju, Qb, Qa, Jy, aun, Q9, Jk, Jh, Jx, Jw, Ji, Q8, Jf, Q1, Jr, Js, J1, J5, Ja, J9, Jb, J6, J7, Jd, J8, RB, Jv, Je, tf51ErD, k0, k3, Kd Yt, Zy Yt, Bool.or_true])
    (
     (refine Qg (rs := [.tmp 2]) rfl ?_)
     (simp only [Qx, Qd, Fr.put_some, Fr.put_none, Qe, Qf, Qi, J0, reduceIte, k3])
     (try simp (disch := (first | omega | (simp only [RO]; done) | assumption | (simp only [RM, Je]; done) | (simp only [RL, Je]; omega))) only [RD, reduceCtorEq, reduceIte, Je, J1, J3, J2, J6, tf51ErD, k3]))
end Go.Proofs.YtfalfmfkifemeaaGreatDoor
namespace Go.Proofs.YtfalfmfkifemeaaGreatDoor
open Go.AL Go.PW
theorem J08 : type_of% (@Z8) := @Z8
theorem tf71SyA : type_of% (@Xd) := @Xd
theorem tf93SyA : type_of% (@Xd) := @Xd
theorem tf61SyA : type_of% (@Xd) := @Xd
theorem Kk : type_of% (Jc @Z8 (Jc @Xd (Jc @Xz (Jc @Xx (Jc @Xw (@Xv)))))) := Jc @Z8 (Jc @Xd (Jc @Xz (Jc @Xx (Jc @Xw (@Xv)))))
theorem Yz : type_of% (Jc @Z8 (Jc @Xd (Jc @Xx (Jc @Xw (@Xv))))) := Jc @Z8 (Jc @Xd (Jc @Xx (Jc @Xw (@Xv))))
theorem tf25SyA : type_of% (Jc @Z8 (Jc @Xd (Jc @Xx (Jc @Xw (@Xv))))) := Jc @Z8 (Jc @Xd (Jc @Xx (Jc @Xw (@Xv))))
abbrev pn43_1SyA : Plan := (.one 0 (.one 1 (.one 2 (.one 3 (.one 4 (.one 5 (.one 6 (.one 7 (.one 8 (.one 9 (.one 12 (.one 13 (.pur 14 (.one 10 (.one 11 (.one 15 (.one 16 .nil)))))))))))))))))
abbrev pn25_1SyA : Plan := (.one 0 (.one 2 (.one 3 (.one 4 (.one 5 (.pur 6 (.one 1 (.one 7 (.one 8 (.one 9 .nil))))))))))
set_option maxRecDepth 8000
def Fit (x : Int) : Prop := -1073741824 ≤ x ∧ x ≤ 1073741824
instance (x : Int) : Decidable (Fit x) := inferInstanceAs (Decidable (_ ∧ _))
def Right (n : Int) (xs : List Int) : Prop := (0 ≤ n ∧ n ≤ 8 ∧ (xs.length : Int) = n * (n + 1) / 2) ∧ ∀ x ∈ xs, Fit x
instance (n : Int) (xs : List Int) : Decidable (Right n xs) := inferInstanceAs (Decidable (_ ∧ _))
theorem fits_calls (x : Int) (H : Hp) : ACalls Tryz.prog 72 [.int .i64 x] H fun r H' => r = .bool (decide (Fit x)) ∧ H = H' := by
  have key : ∀ b, decide (Fit x) = b → ACalls Tryz.prog 72 [.int .i64 x] H fun r H' => r = .bool (decide (Fit x)) ∧ H = H' := by
    intro b hb
    by_cases h1 : -1073741824 ≤ x <;> by_cases h2 : x ≤ 1073741824
    · have hf : decide (Fit x) = true := decide_eq_true ⟨h1, h2⟩
      refine Q7 Tryz.func72 rfl (by kernel_rfl) (by kernel_rfl) ?_
      repeat' first
        | (with_reducible first | refine Jj (fun K hK => ?_) | refine Qj ?_ | refine Jg ?_)
        | (with_reducible refine Qn (fun hc => ?_) (fun hc => ?_) <;> (try simp only [RC] at hc) <;> (try (exfalso; first | omega | contradiction)))
        | (simp only [Q4, Jo, reduceIte, J0])
        | ((with_reducible refine hK _ _ ?_); clear hK)
        | (simp only [Q3, RA, Jn, Jm, Jp, Q2, Q0, ev, ofValue, Jt, J0, J3, J2, J4, reduceCtorEq, reduceIte, Ju, Qb, Qa, Jy, aun, Q9, Jk, Jh, Jx, Jw, Ji, Q8, Jf, Q1, Jr, Js, J1, J5, Ja, J9, Jb, J6, J7, Jd, J8, RB, Jv, Je, J08])
        | (simp (disch := first | omega | (simp only [RO]; done) | assumption) only [RS])
      all_goals
        (
         (refine Qg (rs := [.tmp 2]) rfl ?_)
         (simp only [Qx, Qd, Fr.put_some, Fr.put_none, Qe, Qf, Qi, J0, reduceIte])
         (try simp (disch := (first | omega | (simp only [RO]; done) | assumption | (simp only [RM, Je]; done) | (simp only [RL, Je]; omega))) only [RD, reduceCtorEq, reduceIte, Je, J1, J3, J2, J6, J08]))
      all_goals simp [hf, h2]
    · have hf : decide (Fit x) = false := decide_eq_false fun h => h2 h.2
      refine Q7 Tryz.func72 rfl (by kernel_rfl) (by kernel_rfl) ?_
      repeat' first
        | (with_reducible first | refine Jj (fun K hK => ?_) | refine Qj ?_ | refine Jg ?_)
        | (with_reducible refine Qn (fun hc => ?_) (fun hc => ?_) <;> (try simp only [RC] at hc) <;> (try (exfalso; first | omega | contradiction)))
        | (simp only [Q4, Jo, reduceIte, J0])
        | ((with_reducible refine hK _ _ ?_); clear hK)
        | (simp only [Q3, RA, Jn, Jm, Jp, Q2, Q0, ev, ofValue, Jt, J0, J3, J2, J4, reduceCtorEq, reduceIte, Ju, Qb, Qa, Jy, aun, Q9, Jk, Jh, Jx, Jw, Ji, Q8, Jf, Q1, Jr, Js, J1, J5, Ja, J9, Jb, J6, J7, Jd, J8, RB, Jv, Je, J08])
        | (simp (disch := first | omega | (simp only [RO]; done) | assumption) only [RS])
      all_goals
        (
         (refine Qg (rs := [.tmp 2]) rfl ?_)
         (simp only [Qx, Qd, Fr.put_some, Fr.put_none, Qe, Qf, Qi, J0, reduceIte])
         (try simp (disch := (first | omega | (simp only [RO]; done) | assumption | (simp only [RM, Je]; done) | (simp only [RL, Je]; omega))) only [RD, reduceCtorEq, reduceIte, Je, J1, J3, J2, J6, J08]))
      all_goals simp [hf, h2]
    all_goals
      have hf : decide (Fit x) = false := decide_eq_false fun h => h1 h.1
      refine Q7 Tryz.func72 rfl (by kernel_rfl) (by kernel_rfl) ?_
      repeat' first
        | (with_reducible first | refine Jj (fun K hK => ?_) | refine Qj ?_ | refine Jg ?_)
        | (with_reducible refine Qn (fun hc => ?_) (fun hc => ?_) <;> (try simp only [RC] at hc) <;> (try (exfalso; first | omega | contradiction)))
        | (simp only [Q4, Jo, reduceIte, J0])
        | ((with_reducible refine hK _ _ ?_); clear hK)
        | (simp only [Q3, RA, Jn, Jm, Jp, Q2, Q0, ev, ofValue, Jt, J0, J3, J2, J4, reduceCtorEq, reduceIte, Ju, Qb, Qa, Jy, aun, Q9, Jk, Jh, Jx, Jw, Ji, Q8, Jf, Q1, Jr, Js, J1, J5, Ja, J9, Jb, J6, J7, Jd, J8, RB, Jv, Je, J08])
        | (simp (disch := first | omega | (simp only [RO]; done) | assumption) only [RS])
      all_goals
        (
         (refine Qg (rs := [.tmp 2]) rfl ?_)
         (simp only [Qx, Qd, Fr.put_some, Fr.put_none, Qe, Qf, Qi, J0, reduceIte])
         (try simp (disch := (first | omega | (simp only [RO]; done) | assumption | (simp only [RM, Je]; done) | (simp only [RL, Je]; omega))) only [RD, reduceCtorEq, reduceIte, Je, J1, J3, J2, J6, J08]))
      all_goals simp [hf]
  exact key _ rfl
theorem room_calls (n : Int) (H : Hp) (h0 : 0 ≤ n) (h8 : n ≤ 8) : ACalls Tryz.prog 71 [.int .i64 n] H fun r H' => r = .int .i64 (n * (n + 1) / 2) ∧ H = H' := by
  obtain ⟨k, rfl⟩ := Int.eq_ofNat_of_zero_le h0
  have key : ∀ k : Fin 9, IntKind.i64.wrap (Int.tdiv (IntKind.i64.wrap ((k.1 : Int) * IntKind.i64.wrap (k.1 + 1))) 2) = (k.1 : Int) * (k.1 + 1) / 2 := by decide +kernel
  have e := key ⟨k, by omega⟩
  simp only at e
  refine Q7 Tryz.func71 rfl (by kernel_rfl) (by kernel_rfl) ?_
  repeat' first
    | (with_reducible first | refine Jj (fun K hK => ?_) | refine Qj ?_ | refine Jg ?_)
    | (simp only [Q4, Jo, reduceIte, J0])
    | ((with_reducible refine hK _ _ ?_); clear hK)
    | (simp only [Q3, RA, Jn, Jm, Jp, Q2, Q0, ev, ofValue, Jt, J0, J3, J2, J4, reduceCtorEq, reduceIte, Ju, Qb, Qa, Jy, aun, Q9, Jk, Jh, Jx, Jw, Ji, Q8, Jf, Q1, Jr, Js, J1, J5, Ja, J9, Jb, J6, J7, Jd, J8, RB, Jv, Je, tf71SyA, e])
  (
   (refine Qg (rs := [.tmp 2]) rfl ?_)
   (simp only [Qx, Qd, Fr.put_some, Fr.put_none, Qe, Qf, Qi, J0, reduceIte])
   (try simp (disch := (first | omega | (simp only [RO]; done) | assumption | (simp only [RM, Je]; done) | (simp only [RL, Je]; omega))) only [RD, reduceCtorEq, reduceIte, Je, J1, J3, J2, J6, tf71SyA]))
def pl (n i j : Nat) : Nat := min i j * n + max i j - min i j * (min i j - 1) / 2 - min i j
theorem pl_lt : ∀ n : Fin 9, ∀ i : Fin 9, ∀ j : Fin 9, i < n → j < n → pl n.1 i.1 j.1 < n.1 * (n.1 + 1) / 2 := by decide +kernel
theorem pl_form : ∀ n : Fin 9, ∀ i : Fin 9, ∀ j : Fin 9, j < n → i ≤ j → IntKind.i64.wrap (IntKind.i64.wrap (IntKind.i64.wrap (IntKind.i64.wrap ((i.1 : Int) * n.1) - IntKind.i64.wrap (Int.tdiv (IntKind.i64.wrap ((i.1 : Int) * IntKind.i64.wrap ((i.1 : Int) - 1))) 2)) + j.1) - i.1) = (pl n.1 i.1 j.1 : Nat) := by decide +kernel
theorem pl_comm (n i j : Nat) : pl n i j = pl n j i := by unfold pl; rw [Nat.min_comm, Nat.max_comm]
theorem place_calls (n i j : Nat) (H : Hp) (hn : n ≤ 8) (hi : i < n) (hj : j < n) : ACalls Tryz.prog 93 [.int .i64 (n : Int), .int .i64 (i : Int), .int .i64 (j : Int)] H fun r H' => r = .int .i64 (pl n i j : Nat) ∧ H = H' := by
  have e1 := fun (h : i ≤ j) => pl_form ⟨n, by omega⟩ ⟨i, by omega⟩ ⟨j, by omega⟩ hj h
  have e2 := fun (h : j ≤ i) => pl_form ⟨n, by omega⟩ ⟨j, by omega⟩ ⟨i, by omega⟩ hi h
  have e3 := pl_comm n j i
  by_cases h : i ≤ j
  · skip
    refine Q7 Tryz.func93 rfl (by kernel_rfl) (by kernel_rfl) ?_
    repeat' first
      | (with_reducible first | refine Jj (fun K hK => ?_) | refine Q6 ?_ | refine Qj ?_ | refine Jg ?_ | refine Jz ?_)
      | (with_reducible refine X5 (fun hc => ?_) (fun hc => ?_) <;> (try simp only [RC] at hc) <;> (try (exfalso; first | omega | contradiction)))
      | (simp only [Q4, Jo, reduceIte, J0])
      | ((with_reducible refine hK _ _ ?_); clear hK)
      | (simp only [Q3, RA, Jn, Jm, Jp, Q2, Q0, ev, ofValue, Jt, J0, J3, J2, J4, reduceCtorEq, reduceIte, Ju, Qb, Qa, Jy, aun, Q9, Jk, Jh, Jx, Jw, Ji, Q8, Jf, Q1, Jr, Js, J1, J5, Ja, J9, Jb, J6, J7, Jd, J8, RB, Jv, Je, tf93SyA])
    (
     (refine Qg (rs := [.tmp 6]) rfl ?_)
     (simp only [Qx, Qd, Fr.put_some, Fr.put_none, Qe, Qf, Qi, J0, reduceIte])
     (try simp (disch := (first | omega | (simp only [RO]; done) | assumption | (simp only [RM, Je]; done) | (simp only [RL, Je]; omega))) only [RD, reduceCtorEq, reduceIte, Je, J1, J3, J2, J6, tf93SyA]))
    exact congrArg (AV.int .i64) (e1 h)
  · skip
    refine Q7 Tryz.func93 rfl (by kernel_rfl) (by kernel_rfl) ?_
    repeat' first
      | (with_reducible first | refine Jj (fun K hK => ?_) | refine Qj ?_ | refine Jg ?_ | refine Jz ?_)
      | (with_reducible refine X5 (fun hc => ?_) (fun hc => ?_) <;> (try simp only [RC] at hc) <;> (try (exfalso; first | omega | contradiction)))
      | (simp only [Q4, Jo, reduceIte, J0])
      | ((with_reducible refine hK _ _ ?_); clear hK)
      | (simp only [Q3, RA, Jn, Jm, Jp, Q2, Q0, ev, ofValue, Jt, J0, J3, J2, J4, reduceCtorEq, reduceIte, Ju, Qb, Qa, Jy, aun, Q9, Jk, Jh, Jx, Jw, Ji, Q8, Jf, Q1, Jr, Js, J1, J5, Ja, J9, Jb, J6, J7, Jd, J8, RB, Jv, Je, tf93SyA])
    (
     (refine Qg (rs := [.tmp 6]) rfl ?_)
     (simp only [Qx, Qd, Fr.put_some, Fr.put_none, Qe, Qf, Qi, J0, reduceIte])
     (try simp (disch := (first | omega | (simp only [RO]; done) | assumption | (simp only [RM, Je]; done) | (simp only [RL, Je]; omega))) only [RD, reduceCtorEq, reduceIte, Je, J1, J3, J2, J6, tf93SyA]))
    exact congrArg (AV.int .i64) ((e2 (by omega)).trans (by rw [e3]))
theorem at_calls (n i j : Nat) (H : Hp) (hn : n ≤ 8) (hi : i < n) (hj : j < n) : ACalls Tryz.prog 61 [.int .i64 (n : Int), .int .i64 (i : Int), .int .i64 (j : Int)] H fun r H' => r = .int .i64 (pl n i j : Nat) ∧ H = H' := by
  have e1 := fun (h : i ≤ j) => pl_form ⟨n, by omega⟩ ⟨i, by omega⟩ ⟨j, by omega⟩ hj h
  have e2 := fun (h : j ≤ i) => pl_form ⟨n, by omega⟩ ⟨j, by omega⟩ ⟨i, by omega⟩ hi h
  have e3 := pl_comm n j i
  by_cases h : i ≤ j
  · skip
    refine Q7 Tryz.func61 rfl (by kernel_rfl) (by kernel_rfl) ?_
    repeat' first
      | (with_reducible first | refine Jj (fun K hK => ?_) | refine Q6 ?_ | refine Qj ?_ | refine Jg ?_ | refine Jz ?_)
      | (with_reducible refine X5 (fun hc => ?_) (fun hc => ?_) <;> (try simp only [RC] at hc) <;> (try (exfalso; first | omega | contradiction)))
      | (simp only [Q4, Jo, reduceIte, J0])
      | ((with_reducible refine hK _ _ ?_); clear hK)
      | (simp only [Q3, RA, Jn, Jm, Jp, Q2, Q0, ev, ofValue, Jt, J0, J3, J2, J4, reduceCtorEq, reduceIte, Ju, Qb, Qa, Jy, aun, Q9, Jk, Jh, Jx, Jw, Ji, Q8, Jf, Q1, Jr, Js, J1, J5, Ja, J9, Jb, J6, J7, Jd, J8, RB, Jv, Je, tf61SyA])
    (
     (refine Qg (rs := [.tmp 6]) rfl ?_)
     (simp only [Qx, Qd, Fr.put_some, Fr.put_none, Qe, Qf, Qi, J0, reduceIte])
     (try simp (disch := (first | omega | (simp only [RO]; done) | assumption | (simp only [RM, Je]; done) | (simp only [RL, Je]; omega))) only [RD, reduceCtorEq, reduceIte, Je, J1, J3, J2, J6, tf61SyA]))
    exact congrArg (AV.int .i64) (e1 h)
  · skip
    refine Q7 Tryz.func61 rfl (by kernel_rfl) (by kernel_rfl) ?_
    repeat' first
      | (with_reducible first | refine Jj (fun K hK => ?_) | refine Qj ?_ | refine Jg ?_ | refine Jz ?_)
      | (with_reducible refine X5 (fun hc => ?_) (fun hc => ?_) <;> (try simp only [RC] at hc) <;> (try (exfalso; first | omega | contradiction)))
      | (simp only [Q4, Jo, reduceIte, J0])
      | ((with_reducible refine hK _ _ ?_); clear hK)
      | (simp only [Q3, RA, Jn, Jm, Jp, Q2, Q0, ev, ofValue, Jt, J0, J3, J2, J4, reduceCtorEq, reduceIte, Ju, Qb, Qa, Jy, aun, Q9, Jk, Jh, Jx, Jw, Ji, Q8, Jf, Q1, Jr, Js, J1, J5, Ja, J9, Jb, J6, J7, Jd, J8, RB, Jv, Je, tf61SyA])
    (
     (refine Qg (rs := [.tmp 6]) rfl ?_)
     (simp only [Qx, Qd, Fr.put_some, Fr.put_none, Qe, Qf, Qi, J0, reduceIte])
     (try simp (disch := (first | omega | (simp only [RO]; done) | assumption | (simp only [RM, Je]; done) | (simp only [RL, Je]; omega))) only [RD, reduceCtorEq, reduceIte, Je, J1, J3, J2, J6, tf61SyA]))
    exact congrArg (AV.int .i64) ((e2 (by omega)).trans (by rw [e3]))
abbrev Ya (n : Int) (a : AV) : AV := .agg [.int .i64 n, a]
theorem Right.nat {n : Int} {xs : List Int} (h : Right n xs) : ∃ k : Nat, n = k ∧ k ≤ 8 ∧ xs.length = k * (k + 1) / 2 := by
  obtain ⟨⟨h0, h8, hl⟩, _⟩ := h
  obtain ⟨k, rfl⟩ := Int.eq_ofNat_of_zero_le h0
  refine ⟨k, rfl, by omega, ?_⟩
  have : ((xs.length : Nat) : Int) = ((k * (k + 1) / 2 : Nat) : Int) := by rw [hl]; simp
  omega
theorem right_calls (n : Int) (xs : List Int) (a : AV) (H : Hp) (ha : Ints H .i64 a xs) (hl : xs.length < 1000000) : ACalls Tryz.prog 43 [Ya n a] H fun r H' => r = .bool (decide (Right n xs)) ∧ H = H' := by
  refine ACalls.drop (R := fun r => r = .bool (decide (Right n xs))) ?_
  have ha1 : a.one = true := ha.rd.one
  have hc : a.cells = [a] := AV.cells_one ha1
  by_cases hk : 0 ≤ n ∧ n ≤ 8 ∧ (xs.length : Int) = n * (n + 1) / 2
  · obtain ⟨h0, h8, hln⟩ := hk
    refine Q7 Tryz.func43 rfl (by kernel_rfl) (by kernel_rfl) ?_
    repeat' first
      | (with_reducible first | refine Jj (fun K hK => ?_) | refine Qc ?_ | refine Q6 ?_ | refine Jg ?_ | refine Qw (id := 1) [] pn43_1SyA (by kernel_rfl) (by kernel_rfl) ?_ | refine Jz ?_ | refine Zs ?_)
      | (with_reducible refine Xe (fun _ x => (room_calls _ _ (by omega) (by omega))) ?_)
      | (with_reducible refine Qn (fun hc => ?_) (fun hc => ?_) <;> (try simp only [RC] at hc) <;> (try (exfalso; first | omega | contradiction)))
      | (with_reducible refine X5 (fun hc => ?_) (fun hc => ?_) <;> (try simp only [RC] at hc) <;> (try (exfalso; first | omega | contradiction)))
      | (simp only [Q4, Jo, reduceIte, J0])
      | ((with_reducible refine hK _ _ ?_); clear hK)
      | (simp only [Q3, RA, Jn, Jm, Jp, Q2, Q0, ev, ofValue, Jt, J0, J3, J2, J4, reduceCtorEq, reduceIte, Ju, Qb, Qa, Jy, aun, Q9, Jk, Jh, Jx, Jw, Ji, Q8, Jf, Q1, Jr, Js, J1, J5, Ja, J9, Jb, J6, J7, Jd, J8, RB, Jv, Je, Kk])
      | (simp (disch := first | omega | (simp only [RO]; done) | assumption) only [RS, ha.rd.len Ym, X8, X9, Qu, Qv, Qq])
      | (simp (disch := (first | omega | (simp only [RO]; done) | assumption | (simp only [RM, Je]; done) | (simp only [RL, Je]; omega))) only [RD, reduceCtorEq, reduceIte, Je, J1, J3, J2, J6, Kk])
    refine X2 (fun m fr' H' => ∃ i : Nat, m = xs.length - i ∧ i ≤ xs.length ∧ fr' 23 = a ∧ fr' 24 = .int .i64 (xs.length : Int) ∧ fr' 25 = .int .i64 (i : Int) ∧ (∀ j, j < i → Fit (xs.getD j 0)) ∧ H ++ [⟨[.int .i64 n, a], .own, 24⟩] = H') (m := xs.length) ⟨0, by omega, by omega, rfl, rfl, rfl, fun j hj => by omega, rfl⟩ ?_
    rintro m fr' H' ⟨i, rfl, hi, k23, k24, k25, hall, rfl⟩
    by_cases hlt : i < xs.length
    · have e1 : IntKind.i64.wrap ((i : Int) + 1) = ((i + 1 : Nat) : Int) := by rw [Q5 (by omega) (by omega)]; omega
      by_cases hF : Fit (xs.getD i 0)
      · have hf : decide (Fit (xs.getD i 0)) = true := decide_eq_true hF
        repeat' first
          | (with_reducible first | refine Jj (fun K hK => ?_) | refine Qc ?_ | refine Q6 ?_ | refine Jg ?_ | refine Jz ?_)
          | ((with_reducible refine Jq (fits_calls _ _) ?_); rintro _ _ ⟨rfl, rfl⟩)
          | (with_reducible refine X5 (fun hc => ?_) (fun hc => ?_) <;> (try simp only [RC] at hc) <;> (try (exfalso; first | omega | contradiction)))
          | (simp only [Q4, Jo, reduceIte, J0])
          | ((with_reducible refine hK _ _ ?_); clear hK)
          | (simp only [Q3, RA, Jn, Jm, Jp, Q2, Q0, ev, ofValue, Jt, J0, J3, J2, J4, reduceCtorEq, reduceIte, Ju, Qb, Qa, Jy, aun, Q9, Jk, Jh, Jx, Jw, Ji, Q8, Jf, Q1, Jr, Js, J1, J5, Ja, J9, Jb, J6, J7, Jd, J8, RB, Jv, Je, Kk, k23, k24, k25, hf, e1])
          | (simp (disch := first | omega | (simp only [RO]; done) | assumption) only [RS, ha.rd.at1 Ym W3, (ha.push _).load1 agg2, X8, X9, Qu, Qv, Qq])
        refine ⟨_, ?_, i + 1, rfl, by omega, rfl, fun j hj => ?_⟩
        · omega
        · by_cases he : j = i
          · rw [he]; exact hF
          · exact hall j (by omega)
      · have hf : decide (Fit (xs.getD i 0)) = false := decide_eq_false hF
        have hr : decide (Right n xs) = false := decide_eq_false fun h => hF (h.2 _ (by
          rw [List.getD_eq_getElem?_getD, List.getElem?_eq_getElem hlt]; exact List.getElem_mem hlt))
        repeat' first
          | (with_reducible first | refine Jj (fun K hK => ?_) | refine Qc ?_ | refine Q6 ?_ | refine Qj ?_ | refine Jg ?_ | refine Jz ?_)
          | ((with_reducible refine Jq (fits_calls _ _) ?_); rintro _ _ ⟨rfl, rfl⟩)
          | (with_reducible refine X5 (fun hc => ?_) (fun hc => ?_) <;> (try simp only [RC] at hc) <;> (try (exfalso; first | omega | contradiction)))
          | (simp only [Q4, Jo, reduceIte, J0])
          | ((with_reducible refine hK _ _ ?_); clear hK)
          | (simp only [Q3, RA, Jn, Jm, Jp, Q2, Q0, ev, ofValue, Jt, J0, J3, J2, J4, reduceCtorEq, reduceIte, Ju, Qb, Qa, Jy, aun, Q9, Jk, Jh, Jx, Jw, Ji, Q8, Jf, Q1, Jr, Js, J1, J5, Ja, J9, Jb, J6, J7, Jd, J8, RB, Jv, Je, Kk, k23, k24, k25, hf])
          | (simp (disch := first | omega | (simp only [RO]; done) | assumption) only [RS, ha.rd.at1 Ym W3, (ha.push _).load1 agg2, X8, X9, Qu, Qv, Qq])
        (
         (refine Qg (rs := [.tmp 2]) rfl ?_)
         (simp only [Qx, Qd, Fr.put_some, Fr.put_none, Qe, Qf, Qi, J0, reduceIte])
         (try simp (disch := (first | omega | (simp only [RO]; done) | assumption | (simp only [RM, Je]; done) | (simp only [RL, Je]; omega))) only [RD, reduceCtorEq, reduceIte, Je, J1, J3, J2, J6, Kk]))
        rw [hr]
        exact ⟨Ext.push _ _, trivial, rfl⟩
    · have hr : decide (Right n xs) = true := decide_eq_true ⟨⟨h0, h8, hln⟩, fun x hx => by
        obtain ⟨j, hj, rfl⟩ := List.getElem_of_mem hx
        have := hall j (by omega)
        rwa [List.getD_eq_getElem?_getD, List.getElem?_eq_getElem hj] at this⟩
      repeat' first
        | (with_reducible first | refine Jj (fun K hK => ?_) | refine Qz ?_ | refine Qj ?_ | refine Jg ?_ | refine Jz ?_)
        | (with_reducible refine X5 (fun hc => ?_) (fun hc => ?_) <;> (try simp only [RC] at hc) <;> (try (exfalso; first | omega | contradiction)))
        | (simp only [Q4, Jo, reduceIte, J0])
        | ((with_reducible refine hK _ _ ?_); clear hK)
        | (clear hK; (with_reducible refine hK _ _ ?_); clear hK)
        | (simp only [Q3, RA, Jn, Jm, Jp, Q2, Q0, ev, ofValue, Jt, J0, J3, J2, J4, reduceCtorEq, reduceIte, Ju, Qb, Qa, Jy, aun, Q9, Jk, Jh, Jx, Jw, Ji, Q8, Jf, Q1, Jr, Js, J1, J5, Ja, J9, Jb, J6, J7, Jd, J8, RB, Jv, Je, Kk, k23, k24, k25])
      (
       (refine Qg (rs := [.tmp 2]) rfl ?_)
       (simp only [Qx, Qd, Fr.put_some, Fr.put_none, Qe, Qf, Qi, J0, reduceIte])
       (try simp (disch := (first | omega | (simp only [RO]; done) | assumption | (simp only [RM, Je]; done) | (simp only [RL, Je]; omega))) only [RD, reduceCtorEq, reduceIte, Je, J1, J3, J2, J6, Kk]))
      rw [hr]
      exact ⟨Ext.push _ _, trivial, rfl⟩
  · have hf : decide (Right n xs) = false := decide_eq_false fun h => hk h.1
    refine Q7 Tryz.func43 rfl (by kernel_rfl) (by kernel_rfl) ?_
    repeat' first
      | (with_reducible first | refine Jj (fun K hK => ?_) | refine Qj ?_ | refine Jg ?_ | refine Qw (id := 1) [] pn43_1SyA (by kernel_rfl) (by kernel_rfl) ?_ | refine Jz ?_ | refine Zs ?_)
      | (with_reducible refine Xe (fun _ x => (room_calls _ _ (by omega) (by omega))) ?_)
      | (with_reducible refine Qn (fun hc => ?_) (fun hc => ?_) <;> (try simp only [RC] at hc) <;> (try (exfalso; first | omega | contradiction)))
      | (with_reducible refine X5 (fun hc => ?_) (fun hc => ?_) <;> (try simp only [RC] at hc) <;> (try (exfalso; first | omega | contradiction)))
      | (simp only [Q4, Jo, reduceIte, J0])
      | ((with_reducible refine hK _ _ ?_); clear hK)
      | (simp only [Q3, RA, Jn, Jm, Jp, Q2, Q0, ev, ofValue, Jt, J0, J3, J2, J4, reduceCtorEq, reduceIte, Ju, Qb, Qa, Jy, aun, Q9, Jk, Jh, Jx, Jw, Ji, Q8, Jf, Q1, Jr, Js, J1, J5, Ja, J9, Jb, J6, J7, Jd, J8, RB, Jv, Je, Kk])
      | (simp (disch := first | omega | (simp only [RO]; done) | assumption) only [RS, ha.rd.len Ym, X8, X9, Qu, Qv, Qq])
      | (simp (disch := (first | omega | (simp only [RO]; done) | assumption | (simp only [RM, Je]; done) | (simp only [RL, Je]; omega))) only [RD, reduceCtorEq, reduceIte, Je, J1, J3, J2, J6, Kk])
    all_goals
      (
       (refine Qg (rs := [.tmp 2]) rfl ?_)
       (simp only [Qx, Qd, Fr.put_some, Fr.put_none, Qe, Qf, Qi, J0, reduceIte])
       (try simp (disch := (first | omega | (simp only [RO]; done) | assumption | (simp only [RM, Je]; done) | (simp only [RL, Je]; omega))) only [RD, reduceCtorEq, reduceIte, Je, J1, J3, J2, J6, Kk]))
    all_goals (rw [hf]; exact ⟨Ext.push _ _, trivial, rfl⟩)
theorem Wy {xs : List Int} {i : Nat} (h : i < xs.length) : xs.getD i 0 ∈ xs := by
  rw [List.getD_eq_getElem?_getD, List.getElem?_eq_getElem h]; exact List.getElem_mem h
set_option maxHeartbeats 1000000 in
theorem symRight_calls (n : Int) (xs : List Int) (a : AV) (H : Hp) (ha : Ints H .i64 a xs) (hl : xs.length < 1000000) : ACalls Tryz.prog 15 [Ya n a] H fun r H' => r = .bool (decide (Right n xs)) ∧ H = H' := by
  refine ACalls.drop (R := fun r => r = .bool (decide (Right n xs))) ?_
  have ha1 : a.one = true := ha.rd.one
  have hc : a.cells = [a] := AV.cells_one ha1
  have e0 : 0 ≤ n → n ≤ 8 → IntKind.i64.wrap (Int.tdiv (IntKind.i64.wrap (n * IntKind.i64.wrap (n + 1))) 2) = n * (n + 1) / 2 := by
    intro h0 h8
    obtain ⟨k, rfl⟩ := Int.eq_ofNat_of_zero_le h0
    have key : ∀ k : Fin 9, IntKind.i64.wrap (Int.tdiv (IntKind.i64.wrap ((k.1 : Int) * IntKind.i64.wrap (k.1 + 1))) 2) = (k.1 : Int) * (k.1 + 1) / 2 := by decide +kernel
    exact key ⟨k, by omega⟩
  by_cases h0 : 0 ≤ n ∧ n ≤ 8
  · have e2 := e0 h0.1 h0.2
    by_cases hln : (xs.length : Int) = n * (n + 1) / 2
    · obtain ⟨h0, h8⟩ := h0
      refine Q7 Tryz.func15 rfl (by kernel_rfl) (by kernel_rfl) ?_
      repeat' first
        | (with_reducible first | refine Jj (fun K hK => ?_) | refine Qc ?_ | refine Q6 ?_ | refine Jg ?_ | refine Jz ?_)
        | (with_reducible refine Qn (fun hc => ?_) (fun hc => ?_) <;> (try simp only [RC] at hc) <;> (try (exfalso; first | omega | contradiction)))
        | (with_reducible refine X5 (fun hc => ?_) (fun hc => ?_) <;> (try simp only [RC] at hc) <;> (try (exfalso; first | omega | contradiction)))
        | (simp only [Q4, Jo, reduceIte, J0])
        | ((with_reducible refine hK _ _ ?_); clear hK)
        | (simp only [Q3, RA, Jn, Jm, Jp, Q2, Q0, ev, ofValue, Jt, J0, J3, J2, J4, reduceCtorEq, reduceIte, Ju, Qb, Qa, Jy, aun, Q9, Jk, Jh, Jx, Jw, Ji, Q8, Jf, Q1, Jr, Js, J1, J5, Ja, J9, Jb, J6, J7, Jd, J8, RB, Jv, Je, Yz, e2])
        | (simp (disch := first | omega | (simp only [RO]; done) | assumption) only [RS, ha.rd.len Ym, X8, X9, Qu, Qv, Qq])
        | (simp (disch := (first | omega | (simp only [RO]; done) | assumption | (simp only [RM, Je]; done) | (simp only [RL, Je]; omega))) only [RD, reduceCtorEq, reduceIte, Je, J1, J3, J2, J6, Yz, e2])
      refine X2 (fun m fr' H' => ∃ i : Nat, m = xs.length - i ∧ i ≤ xs.length ∧ fr' 1 = .ptr H.length 0 ∧ fr' 3 = .int .i64 (i : Int) ∧ (∀ j, j < i → Fit (xs.getD j 0)) ∧ H ++ [⟨[.int .i64 n, a], .own, 24⟩] = H') (m := xs.length) ⟨0, by omega, by omega, rfl, rfl, fun j hj => by omega, rfl⟩ ?_
      rintro m fr' H' ⟨i, rfl, hi, k1, k3, hall, rfl⟩
      by_cases hlt : i < xs.length
      · have e1 : IntKind.i64.wrap ((i : Int) + 1) = ((i + 1 : Nat) : Int) := by rw [Q5 (by omega) (by omega)]; omega
        by_cases h1 : 1073741824 < xs.getD i 0
        · have hr : decide (Right n xs) = false := decide_eq_false fun h => by have := (h.2 _ (Wy hlt)).2; omega
          repeat' first
            | (with_reducible first | refine Jj (fun K hK => ?_) | refine Qc ?_ | refine Q6 ?_ | refine Qj ?_ | refine Jg ?_ | refine Jz ?_)
            | (with_reducible refine Qn (fun hc => ?_) (fun hc => ?_) <;> (try simp only [RC] at hc) <;> (try (exfalso; first | omega | contradiction)))
            | (with_reducible refine X5 (fun hc => ?_) (fun hc => ?_) <;> (try simp only [RC] at hc) <;> (try (exfalso; first | omega | contradiction)))
            | (simp only [Q4, Jo, reduceIte, J0])
            | ((with_reducible refine hK _ _ ?_); clear hK)
            | (simp only [Q3, RA, Jn, Jm, Jp, Q2, Q0, ev, ofValue, Jt, J0, J3, J2, J4, reduceCtorEq, reduceIte, Ju, Qb, Qa, Jy, aun, Q9, Jk, Jh, Jx, Jw, Ji, Q8, Jf, Q1, Jr, Js, J1, J5, Ja, J9, Jb, J6, J7, Jd, J8, RB, Jv, Je, Yz, k1, k3, e1])
            | (simp (disch := first | omega | (simp only [RO]; done) | assumption) only [RS, ha.rd.len Ym, ha.rd.at1 Ym W3, (ha.push _).load1 agg2, X8, X9, Qu, Qv, Qq])
            | (simp (disch := (first | omega | (simp only [RO]; done) | assumption | (simp only [RM, Je]; done) | (simp only [RL, Je]; omega))) only [RD, reduceCtorEq, reduceIte, Je, J1, J3, J2, J6, Yz, k1, k3, e1])
          all_goals
            (
             (refine Qg (rs := [.tmp 2]) rfl ?_)
             (simp only [Qx, Qd, Fr.put_some, Fr.put_none, Qe, Qf, Qi, J0, reduceIte])
             (try simp (disch := (first | omega | (simp only [RO]; done) | assumption | (simp only [RM, Je]; done) | (simp only [RL, Je]; omega))) only [RD, reduceCtorEq, reduceIte, Je, J1, J3, J2, J6, Yz]))
          all_goals (rw [hr]; exact ⟨Ext.push _ _, trivial, rfl⟩)
        by_cases h2 : xs.getD i 0 < -1073741824
        · have hr : decide (Right n xs) = false := decide_eq_false fun h => by have := (h.2 _ (Wy hlt)).1; omega
          repeat' first
            | (with_reducible first | refine Jj (fun K hK => ?_) | refine Qc ?_ | refine Q6 ?_ | refine Qj ?_ | refine Jg ?_ | refine Jz ?_)
            | (with_reducible refine Qn (fun hc => ?_) (fun hc => ?_) <;> (try simp only [RC] at hc) <;> (try (exfalso; first | omega | contradiction)))
            | (with_reducible refine X5 (fun hc => ?_) (fun hc => ?_) <;> (try simp only [RC] at hc) <;> (try (exfalso; first | omega | contradiction)))
            | (simp only [Q4, Jo, reduceIte, J0])
            | ((with_reducible refine hK _ _ ?_); clear hK)
            | (simp only [Q3, RA, Jn, Jm, Jp, Q2, Q0, ev, ofValue, Jt, J0, J3, J2, J4, reduceCtorEq, reduceIte, Ju, Qb, Qa, Jy, aun, Q9, Jk, Jh, Jx, Jw, Ji, Q8, Jf, Q1, Jr, Js, J1, J5, Ja, J9, Jb, J6, J7, Jd, J8, RB, Jv, Je, Yz, k1, k3, e1])
            | (simp (disch := first | omega | (simp only [RO]; done) | assumption) only [RS, ha.rd.len Ym, ha.rd.at1 Ym W3, (ha.push _).load1 agg2, X8, X9, Qu, Qv, Qq])
            | (simp (disch := (first | omega | (simp only [RO]; done) | assumption | (simp only [RM, Je]; done) | (simp only [RL, Je]; omega))) only [RD, reduceCtorEq, reduceIte, Je, J1, J3, J2, J6, Yz, k1, k3, e1])
          all_goals
            (
             (refine Qg (rs := [.tmp 2]) rfl ?_)
             (simp only [Qx, Qd, Fr.put_some, Fr.put_none, Qe, Qf, Qi, J0, reduceIte])
             (try simp (disch := (first | omega | (simp only [RO]; done) | assumption | (simp only [RM, Je]; done) | (simp only [RL, Je]; omega))) only [RD, reduceCtorEq, reduceIte, Je, J1, J3, J2, J6, Yz]))
          all_goals (rw [hr]; exact ⟨Ext.push _ _, trivial, rfl⟩)
        · skip
          repeat' first
            | (with_reducible first | refine Jj (fun K hK => ?_) | refine Qc ?_ | refine Q6 ?_ | refine Jg ?_ | refine Jz ?_)
            | (with_reducible refine Qn (fun hc => ?_) (fun hc => ?_) <;> (try simp only [RC] at hc) <;> (try (exfalso; first | omega | contradiction)))
            | (with_reducible refine X5 (fun hc => ?_) (fun hc => ?_) <;> (try simp only [RC] at hc) <;> (try (exfalso; first | omega | contradiction)))
            | (simp only [Q4, Jo, reduceIte, J0])
            | ((with_reducible refine hK _ _ ?_); clear hK)
            | (simp only [Q3, RA, Jn, Jm, Jp, Q2, Q0, ev, ofValue, Jt, J0, J3, J2, J4, reduceCtorEq, reduceIte, Ju, Qb, Qa, Jy, aun, Q9, Jk, Jh, Jx, Jw, Ji, Q8, Jf, Q1, Jr, Js, J1, J5, Ja, J9, Jb, J6, J7, Jd, J8, RB, Jv, Je, Yz, k1, k3, e1])
            | (simp (disch := first | omega | (simp only [RO]; done) | assumption) only [RS, ha.rd.len Ym, ha.rd.at1 Ym W3, (ha.push _).load1 agg2, X8, X9, Qu, Qv, Qq])
            | (simp (disch := (first | omega | (simp only [RO]; done) | assumption | (simp only [RM, Je]; done) | (simp only [RL, Je]; omega))) only [RD, reduceCtorEq, reduceIte, Je, J1, J3, J2, J6, Yz, k1, k3, e1])
          refine ⟨_, ?_, i + 1, rfl, by omega, rfl, fun j hj => ?_⟩
          · omega
          · by_cases he : j = i
            · rw [he]; exact ⟨by omega, by omega⟩
            · exact hall j (by omega)
      · have hr : decide (Right n xs) = true := decide_eq_true ⟨⟨h0, h8, hln⟩, fun x hx => by
          obtain ⟨j, hj, rfl⟩ := List.getElem_of_mem hx
          have := hall j (by omega)
          rwa [List.getD_eq_getElem?_getD, List.getElem?_eq_getElem hj] at this⟩
        repeat' first
          | (with_reducible first | refine Jj (fun K hK => ?_) | refine Qz ?_ | refine Qj ?_ | refine Jg ?_ | refine Jz ?_)
          | (with_reducible refine X5 (fun hc => ?_) (fun hc => ?_) <;> (try simp only [RC] at hc) <;> (try (exfalso; first | omega | contradiction)))
          | (simp only [Q4, Jo, reduceIte, J0])
          | ((with_reducible refine hK _ _ ?_); clear hK)
          | (clear hK; (with_reducible refine hK _ _ ?_); clear hK)
          | (simp only [Q3, RA, Jn, Jm, Jp, Q2, Q0, ev, ofValue, Jt, J0, J3, J2, J4, reduceCtorEq, reduceIte, Ju, Qb, Qa, Jy, aun, Q9, Jk, Jh, Jx, Jw, Ji, Q8, Jf, Q1, Jr, Js, J1, J5, Ja, J9, Jb, J6, J7, Jd, J8, RB, Jv, Je, Yz, k1, k3])
          | (simp (disch := first | omega | (simp only [RO]; done) | assumption) only [RS, ha.rd.len Ym, X8, X9, Qu, Qv, Qq])
          | (simp (disch := (first | omega | (simp only [RO]; done) | assumption | (simp only [RM, Je]; done) | (simp only [RL, Je]; omega))) only [RD, reduceCtorEq, reduceIte, Je, J1, J3, J2, J6, Yz, k1, k3])
        (
         (refine Qg (rs := [.tmp 2]) rfl ?_)
         (simp only [Qx, Qd, Fr.put_some, Fr.put_none, Qe, Qf, Qi, J0, reduceIte])
         (try simp (disch := (first | omega | (simp only [RO]; done) | assumption | (simp only [RM, Je]; done) | (simp only [RL, Je]; omega))) only [RD, reduceCtorEq, reduceIte, Je, J1, J3, J2, J6, Yz]))
        rw [hr]
        exact ⟨Ext.push _ _, trivial, rfl⟩
    · have hf : decide (Right n xs) = false := decide_eq_false fun h => hln h.1.2.2
      refine Q7 Tryz.func15 rfl (by kernel_rfl) (by kernel_rfl) ?_
      repeat' first
        | (with_reducible first | refine Jj (fun K hK => ?_) | refine Qj ?_ | refine Jg ?_ | refine Jz ?_)
        | (with_reducible refine Qn (fun hc => ?_) (fun hc => ?_) <;> (try simp only [RC] at hc) <;> (try (exfalso; first | omega | contradiction)))
        | (with_reducible refine X5 (fun hc => ?_) (fun hc => ?_) <;> (try simp only [RC] at hc) <;> (try (exfalso; first | omega | contradiction)))
        | (simp only [Q4, Jo, reduceIte, J0])
        | ((with_reducible refine hK _ _ ?_); clear hK)
        | (simp only [Q3, RA, Jn, Jm, Jp, Q2, Q0, ev, ofValue, Jt, J0, J3, J2, J4, reduceCtorEq, reduceIte, Ju, Qb, Qa, Jy, aun, Q9, Jk, Jh, Jx, Jw, Ji, Q8, Jf, Q1, Jr, Js, J1, J5, Ja, J9, Jb, J6, J7, Jd, J8, RB, Jv, Je, Yz, e2])
        | (simp (disch := first | omega | (simp only [RO]; done) | assumption) only [RS, ha.rd.len Ym, X8, X9, Qu, Qv, Qq])
        | (simp (disch := (first | omega | (simp only [RO]; done) | assumption | (simp only [RM, Je]; done) | (simp only [RL, Je]; omega))) only [RD, reduceCtorEq, reduceIte, Je, J1, J3, J2, J6, Yz, e2])
      all_goals
        (
         (refine Qg (rs := [.tmp 2]) rfl ?_)
         (simp only [Qx, Qd, Fr.put_some, Fr.put_none, Qe, Qf, Qi, J0, reduceIte])
         (try simp (disch := (first | omega | (simp only [RO]; done) | assumption | (simp only [RM, Je]; done) | (simp only [RL, Je]; omega))) only [RD, reduceCtorEq, reduceIte, Je, J1, J3, J2, J6, Yz]))
      all_goals (rw [hf]; exact ⟨Ext.push _ _, trivial, rfl⟩)
  · have hf : decide (Right n xs) = false := decide_eq_false fun h => h0 ⟨h.1.1, h.1.2.1⟩
    refine Q7 Tryz.func15 rfl (by kernel_rfl) (by kernel_rfl) ?_
    repeat' first
      | (with_reducible first | refine Jj (fun K hK => ?_) | refine Qj ?_ | refine Jg ?_ | refine Jz ?_)
      | (with_reducible refine Qn (fun hc => ?_) (fun hc => ?_) <;> (try simp only [RC] at hc) <;> (try (exfalso; first | omega | contradiction)))
      | (with_reducible refine X5 (fun hc => ?_) (fun hc => ?_) <;> (try simp only [RC] at hc) <;> (try (exfalso; first | omega | contradiction)))
      | (simp only [Q4, Jo, reduceIte, J0])
      | ((with_reducible refine hK _ _ ?_); clear hK)
      | (simp only [Q3, RA, Jn, Jm, Jp, Q2, Q0, ev, ofValue, Jt, J0, J3, J2, J4, reduceCtorEq, reduceIte, Ju, Qb, Qa, Jy, aun, Q9, Jk, Jh, Jx, Jw, Ji, Q8, Jf, Q1, Jr, Js, J1, J5, Ja, J9, Jb, J6, J7, Jd, J8, RB, Jv, Je, Yz])
      | (simp (disch := first | omega | (simp only [RO]; done) | assumption) only [RS, ha.rd.len Ym, X8, X9, Qu, Qv, Qq])
      | (simp (disch := (first | omega | (simp only [RO]; done) | assumption | (simp only [RM, Je]; done) | (simp only [RL, Je]; omega))) only [RD, reduceCtorEq, reduceIte, Je, J1, J3, J2, J6, Yz])
    all_goals
      (
       (refine Qg (rs := [.tmp 2]) rfl ?_)
       (simp only [Qx, Qd, Fr.put_some, Fr.put_none, Qe, Qf, Qi, J0, reduceIte])
       (try simp (disch := (first | omega | (simp only [RO]; done) | assumption | (simp only [RM, Je]; done) | (simp only [RL, Je]; omega))) only [RD, reduceCtorEq, reduceIte, Je, J1, J3, J2, J6, Yz]))
    all_goals (rw [hf]; exact ⟨Ext.push _ _, trivial, rfl⟩)
def ent (n : Nat) (xs : List Int) (i j : Nat) : Int := xs.getD (pl n i j) 0
theorem Gi (n : Nat) (xs : List Int) (i j : Nat) : ent n xs i j = ent n xs j i := by unfold ent; rw [pl_comm]
theorem Right.pl {n : Nat} {xs : List Int} (h : Right n xs) {i j : Nat} (hi : i < n) (hj : j < n) : n ≤ 8 ∧ pl n i j < xs.length := by
  obtain ⟨k, hk, h8, hl⟩ := h.nat
  obtain rfl : n = k := by omega
  exact ⟨h8, by rw [hl]; exact pl_lt ⟨n, by omega⟩ ⟨i, by omega⟩ ⟨j, by omega⟩ hi hj⟩
theorem refAt_calls (n : Nat) (xs : List Int) (a : AV) (i j : Nat) (H : Hp) (ha : Ints H .i64 a xs) (hr : Right n xs) (hi : i < n) (hj : j < n) : ACalls Tryz.prog 25 [Ya n a, .int .i64 (i : Int), .int .i64 (j : Int)] H fun r H' => r = .int .i64 (ent n xs i j) ∧ H = H' := by
  refine ACalls.drop (R := fun r => r = .int .i64 (ent n xs i j)) ?_
  have ha1 : a.one = true := ha.rd.one
  have hc : a.cells = [a] := AV.cells_one ha1
  obtain ⟨h8, hp⟩ := hr.pl hi hj
  refine Q7 Tryz.func25 rfl (by kernel_rfl) (by kernel_rfl) ?_
  repeat' first
    | (with_reducible first | refine Jj (fun K hK => ?_) | refine Qj ?_ | refine Jg ?_ | refine Qw (id := 1) [] pn25_1SyA (by kernel_rfl) (by kernel_rfl) ?_ | refine Zs ?_)
    | (with_reducible refine Xe (fun _ x => (at_calls _ _ _ _ h8 hi hj)) ?_)
    | (simp only [Q4, Jo, reduceIte, J0])
    | ((with_reducible refine hK _ _ ?_); clear hK)
    | (simp only [Q3, RA, Jn, Jm, Jp, Q2, Q0, ev, ofValue, Jt, J0, J3, J2, J4, reduceCtorEq, reduceIte, Ju, Qb, Qa, Jy, aun, Q9, Jk, Jh, Jx, Jw, Ji, Q8, Jf, Q1, Jr, Js, J1, J5, Ja, J9, Jb, J6, J7, Jd, J8, RB, Jv, Je, tf25SyA])
    | (simp (disch := first | omega | (simp only [RO]; done) | assumption) only [RS, ha.rd.at1 Ym W3, (ha.push _).load1 agg2, X8, X9, Qu, Qv, Qq])
    | (simp (disch := (first | omega | (simp only [RO]; done) | assumption | (simp only [RM, Je]; done) | (simp only [RL, Je]; omega))) only [RD, reduceCtorEq, reduceIte, Je, J1, J3, J2, J6, tf25SyA])
  all_goals
    (
     (refine Qg (rs := [.tmp 6]) rfl ?_)
     (simp only [Qx, Qd, Fr.put_some, Fr.put_none, Qe, Qf, Qi, J0, reduceIte])
     (try simp (disch := (first | omega | (simp only [RO]; done) | assumption | (simp only [RM, Je]; done) | (simp only [RL, Je]; omega))) only [RD, reduceCtorEq, reduceIte, Je, J1, J3, J2, J6, tf25SyA]))
  all_goals exact ⟨Ext.push _ _, trivial, rfl⟩
end Go.Proofs.YtfalfmfkifemeaaGreatDoor

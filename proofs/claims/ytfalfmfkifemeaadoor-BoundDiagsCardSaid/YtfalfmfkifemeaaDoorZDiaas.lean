/- Part 19 of the proof of laws of this seat: lemmas on the model's code, on this program's functions, on numbers. No condition. -/
import Derived.Test.YtfalfmfkifemeaaDoorZDiaar
set_option linter.unusedVariables false
set_option linter.unusedSimpArgs false
namespace Go.Proofs.YtfalfmfkifemeaaDoor
open Go.AL Go.PW Go.PD
theorem tf40MaI : type_of% (And.intro @tyb2 (And.intro @tyb3 (And.intro @tyb4 (And.intro @tyb34 (And.intro @tyb35 (And.intro @tyb36 (And.intro @tyb48 (@tyb58)))))))) := And.intro @tyb2 (And.intro @tyb3 (And.intro @tyb4 (And.intro @tyb34 (And.intro @tyb35 (And.intro @tyb36 (And.intro @tyb48 (@tyb58)))))))
set_option maxRecDepth 8000
/-- The leading determinants from k on, up to the first that isn't above nought. -/
def lead (a : Nat → Nat → Int) : Nat → Nat → List Int
  | 0, _ => []
  | c + 1, k => P a (k + 1) :: if P a (k + 1) ≤ 0 then [] else lead a c (k + 1)
theorem lead_length (a : Nat → Nat → Int) : ∀ c k, (lead a c k).length ≤ c
  | 0, _ => Nat.le_refl _
  | c + 1, k => by
    simp only [lead, List.length_cons]
    split
    · simp
    · have := lead_length a c (k + 1); omega
/-- A slice of wide numbers that grew, in blocks from lo on. -/
def WsV (H : Hp) (v : AV) (ls : List Int) (lo : Nat) : Prop := (ls = [] ∧ v = .nilS) ∨ ∃ h, v = .sg h 0 ls.length 16 ∧ hget H h = some (Rb ls) ∧ lo ≤ h
theorem WsV.push {H : Hp} {v : AV} {ls : List Int} {lo : Nat} (h : WsV H v ls lo) (b : Blk) : WsV (H ++ [b]) v ls lo := by
  rcases h with h | ⟨k, h1, h2, h3⟩
  · exact .inl h
  · exact .inr ⟨k, h1, by rw [hget_old (hget_lt h2)]; exact h2, h3⟩
theorem WsV.lt {H : Hp} {v : AV} {ls : List Int} {lo : Nat} (h : WsV H v ls lo) : v.lt H.length := by
  rcases h with ⟨_, rfl⟩ | ⟨k, rfl, h2, _⟩
  · trivial
  · simpa [AV.lt] using hget_lt h2
theorem cellsOf_snoc (ls : List Int) (x : Int) : cellsOf (ls ++ [x]) = cellsOf ls ++ dig 16 x := by simp [cellsOf]
theorem WsV.append {H : Hp} {v : AV} {ls : List Int} {lo : Nat} (h : WsV H v ls lo) (hlo : lo ≤ H.length) (hl : ls.length < 1000000) (x : Int) :
    ∃ v' H', aappend Tryd.prog (H ++ [Wb x]) 48 v (.sl H.length 0 1 1) = some (v', H') ∧ WsV H' v' (ls ++ [x]) lo ∧ (∀ k, k < lo → hget H' k = hget H k) ∧ H.length ≤ H'.length := by
  have hx := Rd.lit H (n := 1) (z := 16) (cs := (dig 16 x).map (AV.int .u64)) (k := .own) (e := 36) (by decide) (by rw [map_len, dig_length])
  have ho := ints_one (k := .u64) (dig 16 x)
  have hc := ints_one (k := .u64) (cellsOf ls)
  have hzl : (AV.agg ((dig 16 0).map (AV.int .u64))).cells.length = 16 := by rw [AV.cells_agg, map_len, dig_length]
  rcases h with ⟨rfl, rfl⟩ | ⟨k, rfl, hg, hk⟩
  · refine ⟨_, _, append_nil hx und48 size36 zero36 hzl (by decide) bytes36 ho (by decide) (by decide) (by decide), .inr ⟨_, rfl, ?_, ?_⟩, fun k hk => ?_, by simp⟩
    · rw [hget_at rfl]; simp [cellsOf]
    · simp; omega
    · rw [hget_old (by simp; omega), hget_old (by omega)]
  · have hkl := hget_lt hg
    have hcl := cellsOf_length ls
    have hlen : ((cellsOf ls).map (AV.int .u64)).length = ls.length * 16 := by rw [map_len, hcl]
    refine ⟨.sg (H ++ [Wb x]).length 0 (ls.length + 1) 16, (H ++ [Wb x]).set k ⟨[], .dead, 36⟩ ++ [Rb (ls ++ [x])], ?_, .inr ⟨(H ++ [Wb x]).length, by rw [show (ls ++ [x]).length = ls.length + 1 by simp], ?_, ?_⟩, fun j hj => ?_, by simp; omega⟩
    · have h2 : ¬ ls.length * 16 + 1 * 16 ≤ ((cellsOf ls).map (AV.int .u64)).length := by omega
      have h3 : ((cellsOf ls).map (AV.int .u64)).take (ls.length * 16) = (cellsOf ls).map (AV.int .u64) := List.take_of_length_le (by omega)
      have h4 : ls.length * 16 ≤ ((cellsOf ls).map (AV.int .u64)).length := by omega
      have h5 : (cellsOf (ls ++ [x])).map (AV.int .u64) = (cellsOf ls).map (AV.int .u64) ++ (dig 16 x).map (AV.int .u64) := by rw [cellsOf_snoc, List.map_append]
      have hby1 : (ls.length + 1) * 128 ≤ 140737488355328 := by omega
      have hby2 : (ls.length + 1) ≤ 140737488355328 := by omega
      have hg' : hget (H ++ [Wb x]) k = some (Rb ls) := by rw [hget_old hkl]; exact hg
      have hrow := hx.row
      unfold aappend
      simp only [und48, size36, zero36, bytes36, hzl, hrow, hg', h2, h3, h4, ho, hc, hby1, hby2, and_self, if_true, if_false, show ¬ (1 : Nat) = 0 by decide, show (0 : Nat) < 16 by decide]
      rw [← h5]
    · rw [hget_at (by simp)]
    · simp; omega
    · rw [hget_old (by simp; omega), hget_set (by simp; omega), if_neg (by omega), hget_old (by omega)]
theorem Mat.keep {H H' : Hp} {p : Nat} {vs : List AV} {rss : List (List Int)} (M : Mat H p vs rss) {lo : Nat} (hk : ∀ k, k < lo → hget H' k = hget H k) (hp : p < lo) (hv : ∀ i, i < rss.length → (vs.getD i .nilS).hd < lo) : Mat H' p vs rss := by
  refine ⟨M.len, ?_, fun i hi => ⟨(M.row i hi).1, ?_⟩, M.apart, M.off⟩
  · rw [hk _ hp]; exact M.out
  · rw [hk _ (hv i hi)]; exact (M.row i hi).2
theorem Off.keep {S : Nat → Prop} {H H1 H' : Hp} (o : Off S H H1) {lo : Nat} (hlo : H.length ≤ lo) (hl : H.length ≤ H'.length) (hk : ∀ k, k < lo → hget H' k = hget H1 k) : Off S H H' :=
  ⟨hl, fun k h1 h2 => by rw [hk k (by omega)]; exact o.2 k h1 h2⟩
set_option maxHeartbeats 4000000 in
theorem leading_calls (n p : Nat) (a : Nat → Nat → Int) (vs : List AV) (rss : List (List Int)) (H : Hp) (M : Mat H p vs rss) (S : St n 0 a rss) (h8 : n ≤ 8) (hB : ∀ i j, (a i j).natAbs ≤ 18446744073709551616) :
    ACalls Tryd.prog 40 [.sl p 0 n n] H fun r H' => WsV H' r (lead a n 0) (H.length + 1) ∧ Off (fun h => ∃ i, i < n ∧ h = (vs.getD i .nilS).hd) H H' := by
  have hof := fun H0 => of_calls 1 H0 (by omega)
  have lp := hget_lt M.out
  have hrl : ∀ i, i < n → (vs.getD i .nilS).hd < H.length := fun i hi => hget_lt (M.row i (by rw [S.len]; exact hi)).2
  refine ACalls_body Tryd.func40 rfl (by kernel_rfl) (by kernel_rfl) ?_
  repeat' first
    | (with_reducible first | refine AWp_seq_k (fun K hK => ?_) | refine AWp_block ?_ | refine AWp_regionE ?_)
    | ((with_reducible refine ECall_intro (hof _) ?_); rintro _ _ ⟨rfl, rfl⟩)
    | (simp only [thenA, inBlockA, reduceIte, Nat.reduceEqDiff])
    | ((with_reducible refine hK _ _ ?_); clear hK)
    | (simp only [ACond, RA, EAtS_def, EAtX_def, wantedA, acall, astep, ev, ofValue, ofAtom, Nat.reduceEqDiff, Nat.reduceAdd, Nat.reduceMul, Nat.reduceSub, reduceCtorEq, reduceIte, aoptEv, abin, aint, ashift, aun, astr, aeqGuard, isConstOp, aconvH, aofStr, aconvSame, isU8, abuildSlice, afill, splice, azeros, Nat.reduceLeDiff, Nat.reduceLT, Int.reduceLE, Int.reduceLT, Int.reduceEq, Int.reduceToNat, Int.reducePow, IntKind.bits, Int.reduceNeg, RB, aalloc, Go.PW.dig_length, tf40MaI])
    | (simp (disch := (first | omega | (simp only [RO]; done) | assumption | (simp only [RM, Go.PW.dig_length]; done) | (simp only [RL, Go.PW.dig_length]; omega))) only [RD, reduceCtorEq, reduceIte, Go.PW.dig_length, Nat.reduceLeDiff, Nat.reduceAdd, Nat.reduceMul, Int.reduceToNat, tf40MaI])
  refine AWp_loop (fun m fr' H1 => ∃ (k : Nat) (v : AV) (rss : List (List Int)) (ls : List Int), m = n - k ∧ k ≤ n ∧ fr' 0 = .sl p 0 n n ∧ fr' 3 = v ∧ fr' 4 = .ptr H.length 0 ∧ fr' 8 = .int .i64 (n : Int) ∧ fr' 9 = .int .i64 (k : Int) ∧
      St n k a rss ∧ Mat H1 p vs rss ∧ P a k ≠ 0 ∧ WsV H1 v ls (H.length + 1) ∧ ls.length = k ∧ ls ++ lead a (n - k) k = lead a n 0 ∧ hget H1 H.length = some (Wb (P a k)) ∧ Off (fun h => ∃ i, i < n ∧ h = (vs.getD i .nilS).hd) H H1) (m := n)
    ⟨0, .nilS, rss, [], by omega, by omega, rfl, rfl, rfl, rfl, rfl, S, M.push _, by rw [P_zero]; decide, .inl ⟨rfl, rfl⟩, rfl, rfl, hget_at rfl, (Off.refl _ _).push _⟩ ?_
  clear M S
  rintro m fr' H1 ⟨k, v, rss, ls, rfl, hk, k0, k3, k4, k8, k9, S, M, hne, V, hls, hle, g4, O⟩
  have e1 : IntKind.i64.wrap ((k : Int) + 1) = ((k + 1 : Nat) : Int) := by rw [wrap_i64_id (by omega) (by omega)]; omega
  have l4 := hget_lt g4
  have hv1 : v.one = true := by rcases V with ⟨_, rfl⟩ | ⟨_, rfl, _⟩ <;> rfl
  by_cases hlt : k < n
  · have hkl : k < rss.length := by rw [S.len]; exact hlt
    have a1 := M.at0 hkl
    have a2 := M.idx hkl (k := .i64) (j := (k : Int)) (by omega) (by rw [S.wid k hlt]; omega)
    have a3 := M.get hkl (j := k) (by rw [S.wid k hlt]; exact hlt)
    rw [Int.toNat_natCast] at a2
    rw [S.get k k (Nat.le_refl _) hlt hlt, ← P_succ (rho := a)] at a3
    obtain ⟨v', H2, g, V2, hkeep, hlen⟩ := V.append (by omega) (by omega) (P a (k + 1))
    have M2 := M.keep hkeep (by omega) (fun i hi => by rw [S.len] at hi; have := hrl i hi; omega)
    have O2 := O.keep (lo := H.length + 1) (by omega) (by omega) hkeep
    have g42 : hget H2 H.length = some (Wb (P a k)) := by rw [hkeep _ (by omega)]; exact g4
    have hsg := sign_calls (P a (k + 1)) H2 (In_300 (P_small hB (by omega)))
    have b1 := M2.at0 hkl
    have b2 := M2.idx hkl (k := .i64) (j := (k : Int)) (by omega) (by rw [S.wid k hlt]; omega)
    have b3 := M2.get hkl (j := k) (by rw [S.wid k hlt]; exact hlt)
    rw [Int.toNat_natCast] at b2
    rw [S.get k k (Nat.le_refl _) hlt hlt, ← P_succ (rho := a)] at b3
    have hdr : List.drop 16 (List.map (AV.int .u64) (dig 16 0)) = [] := List.drop_eq_nil_of_le (by rw [map_len, dig_length]; exact Nat.le_refl _)
    have hall := ints_one (k := .u64) (dig 16 (P a (k + 1)))
    by_cases hx : P a (k + 1) ≤ 0
    · have hs0 : ((P a (k + 1)).sign ≤ 0) = True := eq_true (by have := Int.sign_nonpos_iff.mpr hx; exact this)
      repeat' first
        | (with_reducible first | refine AWp_seq_k (fun K hK => ?_) | refine AWp_block ?_ | refine AWp_skip ?_ | refine AWp_exit ?_ | refine AWp_ret ?_ | refine AWp_regionE ?_ | refine AWp_condI ?_)
        | ((with_reducible refine ECall_intro (hsg) ?_); rintro _ _ ⟨rfl, rfl⟩)
        | (with_reducible refine AIte (fun hc => ?_) (fun hc => ?_) <;> (try simp only [RC] at hc) <;> (try (exfalso; first | omega | contradiction)))
        | (simp only [thenA, inBlockA, reduceIte, Nat.reduceEqDiff])
        | ((with_reducible refine hK _ _ ?_); clear hK)
        | (clear hK; clear hK; (with_reducible refine hK _ _ ?_); clear hK)
        | (simp only [ACond, RA, EAtS_def, EAtX_def, wantedA, acall, astep, ev, ofValue, ofAtom, Nat.reduceEqDiff, Nat.reduceAdd, Nat.reduceMul, Nat.reduceSub, reduceCtorEq, reduceIte, aoptEv, abin, aint, ashift, aun, astr, aeqGuard, isConstOp, aconvH, aofStr, aconvSame, isU8, abuildSlice, afill, splice, azeros, Nat.reduceLeDiff, Nat.reduceLT, Int.reduceLE, Int.reduceLT, Int.reduceEq, Int.reduceToNat, Int.reducePow, IntKind.bits, Int.reduceNeg, RB, aalloc, Go.PW.dig_length, tf40MaI, k0, k3, k4, k8, k9, a1, a2, a3, hdr, List.append_nil, hall, g, b1, b2, b3, hs0])
        | (simp (disch := first | omega | (simp only [RO]; done) | assumption) only [RS, six48, gix48, six58, gix58, idx35, slh35, idx36, slh36])
      all_goals
        (
         (refine AEnd_gen (rs := [.tmp 2]) rfl ?_)
         (simp only [AEndR, aresults, Fr.put_some, Fr.put_none, fr0_zero, fr0_succ, fr0_nil, Nat.reduceEqDiff, reduceIte])
         (try simp (disch := (first | omega | (simp only [RO]; done) | assumption | (simp only [RM, Go.PW.dig_length]; done) | (simp only [RL, Go.PW.dig_length]; omega))) only [RD, reduceCtorEq, reduceIte, Go.PW.dig_length, Nat.reduceLeDiff, Nat.reduceAdd, Nat.reduceMul, Int.reduceToNat, tf40MaI]))
      all_goals
        rw [show n - k = (n - (k + 1)) + 1 by omega] at hle
        simp only [lead, hx, if_true] at hle
        rw [hle] at V2
        exact ⟨V2, O2⟩
    · have hs0 : ((P a (k + 1)).sign ≤ 0) = False := eq_false (fun h => hx (Int.sign_nonpos_iff.mp h))
      repeat' first
        | (with_reducible first | refine AWp_seq_k (fun K hK => ?_) | refine AWp_block ?_ | refine AWp_skip ?_ | refine AWp_regionE ?_ | refine AWp_condI ?_)
        | ((with_reducible refine ECall_intro (hsg) ?_); rintro _ _ ⟨rfl, rfl⟩)
        | (with_reducible refine AIte (fun hc => ?_) (fun hc => ?_) <;> (try simp only [RC] at hc) <;> (try (exfalso; first | omega | contradiction)))
        | (simp only [thenA, inBlockA, reduceIte, Nat.reduceEqDiff])
        | ((with_reducible refine hK _ _ ?_); clear hK)
        | (simp only [ACond, RA, EAtS_def, EAtX_def, wantedA, acall, astep, ev, ofValue, ofAtom, Nat.reduceEqDiff, Nat.reduceAdd, Nat.reduceMul, Nat.reduceSub, reduceCtorEq, reduceIte, aoptEv, abin, aint, ashift, aun, astr, aeqGuard, isConstOp, aconvH, aofStr, aconvSame, isU8, abuildSlice, afill, splice, azeros, Nat.reduceLeDiff, Nat.reduceLT, Int.reduceLE, Int.reduceLT, Int.reduceEq, Int.reduceToNat, Int.reducePow, IntKind.bits, Int.reduceNeg, RB, aalloc, Go.PW.dig_length, tf40MaI, k0, k3, k4, k8, k9, a1, a2, a3, hdr, List.append_nil, hall, g, b1, b2, b3, hs0, g42])
        | (simp (disch := first | omega | (simp only [RO]; done) | assumption) only [RS, six48, gix48, six58, gix58, idx35, slh35, idx36, slh36])
        | (simp (disch := (first | omega | (simp only [RO]; done) | assumption | (simp only [RM, Go.PW.dig_length]; done) | (simp only [RL, Go.PW.dig_length]; omega))) only [RD, reduceCtorEq, reduceIte, Go.PW.dig_length, Nat.reduceLeDiff, Nat.reduceAdd, Nat.reduceMul, Int.reduceToNat, tf40MaI, k0, k3, k4, k8, k9, a1, a2, a3, hdr, List.append_nil, hall, g, b1, b2, b3, hs0, g42])
      have hst := Step_calls p k vs rss (P a k) false n H2 M2 hkl (fun i hi => S.wid i (by rw [S.len] at hi; exact hi)) hlt (by rw [S.len]; omega) (by omega) (In_300 (P_small hB (by omega))) hne (fun i j h1 h2 h3 h4 => S.fits h8 hlt hne hB i j h1 h2 h3 h4)
      have hsl := S.len
      have hr : AV.sl p 0 rss.length rss.length = AV.sl p 0 n n := by rw [hsl]
      rw [hr] at hst
      all_goals
        refine ECall_intro hst ?_
        rintro r H4 ⟨rfl, M4, O4⟩
        have S4 := S.step hlt hne
        have hl2 : H.length < H2.length := by omega
        have g44 : hget H4 H.length = some (Wb (P a k)) := by rw [O4.2 _ hl2 (fun ⟨i, hi, e⟩ => by have := hrl i (by omega); omega)]; exact g42
        have V4 : WsV H4 v' (ls ++ [P a (k + 1)]) (H.length + 1) := by
          rcases V2 with h | ⟨q, h1, h2, h3⟩
          · exact .inl h
          · exact .inr ⟨q, h1, by rw [O4.2 _ (hget_lt h2) (fun ⟨i, hi, e⟩ => by have := hrl i (by omega); omega)]; exact h2, h3⟩
        have O24 : Off (fun h => ∃ i, i < n ∧ h = (vs.getD i .nilS).hd) H H4 := ⟨by have := O4.1; omega, fun q h1 h2 => by
          rw [O4.2 q (by omega) (fun ⟨i, hi, e⟩ => h2 ⟨i, by omega, e⟩)]; exact O2.2 q h1 h2⟩
        have l44 := hget_lt g44
        have hl4 : k < (stepM rss k (P a k) false).length := by rw [S4.len]; exact hlt
        have hrk : (stepM rss k (P a k) false).getD k [] = rss.getD k [] := by unfold stepM; rw [stepTo_getD _ _ _ _ _ _ hkl, if_neg (fun h => h.2.1 rfl)]
        have c1 := M4.at0 hl4
        have c2 := M4.idx hl4 (k := .i64) (j := (k : Int)) (by omega) (by rw [S4.wid k hlt]; omega)
        have c3 := M4.get hl4 (j := k) (by rw [S4.wid k hlt]; exact hlt)
        rw [Int.toNat_natCast] at c2
        rw [hrk, S.get k k (Nat.le_refl _) hlt hlt, ← P_succ (rho := a)] at c3
        repeat' first
          | (with_reducible first | refine AWp_regionE ?_)
          | (simp only [thenA, inBlockA, reduceIte, Nat.reduceEqDiff])
          | ((with_reducible refine hK _ _ ?_); clear hK)
          | (simp only [ACond, RA, EAtS_def, EAtX_def, wantedA, acall, astep, ev, ofValue, ofAtom, Nat.reduceEqDiff, Nat.reduceAdd, Nat.reduceMul, Nat.reduceSub, reduceCtorEq, reduceIte, aoptEv, abin, aint, ashift, aun, astr, aeqGuard, isConstOp, aconvH, aofStr, aconvSame, isU8, abuildSlice, afill, splice, azeros, Nat.reduceLeDiff, Nat.reduceLT, Int.reduceLE, Int.reduceLT, Int.reduceEq, Int.reduceToNat, Int.reducePow, IntKind.bits, Int.reduceNeg, RB, aalloc, Go.PW.dig_length, tf40MaI, k0, k3, k4, k8, k9, c1, c2, c3, g44, e1])
          | (simp (disch := first | omega | (simp only [RO]; done) | assumption) only [RS, six48, gix48, six58, gix58, idx35, slh35, idx36, slh36])
          | (simp (disch := (first | omega | (simp only [RO]; done) | assumption | (simp only [RM, Go.PW.dig_length]; done) | (simp only [RL, Go.PW.dig_length]; omega))) only [RD, reduceCtorEq, reduceIte, Go.PW.dig_length, Nat.reduceLeDiff, Nat.reduceAdd, Nat.reduceMul, Int.reduceToNat, tf40MaI, k0, k3, k4, k8, k9, c1, c2, c3, g44, e1])
        have hle2 : (ls ++ [P a (k + 1)]) ++ lead a (n - (k + 1)) (k + 1) = lead a n 0 := by
          rw [show n - k = (n - (k + 1)) + 1 by omega] at hle
          simp only [lead, hx, if_false] at hle
          rw [List.append_assoc]; exact hle
        refine ⟨_, by omega, k + 1, v', _, _, rfl, by omega, rfl, rfl, S4, M4.other l44 _ (by omega) (fun i hi => ?_), by omega, ?_, by rw [List.length_append, hls]; rfl, hle2, by rw [hget_set l44, if_pos rfl], O24.set l44 _ (.inr (Nat.le_refl _))⟩
        · rw [S4.len] at hi; have := hrl i hi; omega
        · rcases V4 with h | ⟨q, h1, h2, h3⟩
          · exact .inl h
          · exact .inr ⟨q, h1, by rw [hget_set l44, if_neg (by omega)]; exact h2, h3⟩
  · obtain rfl : n = k := by omega
    repeat' first
      | (with_reducible first | refine AWp_seq_k (fun K hK => ?_) | refine AWp_exit ?_ | refine AWp_ret ?_ | refine AWp_regionE ?_ | refine AWp_condI ?_)
      | (with_reducible refine AIte (fun hc => ?_) (fun hc => ?_) <;> (try simp only [RC] at hc) <;> (try (exfalso; first | omega | contradiction)))
      | (simp only [thenA, inBlockA, reduceIte, Nat.reduceEqDiff])
      | ((with_reducible refine hK _ _ ?_); clear hK)
      | (clear hK; (with_reducible refine hK _ _ ?_); clear hK)
      | (simp only [ACond, RA, EAtS_def, EAtX_def, wantedA, acall, astep, ev, ofValue, ofAtom, Nat.reduceEqDiff, Nat.reduceAdd, Nat.reduceMul, Nat.reduceSub, reduceCtorEq, reduceIte, aoptEv, abin, aint, ashift, aun, astr, aeqGuard, isConstOp, aconvH, aofStr, aconvSame, isU8, abuildSlice, afill, splice, azeros, Nat.reduceLeDiff, Nat.reduceLT, Int.reduceLE, Int.reduceLT, Int.reduceEq, Int.reduceToNat, Int.reducePow, IntKind.bits, Int.reduceNeg, RB, aalloc, Go.PW.dig_length, tf40MaI, k0, k3, k4, k8, k9])
    (
     (refine AEnd_gen (rs := [.tmp 2]) rfl ?_)
     (simp only [AEndR, aresults, Fr.put_some, Fr.put_none, fr0_zero, fr0_succ, fr0_nil, Nat.reduceEqDiff, reduceIte])
     (try simp (disch := (first | omega | (simp only [RO]; done) | assumption | (simp only [RM, Go.PW.dig_length]; done) | (simp only [RL, Go.PW.dig_length]; omega))) only [RD, reduceCtorEq, reduceIte, Go.PW.dig_length, Nat.reduceLeDiff, Nat.reduceAdd, Nat.reduceMul, Int.reduceToNat, tf40MaI]))
    rw [Nat.sub_self] at hle
    simp only [lead, List.append_nil] at hle
    rw [hle] at V
    exact ⟨V, O⟩
end Go.Proofs.YtfalfmfkifemeaaDoor
set_option linter.unusedVariables false
set_option linter.unusedSimpArgs false
namespace Go.Proofs.YtfalfmfkifemeaaDoor
open Go.AL Go.PW Go.PD
theorem tf34MaJ : type_of% (And.intro @tyb3 (And.intro @tyb34 (And.intro @tyb35 (And.intro @tyb36 (And.intro @tyb48 (@tyb58)))))) := And.intro @tyb3 (And.intro @tyb34 (And.intro @tyb35 (And.intro @tyb36 (And.intro @tyb48 (@tyb58)))))
theorem tf12MaJ : type_of% (And.intro @tyb2 (And.intro @tyb3 (And.intro @tyb22 (And.intro @tyb24 (And.intro @tyb25 (And.intro @tyb34 (And.intro @tyb35 (And.intro @tyb36 (And.intro @tyb48 (@tyb58)))))))))) := And.intro @tyb2 (And.intro @tyb3 (And.intro @tyb22 (And.intro @tyb24 (And.intro @tyb25 (And.intro @tyb34 (And.intro @tyb35 (And.intro @tyb36 (And.intro @tyb48 (@tyb58)))))))))
set_option maxRecDepth 8000
theorem WsV.rd {H : Hp} {v : AV} {ls : List Int} {lo : Nat} (h : WsV H v ls lo) : Rd H 16 v ((cellsOf ls).map (AV.int .u64)) ls.length := by
  rcases h with ⟨rfl, rfl⟩ | ⟨k, rfl, hg, _⟩
  · exact Rd.nil _ _
  · have hcl : ((cellsOf ls).map (AV.int .u64)).length = ls.length * 16 := by rw [map_len, cellsOf_length]
    refine ⟨?_, rfl⟩
    simp only [arow, hg]
    rw [if_neg (by decide), if_pos (by omega), List.drop_zero, List.take_of_length_le (by omega)]
theorem WsV.get {H : Hp} {v : AV} {ls : List Int} {lo : Nat} (h : WsV H v ls lo) {i : Nat} (hi : i < ls.length) : aload Tryd.prog H 36 (.ptr v.hd (v.of + i * 16)) = some (W (ls.getD i 0)) := by
  rw [Rd.loads h.rd agg36 size36 hi, ← List.map_drop, ← List.map_take, cellsOf_get _ _ hi]
theorem lead_pos (a : Nat → Nat → Int) : ∀ c k, ((lead a c k).length = c ∧ (c = 0 ∨ 0 < (lead a c k).getD (c - 1) 0)) ↔ ∀ m, k < m → m ≤ k + c → 0 < P a m
  | 0, k => by
    simp only [lead, List.length_nil, true_and, true_or, true_iff]
    intro m h1 h2; omega
  | c + 1, k => by
    have ih := lead_pos a c (k + 1)
    have hs : (∀ m, k < m → m ≤ k + (c + 1) → 0 < P a m) ↔ 0 < P a (k + 1) ∧ ∀ m, k + 1 < m → m ≤ k + 1 + c → 0 < P a m := by
      constructor
      · intro h; exact ⟨h _ (by omega) (by omega), fun m h1 h2 => h m (by omega) (by omega)⟩
      · rintro ⟨h1, h2⟩ m h3 h4
        by_cases e : m = k + 1
        · rw [e]; exact h1
        · exact h2 m (by omega) (by omega)
    rw [hs]
    simp only [lead, List.length_cons, Nat.add_sub_cancel]
    by_cases hx : P a (k + 1) ≤ 0
    · simp only [hx, if_true, List.length_nil]
      constructor
      · rintro ⟨h1, h2⟩
        obtain rfl : c = 0 := by omega
        rcases h2 with h2 | h2
        · omega
        · simp at h2; omega
      · rintro ⟨h1, _⟩; omega
    · simp only [hx, if_false]
      rw [← ih]
      have hx' : 0 < P a (k + 1) := by omega
      constructor
      · rintro ⟨h1, h2⟩
        refine ⟨hx', by omega, ?_⟩
        cases c with
        | zero => exact .inl rfl
        | succ c =>
          rcases h2 with h2 | h2
          · omega
          · right; simpa using h2
      · rintro ⟨_, h1, h2⟩
        refine ⟨by omega, .inr ?_⟩
        cases c with
        | zero => simpa using hx'
        | succ c =>
          rcases h2 with h2 | h2
          · omega
          · simpa using h2
theorem lead_get (a : Nat → Nat → Int) : ∀ c k i, i < (lead a c k).length → (lead a c k).getD i 0 = P a (k + 1 + i)
  | 0, k, i, h => by simp [lead] at h
  | c + 1, k, i, h => by
    simp only [lead, List.length_cons] at h ⊢
    cases i with
    | zero => simp
    | succ i =>
      rw [List.getD_cons_succ]
      by_cases hx : P a (k + 1) ≤ 0
      · simp [hx] at h
      · simp only [hx, if_false] at h ⊢
        rw [lead_get a c (k + 1) i (by omega)]
        congr 1; omega
/-- Are all leading determinants above nought? -/
def posB (a : Nat → Nat → Int) (n : Nat) : Bool := decide ((lead a n 0).length = n ∧ (n = 0 ∨ 0 < (lead a n 0).getD (n - 1) 0))
theorem posB_iff (a : Nat → Nat → Int) (n : Nat) : posB a n = true ↔ ∀ m, m ≤ n → 0 < P a m := by
  unfold posB
  rw [decide_eq_true_iff, lead_pos]
  constructor
  · intro h m hm
    rcases Nat.eq_zero_or_pos m with rfl | h0
    · rw [P_zero]; decide
    · exact h m h0 (by omega)
  · intro h m _ h2; exact h m (by omega)
set_option maxHeartbeats 4000000 in
theorem Positive_calls (n p : Nat) (a : Nat → Nat → Int) (vs : List AV) (rss : List (List Int)) (H : Hp) (M : Mat H p vs rss) (S : St n 0 a rss) (h8 : n ≤ 8) (hB : ∀ i j, (a i j).natAbs ≤ 18446744073709551616) :
    ACalls Tryd.prog 34 [.sl p 0 n n] H fun r H' => r = .bool (posB a n) ∧ Off (fun h => ∃ i, i < n ∧ h = (vs.getD i .nilS).hd) H H' := by
  have hL := lead_length a n 0
  refine ACalls_body Tryd.func34 rfl (by kernel_rfl) (by kernel_rfl) ?_
  repeat' first
    | (with_reducible first | refine AWp_seq_k (fun K hK => ?_) | refine AWp_regionE ?_)
    | (simp only [thenA, inBlockA, reduceIte, Nat.reduceEqDiff])
    | ((with_reducible refine hK _ _ ?_); clear hK)
    | (simp only [ACond, RA, EAtS_def, EAtX_def, wantedA, acall, astep, ev, ofValue, ofAtom, Nat.reduceEqDiff, Nat.reduceAdd, Nat.reduceMul, Nat.reduceSub, reduceCtorEq, reduceIte, aoptEv, abin, aint, ashift, aun, astr, aeqGuard, isConstOp, aconvH, aofStr, aconvSame, isU8, abuildSlice, afill, splice, azeros, Nat.reduceLeDiff, Nat.reduceLT, Int.reduceLE, Int.reduceLT, Int.reduceEq, Int.reduceToNat, Int.reducePow, IntKind.bits, Int.reduceNeg, RB, aalloc, Go.PW.dig_length, tf34MaJ])
  refine ECall_intro (leading_calls n p a vs rss H M S h8 hB) ?_
  rintro v H1 ⟨V, O⟩
  have hlen := V.rd.len und48
  have hp : posB a n = decide ((lead a n 0).length = n ∧ (n = 0 ∨ 0 < (lead a n 0).getD (n - 1) 0)) := rfl
  have hb : In ((lead a n 0).getD (n - 1) 0) := by
    rcases Nat.lt_or_ge (n - 1) (lead a n 0).length with h | h
    · rw [lead_get _ _ _ _ h]; exact In_300 (P_small hB (by omega))
    · rw [List.getD_eq_getElem?_getD, List.getElem?_eq_none h]; exact In.zero
  generalize lead a n 0 = ls at *
  by_cases h1 : ls.length = n
  · have e1 : ((ls.length : Int) = (n : Int)) = True := eq_true (by omega)
    rcases Nat.eq_zero_or_pos n with h0 | h0
    · have e2 : ((ls.length : Int) = 0) = True := eq_true (by omega)
      repeat' first
        | (with_reducible first | refine AWp_seq_k (fun K hK => ?_) | refine AWp_ret ?_ | refine AWp_regionE ?_)
        | (with_reducible refine EGuard_split (fun hc => ?_) (fun hc => ?_) <;> (try simp only [RC] at hc) <;> (try (exfalso; first | omega | contradiction)))
        | (simp only [thenA, inBlockA, reduceIte, Nat.reduceEqDiff])
        | ((with_reducible refine hK _ _ ?_); clear hK)
        | (simp only [ACond, RA, EAtS_def, EAtX_def, wantedA, acall, astep, ev, ofValue, ofAtom, Nat.reduceEqDiff, Nat.reduceAdd, Nat.reduceMul, Nat.reduceSub, reduceCtorEq, reduceIte, aoptEv, abin, aint, ashift, aun, astr, aeqGuard, isConstOp, aconvH, aofStr, aconvSame, isU8, abuildSlice, afill, splice, azeros, Nat.reduceLeDiff, Nat.reduceLT, Int.reduceLE, Int.reduceLT, Int.reduceEq, Int.reduceToNat, Int.reducePow, IntKind.bits, Int.reduceNeg, RB, aalloc, Go.PW.dig_length, tf34MaJ, hlen, e1, e2])
      all_goals
        (
         (refine AEnd_gen (rs := [.tmp 2]) rfl ?_)
         (simp only [AEndR, aresults, Fr.put_some, Fr.put_none, fr0_zero, fr0_succ, fr0_nil, Nat.reduceEqDiff, reduceIte])
         (try simp (disch := (first | omega | (simp only [RO]; done) | assumption | (simp only [RM, Go.PW.dig_length]; done) | (simp only [RL, Go.PW.dig_length]; omega))) only [RD, reduceCtorEq, reduceIte, Go.PW.dig_length, Nat.reduceLeDiff, Nat.reduceAdd, Nat.reduceMul, Int.reduceToNat, tf34MaJ]))
      all_goals exact ⟨by rw [hp, decide_eq_true ⟨h1, .inl h0⟩], O⟩
    · have e2 : ((ls.length : Int) = 0) = False := eq_false (by omega)
      have w1 : IntKind.i64.wrap ((ls.length : Int) - 1) = ((n - 1 : Nat) : Int) := by rw [wrap_i64_id (by omega) (by omega)]; omega
      have a1 := V.rd.at_ und48 size36 (k := .i64) (j := ((n - 1 : Nat) : Int)) (by omega) (by omega)
      have a2 := V.get (i := n - 1) (by omega)
      rw [Int.toNat_natCast] at a1
      have hsg := sign_calls (ls.getD (n - 1) 0) H1 hb
      repeat' first
        | (with_reducible first | refine AWp_seq_k (fun K hK => ?_) | refine AWp_ret ?_ | refine AWp_regionE ?_)
        | ((with_reducible refine ECall_intro (hsg) ?_); rintro _ _ ⟨rfl, rfl⟩)
        | (with_reducible refine EGuard_split (fun hc => ?_) (fun hc => ?_) <;> (try simp only [RC] at hc) <;> (try (exfalso; first | omega | contradiction)))
        | (simp only [thenA, inBlockA, reduceIte, Nat.reduceEqDiff])
        | ((with_reducible refine hK _ _ ?_); clear hK)
        | (simp only [ACond, RA, EAtS_def, EAtX_def, wantedA, acall, astep, ev, ofValue, ofAtom, Nat.reduceEqDiff, Nat.reduceAdd, Nat.reduceMul, Nat.reduceSub, reduceCtorEq, reduceIte, aoptEv, abin, aint, ashift, aun, astr, aeqGuard, isConstOp, aconvH, aofStr, aconvSame, isU8, abuildSlice, afill, splice, azeros, Nat.reduceLeDiff, Nat.reduceLT, Int.reduceLE, Int.reduceLT, Int.reduceEq, Int.reduceToNat, Int.reducePow, IntKind.bits, Int.reduceNeg, RB, aalloc, Go.PW.dig_length, tf34MaJ, hlen, e1, e2, w1, a1, a2])
      all_goals
        (
         (refine AEnd_gen (rs := [.tmp 2]) rfl ?_)
         (simp only [AEndR, aresults, Fr.put_some, Fr.put_none, fr0_zero, fr0_succ, fr0_nil, Nat.reduceEqDiff, reduceIte])
         (try simp (disch := (first | omega | (simp only [RO]; done) | assumption | (simp only [RM, Go.PW.dig_length]; done) | (simp only [RL, Go.PW.dig_length]; omega))) only [RD, reduceCtorEq, reduceIte, Go.PW.dig_length, Nat.reduceLeDiff, Nat.reduceAdd, Nat.reduceMul, Int.reduceToNat, tf34MaJ]))
      all_goals
        refine ⟨?_, O⟩
        rw [hp]
        congr 1
        refine decide_eq_decide.mpr ?_
        rw [Int.sign_pos_iff]
        exact ⟨fun h => ⟨h1, .inr h⟩, fun h => h.2.resolve_left (by omega)⟩
  · have e1 : ((ls.length : Int) = (n : Int)) = False := eq_false (by omega)
    repeat' first
      | (with_reducible first | refine AWp_seq_k (fun K hK => ?_) | refine AWp_ret ?_ | refine AWp_regionE ?_)
      | (with_reducible refine EGuard_split (fun hc => ?_) (fun hc => ?_) <;> (try simp only [RC] at hc) <;> (try (exfalso; first | omega | contradiction)))
      | (simp only [thenA, inBlockA, reduceIte, Nat.reduceEqDiff])
      | ((with_reducible refine hK _ _ ?_); clear hK)
      | (simp only [ACond, RA, EAtS_def, EAtX_def, wantedA, acall, astep, ev, ofValue, ofAtom, Nat.reduceEqDiff, Nat.reduceAdd, Nat.reduceMul, Nat.reduceSub, reduceCtorEq, reduceIte, aoptEv, abin, aint, ashift, aun, astr, aeqGuard, isConstOp, aconvH, aofStr, aconvSame, isU8, abuildSlice, afill, splice, azeros, Nat.reduceLeDiff, Nat.reduceLT, Int.reduceLE, Int.reduceLT, Int.reduceEq, Int.reduceToNat, Int.reducePow, IntKind.bits, Int.reduceNeg, RB, aalloc, Go.PW.dig_length, tf34MaJ, hlen, e1])
    all_goals
      (
       (refine AEnd_gen (rs := [.tmp 2]) rfl ?_)
       (simp only [AEndR, aresults, Fr.put_some, Fr.put_none, fr0_zero, fr0_succ, fr0_nil, Nat.reduceEqDiff, reduceIte])
       (try simp (disch := (first | omega | (simp only [RO]; done) | assumption | (simp only [RM, Go.PW.dig_length]; done) | (simp only [RL, Go.PW.dig_length]; omega))) only [RD, reduceCtorEq, reduceIte, Go.PW.dig_length, Nat.reduceLeDiff, Nat.reduceAdd, Nat.reduceMul, Int.reduceToNat, tf34MaJ]))
    all_goals exact ⟨by rw [hp, decide_eq_false (fun h => h1 h.1)], O⟩
set_option maxHeartbeats 4000000 in
theorem Definite_calls (n : Nat) (xs : List Int) (a : AV) (H : Hp) (ha : Ints H .i64 a xs) (hr : Right n xs) : ACalls Tryd.prog 12 [SymA n a] H fun r H' => r = .bool (posB (ent n xs) n) ∧ H = H' := by
  refine ACalls.drop (R := fun r => r = .bool (posB (ent n xs) n)) ?_
  have ha1 : a.one = true := ha.rd.one
  have hc : a.cells = [a] := AV.cells_one ha1
  obtain ⟨h8, hlx⟩ := hr.len
  have hd : decide (Right n xs) = true := decide_eq_true hr
  refine ACalls_body Tryd.func12 rfl (by kernel_rfl) (by kernel_rfl) ?_
  repeat' first
    | (with_reducible first | refine AWp_seq_k (fun K hK => ?_) | refine AWp_regionE ?_)
    | ((with_reducible refine ECall_intro (right_calls _ _ _ _ (ha.push _) hlx) ?_); rintro _ _ ⟨rfl, rfl⟩)
    | (simp only [thenA, inBlockA, reduceIte, Nat.reduceEqDiff])
    | ((with_reducible refine hK _ _ ?_); clear hK)
    | (simp only [ACond, RA, EAtS_def, EAtX_def, wantedA, acall, astep, ev, ofValue, ofAtom, Nat.reduceEqDiff, Nat.reduceAdd, Nat.reduceMul, Nat.reduceSub, reduceCtorEq, reduceIte, aoptEv, abin, aint, ashift, aun, astr, aeqGuard, isConstOp, aconvH, aofStr, aconvSame, isU8, abuildSlice, afill, splice, azeros, Nat.reduceLeDiff, Nat.reduceLT, Int.reduceLE, Int.reduceLT, Int.reduceEq, Int.reduceToNat, Int.reducePow, IntKind.bits, Int.reduceNeg, RB, aalloc, Go.PW.dig_length, tf12MaJ, hd])
    | (simp (disch := first | omega | (simp only [RO]; done) | assumption) only [RS, six22, gix22, six48, gix48, six58, gix58, idx35, slh35, idx36, slh36, bst25_e, bst25_0, bst25_01])
    | (simp (disch := (first | omega | (simp only [RO]; done) | assumption | (simp only [RM, Go.PW.dig_length]; done) | (simp only [RL, Go.PW.dig_length]; omega))) only [RD, reduceCtorEq, reduceIte, Go.PW.dig_length, Nat.reduceLeDiff, Nat.reduceAdd, Nat.reduceMul, Int.reduceToNat, tf12MaJ, hd])
  all_goals
    refine ECall_intro (Rows_calls n xs a _ (ha.push _) hr) ?_
    rintro r H1 ⟨p, vs, rfl, M, x0, hF⟩
    repeat' first
      | (simp only [ACond, RA, EAtS_def, EAtX_def, wantedA, acall, astep, ev, ofValue, ofAtom, Nat.reduceEqDiff, Nat.reduceAdd, Nat.reduceMul, Nat.reduceSub, reduceCtorEq, reduceIte, aoptEv, abin, aint, ashift, aun, astr, aeqGuard, isConstOp, aconvH, aofStr, aconvSame, isU8, abuildSlice, afill, splice, azeros, Nat.reduceLeDiff, Nat.reduceLT, Int.reduceLE, Int.reduceLT, Int.reduceEq, Int.reduceToNat, Int.reducePow, IntKind.bits, Int.reduceNeg, RB, aalloc, Go.PW.dig_length, tf12MaJ])
    refine ECall_intro (Positive_calls n p (ent n xs) vs _ H1 M (St.zero n xs) h8 (ent_bound hr)) ?_
    rintro r H2 ⟨rfl, O⟩
    repeat' first
      | (with_reducible first | refine AWp_ret ?_)
      | (simp only [thenA, inBlockA, reduceIte, Nat.reduceEqDiff])
      | ((with_reducible refine hK _ _ ?_); clear hK)
      | (simp only [ACond, RA, EAtS_def, EAtX_def, wantedA, acall, astep, ev, ofValue, ofAtom, Nat.reduceEqDiff, Nat.reduceAdd, Nat.reduceMul, Nat.reduceSub, reduceCtorEq, reduceIte, aoptEv, abin, aint, ashift, aun, astr, aeqGuard, isConstOp, aconvH, aofStr, aconvSame, isU8, abuildSlice, afill, splice, azeros, Nat.reduceLeDiff, Nat.reduceLT, Int.reduceLE, Int.reduceLT, Int.reduceEq, Int.reduceToNat, Int.reducePow, IntKind.bits, Int.reduceNeg, RB, aalloc, Go.PW.dig_length, tf12MaJ])
    (
     (refine AEnd_gen (rs := [.tmp 2]) rfl ?_)
     (simp only [AEndR, aresults, Fr.put_some, Fr.put_none, fr0_zero, fr0_succ, fr0_nil, Nat.reduceEqDiff, reduceIte])
     (try simp (disch := (first | omega | (simp only [RO]; done) | assumption | (simp only [RM, Go.PW.dig_length]; done) | (simp only [RL, Go.PW.dig_length]; omega))) only [RD, reduceCtorEq, reduceIte, Go.PW.dig_length, Nat.reduceLeDiff, Nat.reduceAdd, Nat.reduceMul, Int.reduceToNat, tf12MaJ]))
    have x2 := Off.toExt x0 O (fun h ⟨i, hi, e⟩ => by rw [e]; exact hF.2 i hi)
    exact ⟨(Ext.push _ _).trans x2, trivial⟩
end Go.Proofs.YtfalfmfkifemeaaDoor
set_option linter.unusedVariables false
set_option linter.unusedSimpArgs false
namespace Go.Proofs.YtfalfmfkifemeaaDoor
open Go.AL Go.PW Go.PD
theorem tf18MaK : type_of% (And.intro @tyb2 (And.intro @tyb3 (And.intro @tyb4 (And.intro @tyb9 (And.intro @tyb22 (And.intro @tyb24 (And.intro @tyb25 (And.intro @tyb34 (And.intro @tyb35 (And.intro @tyb36 (And.intro @tyb37 (And.intro @tyb38 (And.intro @tyb48 (And.intro @tyb57 (@tyb58))))))))))))))) := And.intro @tyb2 (And.intro @tyb3 (And.intro @tyb4 (And.intro @tyb9 (And.intro @tyb22 (And.intro @tyb24 (And.intro @tyb25 (And.intro @tyb34 (And.intro @tyb35 (And.intro @tyb36 (And.intro @tyb37 (And.intro @tyb38 (And.intro @tyb48 (And.intro @tyb57 (@tyb58))))))))))))))
theorem tf10MaK : type_of% (And.intro @tyb2 (And.intro @tyb3 (And.intro @tyb4 (And.intro @tyb9 (And.intro @tyb22 (And.intro @tyb24 (And.intro @tyb25 (And.intro @tyb34 (And.intro @tyb35 (And.intro @tyb36 (And.intro @tyb37 (And.intro @tyb38 (And.intro @tyb48 (And.intro @tyb57 (@tyb58))))))))))))))) := And.intro @tyb2 (And.intro @tyb3 (And.intro @tyb4 (And.intro @tyb9 (And.intro @tyb22 (And.intro @tyb24 (And.intro @tyb25 (And.intro @tyb34 (And.intro @tyb35 (And.intro @tyb36 (And.intro @tyb37 (And.intro @tyb38 (And.intro @tyb48 (And.intro @tyb57 (@tyb58))))))))))))))
set_option maxRecDepth 8000
theorem WsV.low {H : Hp} {v : AV} {ls : List Int} {lo lo' : Nat} (h : WsV H v ls lo) (hl : lo' ≤ lo) : WsV H v ls lo' := by
  rcases h with h | ⟨k, h1, h2, h3⟩
  · exact .inl h
  · exact .inr ⟨k, h1, h2, by omega⟩
set_option maxHeartbeats 4000000 in
theorem Minors_calls (n : Nat) (xs : List Int) (a : AV) (H : Hp) (ha : Ints H .i64 a xs) (hr : Right n xs) : ACalls Tryd.prog 18 [SymA n a] H fun r H' => ∃ v, r = .tup [v, .nilI] ∧ WsV H' v (lead (ent n xs) n 0) H.length ∧ Ext H H' := by
  have ha1 : a.one = true := ha.rd.one
  have hc : a.cells = [a] := AV.cells_one ha1
  obtain ⟨h8, hlx⟩ := hr.len
  have hd : decide (Right n xs) = true := decide_eq_true hr
  refine ACalls_body Tryd.func18 rfl (by kernel_rfl) (by kernel_rfl) ?_
  repeat' first
    | (with_reducible first | refine AWp_seq_k (fun K hK => ?_) | refine AWp_skip ?_ | refine AWp_regionE ?_ | refine AWp_condI ?_)
    | ((with_reducible refine ECall_intro (right_calls _ _ _ _ (ha.push _) hlx) ?_); rintro _ _ ⟨rfl, rfl⟩)
    | (simp only [thenA, inBlockA, reduceIte, Nat.reduceEqDiff])
    | ((with_reducible refine hK _ _ ?_); clear hK)
    | (simp only [ACond, RA, EAtS_def, EAtX_def, wantedA, acall, astep, ev, ofValue, ofAtom, Nat.reduceEqDiff, Nat.reduceAdd, Nat.reduceMul, Nat.reduceSub, reduceCtorEq, reduceIte, aoptEv, abin, aint, ashift, aun, astr, aeqGuard, isConstOp, aconvH, aofStr, aconvSame, isU8, abuildSlice, afill, splice, azeros, Nat.reduceLeDiff, Nat.reduceLT, Int.reduceLE, Int.reduceLT, Int.reduceEq, Int.reduceToNat, Int.reducePow, IntKind.bits, Int.reduceNeg, RB, aalloc, Go.PW.dig_length, tf18MaK, hd])
    | (simp (disch := first | omega | (simp only [RO]; done) | assumption) only [RS, six22, gix22, six48, gix48, six58, gix58, idx35, slh35, idx36, slh36, bst25_e, bst25_0, bst25_01])
    | (simp (disch := (first | omega | (simp only [RO]; done) | assumption | (simp only [RM, Go.PW.dig_length]; done) | (simp only [RL, Go.PW.dig_length]; omega))) only [RD, reduceCtorEq, reduceIte, Go.PW.dig_length, Nat.reduceLeDiff, Nat.reduceAdd, Nat.reduceMul, Int.reduceToNat, tf18MaK, hd])
  all_goals
    refine ECall_intro (Rows_calls n xs a _ (ha.push _) hr) ?_
    rintro r H1 ⟨p, vs, rfl, M, x0, hF⟩
    have l1 := x0.len
    repeat' first
      | (simp only [ACond, RA, EAtS_def, EAtX_def, wantedA, acall, astep, ev, ofValue, ofAtom, Nat.reduceEqDiff, Nat.reduceAdd, Nat.reduceMul, Nat.reduceSub, reduceCtorEq, reduceIte, aoptEv, abin, aint, ashift, aun, astr, aeqGuard, isConstOp, aconvH, aofStr, aconvSame, isU8, abuildSlice, afill, splice, azeros, Nat.reduceLeDiff, Nat.reduceLT, Int.reduceLE, Int.reduceLT, Int.reduceEq, Int.reduceToNat, Int.reducePow, IntKind.bits, Int.reduceNeg, RB, aalloc, Go.PW.dig_length, tf18MaK])
    refine ECall_intro (leading_calls n p (ent n xs) vs _ H1 M (St.zero n xs) h8 (ent_bound hr)) ?_
    rintro v H2 ⟨V, O⟩
    have hv1 : v.one = true := by rcases V with ⟨_, rfl⟩ | ⟨_, rfl, _⟩ <;> rfl
    have x2 := Off.toExt x0 O (fun h ⟨i, hi, e⟩ => by rw [e]; exact hF.2 i hi)
    repeat' first
      | (with_reducible first | refine AWp_ret ?_)
      | (simp only [thenA, inBlockA, reduceIte, Nat.reduceEqDiff])
      | ((with_reducible refine hK _ _ ?_); clear hK)
      | (simp only [ACond, RA, EAtS_def, EAtX_def, wantedA, acall, astep, ev, ofValue, ofAtom, Nat.reduceEqDiff, Nat.reduceAdd, Nat.reduceMul, Nat.reduceSub, reduceCtorEq, reduceIte, aoptEv, abin, aint, ashift, aun, astr, aeqGuard, isConstOp, aconvH, aofStr, aconvSame, isU8, abuildSlice, afill, splice, azeros, Nat.reduceLeDiff, Nat.reduceLT, Int.reduceLE, Int.reduceLT, Int.reduceEq, Int.reduceToNat, Int.reducePow, IntKind.bits, Int.reduceNeg, RB, aalloc, Go.PW.dig_length, tf18MaK])
    (
     (refine AEnd_gen (rs := [.tmp 2, .tmp 3]) rfl ?_)
     (simp only [AEndR, aresults, Fr.put_some, Fr.put_none, fr0_zero, fr0_succ, fr0_nil, Nat.reduceEqDiff, reduceIte])
     (try simp (disch := (first | omega | (simp only [RO]; done) | assumption | (simp only [RM, Go.PW.dig_length]; done) | (simp only [RL, Go.PW.dig_length]; omega))) only [RD, reduceCtorEq, reduceIte, Go.PW.dig_length, Nat.reduceLeDiff, Nat.reduceAdd, Nat.reduceMul, Int.reduceToNat, tf18MaK]))
    refine ⟨v, rfl, V.low ?_, (Ext.push _ _).trans x2⟩
    simp at l1; omega
/-- The name of the package. -/
abbrev elimS : ByteArray := ⟨#[101, 108, 105, 109]⟩
theorem Det_bad (n : Int) (xs : List Int) (a : AV) (H : Hp) (ha : Ints H .i64 a xs) (hlx : xs.length < 1000000) (hr : ¬ Right n xs) : ACalls Tryd.prog 10 [SymA n a] H fun r H' => ∃ v, r = .tup [W 0, v] ∧ Err H' v elimS 23 ∧ Ext H H' := by
  have ha1 : a.one = true := ha.rd.one
  have hc : a.cells = [a] := AV.cells_one ha1
  have hd : decide (Right n xs) = false := decide_eq_false hr
  have hw := fun H0 => wrap_calls elimS 23 H0
  refine ACalls_body Tryd.func10 rfl (by kernel_rfl) (by kernel_rfl) ?_
  repeat' first
    | (with_reducible first | refine AWp_seq_k (fun K hK => ?_) | refine AWp_ret ?_ | refine AWp_regionE ?_ | refine AWp_condI ?_)
    | ((with_reducible refine ECall_intro (right_calls _ _ _ _ ((ha.push _).push _) hlx) ?_); rintro _ _ ⟨rfl, rfl⟩)
    | ((with_reducible refine ECall_intro (hw _) ?_); rintro _ _ ⟨rfl, rfl⟩)
    | (simp only [thenA, inBlockA, reduceIte, Nat.reduceEqDiff])
    | ((with_reducible refine hK _ _ ?_); clear hK)
    | (simp only [ACond, RA, EAtS_def, EAtX_def, wantedA, acall, astep, ev, ofValue, ofAtom, Nat.reduceEqDiff, Nat.reduceAdd, Nat.reduceMul, Nat.reduceSub, reduceCtorEq, reduceIte, aoptEv, abin, aint, ashift, aun, astr, aeqGuard, isConstOp, aconvH, aofStr, aconvSame, isU8, abuildSlice, afill, splice, azeros, Nat.reduceLeDiff, Nat.reduceLT, Int.reduceLE, Int.reduceLT, Int.reduceEq, Int.reduceToNat, Int.reducePow, IntKind.bits, Int.reduceNeg, RB, aalloc, Go.PW.dig_length, tf10MaK, hd])
    | (simp (disch := first | omega | (simp only [RO]; done) | assumption) only [RS, six22, gix22, six48, gix48, six58, gix58, idx35, slh35, idx36, slh36, bst25_e, bst25_0, bst25_01])
    | (simp (disch := (first | omega | (simp only [RO]; done) | assumption | (simp only [RM, Go.PW.dig_length]; done) | (simp only [RL, Go.PW.dig_length]; omega))) only [RD, reduceCtorEq, reduceIte, Go.PW.dig_length, Nat.reduceLeDiff, Nat.reduceAdd, Nat.reduceMul, Int.reduceToNat, tf10MaK, hd])
  all_goals
    (
     (refine AEnd_gen (rs := [.cell 2 36, .tmp 3]) rfl ?_)
     (simp only [AEndR, aresults, Fr.put_some, Fr.put_none, fr0_zero, fr0_succ, fr0_nil, Nat.reduceEqDiff, reduceIte])
     (try simp (disch := (first | omega | (simp only [RO]; done) | assumption | (simp only [RM, Go.PW.dig_length]; done) | (simp only [RL, Go.PW.dig_length]; omega))) only [RD, reduceCtorEq, reduceIte, Go.PW.dig_length, Nat.reduceLeDiff, Nat.reduceAdd, Nat.reduceMul, Int.reduceToNat, tf10MaK]))
  all_goals exact ⟨_, rfl, ⟨_, rfl, hget_at (by simp)⟩, ((Ext.push _ _).pushed _).pushed _⟩
end Go.Proofs.YtfalfmfkifemeaaDoor
set_option linter.unusedVariables false
set_option linter.unusedSimpArgs false
namespace Go.Proofs.YtfalfmfkifemeaaDoor
open Go.AL Go.PW
theorem tf21RfA : type_of% (And.intro @tyb3 (And.intro @tyb27 (@tyb34))) := And.intro @tyb3 (And.intro @tyb27 (@tyb34))
theorem tf20RfA : type_of% (And.intro @tyb3 (And.intro @tyb4 (And.intro @tyb27 (And.intro @tyb28 (And.intro @tyb29 (@tyb34)))))) := And.intro @tyb3 (And.intro @tyb4 (And.intro @tyb27 (And.intro @tyb28 (And.intro @tyb29 (@tyb34)))))
set_option maxRecDepth 8000
/-- The block of some limbs. -/
abbrev Ub (xs : List Int) : Blk := ⟨xs.map (AV.int .u64), .own, 34⟩
/-- How many limbs stay when noughts behind go. -/
def tl (xs : List Int) : Nat → Nat
  | 0 => 0
  | k + 1 => if xs.getD k 0 = 0 then tl xs k else k + 1
theorem tl_le (xs : List Int) : ∀ k, tl xs k ≤ k
  | 0 => Nat.le_refl _
  | k + 1 => by
    unfold tl
    split
    · have := tl_le xs k; omega
    · exact Nat.le_refl _
theorem tl_z {xs : List Int} {m : Nat} (h : xs.getD m 0 = 0) : tl xs (m + 1) = tl xs m := by
  show (if xs.getD m 0 = 0 then tl xs m else m + 1) = tl xs m
  rw [if_pos h]
theorem tl_nz {xs : List Int} {m : Nat} (h : ¬ xs.getD m 0 = 0) : tl xs (m + 1) = m + 1 := by
  show (if xs.getD m 0 = 0 then tl xs m else m + 1) = m + 1
  rw [if_neg h]
theorem load_u64 {H : Hp} {h : Nat} {xs : List Int} (hg : hget H h = some (Ub xs)) {i : Nat} (hi : i < xs.length) : aload Tryd.prog H 34 (.ptr h i) = some (.int .u64 (xs.getD i 0)) := by
  rw [aload_ptr, hg]
  simp only [agg34]
  rw [if_neg (by decide)]
  exact map_get _ _ _ hi
theorem cut_u64 (h n m c : Nat) (hm : m ≤ c) : aslice Tryd.prog 27 (.sl h 0 n c) none (some (.int .i64 (m : Int))) none = some (.sl h 0 m c) := by
  have hb : abounds n c none (some (.int .i64 (m : Int))) none = some (0, m, c) := by
    simp [abounds, abound, hm]
  simp only [aslice, und27, size34, hb, Nat.zero_mul, Nat.add_zero, Nat.sub_zero]
  split <;> rfl
set_option maxHeartbeats 2000000 in
theorem trim_calls (h k c : Nat) (xs : List Int) (H : Hp) (hg : hget H h = some (Ub xs)) (hk : k ≤ xs.length) (hkc : k ≤ c) (hc : c < 1000000) : ACalls Tryd.prog 21 [.sl h 0 k c] H fun r H' => r = .sl h 0 (tl xs k) c ∧ H = H' := by
  refine ACalls_body Tryd.func21 rfl (by kernel_rfl) (by kernel_rfl) ?_
  repeat' first
    | (with_reducible first | refine AWp_seq_k (fun K hK => ?_) | refine AWp_block ?_ | refine AWp_regionE ?_)
    | (simp only [thenA, inBlockA, reduceIte, Nat.reduceEqDiff])
    | ((with_reducible refine hK _ _ ?_); clear hK)
    | (simp only [ACond, RA, EAtS_def, EAtX_def, wantedA, acall, astep, ev, ofValue, ofAtom, Nat.reduceEqDiff, Nat.reduceAdd, Nat.reduceMul, Nat.reduceSub, reduceCtorEq, reduceIte, aoptEv, abin, aint, ashift, aun, astr, aeqGuard, isConstOp, aconvH, aofStr, aconvSame, isU8, abuildSlice, afill, splice, azeros, Nat.reduceLeDiff, Nat.reduceLT, Int.reduceLE, Int.reduceLT, Int.reduceEq, Int.reduceToNat, Int.reducePow, IntKind.bits, Int.reduceNeg, RB, aalloc, Go.PW.dig_length, tf21RfA])
  refine AWp_loop (fun m fr' H' => m ≤ k ∧ fr' 0 = .sl h 0 m c ∧ tl xs m = tl xs k ∧ H = H') (m := k) ⟨Nat.le_refl _, rfl, rfl, rfl⟩ ?_
  rintro m fr' H' ⟨hm, k0, ht, rfl⟩
  cases m with
  | zero =>
    repeat' first
      | (with_reducible first | refine AWp_seq_k (fun K hK => ?_) | refine AWp_exit ?_ | refine AWp_ret ?_ | refine AWp_regionE ?_ | refine AWp_condI ?_)
      | (with_reducible refine EGuard_split (fun hc => ?_) (fun hc => ?_) <;> (try simp only [RC] at hc) <;> (try (exfalso; first | omega | contradiction)))
      | (simp only [thenA, inBlockA, reduceIte, Nat.reduceEqDiff])
      | ((with_reducible refine hK _ _ ?_); clear hK)
      | (clear hK; (with_reducible refine hK _ _ ?_); clear hK)
      | (simp only [ACond, RA, EAtS_def, EAtX_def, wantedA, acall, astep, ev, ofValue, ofAtom, Nat.reduceEqDiff, Nat.reduceAdd, Nat.reduceMul, Nat.reduceSub, reduceCtorEq, reduceIte, aoptEv, abin, aint, ashift, aun, astr, aeqGuard, isConstOp, aconvH, aofStr, aconvSame, isU8, abuildSlice, afill, splice, azeros, Nat.reduceLeDiff, Nat.reduceLT, Int.reduceLE, Int.reduceLT, Int.reduceEq, Int.reduceToNat, Int.reducePow, IntKind.bits, Int.reduceNeg, RB, aalloc, Go.PW.dig_length, tf21RfA, k0])
    (
     (refine AEnd_gen (rs := [.tmp 2]) rfl ?_)
     (simp only [AEndR, aresults, Fr.put_some, Fr.put_none, fr0_zero, fr0_succ, fr0_nil, Nat.reduceEqDiff, reduceIte])
     (try simp (disch := (first | omega | (simp only [RO]; done) | assumption | (simp only [RM, Go.PW.dig_length]; done) | (simp only [RL, Go.PW.dig_length]; omega))) only [RD, reduceCtorEq, reduceIte, Go.PW.dig_length, Nat.reduceLeDiff, Nat.reduceAdd, Nat.reduceMul, Int.reduceToNat, tf21RfA]))
    rw [← ht]; rfl
  | succ m =>
    have w1 : IntKind.i64.wrap (((m + 1 : Nat) : Int) - 1) = (m : Int) := by rw [wrap_i64_id (by omega) (by omega)]; omega
    have l1 := load_u64 hg (i := m) (by omega)
    have hpos : (((m + 1 : Nat) : Int) > 0) = True := eq_true (by omega)
    by_cases hx : xs.getD m 0 = 0
    · have hcut := cut_u64 h (m + 1) m c (by omega)
      repeat' first
        | (with_reducible first | refine AWp_seq_k (fun K hK => ?_) | refine AWp_block ?_ | refine AWp_skip ?_ | refine AWp_regionE ?_ | refine AWp_condI ?_)
        | (with_reducible refine EGuard_split (fun hc => ?_) (fun hc => ?_) <;> (try simp only [RC] at hc) <;> (try (exfalso; first | omega | contradiction)))
        | (with_reducible refine AIte (fun hc => ?_) (fun hc => ?_) <;> (try simp only [RC] at hc) <;> (try (exfalso; first | omega | contradiction)))
        | (simp only [thenA, inBlockA, reduceIte, Nat.reduceEqDiff])
        | ((with_reducible refine hK _ _ ?_); clear hK)
        | (simp only [ACond, RA, EAtS_def, EAtX_def, wantedA, acall, astep, ev, ofValue, ofAtom, Nat.reduceEqDiff, Nat.reduceAdd, Nat.reduceMul, Nat.reduceSub, reduceCtorEq, reduceIte, aoptEv, abin, aint, ashift, aun, astr, aeqGuard, isConstOp, aconvH, aofStr, aconvSame, isU8, abuildSlice, afill, splice, azeros, Nat.reduceLeDiff, Nat.reduceLT, Int.reduceLE, Int.reduceLT, Int.reduceEq, Int.reduceToNat, Int.reducePow, IntKind.bits, Int.reduceNeg, RB, aalloc, Go.PW.dig_length, tf21RfA, k0, w1, l1, hx, hcut])
        | (simp (disch := first | omega | (simp only [RO]; done) | assumption) only [RS, six27, gix27])
      all_goals exact ⟨m, by omega, by omega, rfl, by rw [← ht, tl_z hx]⟩
    · skip
      repeat' first
        | (with_reducible first | refine AWp_seq_k (fun K hK => ?_) | refine AWp_exit ?_ | refine AWp_ret ?_ | refine AWp_regionE ?_ | refine AWp_condI ?_)
        | (with_reducible refine EGuard_split (fun hc => ?_) (fun hc => ?_) <;> (try simp only [RC] at hc) <;> (try (exfalso; first | omega | contradiction)))
        | (with_reducible refine AIte (fun hc => ?_) (fun hc => ?_) <;> (try simp only [RC] at hc) <;> (try (exfalso; first | omega | contradiction)))
        | (simp only [thenA, inBlockA, reduceIte, Nat.reduceEqDiff])
        | ((with_reducible refine hK _ _ ?_); clear hK)
        | (clear hK; (with_reducible refine hK _ _ ?_); clear hK)
        | (simp only [ACond, RA, EAtS_def, EAtX_def, wantedA, acall, astep, ev, ofValue, ofAtom, Nat.reduceEqDiff, Nat.reduceAdd, Nat.reduceMul, Nat.reduceSub, reduceCtorEq, reduceIte, aoptEv, abin, aint, ashift, aun, astr, aeqGuard, isConstOp, aconvH, aofStr, aconvSame, isU8, abuildSlice, afill, splice, azeros, Nat.reduceLeDiff, Nat.reduceLT, Int.reduceLE, Int.reduceLT, Int.reduceEq, Int.reduceToNat, Int.reducePow, IntKind.bits, Int.reduceNeg, RB, aalloc, Go.PW.dig_length, tf21RfA, k0, w1, l1, hx])
        | (simp (disch := first | omega | (simp only [RO]; done) | assumption) only [RS, six27, gix27])
      all_goals
        (
         (refine AEnd_gen (rs := [.tmp 2]) rfl ?_)
         (simp only [AEndR, aresults, Fr.put_some, Fr.put_none, fr0_zero, fr0_succ, fr0_nil, Nat.reduceEqDiff, reduceIte])
         (try simp (disch := (first | omega | (simp only [RO]; done) | assumption | (simp only [RM, Go.PW.dig_length]; done) | (simp only [RL, Go.PW.dig_length]; omega))) only [RD, reduceCtorEq, reduceIte, Go.PW.dig_length, Nat.reduceLeDiff, Nat.reduceAdd, Nat.reduceMul, Int.reduceToNat, tf21RfA]))
      all_goals rw [← ht, tl_nz hx]
/-- A slice of limbs. -/
structure Uv (H : Hp) (s : AV) (xs : List Int) : Prop where
  rd : Ints H .u64 s xs
  ety : s = .nilS ∨ ∃ b, hget H s.hd = some b ∧ b.ety = 34
theorem Uv.ext {H H' : Hp} {s : AV} {xs : List Int} (u : Uv H s xs) (x : Ext H H') : Uv H' s xs :=
  ⟨u.rd.ext x, u.ety.imp id fun ⟨b, h1, h2⟩ => ⟨b, hget_ext h1 x, h2⟩⟩
theorem Uv.push {H : Hp} {s : AV} {xs : List Int} (u : Uv H s xs) (b : Blk) : Uv (H ++ [b]) s xs := u.ext (Ext.push _ _)
/-- Limbs without noughts behind. -/
structure Can (xs : List Int) : Prop where
  lim : Limbs xs
  top : xs = [] ∨ xs.getD (xs.length - 1) 0 ≠ 0
  len : xs.length < 100000
/-- A whole number of the reference. -/
structure Bs_ (H : Hp) (s : AV) (x : Int) : Prop where
  ex : ∃ xs, Uv H s xs ∧ Can xs ∧ val xs = x.natAbs
abbrev BV (x : Int) (s : AV) : AV := .agg [.bool (decide (x < 0)), s]
theorem Bs_.ext {H H' : Hp} {s : AV} {x : Int} (u : Bs_ H s x) (h : Ext H H') : Bs_ H' s x := by
  obtain ⟨xs, h1, h2⟩ := u.ex
  exact ⟨xs, h1.ext h, h2⟩
theorem Bs_.push {H : Hp} {s : AV} {x : Int} (u : Bs_ H s x) (b : Blk) : Bs_ (H ++ [b]) s x := u.ext (Ext.push _ _)
/-- A limb that isn't nought makes the number so. -/
theorem val_top {xs : List Int} (h : Limbs xs) {i : Nat} (hi : xs.getD i 0 ≠ 0) : Bs ^ i ≤ val xs := by
  have hlt : i < xs.length := by
    rcases Nat.lt_or_ge i xs.length with h | h
    · exact h
    · exact absurd (by rw [List.getD_eq_getElem?_getD, List.getElem?_eq_none h]; rfl) hi
  have h1 := val_take_succ xs hlt
  have h2 := val_take_drop xs (i + 1)
  have h3 := val_bound (h.take i)
  have h4 := val_bound (h.drop (i + 1))
  have h5 := h.get i
  have hp : (0 : Int) ≤ Bs ^ i := Int.le_of_lt (Int.pow_pos (by decide))
  have hp2 : (0 : Int) ≤ Bs ^ (min (i + 1) xs.length) := Int.le_of_lt (Int.pow_pos (by decide))
  have h6 : Bs ^ i * 1 ≤ Bs ^ i * xs.getD i 0 := Int.mul_le_mul_of_nonneg_left (by omega) hp
  have h7 := Int.mul_nonneg hp2 h4.1
  omega
theorem made_calls (neg : Bool) (s : AV) (xs : List Int) (H : Hp) (hs : Ints H .u64 s xs) : ACalls Tryd.prog 20 [.bool neg, s] H fun r H' => r = .agg [.bool (neg && decide (0 < xs.length)), s] ∧ H = H' := by
  refine ACalls.drop (R := fun r => r = .agg [.bool (neg && decide (0 < xs.length)), s]) ?_
  have hs1 : s.one = true := hs.rd.one
  have hc : s.cells = [s] := AV.cells_one hs1
  have hl := hs.rd.len und27
  have hlt := hs.rd.lt
  refine ACalls_body Tryd.func20 rfl (by kernel_rfl) (by kernel_rfl) ?_
  have hp : (0 < (xs.length : Int)) = (0 < xs.length) := propext (by omega)
  cases neg
  · skip
    repeat' first
      | (with_reducible first | refine AWp_seq_k (fun K hK => ?_) | refine AWp_ret ?_ | refine AWp_regionE ?_)
      | (simp only [thenA, inBlockA, reduceIte, Nat.reduceEqDiff])
      | ((with_reducible refine hK _ _ ?_); clear hK)
      | (simp only [ACond, RA, EAtS_def, EAtX_def, wantedA, acall, astep, ev, ofValue, ofAtom, Nat.reduceEqDiff, Nat.reduceAdd, Nat.reduceMul, Nat.reduceSub, reduceCtorEq, reduceIte, aoptEv, abin, aint, ashift, aun, astr, aeqGuard, isConstOp, aconvH, aofStr, aconvSame, isU8, abuildSlice, afill, splice, azeros, Nat.reduceLeDiff, Nat.reduceLT, Int.reduceLE, Int.reduceLT, Int.reduceEq, Int.reduceToNat, Int.reducePow, IntKind.bits, Int.reduceNeg, RB, aalloc, Go.PW.dig_length, tf20RfA, hl])
      | (simp (disch := first | omega | (simp only [RO]; done) | assumption) only [RS, six27, gix27, bst29_01])
      | (simp (disch := (first | omega | (simp only [RO]; done) | assumption | (simp only [RM, Go.PW.dig_length]; done) | (simp only [RL, Go.PW.dig_length]; omega))) only [RD, reduceCtorEq, reduceIte, Go.PW.dig_length, Nat.reduceLeDiff, Nat.reduceAdd, Nat.reduceMul, Int.reduceToNat, tf20RfA, hl])
    (
     (refine AEnd_gen (rs := [.cell 4 29]) rfl ?_)
     (simp only [AEndR, aresults, Fr.put_some, Fr.put_none, fr0_zero, fr0_succ, fr0_nil, Nat.reduceEqDiff, reduceIte])
     (try simp (disch := (first | omega | (simp only [RO]; done) | assumption | (simp only [RM, Go.PW.dig_length]; done) | (simp only [RL, Go.PW.dig_length]; omega))) only [RD, reduceCtorEq, reduceIte, Go.PW.dig_length, Nat.reduceLeDiff, Nat.reduceAdd, Nat.reduceMul, Int.reduceToNat, tf20RfA]))
    exact ⟨Ext.push _ _, by simp only [AV.lt, AV.lts]; exact ⟨trivial, hlt, trivial⟩⟩
  · skip
    repeat' first
      | (with_reducible first | refine AWp_seq_k (fun K hK => ?_) | refine AWp_ret ?_ | refine AWp_regionE ?_)
      | (simp only [thenA, inBlockA, reduceIte, Nat.reduceEqDiff])
      | ((with_reducible refine hK _ _ ?_); clear hK)
      | (simp only [ACond, RA, EAtS_def, EAtX_def, wantedA, acall, astep, ev, ofValue, ofAtom, Nat.reduceEqDiff, Nat.reduceAdd, Nat.reduceMul, Nat.reduceSub, reduceCtorEq, reduceIte, aoptEv, abin, aint, ashift, aun, astr, aeqGuard, isConstOp, aconvH, aofStr, aconvSame, isU8, abuildSlice, afill, splice, azeros, Nat.reduceLeDiff, Nat.reduceLT, Int.reduceLE, Int.reduceLT, Int.reduceEq, Int.reduceToNat, Int.reducePow, IntKind.bits, Int.reduceNeg, RB, aalloc, Go.PW.dig_length, tf20RfA, hl, hp])
      | (simp (disch := first | omega | (simp only [RO]; done) | assumption) only [RS, six27, gix27, bst29_01])
      | (simp (disch := (first | omega | (simp only [RO]; done) | assumption | (simp only [RM, Go.PW.dig_length]; done) | (simp only [RL, Go.PW.dig_length]; omega))) only [RD, reduceCtorEq, reduceIte, Go.PW.dig_length, Nat.reduceLeDiff, Nat.reduceAdd, Nat.reduceMul, Int.reduceToNat, tf20RfA, hl, hp])
    (
     (refine AEnd_gen (rs := [.cell 4 29]) rfl ?_)
     (simp only [AEndR, aresults, Fr.put_some, Fr.put_none, fr0_zero, fr0_succ, fr0_nil, Nat.reduceEqDiff, reduceIte])
     (try simp (disch := (first | omega | (simp only [RO]; done) | assumption | (simp only [RM, Go.PW.dig_length]; done) | (simp only [RL, Go.PW.dig_length]; omega))) only [RD, reduceCtorEq, reduceIte, Go.PW.dig_length, Nat.reduceLeDiff, Nat.reduceAdd, Nat.reduceMul, Int.reduceToNat, tf20RfA]))
    exact ⟨Ext.push _ _, by simp only [AV.lt, AV.lts]; exact ⟨trivial, hlt, trivial⟩⟩
theorem Bs_.nil {H : Hp} {s : AV} {x : Int} {xs : List Int} (c : Can xs) (hv : val xs = x.natAbs) : xs.length = 0 ↔ x = 0 := by
  constructor
  · intro h
    have : xs = [] := List.eq_nil_of_length_eq_zero h
    subst this
    simp [val] at hv; omega
  · intro h
    subst h
    rcases c.top with h | h
    · rw [h]; rfl
    · have h1 := val_top c.lim h
      have h2 : (0 : Int) < Bs ^ (xs.length - 1) := Int.pow_pos (by decide)
      simp at hv; omega
theorem Bs_.lt {H : Hp} {s : AV} {x : Int} (h : Bs_ H s x) : s.lt H.length := by
  obtain ⟨xs, u, _⟩ := h.ex
  exact u.rd.rd.lt
theorem Bs_.neg {H : Hp} {s : AV} {x : Int} (h : Bs_ H s x) : Bs_ H s (-x) := by
  obtain ⟨xs, u, c, hv⟩ := h.ex
  exact ⟨xs, u, c, by rw [hv, Int.natAbs_neg]⟩
end Go.Proofs.YtfalfmfkifemeaaDoor
set_option linter.unusedVariables false
set_option linter.unusedSimpArgs false
namespace Go.Proofs.YtfalfmfkifemeaaDoor
open Go.AL Go.PW
set_option maxRecDepth 8000
theorem Can.low {xs : List Int} (c : Can xs) (h : xs.length ≠ 0) : Bs ^ (xs.length - 1) ≤ val xs := by
  rcases c.top with e | e
  · rw [e] at h; exact absurd rfl h
  · exact val_top c.lim e
theorem val_len_lt {xs ys : List Int} (hx : Limbs xs) (c : Can ys) (h : xs.length < ys.length) : val xs < val ys := by
  have h1 := (val_bound hx).2
  have h2 := c.low (by omega)
  have h3 : Bs ^ xs.length ≤ Bs ^ (ys.length - 1) := by
    obtain ⟨d, hd⟩ : ∃ d, ys.length - 1 = xs.length + d := ⟨ys.length - 1 - xs.length, by omega⟩
    rw [hd, Int.pow_add]
    have h4 : (1 : Int) ≤ Bs ^ d := by
      have h6 : (0 : Int) < Bs ^ d := Int.pow_pos (by decide)
      omega
    have h5 : (0 : Int) ≤ Bs ^ xs.length := Int.le_of_lt (Int.pow_pos (by decide))
    have := Int.mul_le_mul_of_nonneg_left h4 h5
    omega
  omega
end Go.Proofs.YtfalfmfkifemeaaDoor

/- Regions whose order Go leaves open: one order, or a few, stand for all. -/
import Derived.Test.YtdlplfhkmhkngaaALl
set_option linter.unusedVariables false
set_option linter.unusedSimpArgs false
namespace Go.AL
open Go.RowKit

theorem AStep1.mono {P : Program} {ops : Array Oper} {o : Oper} {fr : Fr} {H : Hp} {X Y : Fr → Hp → Prop} (h : AStep1 P ops o fr H X) (hxy : ∀ fr' H', X fr' H' → Y fr' H') : AStep1 P ops o fr H Y := by
  unfold AStep1 AGuard AStep0 ACallX at h ⊢
  split at h
  · split at h
    · rename_i ht
      rw [if_pos ht]
      split at h
      · exact h.mono fun r H' hx => hxy _ _ hx
      · split at h
        · exact hxy _ _ h
        · exact h.elim
    · rename_i ht
      rw [if_neg ht]
      exact hxy _ _ h
  · exact h.elim

/-- What is looked at by an operation. -/
theorem evs_congr {fr fr' : Fr} {l : List Operand} (h : ∀ x ∈ l, ev fr x = ev fr' x) : l.map (ev fr) = l.map (ev fr') := List.map_congr_left h

theorem astep_congr {P : Program} {fr fr' : Fr} {H : Hp} {op : Op} (h : ∀ x ∈ op.operands, ev fr x = ev fr' x) : astep P fr H op = astep P fr' H op := by
  have opt : ∀ x : Option Operand, (∀ y ∈ x.toList, ev fr y = ev fr' y) → aoptEv fr x = aoptEv fr' x := by
    intro x hx
    cases x with
    | none => rfl
    | some y => simp [aoptEv, hx y (by simp)]
  have prt : ∀ ps : Array (Nat × Operand), (∀ x ∈ (ps.toList.map (·.2)), ev fr x = ev fr' x) → (ps.toList.map fun p => (p.1, ev fr p.2)) = ps.toList.map fun p => (p.1, ev fr' p.2) := by
    intro ps hp
    refine List.map_congr_left fun p hm => ?_
    rw [hp p.2 (List.mem_map.2 ⟨p, hm, rfl⟩)]
  cases op <;> simp only [Op.operands] at h <;> simp only [astep]
  case move x => rw [h x (by simp)]
  case assign x => rw [h x (by simp)]
  case pick c a b => rw [h c (by simp), h a (by simp), h b (by simp)]
  case box t x => rw [h x (by simp)]
  case build t ps => rw [prt ps (by simpa using h)]
  case buildSlice t n ps => rw [prt ps (by simpa using h)]
  case load t x => rw [h x (by simp)]
  case store t a x => rw [h a (by simp), h x (by simp)]
  case nilCheck x => rw [h x (by simp)]
  case binOp op t x y u => rw [h x (by simp), h y (by simp)]
  case unOp op t x => rw [h x (by simp)]
  case convert s d x => rw [h x (by simp)]
  case sliceToArrayPointer t x => rw [h x (by simp)]
  case makeInterface t x => rw [h x (by simp)]
  case makeSlice t l c => rw [h l (by simp), h c (by simp)]
  case slice t x lo hi mx =>
    have hx := h x (by simp)
    have hlo := opt lo (fun y hy => h y (by simp; simp at hy; simp [hy]))
    have hhi := opt hi (fun y hy => h y (by simp; simp at hy; simp [hy]))
    have hmx := opt mx (fun y hy => h y (by simp; simp at hy; simp [hy]))
    rw [hx, hlo, hhi, hmx]
  case fieldAddr s x f => rw [h x (by simp)]
  case field s x f => rw [h x (by simp)]
  case indexAddr t x i => rw [h x (by simp), h i (by simp)]
  case index t x i => rw [h x (by simp), h i (by simp)]
  case typeAssert x s t ok => rw [h x (by simp)]
  case extract x i => rw [h x (by simp)]
  case call c =>
    obtain ⟨callee, args, tys⟩ := c
    have ha : ∀ x ∈ args.toList, ev fr x = ev fr' x := fun x hx => h x (by simp [Call.operands]; exact .inr (by simpa using hx))
    cases callee with
    | value f => rfl
    | invoke r m => rfl
    | builtin b =>
      cases b <;> simp only
      case append =>
        split
        · rename_i s x t t' h1 h2
          rw [ha s (by rw [h1]; simp), ha x (by rw [h1]; simp)]
        · rfl
      case copy =>
        split
        · rename_i s x t t' h1 h2
          rw [ha s (by rw [h1]; simp), ha x (by rw [h1]; simp)]
        · rfl
      all_goals rw [evs_congr ha]

theorem acall_congr {P : Program} {fr fr' : Fr} {op : Op} (h : ∀ x ∈ op.operands, ev fr x = ev fr' x) : acall P fr op = acall P fr' op := by
  cases op <;> simp only [acall]
  rename_i c
  obtain ⟨callee, args, tys⟩ := c
  simp only [Op.operands, Call.operands] at h
  have ha : ∀ x ∈ args.toList, ev fr x = ev fr' x := fun x hx => h x (by simp; exact .inr (by simpa using hx))
  cases callee with
  | value f => simp only; rw [h f (by simp), evs_congr ha]
  | invoke r m => simp only; rw [h r (by simp), evs_congr ha]
  | builtin b => rfl

/-- Operations whose answer hangs on their operands alone. -/
def pureOp (P : Program) : Op → Bool
  | .move _ | .assign _ | .pick .. | .build .. | .nilCheck _ | .binOp .. | .unOp .. | .makeInterface .. | .slice .. | .fieldAddr .. | .field .. | .indexAddr .. | .index .. | .typeAssert .. | .extract .. | .sliceToArrayPointer .. => true
  | .convert s d _ => match P.underlying s, P.underlying d with
    | some (.int _), some (.int _) => true
    | _, _ => false
  | .call c => match c.callee with
    | .builtin .len | .builtin .cap | .builtin .min | .builtin .max => true
    | _ => false
  | _ => false

theorem pureOp_step {P : Program} {fr : Fr} {H : Hp} {op : Op} (hp : pureOp P op = true) {v : AV} {H1 : Hp} (h : astep P fr H op = some (v, H1)) : H1 = H ∧ ∀ H', astep P fr H' op = some (v, H') := by
  have key : ∀ {x : Option AV}, x.map (·, H) = some (v, H1) → H1 = H ∧ ∀ H' : Hp, x.map (·, H') = some (v, H') := by
    intro x hx
    obtain ⟨y, rfl, he⟩ := Option.map_eq_some_iff.1 hx
    cases he
    exact ⟨rfl, fun H' => rfl⟩
  cases op <;> simp only [pureOp, Bool.false_eq_true] at hp <;> simp only [astep] at h ⊢
  case move x => cases h; exact ⟨rfl, fun _ => rfl⟩
  case assign x => cases h; exact ⟨rfl, fun _ => rfl⟩
  case pick c a b => split at h <;> first | (cases h; exact ⟨rfl, fun _ => rfl⟩) | cases h
  case build t ps => exact key h
  case nilCheck x => split at h <;> first | (cases h; exact ⟨rfl, fun _ => rfl⟩) | cases h
  case binOp => exact key h
  case unOp => exact key h
  case makeInterface t x => split at h <;> first | (cases h; exact ⟨rfl, fun _ => rfl⟩) | cases h
  case slice => exact key h
  case fieldAddr => exact key h
  case field => exact key h
  case indexAddr => exact key h
  case index => exact key h
  case typeAssert => exact key h
  case extract x i => split at h <;> first | exact key h | cases h
  case sliceToArrayPointer t x =>
    split at h
    · split at h
      · rename_i hle; cases h; exact ⟨rfl, fun _ => by rw [if_pos hle]⟩
      · cases h
    · split at h
      · rename_i hle; cases h; exact ⟨rfl, fun _ => by rw [if_pos hle]⟩
      · cases h
    · cases h
  case convert s d x =>
    split at hp
    · rename_i k k' hs hd
      unfold aconv aconvH aofStr aconvSame at h ⊢
      rw [hs, hd] at h ⊢
      simp only at h ⊢
      cases hx : ev fr x <;> rw [hx] at h <;> simp only at h ⊢ <;> first | (cases h; done) | (cases h; exact ⟨rfl, fun _ => rfl⟩)
    · cases hp
  case call c =>
    obtain ⟨callee, args, tys⟩ := c
    simp only at hp
    split at hp <;> first | (cases hp; done) | exact key h

/-- Operations that leave the heap as it is (they may read it). -/
def quietOp (P : Program) : Op → Bool
  | .load .. => true
  | .convert s d _ => match P.underlying d with
    | some .string => true
    | some (.int _) => true
    | _ => false
  | op => pureOp P op

theorem quietOp_step {P : Program} {fr : Fr} {H : Hp} {op : Op} (hp : quietOp P op = true) {v : AV} {H1 : Hp} (h : astep P fr H op = some (v, H1)) : H1 = H := by
  cases op <;> simp only [quietOp] at hp
  case load t x =>
    simp only [astep] at h
    obtain ⟨y, _, he⟩ := Option.map_eq_some_iff.1 h
    cases he; rfl
  case convert s d x =>
    simp only [astep] at h
    split at h
    · cases h; rfl
    · exfalso
      have hno : ∀ e, P.underlying d ≠ some (.slice e) := by intro e he; rw [he] at hp; cases hp
      unfold aconvH at h
      split at h
      · rename_i r hr
        unfold aofStr at hr
        split at hr
        · rename_i h1 _; exact hno _ h1
        · cases hr
      · unfold aconvSame at h
        split at h
        · rename_i h1 _; exact hno _ h1
        · cases h
  all_goals first | (cases hp; done) | exact (pureOp_step hp h).1

/-- Nothing of this kind is called. -/
theorem quietOp_nocall {P : Program} {fr : Fr} {op : Op} (hp : quietOp P op = true) : acall P fr op = none := by
  cases op <;> simp only [quietOp, pureOp, Bool.false_eq_true] at hp <;> simp only [acall]
  rename_i c
  obtain ⟨callee, args, tys⟩ := c
  simp only at hp ⊢
  split at hp <;> first | rfl | cases hp

/-- Two operations that look at nothing that the other makes. -/
theorem ev_put {fr : Fr} {d : Option Tmp} {v : AV} {x : Operand} (h : ∀ t, d = some t → x ≠ .tmp t) : ev (fr.put d v) x = ev fr x := by
  cases d with
  | none => rfl
  | some d =>
    cases x with
    | tmp t =>
      have : t ≠ d := fun e => h d rfl (e ▸ rfl)
      simp [ev, Fr.put, this]
    | _ => rfl

theorem put_comm {fr : Fr} {d d' : Option Tmp} {v v' : AV} (h : ∀ t, d = some t → d' ≠ some t) : (fr.put d v).put d' v' = (fr.put d' v').put d v := by
  cases d with
  | none => rfl
  | some d =>
    cases d' with
    | none => rfl
    | some d' =>
      have hne : d' ≠ d := fun e => h d rfl (by rw [e])
      funext t
      simp only [Fr.put]
      by_cases h1 : t = d
      · subst h1; simp [Ne.symm hne]
      · simp [h1]

theorem looks_op {ops : Array Oper} {o : Oper} {d : Tmp} (h : d ∉ o.looksAt ops) : ∀ x ∈ o.op.operands, x ≠ .tmp d := by
  intro x hx e
  subst e
  apply h
  unfold Oper.looksAt
  refine List.mem_append_left _ ?_
  rw [List.mem_filterMap]
  exact ⟨.tmp d, by simpa using hx, rfl⟩
theorem looks_guard {ops : Array Oper} {o : Oper} {d : Tmp} (h : d ∉ o.looksAt ops) {fr : Fr} {v : AV} : wantedA ops (fr.put (some d) v) o = wantedA ops fr o := by
  unfold wantedA
  cases hg : o.guard with
  | none => rfl
  | some g =>
    obtain ⟨j, want⟩ := g
    simp only
    cases hd : (ops[j]?).bind (·.dst) with
    | none => rfl
    | some d' =>
      have : d' ≠ d := by
        intro e
        subst e
        apply h
        unfold Oper.looksAt
        refine List.mem_append_right _ ?_
        simp [hg, hd]
      simp [Fr.put, this]
theorem looks_guard' {ops : Array Oper} {o : Oper} {d : Option Tmp} (h : ∀ t, d = some t → t ∉ o.looksAt ops) {fr : Fr} {v : AV} : wantedA ops (fr.put d v) o = wantedA ops fr o := by
  cases d with
  | none => rfl
  | some d => exact looks_guard (h d rfl)

/-- A quiet operation comes to one value. -/
theorem AStep1.quiet {P : Program} {ops : Array Oper} {o : Oper} {fr : Fr} {H : Hp} {X : Fr → Hp → Prop} (hq : quietOp P o.op = true) (h : AStep1 P ops o fr H X) :
    ∃ v, X (fr.put o.dst v) H ∧ ∀ Y, Y (fr.put o.dst v) H → AStep1 P ops o fr H Y := by
  unfold AStep1 AGuard AStep0 ACallX at h
  split at h
  · rename_i t hw
    split at h
    · rename_i ht
      rw [quietOp_nocall hq] at h
      simp only at h
      split at h
      · rename_i v H' hs
        have hH := quietOp_step hq hs
        subst hH
        exact ⟨v, h, fun Y hY => by unfold AStep1 AGuard AStep0 ACallX; simp only [hw, ht, if_true, quietOp_nocall hq, hs]; exact hY⟩
      · exact h.elim
    · rename_i ht
      exact ⟨.tup [], h, fun Y hY => by unfold AStep1 AGuard AStep0 ACallX; simp only [hw, ht, if_false]; exact hY⟩
  · exact h.elim

/-- o may go ahead of p: it comes to the same. -/
def mayPass (P : Program) (ops : Array Oper) (o p : Oper) : Bool := o.apart ops p && (pureOp P o.op || (quietOp P o.op && quietOp P p.op))

theorem AStep1.swap {P : Program} {ops : Array Oper} {o p : Oper} {fr : Fr} {H : Hp} {X : Fr → Hp → Prop} (hm : mayPass P ops o p = true) (h : AStep1 P ops o fr H fun fr1 H1 => AStep1 P ops p fr1 H1 X) :
    AStep1 P ops p fr H fun fr1 H1 => AStep1 P ops o fr1 H1 X := by
  simp only [mayPass, Bool.and_eq_true, Bool.or_eq_true] at hm
  obtain ⟨hap, hk⟩ := hm
  obtain ⟨a1, a2, a3⟩ := Oper.apart_spec hap
  have hq : quietOp P o.op = true := by
    rcases hk with hk | hk
    · cases ho : o.op <;> rw [ho] at hk <;> simp only [pureOp, Bool.false_eq_true] at hk <;> simp only [quietOp, pureOp] <;> try exact hk
      split at hk
      · rename_i h1 h2; rw [h2]
      · cases hk
    · exact hk.1
  -- what o does from here
  have hpo : ∀ x ∈ p.op.operands, ∀ v, ev (fr.put o.dst v) x = ev fr x := fun x hx v => ev_put fun t ht => looks_op (a1 t ht) x hx
  have hop : ∀ x ∈ o.op.operands, ∀ v (fr : Fr), ev (fr.put p.dst v) x = ev fr x := fun x hx v fr => ev_put fun t ht => looks_op (a3 t ht) x hx
  have hpg : ∀ v, wantedA ops (fr.put o.dst v) p = wantedA ops fr p := fun v => looks_guard' fun t ht => a1 t ht
  have hog : ∀ v (fr : Fr), wantedA ops (fr.put p.dst v) o = wantedA ops fr o := fun v fr => looks_guard' fun t ht => a3 t ht
  -- o gives one value, here and behind p
  have hone : ∃ v, AStep1 P ops p (fr.put o.dst v) H X ∧ ∀ (u : AV) (H' : Hp) (Y : Fr → Hp → Prop), (H' = H ∨ pureOp P o.op = true) → Y ((fr.put p.dst u).put o.dst v) H' → AStep1 P ops o (fr.put p.dst u) H' Y := by
    unfold AStep1 AGuard AStep0 ACallX at h
    split at h
    · rename_i t hw
      split at h
      · rename_i ht
        rw [quietOp_nocall hq] at h
        simp only at h
        split at h
        · rename_i v H1 hs
          have hH := quietOp_step hq hs
          subst hH
          refine ⟨v, h, fun u H' Y hHH hY => ?_⟩
          have hs' : astep P (fr.put p.dst u) H' o.op = some (v, H') := by
            rw [astep_congr (fr' := fr) fun x hx => hop x hx u fr]
            rcases hHH with rfl | hp
            · exact hs
            · exact (pureOp_step hp hs).2 H'
          unfold AStep1 AGuard AStep0 ACallX
          simp only [hog, hw, ht, if_true, quietOp_nocall hq, hs']
          exact hY
        · exact h.elim
      · rename_i ht
        refine ⟨.tup [], h, fun u H' Y _ hY => ?_⟩
        unfold AStep1 AGuard AStep0 ACallX
        simp only [hog, hw, ht, if_false]
        exact hY
    · exact h.elim
  obtain ⟨v, h1, h2⟩ := hone
  have comm : ∀ u, (fr.put o.dst v).put p.dst u = (fr.put p.dst u).put o.dst v := fun u => put_comm a2
  unfold AStep1 AGuard AStep0 ACallX at h1
  rw [hpg] at h1
  unfold AStep1 AGuard AStep0 ACallX
  split at h1
  · rename_i t hw
    split at h1
    · rename_i ht
      rw [if_pos ht]
      rw [acall_congr (fr' := fr) fun x hx => hpo x hx v] at h1
      split at h1
      · rename_i f args hc
        refine h1.mono fun r H' hX => ?_
        have hpure : pureOp P o.op = true := by
          rcases hk with hk | hk
          · exact hk
          · rw [quietOp_nocall hk.2] at hc; cases hc
        exact h2 r H' X (.inr hpure) (by rw [← comm]; exact hX)
      · rw [astep_congr (fr' := fr) fun x hx => hpo x hx v] at h1
        split at h1
        · rename_i u H' hs
          refine h2 u H' X ?_ (by rw [← comm]; exact h1)
          rcases hk with hk | hk
          · exact .inr hk
          · exact .inl (quietOp_step hk.2 hs)
        · exact h1.elim
    · rename_i ht
      rw [if_neg ht]
      exact h2 (.tup []) H X (.inl rfl) (by rw [← comm]; exact h1)
  · exact h1.elim

end Go.AL

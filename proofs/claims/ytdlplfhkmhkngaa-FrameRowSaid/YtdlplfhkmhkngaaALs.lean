/- A slice of slices of integers that came in. -/
import Derived.Test.YtdlplfhkmhkngaaALr
set_option linter.unusedVariables false
set_option linter.unusedSimpArgs false
namespace Go.AL
open Go.RowKit

/-- What is known of the rows. -/
def RowsIn (w : World) (k : IntKind) (n : Nat) (Ad : Nat → Option Addr) (L C : Nat → Nat) (Z : Nat → List Int) : Prop :=
  ∀ r, r < n → L r ≤ C r ∧ C r ≤ maxLen ∧ (Z r).length = C r ∧ (∀ n ∈ Z r, (Lit.int k n).wf = true) ∧ (Ad r = none → C r = 0) ∧ ∀ a', Ad r = some a' → ∀ c, c < C r → w.cell? (a'.add c) = some (.int k ((Z r).getD c 0))

theorem RowsI.snoc {H : Hp} {k : IntKind} {u : AV} {xs : List Int} (hu : Ints H k u xs) : ∀ {vs : List AV} {xss : List (List Int)}, RowsI H k vs xss → RowsI H k (vs ++ [u]) (xss ++ [xs])
  | [], [], _ => ⟨hu, trivial⟩
  | v :: vs, ys :: xss, hr => ⟨hr.1, RowsI.snoc hu (vs := vs) hr.2⟩

theorem Args.rows {β : Nat → Bx} {H : Hp} {w : World} (A : Args β H w) (k : IntKind) (e : TypeId) {Ad : Nat → Option Addr} {L C : Nat → Nat} {Z : Nat → List Int} : ∀ {n : Nat}, RowsIn w k n Ad L C Z →
    ∃ β' H' vs xss, Args β' H' w ∧ Ext H H' ∧ Agree H.length β β' ∧ vs.length = n ∧ (∀ (i : Nat) (c : AV), vs[i]? = some c → VR β' c (.slice (Ad i) (L i) (C i))) ∧ AV.lts H'.length vs ∧ RowsI H' k vs xss ∧ (∀ xs ∈ xss, xs.length ≤ maxLen ∧ ∀ n ∈ xs, (Lit.int k n).wf = true)
  | 0, _ => ⟨β, H, [], [], A, Ext.refl _, Agree.refl _ _, rfl, fun i c h => by simp at h, trivial, trivial, fun _ h => by cases h⟩
  | n + 1, h => by
    obtain ⟨β1, H1, vs, xss, A1, x1, ag1, hl, hv, hlt, hr, hx⟩ := Args.rows A k e (n := n) fun r hr => h r (by omega)
    obtain ⟨r1, r2, r3, r4, r5, r6⟩ := h n (by omega)
    have hrow : (Ad n = none ∧ L n = 0 ∧ C n = 0 ∧ Z n = []) ∨ ∃ x, Ad n = some x ∧ L n ≤ C n ∧ C n ≤ maxLen ∧ (Z n).length = C n ∧ (∀ i, i < (Z n).length → w.cell? (x.add i) = some (.int k ((Z n).getD i 0))) ∧ ∀ m ∈ Z n, (Lit.int k m).wf = true := by
      cases ha : Ad n with
      | none =>
        have h0 := r5 ha
        exact .inl ⟨rfl, by omega, h0, List.eq_nil_of_length_eq_zero (by omega)⟩
      | some x => exact .inr ⟨x, rfl, r1, r2, r3, fun i hi => r6 x ha i (by omega), r4⟩
    obtain ⟨β2, H2, u, xs, A2, x2, ag2, hu, hul, hI, hxl, hxw⟩ := A1.ints e hrow
    have lts2 : AV.lts H2.length vs := AV.lts_mono x2.len vs hlt
    refine ⟨β2, H2, vs ++ [u], xss ++ [xs], A2, x1.trans x2, ag1.trans ag2 x1.len, by simp [hl], ?_, ?_, (hr.ext x2).snoc hI, ?_⟩
    · intro i c hc
      by_cases hi : i < vs.length
      · rw [List.getElem?_append_left hi] at hc
        exact VR_congr ag2 c _ ((AV.lts_iff.1 hlt) c (List.mem_of_getElem? hc)) (hv i c hc)
      · have hi' : i < (vs ++ [u]).length := (List.getElem?_eq_some_iff.1 hc).1
        obtain rfl : i = n := by simp at hi'; omega
        rw [List.getElem?_append_right (by omega), hl] at hc
        simp at hc
        subst hc
        exact hu
    · rw [AV.lts_iff]
      intro c hc
      rcases List.mem_append.1 hc with hc | hc
      · exact (AV.lts_iff.1 lts2) c hc
      · rw [List.mem_singleton.1 hc]; exact hul
    · intro ys hy
      rcases List.mem_append.1 hy with hy | hy
      · exact hx ys hy
      · rw [List.mem_singleton.1 hy]; exact ⟨hxl, hxw⟩

/-- The slice of them. -/
theorem Args.matrix {β : Nat → Bx} {H : Hp} {w : World} (A : Args β H w) (k : IntKind) (e e2 : TypeId) {a : Option Addr} {len cap : Nat} {Ad : Nat → Option Addr} {L C : Nat → Nat} {Z : Nat → List Int}
    (h : (a = none ∧ len = 0 ∧ cap = 0) ∨ ∃ x, a = some x ∧ len ≤ cap ∧ cap ≤ maxLen ∧ (∀ r, r < cap → w.cell? (x.add r) = some (.slice (Ad r) (L r) (C r))) ∧ RowsIn w k cap Ad L C Z) :
    ∃ β' H' u vs xss, Args β' H' w ∧ Ext H H' ∧ Agree H.length β β' ∧ VR β' u (.slice a len cap) ∧ u.lt H'.length ∧ Rd H' 1 u vs vs.length ∧ RowsI H' k vs xss ∧ vs.length ≤ maxLen ∧ (∀ xs ∈ xss, xs.length ≤ maxLen ∧ ∀ n ∈ xs, (Lit.int k n).wf = true) := by
  rcases h with ⟨rfl, rfl, rfl⟩ | ⟨x, rfl, hle, hm, hc, hr⟩
  · exact ⟨β, H, .nilS, [], [], A, Ext.refl _, Agree.refl _ _, rfl, trivial, Rd.nil _ _, trivial, Nat.zero_le _, fun _ h => by cases h⟩
  · obtain ⟨β1, H1, vs, xss, A1, x1, ag1, hl, hv, hlt, hrI, hx⟩ := A.rows k e (n := len) (w := w) fun r hr' => hr r (by omega)
    have hone : ∀ c ∈ vs, c.one = true := by
      intro c hc
      obtain ⟨i, hi, rfl⟩ := List.getElem_of_mem hc
      obtain ⟨v, h1, h2⟩ := hrI.get hi
      rw [List.getElem?_eq_getElem hi] at h1
      cases h1
      exact h2.rd.one
    obtain ⟨β2, H2, u, A2, x2, ag2, hu, hul, hrd⟩ := A1.slice (z := 1) (cs := vs) (len := len) (cap := cap) e2 (.inr ⟨x, rfl, hle, by omega, fun i c hi => by
      have hil : i < len := by have := (List.getElem?_eq_some_iff.1 hi).1; omega
      have hvr := hv i c hi
      exact ⟨_, hc i (by omega), hvr, VR_one hvr (hone c (List.mem_of_getElem? hi))⟩⟩) hlt
    refine ⟨β2, H2, u, vs, xss, A2, x1.trans x2, ag1.trans ag2 x1.len, hu, hul, by rw [hl]; exact hrd, hrI.ext x2, by omega, hx⟩
end Go.AL

/- Cut to what this claim names. -/
import Derived.Test.YtagmefjpnmjcjabQWWords
import Derived.Deep.Slices
import Derived.Deep.Fields
import Derived.Lib.SmallJoins
import Derived.ChangeSame
import Derived.WideShapes
/- Arguments are opened: whatever a value of a type reads as, its cells are a kind's (whole numbers, bools, strings, slices, structs of one-cell fields), without any condition. -/
namespace Go.Proofs.YtagmefjpnmjcjabOpen
open Go.RowKit Go.ChangeShapes Go.WideShapes Go.Deep Go.Proofs.YtagmefjpnmjcjabW.PrintWords
set_option linter.unusedVariables false

/-- Whatever a value of type t reads as, its cells are those of a value of the kind d, and ok holds of that. -/
def Opens {α : Type} (d : Kd α) (P : Program) (t : TypeId) (ok : α → Prop) : Prop :=
  ∀ (H : Type) (enc : TypeId × Value → H) (w : World) (base : Nat) (spare : Nat → Bool) (held : Bool) (fuel : Nat) (cs : List Value) (x : DataW H × List MemPlace),
    DataW.trod enc P w base spare held fuel t cs = some x → ∃ a, d.K w a cs ∧ ok a

theorem opens_int {P : Program} {t : TypeId} {k : IntKind} (ht : P.underlying t = some (.int k)) : Opens (Kd.int k) P t (fun n => (Lit.int k n).wf = true) := by
  intro H enc w base spare held fuel cs x h
  obtain ⟨n, rfl, _, hw⟩ := DataW.trod_int ht h
  exact ⟨n, rfl, hw⟩
theorem opens_string {P : Program} {t : TypeId} (ht : P.underlying t = some .string) : Opens Kd.string P t (fun s => s.size ≤ maxLen) := by
  intro H enc w base spare held fuel cs x h
  obtain ⟨n, rfl, _, hs⟩ := DataW.trod_string ht h
  exact ⟨n, rfl, hs⟩
theorem field_cell {P : Program} {t : TypeId} {fs : Array Field} {H : Type} {enc : TypeId × Value → H} {w : World} {base : Nat} {spare : Nat → Bool} {held : Bool} {fuel : Nat} {cs : List Value} {x : DataW H × List MemPlace}
    (ht : P.underlying t = some (.struct fs)) (hone : oneCellFields P fs = true) (hC : P.cellsOf t = fs.size) (h : DataW.trod enc P w base spare held fuel t cs = some x) :
    cs.length = fs.size ∧ ∃ n, ∀ (j : Nat) (f : Field), fs[j]? = some f → ∃ v y, cs[j]? = some v ∧ DataW.trod enc P w base spare held n f.type [v] = some y := by
  obtain ⟨ys, n', hn', hy, hlen, hyl, hf⟩ := DataW.trod_struct ht h
  rw [hC] at hlen
  refine ⟨hlen, n', fun j f hj => ?_⟩
  obtain ⟨ho, hk⟩ := hone_of hone j f hj
  have hjl : j < fs.size := (Array.getElem?_eq_some_iff.1 hj).1
  have h1 := hf j f hj
  rw [ho, hk] at h1
  have hone' : (cs.drop j).take 1 = [cs[j]'(by omega)] := by
    rw [List.drop_eq_getElem_cons (by omega)]
    rfl
  rw [hone'] at h1
  exact ⟨_, _, List.getElem?_eq_getElem (by omega), h1.trans (List.getElem?_eq_getElem (by omega))⟩
theorem opens_two {α β : Type} {d0 : Kd α} {d1 : Kd β} {P : Program} {t : TypeId} {f0 f1 : Field} {ok0 : α → Prop} {ok1 : β → Prop}
    (ht : P.underlying t = some (.struct #[f0, f1])) (hone : oneCellFields P #[f0, f1] = true) (hC : P.cellsOf t = 2)
    (h0 : Opens d0 P f0.type ok0) (h1 : Opens d1 P f1.type ok1) : Opens (Kd.pair d0 d1) P t (fun x => ok0 x.1 ∧ ok1 x.2) := by
  intro H enc w base spare held fuel cs x h
  obtain ⟨hl, n, hf⟩ := field_cell ht hone hC h
  obtain ⟨v0, y0, e0, t0⟩ := hf 0 f0 rfl
  obtain ⟨v1, y1, e1, t1⟩ := hf 1 f1 rfl
  obtain ⟨a0, k0, o0⟩ := h0 H enc w base spare held n _ _ t0
  obtain ⟨a1, k1, o1⟩ := h1 H enc w base spare held n _ _ t1
  match cs, hl with
  | [c0, c1], _ =>
    obtain rfl : c0 = v0 := by simpa using e0
    obtain rfl : c1 = v1 := by simpa using e1
    exact ⟨(a0, a1), ⟨[c0], [c1], rfl, k0, k1⟩, o0, o1⟩
theorem opens_three {α β γ : Type} {d0 : Kd α} {d1 : Kd β} {d2 : Kd γ} {P : Program} {t : TypeId} {f0 f1 f2 : Field} {ok0 : α → Prop} {ok1 : β → Prop} {ok2 : γ → Prop}
    (ht : P.underlying t = some (.struct #[f0, f1, f2])) (hone : oneCellFields P #[f0, f1, f2] = true) (hC : P.cellsOf t = 3)
    (h0 : Opens d0 P f0.type ok0) (h1 : Opens d1 P f1.type ok1) (h2 : Opens d2 P f2.type ok2) : Opens (Kd.pair d0 (Kd.pair d1 d2)) P t (fun x => ok0 x.1 ∧ ok1 x.2.1 ∧ ok2 x.2.2) := by
  intro H enc w base spare held fuel cs x h
  obtain ⟨hl, n, hf⟩ := field_cell ht hone hC h
  obtain ⟨v0, y0, e0, t0⟩ := hf 0 f0 rfl
  obtain ⟨v1, y1, e1, t1⟩ := hf 1 f1 rfl
  obtain ⟨v2, y2, e2, t2⟩ := hf 2 f2 rfl
  obtain ⟨a0, k0, o0⟩ := h0 H enc w base spare held n _ _ t0
  obtain ⟨a1, k1, o1⟩ := h1 H enc w base spare held n _ _ t1
  obtain ⟨a2, k2, o2⟩ := h2 H enc w base spare held n _ _ t2
  match cs, hl with
  | [c0, c1, c2], _ =>
    obtain rfl : c0 = v0 := by simpa using e0
    obtain rfl : c1 = v1 := by simpa using e1
    obtain rfl : c2 = v2 := by simpa using e2
    exact ⟨(a0, a1, a2), ⟨[c0], [c1, c2], rfl, k0, [c1], [c2], rfl, k1, k2⟩, o0, o1, o2⟩
theorem choose_list {α : Type} {p : Nat → α → Prop} : ∀ n, (∀ i, i < n → ∃ a, p i a) → ∃ l : List α, l.length = n ∧ ∀ i a, l[i]? = some a → p i a
  | 0, _ => ⟨[], rfl, fun i a h => by simp at h⟩
  | n + 1, h => by
    obtain ⟨l, hl, hp⟩ := choose_list n (fun i hi => h i (by omega))
    obtain ⟨a, ha⟩ := h n (by omega)
    refine ⟨l ++ [a], by simp [hl], fun i b hb => ?_⟩
    rcases Nat.lt_or_ge i n with hi | hi
    · rw [List.getElem?_append_left (by omega)] at hb
      exact hp i b hb
    · rw [List.getElem?_append_right (by omega)] at hb
      have hi2 : i = n := by
        have := (List.getElem?_eq_some_iff.1 hb).1
        simp at this
        omega
      subst hi2
      have : a = b := by simpa [hl] using hb
      subst this
      exact ha
theorem opens_slice {α : Type} {d : Kd α} {P : Program} {t e : TypeId} {ok : α → Prop} (ht : P.underlying t = some (.slice e)) (hC : P.cellsOf e = d.sz) (h : Opens d P e ok) :
    Opens (Kd.slice e d) P t (fun xs => ∀ x ∈ xs, ok x) := by
  intro H enc w base spare held fuel cs x hx
  rcases open_slice ht hx with ⟨rfl, _⟩ | ⟨a, len, cap, m, n, D, Pl, rfl, hb, hl, hm, hmm, _, hi⟩
  · exact ⟨[], ⟨none, 0, rfl, Nat.le_refl _, rfl, by simp, fun h => by simp at h⟩, fun x hx => by cases hx⟩
  · have hlm : len ≤ m := by rw [hmm]; split <;> omega
    obtain ⟨l, hll, hp⟩ := choose_list (p := fun i a' => (∃ c, c.length = d.sz ∧ d.K w a' c ∧ ∀ j u, c[j]? = some u → w.cell? (a.add (i * d.sz + j)) = some u) ∧ ok a') len (fun i hlt => by
      obtain ⟨cs', hc, htr⟩ := hi i (by omega)
      rw [hC] at hc
      obtain ⟨a', hK, ho⟩ := h H enc w base spare held n _ _ htr
      obtain ⟨_, hcl, hat⟩ := World.cells?_some hc
      refine ⟨a', ⟨cs', hcl, hK, fun j u hu => ?_⟩, ho⟩
      have hj : j < d.sz := by rw [← hcl]; exact (List.getElem?_eq_some_iff.1 hu).1
      have := hat j hj
      rw [← Go.Deep.add_add, this, hu])
    subst hll
    refine ⟨l, ⟨some a, cap, rfl, hl, rfl, ?_, fun _ => ⟨a, rfl, fun j p hj => ?_⟩⟩, fun x hx => ?_⟩
    · have : maxLen = 9223372036854775807 := rfl
      omega
    · obtain ⟨⟨c, h1, h2, h3⟩, _⟩ := hp j p hj
      exact ⟨c, h1, h2, h3⟩
    · obtain ⟨i, hi'⟩ := List.getElem?_of_mem hx
      exact (hp i x hi').2

/-- An argument is opened. -/
theorem arg_of {α : Type} {d : Kd α} {P : Program} {t : TypeId} {ok : α → Prop} (h : Opens d P t ok) {H : Type} {enc : TypeId × Value → H} {w : World} {base : Nat} {spare : Nat → Bool} {held : Bool} {v : Value} {dt : DataW H} {p : List MemPlace}
    (hd : DataW.Trod enc P w base spare held t v dt p) : ∃ a, d.K w a v.cells.toList ∧ ok a := by
  obtain ⟨fuel, hf⟩ := hd
  exact h H enc w base spare held fuel _ _ hf
theorem agg_of {P : Program} {t : TypeId} {fs : Array Field} {w : World} {r : Reach} {b0 : Nat} {v : Value} (ht : P.underlying t = some (.struct fs)) (hv : Value.okWide P w r b0 t v) {cs : List Value} (h : v.cells.toList = cs) : v = .agg cs.toArray := by
  obtain ⟨c, rfl, _⟩ := okWide_struct ht hv
  subst h
  simp [Value.cells]
end Go.Proofs.YtagmefjpnmjcjabOpen

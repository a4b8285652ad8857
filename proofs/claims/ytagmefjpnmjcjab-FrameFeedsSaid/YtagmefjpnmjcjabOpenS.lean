/- Arguments are opened, with what their sizes are bounded by. -/
import Derived.Test.YtagmefjpnmjcjabOpen
import Derived.SizedLaws
namespace Go.Proofs.YtagmefjpnmjcjabOpen
open Go.RowKit Go.ChangeShapes Go.WideShapes Go.Deep Go.Proofs.YtagmefjpnmjcjabW.PrintWords
set_option linter.unusedVariables false
/-- As Opens, where all sizes are below the reach. -/
def OpensS {α : Type} (d : Kd α) (P : Program) (t : TypeId) (ok : α → Prop) : Prop :=
  ∀ (H : Type) (enc : TypeId × Value → H) (w : World) (base : Nat) (spare : Nat → Bool) (held : Bool) (fuel : Nat) (cs : List Value) (x : DataW H × List MemPlace),
    DataW.trod enc P w base spare held fuel t cs = some x → (∀ n ∈ x.1.weights P t, n ≤ reachBytes) → ∃ a, d.K w a cs ∧ ok a
theorem opensS_of {α : Type} {d : Kd α} {P : Program} {t : TypeId} {ok : α → Prop} (h : Opens d P t ok) : OpensS d P t ok := fun H enc w base spare held fuel cs x hx _ => h H enc w base spare held fuel cs x hx
theorem weightsAll_mem {H : Type} {P : Program} {e : TypeId} : ∀ {l : List (DataW H)} {x : DataW H}, x ∈ l → ∀ n ∈ x.weights P e, n ∈ DataW.weightsAll P e l
  | y :: l, x, hx, n, hn => by
    simp only [DataW.weightsAll, List.mem_append]
    rcases List.mem_cons.1 hx with rfl | hx
    · exact .inl hn
    · exact .inr (weightsAll_mem hx n hn)
theorem opensS_slice {α : Type} {d : Kd α} {P : Program} {t e : TypeId} {ok : α → Prop} (ht : P.underlying t = some (.slice e)) (hC : P.cellsOf e = d.sz) (hb1 : 0 < P.bytesOf e) (h : OpensS d P e ok) :
    OpensS (Kd.slice e d) P t (fun xs => xs.length ≤ reachBytes ∧ ∀ x ∈ xs, ok x) := by
  intro H enc w base spare held fuel cs x hx hwt
  rcases open_slice ht hx with ⟨rfl, _⟩ | ⟨a, len, cap, m, n, D, Pl, rfl, hb, hl, hm, hmm, rfl, hi⟩
  · exact ⟨[], ⟨none, 0, rfl, Nat.le_refl _, rfl, by simp, fun h => by simp at h⟩, by simp, fun x hx => by cases hx⟩
  · have hlm : len ≤ m := by rw [hmm]; split <;> omega
    simp only [DataW.weights, ht] at hwt
    have hlen : len ≤ reachBytes := by
      have h1 := hwt _ (List.mem_cons_self)
      simp only [List.length_map, List.length_range] at h1
      calc len ≤ (len + (m - len)) * 1 := by omega
        _ ≤ (len + (m - len)) * P.bytesOf e := Nat.mul_le_mul_left _ hb1
        _ ≤ reachBytes := h1
    obtain ⟨l, hll, hp⟩ := choose_list (p := fun i a' => (∃ c, c.length = d.sz ∧ d.K w a' c ∧ ∀ j u, c[j]? = some u → w.cell? (a.add (i * d.sz + j)) = some u) ∧ ok a') len (fun i hlt => by
      obtain ⟨cs', hc, htr⟩ := hi i (by omega)
      rw [hC] at hc
      obtain ⟨a', hK, ho⟩ := h H enc w base spare held n _ _ htr (fun q hq => hwt q (List.mem_cons_of_mem _ (List.mem_append_left _ (weightsAll_mem (List.mem_map.2 ⟨i, List.mem_range.2 hlt, rfl⟩) q hq))))
      obtain ⟨_, hcl, hat⟩ := World.cells?_some hc
      refine ⟨a', ⟨cs', hcl, hK, fun j u hu => ?_⟩, ho⟩
      have hj : j < d.sz := by rw [← hcl]; exact (List.getElem?_eq_some_iff.1 hu).1
      have := hat j hj
      rw [← Go.Deep.add_add, this, hu])
    subst hll
    refine ⟨l, ⟨some a, cap, rfl, hl, rfl, ?_, fun _ => ⟨a, rfl, fun j p hj => ?_⟩⟩, hlen, fun x hx => ?_⟩
    · have : maxLen = 9223372036854775807 := rfl
      omega
    · obtain ⟨⟨c, h1, h2, h3⟩, _⟩ := hp j p hj
      exact ⟨c, h1, h2, h3⟩
    · obtain ⟨i, hi'⟩ := List.getElem?_of_mem hx
      exact (hp i x hi').2
theorem argS_of {α : Type} {d : Kd α} {P : Program} {t : TypeId} {ok : α → Prop} (h : OpensS d P t ok) {H : Type} {enc : TypeId × Value → H} {w : World} {base : Nat} {spare : Nat → Bool} {held : Bool} {v : Value} {dt : DataW H} {p : List MemPlace}
    (hd : DataW.Trod enc P w base spare held t v dt p) {ts : List TypeId} {ds : List (DataW H)} {j : Nat} (hsz : (DataW.weightsEach P ts ds).all (· ≤ reachBytes) = true) (hj : ts[j]? = some t) (hdj : ds[j]? = some dt) : ∃ a, d.K w a v.cells.toList ∧ ok a := by
  obtain ⟨fuel, hf⟩ := hd
  refine h H enc w base spare held fuel _ _ hf (fun n hn => ?_)
  have := List.all_eq_true.1 hsz n (DataW.weights_mem_each hj hdj n hn)
  simpa using this
end Go.Proofs.YtagmefjpnmjcjabOpen

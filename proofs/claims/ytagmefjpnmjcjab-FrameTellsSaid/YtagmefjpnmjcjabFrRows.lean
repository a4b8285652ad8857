/- Rows of frames beside a decoder: read between two numbers of blocks (TV), or made (TN). -/
import Derived.Test.YtagmefjpnmjcjabFrFeeds
namespace Go.Proofs.Ytagmefjpnmjcjab.Fh
open Go.RowKit Go.Proofs.YtagmefjpnmjcjabW.PrintWords Go.Proofs.YtagmefjpnmjcjabW.PrintLast Go.Proofs.YtagmefjpnmjcjabW.PrintMore
open Go.Proofs.Ytagmefjpnmjcjab.Fr
open Go.Proofs.Ytagmefjpnmjcjab.FrNum (readS read_eq Bytes)
set_option linter.unusedVariables false
set_option linter.unusedSimpArgs false
theorem info3i : (Try.prog.info? 3).map (fun i => (i.zero, i.size, i.bytes)) = some (some (.int .i64 0), 1, 8) := by kernel_rfl
/-- A row that is read; its blocks lie between lo and hi. -/
def TV {α : Type} (d : Kd α) (lo hi : Nat) (W : World) (v : Value) (l : List α) : Prop := Kd.V d 0 W 0 (fun k => lo < k ∧ k < hi) v l
section
variable {α : Type} {d : Kd α} {lo hi e base : Nat} {ok : Nat → Prop} {W W' : World} {v : Value} {l : List α}
theorem TV.of_R (h : Kd.R d e W base ok v l) (hl : lo < base) : TV d lo W.heap.size W v l := by
  have h2 : Kd.V d e W 0 _ v l := Kd.R_V (Kd.R_bound h)
  exact (Kd.V_mono h2 (fun k hk => ⟨Nat.lt_of_lt_of_le hl hk.2.1, hk.2.2.1⟩) : Kd.V d e W 0 (fun k => lo < k ∧ k < W.heap.size) v l)
theorem TV.wide {hi2 : Nat} (h : TV d lo hi W v l) (hh : hi ≤ hi2) : TV d lo hi2 W v l := Kd.V_mono h (fun k hk => ⟨hk.1, Nat.lt_of_lt_of_le hk.2 hh⟩)
theorem TV.below (h : TV d lo hi W v l) (hb : Below W.heap.size W W') : TV d lo hi W' v l := Kd.V_below h hb
theorem TV.alloc (h : TV d lo hi W v l) (o : Obj) : TV d lo hi (W.alloc o) v l := Kd.V_alloc h o
theorem TV.near (h : TV d lo hi W v l) (hn : Near W W' lo) : TV d lo hi W' v l := Kd.V_keep h hn.keep (fun k hk e => by omega)
theorem TV.grown (h : TV d lo hi W v l) {row : Option Nat} (hg : W.grownBy W' row) (hr : ∀ k, row = some k → hi ≤ k) : TV d lo hi W' v l := Kd.V_grown h hg (fun k hk e => by have := hr k e.symm; omega)
theorem TV.vv (h : TV d lo hi W v l) : Kd.V d e W 0 (fun k => lo < k ∧ k < hi) v l := h
theorem TV.slice (h : TV d lo hi W v l) : ∃ A c, v = .slice A l.length c := Kd.V_slice h
theorem TV.at_ {A : Option Addr} {n c : Nat} (h : TV d lo hi W (.slice A n c) l) : Kd.C d W A n l := by
  have h2 := Kd.V_reads' (show Kd.V d 0 W 0 _ (.slice A n c) l from h)
  rw [h2.1]
  exact h2.2.2
theorem C_cut {l : List Int} {A : Option Addr} {n c m t : Nat} (h : Kd.C (Kd.int .u8) W A n l) (hn : l.length = n) (hc : n ≤ c) (hm : m ≤ t) (ht : t ≤ n) : Kd.C (Kd.int .u8) W (if c = m then A else A.map (·.add (m * 1))) (t - m) ((l.take t).drop m) := by
  subst hn
  have h2 := Kd.C_mid (lo := m) (hi := t) (c := c) h hm ht hc
  rw [show ((l.take t).drop m).length = t - m by rw [List.length_drop, List.length_take]; omega] at h2
  exact h2
end
/-- A row of frames that is made, its own block at hi or above, nothing of it at lo or below. -/
def TN (lo hi : Nat) (W : World) (v : Value) (l : List S38) : Prop := Kd.N k38 38 W hi (fun k => lo < k) v l
section
variable {lo hi e base : Nat} {ok : Nat → Prop} {W W' : World} {v : Value} {l : List S38}
theorem TN.nil (lo hi : Nat) (W : World) : TN lo hi W (.slice none 0 0) [] := Kd.N_nil _ _ _ _ _
theorem TN.below (h : TN lo hi W v l) (hb : Below W.heap.size W W') : TN lo hi W' v l := Kd.N_below h hb
theorem TN.alloc (h : TN lo hi W v l) (o : Obj) : TN lo hi (W.alloc o) v l := Kd.N_alloc h o
theorem TN.near (h : TN lo hi W v l) (hn : Near W W' lo) : TN lo hi W' v l := Kd.N_keep h hn.keep (fun k hk e => by omega)
theorem TN.vv (h : TN lo hi W v l) : Kd.V k38 38 W 0 (fun k => lo < k) v l := Kd.N_V h
theorem TN.slice (h : TN lo hi W v l) : ∃ A c, v = .slice A l.length c := Kd.N_slice h
theorem TN.typed (h : TN lo hi W v l) : ∀ k, v.ownBlock = some k → ∃ cells, W.heap[k]? = some (.cells cells 38 (0, 0)) := Kd.N_typed h
theorem TN.base_ (h : TN lo hi W v l) : ∀ k, v.ownBlock = some k → hi ≤ k := Kd.N_base h
/-- A row that is behind an append to the made one. -/
def TF (lo : Nat) (W : World) (v : Value) (A : Option Addr) (n : Nat) (l : List S38) : Prop := Kd.F k38 W (fun k => lo < k ∧ some k ≠ v.ownBlock) A n l
theorem TN.none (lo : Nat) (W : World) (v : Value) : TF lo W v Option.none 0 [] := Kd.F_nil _ _ _
theorem TN.fresh {A : Option Addr} {n c : Nat} (h : Kd.R k38 38 W' W.heap.size ok (.slice A n c) l) {m : List S38} (ho : TN lo hi W v m) (hl : lo < W.heap.size) : TF lo W' v A n l := by
  have hlt : ∀ k, v.ownBlock = some k → k < W.heap.size := by
    exact Kd.N_lt ho
  exact Kd.F_mono (Kd.R_F (Kd.R_bound h)) (fun k hk => ⟨Nat.lt_of_lt_of_le hl hk.2.1, fun e => by have := hlt k e.symm; have := hk.2.1; omega⟩)
end
section
variable {ops : Array Oper} {rest : List Oper} {o : Oper} {a : Act} {Q : Exit → Act → World → Prop}
theorem TN.append_rows {lo hi : Nat} {W : World} {v : Value} {xs ys : List S38} {A : Option Addr} {m c : Nat} (hgd : o.guard = Option.none) (s x : Operand) (ho : o.op = .call { callee := .builtin .append, args := #[s, x], argTypes := #[54, 54] }) (hs : a.eval s = v) (hx : a.eval x = .slice A m c)
    (HO : TN lo hi W v xs) (HR : TF lo W v A m ys) (hw : hi ≤ W.heap.size) (hlo : lo < hi) (hl : xs.length + m ≤ 1000000)
    (h : ∀ v1 w1, TN lo hi w1 v1 (xs ++ ys) → W.grownBy w1 v.ownBlock → (∀ k, v.ownBlock = some k → hi ≤ k) → wpList Try.prog ops Q rest (a.put o.dst v1) w1) :
    wpList Try.prog ops Q (o :: rest) a W :=
  Kd.N_append_rows k38 (w0 := W) hi hgd s x 54 38 (.agg #[.int .u8 0, .slice Option.none 0 0]) 32 ho Try.underlying54 info38 rfl (by decide) (by omega) v xs ys A m c (fun k => lo < k) _ hs hx HO HR (fun _ hk => hk) (fun k hk => Nat.lt_of_lt_of_le hlo (Nat.le_trans hw hk)) (Below.refl _ _) hw (by omega) (fun v1 w1 h1 _ hg _ => h v1 w1 h1 hg (Kd.N_base HO))
end
end Go.Proofs.Ytagmefjpnmjcjab.Fh

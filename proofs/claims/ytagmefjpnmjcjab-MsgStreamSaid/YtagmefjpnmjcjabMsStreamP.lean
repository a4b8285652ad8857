/- A stream of messages, plain; and a row of messages that came in. -/
import Derived.Test.YtagmefjpnmjcjabMsC
namespace Go.Proofs.Ytagmefjpnmjcjab.Mh
open Go.RowKit Go.Proofs.YtagmefjpnmjcjabW.PrintWords Go.Proofs.YtagmefjpnmjcjabW.PrintLast Go.Proofs.YtagmefjpnmjcjabW.PrintMore
open Go.Proofs.Ytagmefjpnmjcjab.Fr (S38 k38)
open Go.Proofs.Ytagmefjpnmjcjab.FrNum (Bytes)
open Go.Proofs.Ytagmefjpnmjcjab.Fh (framesS framesS_more framesS_allB allB allB_bytes bytesS bytesS_eq bytesS_ok bytesS_len bytesS_bytes may bt_take bt_drop)
set_option linter.unusedVariables false
set_option linter.unusedSimpArgs false
structure S67 where
  f0 : Int
  f1 : List Int
  f2 : List ByteArray
def z67 : S67 := ⟨0, [], []⟩
def k67 : Kd S67 := Kd.iso (Kd.pair (Kd.int .i64) (Kd.pair (Kd.slice 23 (Kd.int .u64)) (Kd.slice 9 Kd.string))) (fun x : S67 => (x.f0, x.f1, x.f2))
theorem k67_open {w : World} {x : S67} {cs : List Value} (h : k67.K w x cs) : ∃ A1 c1 A2 c2, cs = [.int .i64 x.f0, .slice A1 x.f1.length c1, .slice A2 x.f2.length c2] ∧ x.f1.length ≤ c1 ∧ (Kd.int .u64).C w A1 x.f1.length x.f1 ∧ x.f2.length ≤ c2 ∧ Kd.string.C w A2 x.f2.length x.f2 := by
  obtain ⟨_, _, rfl, rfl, _, _, rfl, ⟨A1, c1, rfl, l1, g1⟩, ⟨A2, c2, rfl, l2, g2⟩⟩ := h
  exact ⟨A1, c1, A2, c2, rfl, l1, g1, l2, g2⟩
def rd_T67 (xs : List S67) (i : Int) : S67 := xs.getD i.toNat z67
theorem at_T67 {w : World} {A : Option Addr} {n : Nat} {xs : List S67} (h : Kd.C k67 w A n xs) (i : Int) (h0 : 0 ≤ i) (h1 : i < n) : ∃ ad A1 c1 A2 c2, A = some ad ∧ w.cell? (ad.add (i.toNat * 3)) = some (.int .i64 (rd_T67 xs i).f0) ∧ w.cell? ⟨(ad.add (i.toNat * 3)).block, (ad.add (i.toNat * 3)).off + 1, none⟩ = some (.slice A1 (rd_T67 xs i).f1.length c1) ∧ w.cell? ⟨(ad.add (i.toNat * 3)).block, (ad.add (i.toNat * 3)).off + 2, none⟩ = some (.slice A2 (rd_T67 xs i).f2.length c2) ∧ (rd_T67 xs i).f1.length ≤ c1 ∧ (Kd.int .u64).C w A1 (rd_T67 xs i).f1.length (rd_T67 xs i).f1 ∧ (rd_T67 xs i).f2.length ≤ c2 ∧ Kd.string.C w A2 (rd_T67 xs i).f2.length (rd_T67 xs i).f2 := by
  obtain ⟨ad, c, e, _, hK, hc0⟩ := Kd.C_get h z67 i h0 h1
  have hc : ∀ j u, c[j]? = some u → w.cell? (ad.add (i.toNat * 3 + j)) = some u := hc0
  obtain ⟨A1, c1, A2, c2, rfl, l1, g1, l2, g2⟩ := k67_open hK
  exact ⟨ad, A1, c1, A2, c2, e, hc 0 _ rfl, by rw [← add_field _ _ 1 (by omega)]; exact hc 1 _ rfl, by rw [← add_field _ _ 2 (by omega)]; exact hc 2 _ rfl, l1, g1, l2, g2⟩
theorem T67_eq (l : List S67) (i : Nat) (h : i < l.length) : rd_T67 l (i : Int) = l[i] := by
  unfold rd_T67
  rw [Int.toNat_natCast, List.getD_eq_getElem?_getD, List.getElem?_eq_getElem h]
  rfl
/-- The frame of a message. -/
def frm (m : S67) : S38 := ⟨m.f0, bodyM m.f0 m.f1 m.f2⟩
/-- May it be sent? -/
def sent (m : S67) : Prop := frameS m.f0 m.f1 m.f2 = (m.f0, bodyM m.f0 m.f1 m.f2, 0) ∧ 1 ≤ m.f0 ∧ m.f0 ≤ 14 ∧ (bodyM m.f0 m.f1 m.f2).length ≤ 300
theorem mbytes_or (k : Int) (ns : List Int) (ts : List ByteArray) : (mbytesS k ns ts).2 ≠ 0 ∨ (sent ⟨k, ns, ts⟩ ∧ mbytesS k ns ts = ((bytesS k (bodyM k ns ts)).1, 0)) := by
  unfold mbytesS
  rcases frameS_or k ns ts with ⟨_, h⟩ | ⟨_, h⟩ | ⟨hr, h, hl⟩
  · rw [h]; exact .inl (by simp)
  · rw [h]; exact .inl (by simp)
  · rw [h]
    simp only [if_true]
    have hk := rightS_kind hr
    rw [bytesS_eq (c := k) (by omega) hl]
    exact .inr ⟨⟨h, hk.1, hk.2, hl⟩, rfl⟩
theorem frm_may {l : List S67} (h : ∀ m ∈ l, sent m) : ∀ f ∈ l.map frm, may f := fun f hf => by
  obtain ⟨m, hm, rfl⟩ := List.mem_map.1 hf
  have := h m hm
  exact ⟨by show m.f0 ≠ 0; have := this.2.1; omega, this.2.2.2⟩
theorem frm_bytes {l : List S67} (h : ∀ m ∈ l, sent m) : ∀ f ∈ l.map frm, (0 ≤ f.f0 ∧ f.f0 < 256) ∧ Bytes f.f1 := fun f hf => by
  obtain ⟨m, hm, rfl⟩ := List.mem_map.1 hf
  have := h m hm
  exact ⟨by show 0 ≤ m.f0 ∧ m.f0 < 256; have := this.2; omega, bodyM_bytes _ _ _⟩
theorem allF_take {l : List S67} {i : Nat} (h : i < l.length) : allB ((l.take (i + 1)).map frm) = allB ((l.take i).map frm) ++ (bytesS l[i].f0 (bodyM l[i].f0 l[i].f1 l[i].f2)).1 := by
  have e : l.take (i + 1) = l.take i ++ [l[i]] := by rw [List.take_add_one, List.getElem?_eq_getElem h]; rfl
  rw [e, List.map_append]
  unfold allB
  rw [List.flatMap_append]
  simp [frm]
theorem allF_len : ∀ {l : List S67}, (∀ m ∈ l, sent m) → (allB (l.map frm)).length ≤ 303 * l.length
  | [], _ => by simp [allB]
  | m :: l, h => by
    have h1 := allF_len (l := l) (fun g hg => h g (List.mem_cons_of_mem _ hg))
    have h2 := h m (by simp)
    have e : allB ((m :: l).map frm) = (bytesS m.f0 (bodyM m.f0 m.f1 m.f2)).1 ++ allB (l.map frm) := rfl
    rw [e, List.length_append, bytesS_len (c := m.f0) (by have := h2.2.1; omega) h2.2.2.2, List.length_cons]
    have := h2.2.2.2
    omega
/-- No error ahead of the end, if there is none at it. -/
theorem framesS_prefix {b : List Int} (hb : Bytes b) (h : (framesS b).2.2 = 0) (m : Nat) : (framesS (b.take m)).2.2 = 0 := by
  have e := List.take_append_drop m b
  have hm := framesS_more (x := b.take m) (y := b.drop m) (by rw [e]; exact hb)
  rw [e] at hm
  by_cases c : (framesS (b.take m)).2.2 = 0
  · exact c
  · rw [if_neg c] at hm
    rw [hm] at h
    exact h
theorem sent_of (m : S67) (h : sent m) (h0 : ∀ n ∈ m.f1, 0 ≤ n) : ofS m.f0 (bodyM m.f0 m.f1 m.f2) = ((m.f0, m.f1, m.f2), 0) := by
  have := ofS_frameS (k := m.f0) (ns := m.f1) (ts := m.f2) h0 (by rw [h.1])
  rw [h.1] at this
  exact this
end Go.Proofs.Ytagmefjpnmjcjab.Mh

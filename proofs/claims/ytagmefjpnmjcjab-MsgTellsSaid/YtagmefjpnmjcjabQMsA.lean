/- Cut to what this claim names. -/
import Derived.Test.YtagmefjpnmjcjabQMsF
import Derived.Test.YtagmefjpnmjcjabQMsx2
import Derived.Laws.ResultCell
/- What messages are, in plain words: their shapes, their frames, and back. -/
namespace Go.Proofs.Ytagmefjpnmjcjab.Mh
open Go.RowKit Go.Proofs.Ytagmefjpnmjcjab.Nu Go.Proofs.YtagmefjpnmjcjabW.PrintWords
open Go.Proofs.Ytagmefjpnmjcjab.FrNum
open Go.Proofs.Ytagmefjpnmjcjab.Fh (bytesS bt_drop bt_take bt_right fits_2)
set_option linter.unusedVariables false
set_option linter.unusedSimpArgs false

/-- The sizes of a kind's numbers, and how many texts it has (-1: any). -/
def szS (k : Int) : Option (List Nat × Int) :=
  if k = 1 then some ([], 1) else if k = 2 then some ([4], 1) else if k = 3 then some ([4], 0) else if k = 4 then some ([], 0) else if k = 5 then some ([4], 0)
  else if k = 6 then some ([4, 4, 4], -1) else if k = 7 then some ([4, 4, 4], 0) else if k = 8 then some ([4, 1], 0) else if k = 9 then some ([4, 4, 1], 1) else if k = 10 then some ([4], 0)
  else if k = 11 then some ([4], 0) else if k = 12 then some ([4, 4, 4], -1) else if k = 13 then some ([4, 1, 4], 0) else if k = 14 then some ([4, 4, 4], 0) else none
/-- Its digits. -/
def digB (l : List Nat) : ByteArray := ⟨(l.map (fun n => UInt8.ofNat (48 + n))).toArray⟩
theorem szS_out {k : Int} (h : k < 1 ∨ 15 ≤ k) : szS k = none := by
  unfold szS
  rw [if_neg (by omega), if_neg (by omega), if_neg (by omega), if_neg (by omega), if_neg (by omega), if_neg (by omega), if_neg (by omega), if_neg (by omega), if_neg (by omega), if_neg (by omega), if_neg (by omega), if_neg (by omega), if_neg (by omega), if_neg (by omega)]
theorem szS_range {k : Int} {p : List Nat × Int} (h : szS k = some p) : k = 1 ∨ k = 2 ∨ k = 3 ∨ k = 4 ∨ k = 5 ∨ k = 6 ∨ k = 7 ∨ k = 8 ∨ k = 9 ∨ k = 10 ∨ k = 11 ∨ k = 12 ∨ k = 13 ∨ k = 14 := by
  have hk : ¬ (k < 1 ∨ 15 ≤ k) := fun hn => by rw [szS_out hn] at h; cases h
  omega
theorem szS_cases {k : Int} {z : List Nat} {tx : Int} (h : szS k = some (z, tx)) : (1 ≤ k ∧ k ≤ 14) ∧ z.length ≤ 3 ∧ (∀ s ∈ z, s = 4 ∨ s = 1) ∧ (tx = -1 ∨ tx = 0 ∨ tx = 1) := by
  rcases szS_range h with rfl | rfl | rfl | rfl | rfl | rfl | rfl | rfl | rfl | rfl | rfl | rfl | rfl | rfl <;> (injection h with h; injection h with h1 h2; subst h1 h2; exact ⟨by omega, by decide, by decide, by decide⟩)
theorem szS_none {k : Int} (h : szS k = none) : k < 1 ∨ 15 ≤ k := by
  apply Classical.byContradiction
  intro hn
  have hk : k = 1 ∨ k = 2 ∨ k = 3 ∨ k = 4 ∨ k = 5 ∨ k = 6 ∨ k = 7 ∨ k = 8 ∨ k = 9 ∨ k = 10 ∨ k = 11 ∨ k = 12 ∨ k = 13 ∨ k = 14 := by omega
  rcases hk with rfl | rfl | rfl | rfl | rfl | rfl | rfl | rfl | rfl | rfl | rfl | rfl | rfl | rfl <;> simp [szS] at h
theorem digB_size (l : List Nat) : (digB l).size = l.length := by simp [digB, ByteArray.size]
/-- Do numbers fit their sizes? -/
def allFit : List Nat → List Int → Bool
  | s :: z, n :: ns => fits (s : Int) n && allFit z ns
  | [], [] => true
  | _, _ => false
theorem allFit_len : ∀ {z : List Nat} {ns : List Int}, allFit z ns = true → ns.length = z.length
  | [], [], _ => rfl
  | [], _ :: _, h => by simp [allFit] at h
  | _ :: _, [], h => by simp [allFit] at h
  | s :: z, n :: ns, h => by
    simp only [allFit, Bool.and_eq_true] at h
    simp [allFit_len h.2]
/-- Their bytes. -/
def numsB : List Nat → List Int → List Int
  | s :: z, n :: ns => be s n ++ numsB z ns
  | _, _ => []
/-- The bytes of texts. -/
def textsB (ts : List ByteArray) : List Int := ts.flatMap (fun t => be 2 (t.size : Int) ++ bytesOf t)
/-- May texts be? -/
def textsOk (tx : Int) (ts : List ByteArray) : Bool := decide (ts.length ≤ 20) && (tx == -1 || (ts.length : Int) == tx) && !ts.any (fun t => decide (200 < t.size))
/-- May a message be? -/
def rightS (k : Int) (ns : List Int) (ts : List ByteArray) : Bool :=
  match szS k with
  | none => false
  | some (z, tx) => allFit z ns && textsOk tx ts
/-- The body of a message. -/
def bodyM (k : Int) (ns : List Int) (ts : List ByteArray) : List Int :=
  match szS k with
  | none => []
  | some (z, _) => numsB z ns ++ textsB ts
/-- Its frame: kind, body, error. -/
def frameS (k : Int) (ns : List Int) (ts : List ByteArray) : Int × List Int × Int :=
  if rightS k ns ts = true then (if (bodyM k ns ts).length > 300 then (0, [], 4) else (k, bodyM k ns ts, 0)) else (0, [], 1)
/-- Its bytes. -/
def mbytesS (k : Int) (ns : List Int) (ts : List ByteArray) : List Int × Int :=
  if (frameS k ns ts).2.2 = 0 then bytesS (frameS k ns ts).1 (frameS k ns ts).2.1 else ([], (frameS k ns ts).2.2)
/-- Numbers that bytes begin with. -/
def takeN : List Nat → List Int → Option (List Int × List Int)
  | [], b => some ([], b)
  | s :: z, b => if b.length < s then none else (takeN z (b.drop s)).map (fun r => (vl 0 (b.take s) :: r.1, r.2))
/-- The text that bytes begin with. -/
def text1 (b : List Int) : Option (ByteArray × List Int) :=
  if b.length < 2 then none else if ((b.drop 2).length : Int) < vl 0 (b.take 2) then none else some (strOfNums ((b.drop 2).take (vl 0 (b.take 2)).toNat), (b.drop 2).drop (vl 0 (b.take 2)).toNat)
theorem text1_lt {b : List Int} {t : ByteArray} {r : List Int} (h : text1 b = some (t, r)) : r.length < b.length := by
  unfold text1 at h
  by_cases c : b.length < 2
  · rw [if_pos c] at h; cases h
  · rw [if_neg c] at h
    by_cases c2 : ((b.drop 2).length : Int) < vl 0 (b.take 2)
    · rw [if_pos c2] at h; cases h
    · rw [if_neg c2] at h
      injection h with h
      injection h with _ h
      rw [← h, List.length_drop, List.length_drop]
      omega
/-- Texts, till no bytes are left. -/
def takeT : Nat → List Int → Option (List ByteArray)
  | 0, _ => none
  | k + 1, b => if b = [] then some [] else match text1 b with
    | none => none
    | some (t, r) => (takeT k r).map (fun l => t :: l)
theorem takeT_fuel : ∀ (k k2 : Nat) (b : List Int), b.length < k → b.length < k2 → takeT k b = takeT k2 b
  | 0, _, b, h, _ => by omega
  | k + 1, 0, b, _, h => by omega
  | k + 1, k2 + 1, b, h, h2 => by
    unfold takeT
    by_cases c : b = []
    · rw [if_pos c, if_pos c]
    · rw [if_neg c, if_neg c]
      cases e : text1 b with
      | none => rfl
      | some p =>
        obtain ⟨t, r⟩ := p
        have := text1_lt e
        simp only
        rw [takeT_fuel k k2 r (by omega) (by omega)]
/-- A frame's message: kind, numbers, texts; error. -/
def ofS (c : Int) (b : List Int) : (Int × List Int × List ByteArray) × Int :=
  match szS c with
  | none => ((0, [], []), 2)
  | some (z, _) =>
    if b.length > 300 then ((0, [], []), 2) else
      match takeN z b with
      | none => ((0, [], []), 2)
      | some (ns, r) => match takeT (r.length + 1) r with
        | none => ((0, [], []), 2)
        | some ts => if rightS c ns ts = true then ((c, ns, ts), 0) else ((0, [], []), 2)
theorem bytesOf_len (s : ByteArray) : (bytesOf s).length = s.size := by
  unfold bytesOf
  rw [List.length_map]
  exact Array.length_toList
theorem bytesOf_str {l : List Int} (h : Bytes l) : bytesOf (strOfNums l) = l := by
  have e : bytesOf (strOfNums l) = l.map (fun x => ((UInt8.ofNat x.toNat).toNat : Int)) := by simp [strOfNums, bytesOf]
  rw [e]
  refine (List.map_congr_left (g := id) (fun x hx => ?_)).trans (List.map_id l)
  have hx2 := h x hx
  rw [UInt8.toNat_ofNat', Nat.mod_eq_of_lt (by omega)]
  show ((x.toNat : Nat) : Int) = x
  omega
/-- And bytes come back from numbers and texts. -/
theorem numsB_takeN : ∀ {z : List Nat} {b : List Int} {ns : List Int} {r : List Int}, Bytes b → takeN z b = some (ns, r) → numsB z ns ++ r = b ∧ ns.length = z.length ∧ ∀ n ∈ ns, 0 ≤ n
  | [], b, ns, r, _, h => by
    injection h with h
    injection h with h1 h2
    subst h1 h2
    exact ⟨rfl, rfl, fun n hn => by cases hn⟩
  | s :: z, b, ns, r, hb, h => by
    unfold takeN at h
    by_cases c : b.length < s
    · rw [if_pos c] at h; cases h
    · rw [if_neg c] at h
      cases e : takeN z (b.drop s) with
      | none => rw [e] at h; cases h
      | some p =>
        obtain ⟨ms, q⟩ := p
        rw [e] at h
        injection h with h
        injection h with h1 h2
        subst h1 h2
        obtain ⟨i1, i2, i3⟩ := numsB_takeN (bt_drop hb s) e
        have hl : (b.take s).length = s := by rw [List.length_take]; omega
        have hv := be_vl (b.take s) (bt_take hb s) 0
        rw [hl] at hv
        refine ⟨?_, by simp [i2], fun n hn => ?_⟩
        · show be s (vl 0 (b.take s)) ++ numsB z ms ++ q = b
          rw [hv, List.append_assoc, i1, List.take_append_drop]
        · rcases List.mem_cons.1 hn with rfl | hn
          · exact (vl_bound _ (bt_take hb s)).1
          · exact i3 n hn
theorem text1_back {b : List Int} {t : ByteArray} {r : List Int} (hb : Bytes b) (h : text1 b = some (t, r)) : be 2 (t.size : Int) ++ bytesOf t ++ r = b ∧ t.size ≤ 65535 := by
  unfold text1 at h
  by_cases c : b.length < 2
  · rw [if_pos c] at h; cases h
  · rw [if_neg c] at h
    by_cases c2 : ((b.drop 2).length : Int) < vl 0 (b.take 2)
    · rw [if_pos c2] at h; cases h
    · rw [if_neg c2] at h
      injection h with h
      injection h with h1 h2
      have hl : (b.take 2).length = 2 := by rw [List.length_take]; omega
      have hv := vl_bound _ (bt_take hb 2)
      rw [hl] at hv
      have e : (256 : Int) ^ 2 = 65536 := by decide
      have hbe := be_vl (b.take 2) (bt_take hb 2) 0
      rw [hl] at hbe
      generalize vl 0 (b.take 2) = v at hv c2 h1 h2 hbe
      have hbt : bytesOf t = (b.drop 2).take v.toNat := by rw [← h1, bytesOf_str (bt_take (bt_drop hb 2) _)]
      have hts : t.size = v.toNat := by rw [← bytesOf_len, hbt, List.length_take]; omega
      refine ⟨?_, by omega⟩
      rw [hbt, hts, show ((v.toNat : Nat) : Int) = v by omega, hbe, ← h2, List.append_assoc, List.take_append_drop, List.take_append_drop]
theorem textsB_takeT : ∀ {k : Nat} {b : List Int} {ts : List ByteArray}, Bytes b → takeT k b = some ts → textsB ts = b
  | 0, _, _, _, h => by cases h
  | k + 1, b, ts, hb, h => by
    unfold takeT at h
    by_cases c : b = []
    · rw [if_pos c] at h
      injection h with h
      subst h
      exact c.symm
    · rw [if_neg c] at h
      cases e : text1 b with
      | none => rw [e] at h; cases h
      | some p =>
        obtain ⟨t, r⟩ := p
        rw [e] at h
        simp only at h
        cases e2 : takeT k r with
        | none => rw [e2] at h; cases h
        | some l =>
          rw [e2] at h
          injection h with h
          subst h
          obtain ⟨h1, _⟩ := text1_back hb e
          have hr : Bytes r := bt_right (by rw [h1]; exact hb)
          have e3 : textsB (t :: l) = be 2 (t.size : Int) ++ bytesOf t ++ textsB l := rfl
          rw [e3, textsB_takeT hr e2, h1]
theorem textsOk_small {tx : Int} {ts : List ByteArray} (h : textsOk tx ts = true) : ts.length ≤ 20 ∧ ∀ t ∈ ts, t.size ≤ 200 := by
  simp only [textsOk, Bool.and_eq_true, decide_eq_true_eq, Bool.not_eq_true', List.any_eq_false] at h
  exact ⟨h.1.1, fun t ht => by have := h.2 t ht; omega⟩
/-- A frame comes back from its message. -/
theorem frameS_ofS {c : Int} {b : List Int} (hb : Bytes b) (h : (ofS c b).2 = 0) : frameS (ofS c b).1.1 (ofS c b).1.2.1 (ofS c b).1.2.2 = (c, b, 0) ∧ (ofS c b).1.1 = c ∧ rightS (ofS c b).1.1 (ofS c b).1.2.1 (ofS c b).1.2.2 = true := by
  unfold ofS at h ⊢
  cases e : szS c with
  | none => rw [e] at h; simp at h
  | some p =>
    obtain ⟨z, tx⟩ := p
    rw [e] at h
    simp only at h ⊢
    by_cases c1 : b.length > 300
    · rw [if_pos c1] at h; simp at h
    · rw [if_neg c1] at h ⊢
      cases e1 : takeN z b with
      | none => rw [e1] at h; simp at h
      | some p1 =>
        obtain ⟨ns, r⟩ := p1
        rw [e1] at h
        simp only at h ⊢
        cases e2 : takeT (r.length + 1) r with
        | none => rw [e2] at h; simp at h
        | some ts =>
          rw [e2] at h
          simp only at h ⊢
          by_cases c2 : rightS c ns ts = true
          · rw [if_pos c2] at h ⊢
            simp only
            refine ⟨?_, trivial, c2⟩
            obtain ⟨h1, _, _⟩ := numsB_takeN hb e1
            have hr : Bytes r := bt_right (by rw [h1]; exact hb)
            have h2 := textsB_takeT hr e2
            have hbody : bodyM c ns ts = b := by unfold bodyM; rw [e]; simp only; rw [h2, h1]
            unfold frameS
            rw [if_pos c2, hbody, if_neg c1]
          · rw [if_neg c2] at h; simp at h
end Go.Proofs.Ytagmefjpnmjcjab.Mh

/- A store of a whole value into a block of the call's own, as one step. -/
namespace Go.Proofs.Ytagmefjpnmjcjab.Mh
open Go.RowKit Go.Proofs.YtagmefjpnmjcjabW.PrintWords Go.Proofs.YtagmefjpnmjcjabW.PrintLast Go.Proofs.YtagmefjpnmjcjabW.PrintMore
set_option linter.unusedVariables false
set_option linter.unusedSimpArgs false
/-- Block g alone was written. -/
def St (W W1 : World) (g : Nat) : Prop := (∀ k, k ≠ g → W1.heap[k]? = W.heap[k]?) ∧ W1.os = W.os ∧ W1.tape = W.tape ∧ W1.output = W.output ∧ W1.heap.size = W.heap.size
section
variable {W W1 w0 : World} {g B k : Nat}
theorem St.below (h : St W W1 g) (hb : Below B w0 W) (hg : B ≤ g) : Below B w0 W1 := hb.trans ⟨h.2.1, h.2.2.1, h.2.2.2.1, by rw [h.2.2.2.2]; exact Nat.le_refl _, fun i hi => h.1 i (by omega)⟩
theorem St.blk {o : Obj} (h : St W W1 g) (hb : W.heap[k]? = some o) (hne : k ≠ g) : W1.heap[k]? = some o := (h.1 k hne).trans hb
theorem St.size (h : St W W1 g) : W1.heap.size = W.heap.size := h.2.2.2.2
theorem St.R {α : Type} {d : Kd α} {e base : Nat} {ok : Nat → Prop} {v : Value} {l : List α} (h : St W W1 g) (hr : Kd.R d e W base ok v l) (hok : ∀ k, ok k → k ≠ g) : Kd.R d e W1 base ok v l := Kd.R_step hr (fun k hk _ => h.1 k (hok k hk))
theorem St.V {α : Type} {d : Kd α} {e base : Nat} {ok : Nat → Prop} {v : Value} {l : List α} (h : St W W1 g) (hr : Kd.V d e W base ok v l) (hok : ∀ k, ok k → k ≠ g) : Kd.V d e W1 base ok v l := Kd.V_step hr (fun k hk _ => h.1 k (hok k hk))
end
section
variable {P : Program} {ops : Array Oper} {rest : List Oper} {o : Oper} {a : Act} {Q : Exit → Act → World → Prop}
theorem store_event {W : World} (t : TypeId) (p x : Operand) (ho : o.op = .store t p x) (hN : o.dst = none) (hgd : o.guard = none) {g off : Nat} {e : TypeId} (cur cur2 : Array Value) {u : Value} (seg : List Value)
    (haddr : a.eval p = .pointer (some ⟨g, off, none⟩)) (hx : a.eval x = u) (hu : u.cells.toList = seg) (ht : (P.info? t).map (·.size) = some seg.length) (hb : W.heap[g]? = some (.cells cur e (0, 0))) (hfit : off + seg.length ≤ cur.size)
    (h1 : seg.all (·.oneCell') = true) (hc : cur.toList.take off ++ seg ++ cur.toList.drop (off + seg.length) = cur2.toList) (h : ∀ w1, w1.heap[g]? = some (.cells cur2 e (0, 0)) → St W w1 g → wpList P ops Q rest a w1) : wpList P ops Q (o :: rest) a W := by
  have hrun : (Instr.storeAt t (.pointer (some ⟨g, off, none⟩)) u).run P W = .ok () (W.setCells g off seg) := run_store_run t u seg hb hu ht hfit (fun q hq => List.all_eq_true.1 h1 q hq)
  obtain ⟨cur', h3, h4, h5⟩ := setCells_row seg off W cur hb hfit
  have hcc : cur' = cur2 := by
    apply Array.ext'
    rw [h5, hc]
  subst hcc
  obtain ⟨s1, s2, s3, s4⟩ := setCells_same g seg off W
  refine wpList_plain hgd fun K hK => ?_
  unfold Oper.wp execOp
  simp only [ho, haddr, hx, Sem.run_bind, Sem.run_pure, Result.andThen_ok, hrun]
  show K (a.put o.dst undef) _
  rw [hN]
  exact hK a _ (h _ h3 ⟨fun k hk => setCells_far seg off k hk, s1, s2, s3, s4⟩)
end
end Go.Proofs.Ytagmefjpnmjcjab.Mh

/- The messages' shapes (package msg), and the library's search of a text, by hand. -/
namespace Go.Proofs.Ytagmefjpnmjcjab.Mh
open Go.RowKit Go.Proofs.YtagmefjpnmjcjabW.PrintWords Go.Proofs.YtagmefjpnmjcjabW.PrintLast Go.Proofs.YtagmefjpnmjcjabW.PrintMore
attribute [local go_sem] max2_int min2_int max_two min_two
set_option linter.unusedVariables false
set_option linter.unusedSimpArgs false
theorem size97 : (Try.prog.info? 97).map (·.size) = some 2 := by kernel_rfl
theorem size109 : (Try.prog.info? 109).map (·.size) = some 30 := by kernel_rfl
theorem shape_cells {W : World} {g m : Nat} {z : List Nat} {tx : Int} (h : W.heap[g]? = some (.cells #[.string ⟨#[]⟩, .int .i64 0, .string ⟨#[]⟩, .int .i64 1, .string ⟨#[52]⟩, .int .i64 1, .string ⟨#[52]⟩, .int .i64 0, .string ⟨#[]⟩, .int .i64 0, .string ⟨#[52]⟩, .int .i64 0, .string ⟨#[52, 52, 52]⟩, .int .i64 (-1), .string ⟨#[52, 52, 52]⟩, .int .i64 0, .string ⟨#[52, 49]⟩, .int .i64 0, .string ⟨#[52, 52, 49]⟩, .int .i64 1, .string ⟨#[52]⟩, .int .i64 0, .string ⟨#[52]⟩, .int .i64 0, .string ⟨#[52, 52, 52]⟩, .int .i64 (-1), .string ⟨#[52, 49, 52]⟩, .int .i64 0, .string ⟨#[52, 52, 52]⟩, .int .i64 0] 109 (0, 0))) (hs : szS (m : Int) = some (z, tx)) : W.cell? ⟨g, m * 2, none⟩ = some (.string (digB z)) ∧ W.cell? ⟨g, m * 2 + 1, none⟩ = some (.int .i64 tx) := by
  have hm : m = 1 ∨ m = 2 ∨ m = 3 ∨ m = 4 ∨ m = 5 ∨ m = 6 ∨ m = 7 ∨ m = 8 ∨ m = 9 ∨ m = 10 ∨ m = 11 ∨ m = 12 ∨ m = 13 ∨ m = 14 := by have := szS_range hs; omega
  rcases hm with rfl | rfl | rfl | rfl | rfl | rfl | rfl | rfl | rfl | rfl | rfl | rfl | rfl | rfl <;> (injection hs with hs; injection hs with h1 h2; subst h1 h2; exact ⟨(blk_cell h _).trans rfl, (blk_cell h _).trans rfl⟩)
set_option maxHeartbeats 8000000 in
set_option maxRecDepth 100000 in
theorem shaped_any (w : World) (m : Nat) (z : List Nat) (tx : Int) (sb : ByteArray) (HS : Aside0 (szS (m : Int) = some (z, tx))) (HSB : Aside0 (digB z = sb)) (hk : 1 ≤ (m : Int) ∧ (m : Int) ≤ 14) :
    Calls Try.prog 56 #[.int .i64 (m : Int)] w fun e w' => e = .returned (.tuple #[.agg #[.string sb, .int .i64 tx], .bool true]) ∧ Below w.heap.size w w' := by
  have HB := Aside0.mk (Below.refl w.heap.size w)
  have hu97 := Try.underlying97
  have hu109 := Try.underlying109
  have b0 : decide ((m : Int) < 1) = false := decide_eq_false (by omega)
  have b1 : decide (15 ≤ (m : Int)) = false := decide_eq_false (by omega)
  have p1 : 0 ≤ (m : Int) := by omega
  have p2 : (m : Int) < 15 := by omega
  clear hk
  go_enter Try.func56, Try.ntmps56
  go_wp2_with (first | ((with_reducible refine gate_dst (N := 2) rfl ?_); refine box_event ?hg (N := 2) ?hd (cs := #[.string ⟨#[]⟩, .int .i64 0]) (t := 97) ?hr ?_; (case hd => rfl); (case hg => rfl); (case hr => first | (go_simp; done) | (go_simp; rfl)); intro g2 hgb wa hbox hb; have HBX2 := Aside0.mk hbox; have HGE2 := Aside0.mk (show w.heap.size ≤ g2 by rw [hgb]; exact Nat.le_refl _); have HB_ := Aside0.mk hb; clear HB hgb hbox hb; have HB := HB_; clear HB_) | ((with_reducible refine gate_dst (N := 4) rfl ?_); refine box_event ?hg (N := 4) ?hd (cs := #[.string ⟨#[]⟩, .int .i64 0, .string ⟨#[]⟩, .int .i64 0, .string ⟨#[]⟩, .int .i64 0, .string ⟨#[]⟩, .int .i64 0, .string ⟨#[]⟩, .int .i64 0, .string ⟨#[]⟩, .int .i64 0, .string ⟨#[]⟩, .int .i64 0, .string ⟨#[]⟩, .int .i64 0, .string ⟨#[]⟩, .int .i64 0, .string ⟨#[]⟩, .int .i64 0, .string ⟨#[]⟩, .int .i64 0, .string ⟨#[]⟩, .int .i64 0, .string ⟨#[]⟩, .int .i64 0, .string ⟨#[]⟩, .int .i64 0, .string ⟨#[]⟩, .int .i64 0]) (t := 109) ?hr ?_; (case hd => rfl); (case hg => rfl); (case hr => first | (go_simp; done) | (go_simp; rfl)); intro g4 hgb wb hbox hb; have HBX4 := Aside0.mk hbox; have HGE4 := Aside0.mk (show w.heap.size ≤ g4 by rw [hgb]; exact HB.out.size); have HNE := Aside0.mk (show g2 ≠ g4 by have := blk_lt HBX2.out; omega); have HBX2_ := Aside0.mk ((hb.block g2 (blk_lt HBX2.out)).trans HBX2.out); have HB_ := Aside0.mk (below_step HB.out hb); clear HBX2 HB; have HBX2 := HBX2_; have HB := HB_; clear HBX2_ HB_; clear hgb hbox hb) | ((with_reducible refine gate_ (.store 109 (.tmp 4) (.tmp 19)) rfl ?_); refine store_event 109 (.tmp 4) (.tmp 19) rfl rfl rfl (g := g4) #[.string ⟨#[]⟩, .int .i64 0, .string ⟨#[]⟩, .int .i64 0, .string ⟨#[]⟩, .int .i64 0, .string ⟨#[]⟩, .int .i64 0, .string ⟨#[]⟩, .int .i64 0, .string ⟨#[]⟩, .int .i64 0, .string ⟨#[]⟩, .int .i64 0, .string ⟨#[]⟩, .int .i64 0, .string ⟨#[]⟩, .int .i64 0, .string ⟨#[]⟩, .int .i64 0, .string ⟨#[]⟩, .int .i64 0, .string ⟨#[]⟩, .int .i64 0, .string ⟨#[]⟩, .int .i64 0, .string ⟨#[]⟩, .int .i64 0, .string ⟨#[]⟩, .int .i64 0] #[.string ⟨#[]⟩, .int .i64 0, .string ⟨#[]⟩, .int .i64 1, .string ⟨#[52]⟩, .int .i64 1, .string ⟨#[52]⟩, .int .i64 0, .string ⟨#[]⟩, .int .i64 0, .string ⟨#[52]⟩, .int .i64 0, .string ⟨#[52, 52, 52]⟩, .int .i64 (-1), .string ⟨#[52, 52, 52]⟩, .int .i64 0, .string ⟨#[52, 49]⟩, .int .i64 0, .string ⟨#[52, 52, 49]⟩, .int .i64 1, .string ⟨#[52]⟩, .int .i64 0, .string ⟨#[52]⟩, .int .i64 0, .string ⟨#[52, 52, 52]⟩, .int .i64 (-1), .string ⟨#[52, 49, 52]⟩, .int .i64 0, .string ⟨#[52, 52, 52]⟩, .int .i64 0] [.string ⟨#[]⟩, .int .i64 0, .string ⟨#[]⟩, .int .i64 1, .string ⟨#[52]⟩, .int .i64 1, .string ⟨#[52]⟩, .int .i64 0, .string ⟨#[]⟩, .int .i64 0, .string ⟨#[52]⟩, .int .i64 0, .string ⟨#[52, 52, 52]⟩, .int .i64 (-1), .string ⟨#[52, 52, 52]⟩, .int .i64 0, .string ⟨#[52, 49]⟩, .int .i64 0, .string ⟨#[52, 52, 49]⟩, .int .i64 1, .string ⟨#[52]⟩, .int .i64 0, .string ⟨#[52]⟩, .int .i64 0, .string ⟨#[52, 52, 52]⟩, .int .i64 (-1), .string ⟨#[52, 49, 52]⟩, .int .i64 0, .string ⟨#[52, 52, 52]⟩, .int .i64 0] rfl rfl rfl size109 HBX4.out (by decide) (by rfl) rfl ?_; intro wc hbox hs; have HBX2_ := Aside0.mk (hs.blk HBX2.out HNE.out); have HB_ := Aside0.mk (hs.below HB.out HGE4.out); clear HBX2 HB; have HBX2 := HBX2_; have HB := HB_; clear HBX2_ HB_; have HBX4_ := Aside0.mk hbox; clear HBX4 hbox hs; have HBX4 := HBX4_; clear HBX4_; have hy0 : wc.cell? ⟨g4, m * 2, none⟩ = some (.string sb) := HSB.out ▸ (shape_cells HBX4.out HS.out).1; have hy1 : wc.cell? ⟨g4, m * 2 + 1, none⟩ = some (.int .i64 tx) := (shape_cells HBX4.out HS.out).2) | ((with_reducible refine gate_ (.store 97 (.tmp 2) (.tmp 29)) rfl ?_); refine store_event 97 (.tmp 2) (.tmp 29) rfl rfl rfl (g := g2) #[.string ⟨#[]⟩, .int .i64 0] #[.string sb, .int .i64 tx] [.string sb, .int .i64 tx] rfl rfl rfl size97 HBX2.out (by simp) (by rfl) rfl ?_; intro wd hbox hs; have HB_ := Aside0.mk (hs.below HB.out HGE2.out); clear HB; have HB := HB_; clear HB_; have hz0 : wd.cell? ⟨g2, 0, none⟩ = some (.string sb) := (blk_cell hbox 0).trans rfl; have hz1 : wd.cell? ⟨g2, 1, none⟩ = some (.int .i64 tx) := (blk_cell hbox 1).trans rfl; clear hbox hs))
  (try simp only [Exit.inBlock, Exit.then])
  refine bodyPost_ret (v := .tuple #[.agg #[.string sb, .int .i64 tx], .bool true]) ?_ rfl ⟨rfl, HB.out⟩
  rw [results_cell_tmp rfl]
  go_simp
set_option maxHeartbeats 8000000 in
set_option maxRecDepth 100000 in
theorem shaped_low (w : World) (k : Int) (h : k < 1) :
    Calls Try.prog 56 #[.int .i64 k] w fun e w' => e = .returned (.tuple #[.agg #[.string ⟨#[]⟩, .int .i64 0], .bool false]) ∧ Below w.heap.size w w' := by
  have HB := Aside0.mk (Below.refl w.heap.size w)
  have hu97 := Try.underlying97
  have hu109 := Try.underlying109
  have b0 : decide (k < 1) = true := decide_eq_true h
  clear h
  go_enter Try.func56, Try.ntmps56
  go_wp2_with (first | ((with_reducible refine gate_dst (N := 2) rfl ?_); refine box_event ?hg (N := 2) ?hd (cs := #[.string ⟨#[]⟩, .int .i64 0]) (t := 97) ?hr ?_; (case hd => rfl); (case hg => rfl); (case hr => first | (go_simp; done) | (go_simp; rfl)); intro g2 hgb wa hbox hb; have HBX2 := Aside0.mk hbox; have HGE2 := Aside0.mk (show w.heap.size ≤ g2 by rw [hgb]; exact Nat.le_refl _); have HB_ := Aside0.mk hb; clear HB hgb hbox hb; have HB := HB_; clear HB_) | ((with_reducible refine gate_dst (N := 4) rfl ?_); refine box_event ?hg (N := 4) ?hd (cs := #[.string ⟨#[]⟩, .int .i64 0, .string ⟨#[]⟩, .int .i64 0, .string ⟨#[]⟩, .int .i64 0, .string ⟨#[]⟩, .int .i64 0, .string ⟨#[]⟩, .int .i64 0, .string ⟨#[]⟩, .int .i64 0, .string ⟨#[]⟩, .int .i64 0, .string ⟨#[]⟩, .int .i64 0, .string ⟨#[]⟩, .int .i64 0, .string ⟨#[]⟩, .int .i64 0, .string ⟨#[]⟩, .int .i64 0, .string ⟨#[]⟩, .int .i64 0, .string ⟨#[]⟩, .int .i64 0, .string ⟨#[]⟩, .int .i64 0, .string ⟨#[]⟩, .int .i64 0]) (t := 109) ?hr ?_; (case hd => rfl); (case hg => rfl); (case hr => first | (go_simp; done) | (go_simp; rfl)); intro g4 hgb wb hbox hb; have HBX4 := Aside0.mk hbox; have HGE4 := Aside0.mk (show w.heap.size ≤ g4 by rw [hgb]; exact HB.out.size); have HNE := Aside0.mk (show g2 ≠ g4 by have := blk_lt HBX2.out; omega); have HBX2_ := Aside0.mk ((hb.block g2 (blk_lt HBX2.out)).trans HBX2.out); have HB_ := Aside0.mk (below_step HB.out hb); clear HBX2 HB; have HBX2 := HBX2_; have HB := HB_; clear HBX2_ HB_; clear hgb hbox hb) | ((with_reducible refine gate_ (.store 109 (.tmp 4) (.tmp 19)) rfl ?_); refine store_event 109 (.tmp 4) (.tmp 19) rfl rfl rfl (g := g4) #[.string ⟨#[]⟩, .int .i64 0, .string ⟨#[]⟩, .int .i64 0, .string ⟨#[]⟩, .int .i64 0, .string ⟨#[]⟩, .int .i64 0, .string ⟨#[]⟩, .int .i64 0, .string ⟨#[]⟩, .int .i64 0, .string ⟨#[]⟩, .int .i64 0, .string ⟨#[]⟩, .int .i64 0, .string ⟨#[]⟩, .int .i64 0, .string ⟨#[]⟩, .int .i64 0, .string ⟨#[]⟩, .int .i64 0, .string ⟨#[]⟩, .int .i64 0, .string ⟨#[]⟩, .int .i64 0, .string ⟨#[]⟩, .int .i64 0, .string ⟨#[]⟩, .int .i64 0] #[.string ⟨#[]⟩, .int .i64 0, .string ⟨#[]⟩, .int .i64 1, .string ⟨#[52]⟩, .int .i64 1, .string ⟨#[52]⟩, .int .i64 0, .string ⟨#[]⟩, .int .i64 0, .string ⟨#[52]⟩, .int .i64 0, .string ⟨#[52, 52, 52]⟩, .int .i64 (-1), .string ⟨#[52, 52, 52]⟩, .int .i64 0, .string ⟨#[52, 49]⟩, .int .i64 0, .string ⟨#[52, 52, 49]⟩, .int .i64 1, .string ⟨#[52]⟩, .int .i64 0, .string ⟨#[52]⟩, .int .i64 0, .string ⟨#[52, 52, 52]⟩, .int .i64 (-1), .string ⟨#[52, 49, 52]⟩, .int .i64 0, .string ⟨#[52, 52, 52]⟩, .int .i64 0] [.string ⟨#[]⟩, .int .i64 0, .string ⟨#[]⟩, .int .i64 1, .string ⟨#[52]⟩, .int .i64 1, .string ⟨#[52]⟩, .int .i64 0, .string ⟨#[]⟩, .int .i64 0, .string ⟨#[52]⟩, .int .i64 0, .string ⟨#[52, 52, 52]⟩, .int .i64 (-1), .string ⟨#[52, 52, 52]⟩, .int .i64 0, .string ⟨#[52, 49]⟩, .int .i64 0, .string ⟨#[52, 52, 49]⟩, .int .i64 1, .string ⟨#[52]⟩, .int .i64 0, .string ⟨#[52]⟩, .int .i64 0, .string ⟨#[52, 52, 52]⟩, .int .i64 (-1), .string ⟨#[52, 49, 52]⟩, .int .i64 0, .string ⟨#[52, 52, 52]⟩, .int .i64 0] rfl rfl rfl size109 HBX4.out (by decide) (by rfl) rfl ?_; intro wc hbox hs; have HBX2_ := Aside0.mk (hs.blk HBX2.out HNE.out); have HB_ := Aside0.mk (hs.below HB.out HGE4.out); clear HBX2 HB; have HBX2 := HBX2_; have HB := HB_; clear HBX2_ HB_; have HBX4_ := Aside0.mk hbox; clear HBX4 hbox hs; have HBX4 := HBX4_; clear HBX4_; skip) | ((with_reducible refine gate_ (.store 97 (.tmp 2) (.tmp 26)) rfl ?_); refine store_event 97 (.tmp 2) (.tmp 26) rfl rfl rfl (g := g2) #[.string ⟨#[]⟩, .int .i64 0] #[.string ⟨#[]⟩, .int .i64 0] [.string ⟨#[]⟩, .int .i64 0] rfl rfl rfl size97 HBX2.out (by simp) (by rfl) rfl ?_; intro wd hbox hs; have HB_ := Aside0.mk (hs.below HB.out HGE2.out); clear HB; have HB := HB_; clear HB_; have hz0 : wd.cell? ⟨g2, 0, none⟩ = some (.string ⟨#[]⟩) := (blk_cell hbox 0).trans rfl; have hz1 : wd.cell? ⟨g2, 1, none⟩ = some (.int .i64 0) := (blk_cell hbox 1).trans rfl; clear hbox hs))
  (try simp only [Exit.inBlock, Exit.then])
  refine bodyPost_ret (v := .tuple #[.agg #[.string ⟨#[]⟩, .int .i64 0], .bool false]) ?_ rfl ⟨rfl, HB.out⟩
  rw [results_cell_tmp rfl]
  go_simp
set_option maxHeartbeats 8000000 in
set_option maxRecDepth 100000 in
theorem shaped_high (w : World) (k : Int) (h : 15 ≤ k) :
    Calls Try.prog 56 #[.int .i64 k] w fun e w' => e = .returned (.tuple #[.agg #[.string ⟨#[]⟩, .int .i64 0], .bool false]) ∧ Below w.heap.size w w' := by
  have HB := Aside0.mk (Below.refl w.heap.size w)
  have hu97 := Try.underlying97
  have hu109 := Try.underlying109
  have b0 : decide (k < 1) = false := decide_eq_false (by omega)
  have b1 : decide (15 ≤ k) = true := decide_eq_true h
  clear h
  go_enter Try.func56, Try.ntmps56
  go_wp2_with (first | ((with_reducible refine gate_dst (N := 2) rfl ?_); refine box_event ?hg (N := 2) ?hd (cs := #[.string ⟨#[]⟩, .int .i64 0]) (t := 97) ?hr ?_; (case hd => rfl); (case hg => rfl); (case hr => first | (go_simp; done) | (go_simp; rfl)); intro g2 hgb wa hbox hb; have HBX2 := Aside0.mk hbox; have HGE2 := Aside0.mk (show w.heap.size ≤ g2 by rw [hgb]; exact Nat.le_refl _); have HB_ := Aside0.mk hb; clear HB hgb hbox hb; have HB := HB_; clear HB_) | ((with_reducible refine gate_dst (N := 4) rfl ?_); refine box_event ?hg (N := 4) ?hd (cs := #[.string ⟨#[]⟩, .int .i64 0, .string ⟨#[]⟩, .int .i64 0, .string ⟨#[]⟩, .int .i64 0, .string ⟨#[]⟩, .int .i64 0, .string ⟨#[]⟩, .int .i64 0, .string ⟨#[]⟩, .int .i64 0, .string ⟨#[]⟩, .int .i64 0, .string ⟨#[]⟩, .int .i64 0, .string ⟨#[]⟩, .int .i64 0, .string ⟨#[]⟩, .int .i64 0, .string ⟨#[]⟩, .int .i64 0, .string ⟨#[]⟩, .int .i64 0, .string ⟨#[]⟩, .int .i64 0, .string ⟨#[]⟩, .int .i64 0, .string ⟨#[]⟩, .int .i64 0]) (t := 109) ?hr ?_; (case hd => rfl); (case hg => rfl); (case hr => first | (go_simp; done) | (go_simp; rfl)); intro g4 hgb wb hbox hb; have HBX4 := Aside0.mk hbox; have HGE4 := Aside0.mk (show w.heap.size ≤ g4 by rw [hgb]; exact HB.out.size); have HNE := Aside0.mk (show g2 ≠ g4 by have := blk_lt HBX2.out; omega); have HBX2_ := Aside0.mk ((hb.block g2 (blk_lt HBX2.out)).trans HBX2.out); have HB_ := Aside0.mk (below_step HB.out hb); clear HBX2 HB; have HBX2 := HBX2_; have HB := HB_; clear HBX2_ HB_; clear hgb hbox hb) | ((with_reducible refine gate_ (.store 109 (.tmp 4) (.tmp 19)) rfl ?_); refine store_event 109 (.tmp 4) (.tmp 19) rfl rfl rfl (g := g4) #[.string ⟨#[]⟩, .int .i64 0, .string ⟨#[]⟩, .int .i64 0, .string ⟨#[]⟩, .int .i64 0, .string ⟨#[]⟩, .int .i64 0, .string ⟨#[]⟩, .int .i64 0, .string ⟨#[]⟩, .int .i64 0, .string ⟨#[]⟩, .int .i64 0, .string ⟨#[]⟩, .int .i64 0, .string ⟨#[]⟩, .int .i64 0, .string ⟨#[]⟩, .int .i64 0, .string ⟨#[]⟩, .int .i64 0, .string ⟨#[]⟩, .int .i64 0, .string ⟨#[]⟩, .int .i64 0, .string ⟨#[]⟩, .int .i64 0, .string ⟨#[]⟩, .int .i64 0] #[.string ⟨#[]⟩, .int .i64 0, .string ⟨#[]⟩, .int .i64 1, .string ⟨#[52]⟩, .int .i64 1, .string ⟨#[52]⟩, .int .i64 0, .string ⟨#[]⟩, .int .i64 0, .string ⟨#[52]⟩, .int .i64 0, .string ⟨#[52, 52, 52]⟩, .int .i64 (-1), .string ⟨#[52, 52, 52]⟩, .int .i64 0, .string ⟨#[52, 49]⟩, .int .i64 0, .string ⟨#[52, 52, 49]⟩, .int .i64 1, .string ⟨#[52]⟩, .int .i64 0, .string ⟨#[52]⟩, .int .i64 0, .string ⟨#[52, 52, 52]⟩, .int .i64 (-1), .string ⟨#[52, 49, 52]⟩, .int .i64 0, .string ⟨#[52, 52, 52]⟩, .int .i64 0] [.string ⟨#[]⟩, .int .i64 0, .string ⟨#[]⟩, .int .i64 1, .string ⟨#[52]⟩, .int .i64 1, .string ⟨#[52]⟩, .int .i64 0, .string ⟨#[]⟩, .int .i64 0, .string ⟨#[52]⟩, .int .i64 0, .string ⟨#[52, 52, 52]⟩, .int .i64 (-1), .string ⟨#[52, 52, 52]⟩, .int .i64 0, .string ⟨#[52, 49]⟩, .int .i64 0, .string ⟨#[52, 52, 49]⟩, .int .i64 1, .string ⟨#[52]⟩, .int .i64 0, .string ⟨#[52]⟩, .int .i64 0, .string ⟨#[52, 52, 52]⟩, .int .i64 (-1), .string ⟨#[52, 49, 52]⟩, .int .i64 0, .string ⟨#[52, 52, 52]⟩, .int .i64 0] rfl rfl rfl size109 HBX4.out (by decide) (by rfl) rfl ?_; intro wc hbox hs; have HBX2_ := Aside0.mk (hs.blk HBX2.out HNE.out); have HB_ := Aside0.mk (hs.below HB.out HGE4.out); clear HBX2 HB; have HBX2 := HBX2_; have HB := HB_; clear HBX2_ HB_; have HBX4_ := Aside0.mk hbox; clear HBX4 hbox hs; have HBX4 := HBX4_; clear HBX4_; skip) | ((with_reducible refine gate_ (.store 97 (.tmp 2) (.tmp 26)) rfl ?_); refine store_event 97 (.tmp 2) (.tmp 26) rfl rfl rfl (g := g2) #[.string ⟨#[]⟩, .int .i64 0] #[.string ⟨#[]⟩, .int .i64 0] [.string ⟨#[]⟩, .int .i64 0] rfl rfl rfl size97 HBX2.out (by simp) (by rfl) rfl ?_; intro wd hbox hs; have HB_ := Aside0.mk (hs.below HB.out HGE2.out); clear HB; have HB := HB_; clear HB_; have hz0 : wd.cell? ⟨g2, 0, none⟩ = some (.string ⟨#[]⟩) := (blk_cell hbox 0).trans rfl; have hz1 : wd.cell? ⟨g2, 1, none⟩ = some (.int .i64 0) := (blk_cell hbox 1).trans rfl; clear hbox hs))
  (try simp only [Exit.inBlock, Exit.then])
  refine bodyPost_ret (v := .tuple #[.agg #[.string ⟨#[]⟩, .int .i64 0], .bool false]) ?_ rfl ⟨rfl, HB.out⟩
  rw [results_cell_tmp rfl]
  go_simp
theorem shaped_calls (k : Int) (z : List Nat) (tx : Int) (w : World) (h : szS k = some (z, tx)) :
    Calls Try.prog 56 #[.int .i64 k] w fun e w' => e = .returned (.tuple #[.agg #[.string (digB z), .int .i64 tx], .bool true]) ∧ Below w.heap.size w w' := by
  have hk := (szS_cases h).1
  obtain ⟨m, rfl⟩ := Int.eq_ofNat_of_zero_le (show 0 ≤ k by omega)
  obtain ⟨sb, hsb⟩ : ∃ s, digB z = s := ⟨_, rfl⟩
  have HS := Aside0.mk h
  have HSB := Aside0.mk hsb
  rw [hsb]
  exact shaped_any w m z tx sb HS HSB hk
theorem shaped_none (k : Int) (w : World) (h : szS k = none) :
    Calls Try.prog 56 #[.int .i64 k] w fun e w' => e = .returned (.tuple #[.agg #[.string ⟨#[]⟩, .int .i64 0], .bool false]) ∧ Below w.heap.size w w' := by
  rcases szS_none h with h | h
  · exact shaped_low w k h
  · exact shaped_high w k h
set_option maxHeartbeats 8000000 in
set_option maxRecDepth 100000 in
theorem long_calls (t : ByteArray) (w : World) :
    Calls Try.prog 59 #[.string t] w fun e w' => e = .returned (.bool (decide (200 < t.size))) ∧ Below w.heap.size w w' := by
  have e0 : decide (200 < (t.size : Int)) = decide (200 < t.size) := by rw [decide_eq_decide]; omega
  go_enter Try.func59, Try.ntmps59
  go_wp2
  go_ret
  exact ⟨rfl, Below.refl _ _⟩
/-- The first text that is too long, or -1. -/
def idxS : List ByteArray → Nat → Int
  | [], _ => -1
  | t :: ts, i => if decide (200 < t.size) = true then (i : Int) else idxS ts (i + 1)
theorem idxS_any : ∀ (ts : List ByteArray) (i : Nat), decide (0 ≤ idxS ts i) = ts.any (fun t => decide (200 < t.size))
  | [], i => by simp [idxS]
  | t :: ts, i => by
    unfold idxS
    by_cases c : decide (200 < t.size) = true
    · rw [if_pos c, List.any_cons, c]
      simp
    · rw [if_neg c, idxS_any ts (i + 1), List.any_cons]
      have c2 : decide (200 < t.size) = false := by simpa using c
      rw [c2, Bool.false_or]
theorem rdS_drop (l : List ByteArray) (i : Nat) (h : i < l.length) : l.drop i = rdOf ByteArray.empty l (i : Int) :: l.drop (i + 1) := by
  rw [List.drop_eq_getElem_cons h]
  congr 1
  unfold rdOf
  rw [Int.toNat_natCast, List.getD_eq_getElem?_getD, List.getElem?_eq_getElem h]
  rfl
set_option maxHeartbeats 8000000 in
set_option maxRecDepth 100000 in
theorem IndexFunc_calls (A : Option Addr) (n c : Nat) (ts : List ByteArray) (hn : ts.length = n) (r : Int) (hr : idxS ts 0 = r) (w : World) (hC : Kd.C Kd.string w A n ts) (hc : n ≤ c) :
    Calls Try.prog 65 #[.slice A n c, .func (.func 59) #[] #[]] w fun e w' => e = .returned (.int .i64 r) ∧ Below w.heap.size w w' := by
  have HB := Aside0.mk (Below.refl w.heap.size w)
  have HC := Aside0.mk hC
  have HM := Aside0.mk hC.2.1
  have HN := Aside0.mk hn
  have HR := Aside0.mk hr
  clear hC hc hr hn
  go_enter Try.func65, Try.ntmps65
  go_wp2
  go_loopg [8] (n + 1) (fun kq v8 w' => ∃ i : Nat, v8 = .int .i64 (i : Int) ∧ Aside0 (kq + i = n + 1) ∧ Aside0 (i ≤ n) ∧ Aside0 (idxS (ts.drop i) i = r) ∧ Aside0 (Below w.heap.size w w'))
  case atStart => exact ⟨0, rfl, ⟨by omega⟩, ⟨by omega⟩, HR, HB⟩
  case round =>
    clear HB
    obtain ⟨i, rfl, HKQ, HI, HX, HB⟩ := hrel
    obtain ⟨gk, rfl⟩ : ∃ gk', gk = gk' + 1 := ⟨gk - 1, by have := HKQ.out; have := HI.out; omega⟩
    by_cases ci : i < n
    · have cb : decide ((i : Int) < (n : Int)) = true := decide_eq_true (by omega)
      have p1 : 0 ≤ (i : Int) := by omega
      have p2 : (i : Int) < (n : Int) := by omega
      have hwi : wrap64 ((i : Int) + 1) = ((i + 1 : Nat) : Int) := by have := HM.out; unfold wrap64; omega
      obtain ⟨ad, e7, hy⟩ := Kd.at_string HC.out (i : Int) p1 p2
      cases e7
      replace hy := (HB.out.cell (World.block_lt_of_cell? w _ hy)).trans hy
      simp only [Int.toNat_natCast] at hy
      have hd := rdS_drop ts i (by rw [HN.out]; exact ci)
      obtain ⟨t, ht⟩ : ∃ t, rdOf ByteArray.empty ts (i : Int) = t := ⟨_, rfl⟩
      rw [ht] at hy hd
      have hx := HX.out
      rw [hd] at hx
      unfold idxS at hx
      obtain ⟨b, hb⟩ : ∃ b, decide (200 < t.size) = b := ⟨_, rfl⟩
      have HBB := Aside0.mk hb
      cases b with
      | true =>
        rw [hb, if_pos rfl] at hx
        have HE := Aside0.mk hx
        clear hx hd ht hb
        go_wp2_with (first | (go_at_call 59; with_reducible refine (long_calls t _).mono ?_; rw [HBB.out]; rintro e w' ⟨rfl, hb⟩; have HB_ := Aside0.mk (below_step HB.out hb); clear HB; have HB := HB_; clear HB_; clear hb))
        go_ret
        exact ⟨by have h := HE.out; subst h; rfl, HB.out⟩
      | false =>
        rw [hb, if_neg (by simp)] at hx
        have HE := Aside0.mk hx
        clear hx hd ht hb
        go_wp2_with (first | (go_at_call 59; with_reducible refine (long_calls t _).mono ?_; rw [HBB.out]; rintro e w' ⟨rfl, hb⟩; have HB_ := Aside0.mk (below_step HB.out hb); clear HB; have HB := HB_; clear HB_; clear hb))
        go_roundg gk
        case measure => omega
        case rel => exact ⟨i + 1, congrArg (Value.int .i64) (by omega), ⟨by have := HKQ.out; omega⟩, ⟨by omega⟩, HE, HB⟩
    · have cb : decide ((i : Int) < (n : Int)) = false := decide_eq_false (by omega)
      have hx := HX.out
      rw [List.drop_eq_nil_of_le (by have := HN.out; omega)] at hx
      have HE := Aside0.mk (show (-1 : Int) = r from hx)
      clear hx
      go_wp2
      go_ret
      exact ⟨by have h := HE.out; subst h; rfl, HB.out⟩
set_option maxHeartbeats 8000000 in
set_option maxRecDepth 100000 in
theorem ContainsFunc_calls (A : Option Addr) (n c : Nat) (ts : List ByteArray) (hn : ts.length = n) (b : Bool) (w : World) (hC : Kd.C Kd.string w A n ts) (hc : n ≤ c) (h : ts.any (fun t => decide (200 < t.size)) = b) :
    Calls Try.prog 58 #[.slice A n c, .func (.func 59) #[] #[]] w fun e w' => e = .returned (.bool b) ∧ Below w.heap.size w w' := by
  have e0 : decide (0 ≤ idxS ts 0) = b := (idxS_any ts 0).trans h
  obtain ⟨r, hr⟩ : ∃ r, idxS ts 0 = r := ⟨_, rfl⟩
  rw [hr] at e0
  have HR := Aside0.mk hr
  have HC := Aside0.mk hC
  have HCC := Aside0.mk hc
  have HN := Aside0.mk hn
  clear hC hc h hn hr
  go_enter Try.func58, Try.ntmps58
  go_wp2_with (first | (go_at_call 65; with_reducible refine (IndexFunc_calls A n c ts HN.out r HR.out _ HC.out HCC.out).mono ?_; rintro e w' ⟨rfl, hb⟩; have HB := Aside0.mk hb; clear hb))
  go_ret
  exact ⟨rfl, HB.out⟩
end Go.Proofs.Ytagmefjpnmjcjab.Mh

/- msg.Right, walked by hand. -/
namespace Go.Proofs.Ytagmefjpnmjcjab.Mh
open Go.RowKit Go.Proofs.YtagmefjpnmjcjabW.PrintWords Go.Proofs.YtagmefjpnmjcjabW.PrintLast Go.Proofs.YtagmefjpnmjcjabW.PrintMore
open Go.Proofs.Ytagmefjpnmjcjab.Nu (bits_Len64.f bits_Len64.calls)
open Go.Proofs.Ytagmefjpnmjcjab.Ms (msg_shape_size.f msg_shape_size.calls)
open Go.Proofs.Ytagmefjpnmjcjab.FrNum (fits len_ex rd_drop)
attribute [local go_sem] max2_int min2_int max_two min_two
set_option linter.unusedVariables false
set_option linter.unusedSimpArgs false
theorem drawn_below {w w' : World} (h : Drawn0 w w') : Below w.heap.size w w' := by
  obtain ⟨n, rfl⟩ := h
  exact pw_below_drewN (Below.refl _ _) n
theorem size_eq {k : Int} {z : List Nat} {tx : Int} (h : szS k = some (z, tx)) (i : Nat) (hi : i < z.length) : msg_shape_size.f (digB z) tx (i : Int) = some (z[i] : Int) := by
  have hz := (szS_cases h).2.1
  have h3 : i = 0 ∨ i = 1 ∨ i = 2 := by omega
  rcases szS_range h with rfl | rfl | rfl | rfl | rfl | rfl | rfl | rfl | rfl | rfl | rfl | rfl | rfl | rfl <;> (injection h with h; injection h with h1 h2; subst h1 h2; rcases h3 with rfl | rfl | rfl <;> first | rfl | (exact absurd hi (by decide)))

set_option maxHeartbeats 8000000 in
set_option maxRecDepth 100000 in
theorem Right_calls (k : Int) (A1 : Option Addr) (n1 c1 : Nat) (ns : List Int) (hn1 : ns.length = n1) (A2 : Option Addr) (n2 c2 : Nat) (ts : List ByteArray) (hn2 : ts.length = n2) (r : Bool) (w : World)
    (hC1 : Kd.C (Kd.int .u64) w A1 n1 ns) (hc1 : n1 ≤ c1) (hC2 : Kd.C Kd.string w A2 n2 ts) (hc2 : n2 ≤ c2) (hwf : ∀ n ∈ ns, 0 ≤ n ∧ n ≤ 18446744073709551615) (h : rightS k ns ts = r) :
    Calls Try.prog 40 #[.agg #[.int .i64 k, .slice A1 n1 c1, .slice A2 n2 c2]] w fun e w' => e = .returned (.bool r) ∧ Below w.heap.size w w' := by
  have HB := Aside0.mk (Below.refl w.heap.size w)
  have HC1 := Aside0.mk hC1
  have HC2 := Aside0.mk hC2
  have HCC2 := Aside0.mk hc2
  have HN1 := Aside0.mk hn1
  have HN2 := Aside0.mk hn2
  have HWF := Aside0.mk hwf
  have HM1 := Aside0.mk hC1.2.1
  have HM2 := Aside0.mk hC2.2.1
  have hu97 := Try.underlying97
  have hu67 := Try.underlying67
  clear hC1 hc1 hC2 hc2 hwf
  unfold rightS at h
  cases hs : szS k with
  | none =>
    rw [hs] at h
    subst h
    have HSZ := Aside0.mk hs
    clear hs
    go_enter Try.func40, Try.ntmps40
    go_wp2_with (first | ((with_reducible refine gate_dst (N := 1) rfl ?_); refine box_event ?hg (N := 1) ?hd (cs := #[.int .i64 k, .slice A1 n1 c1, .slice A2 n2 c2]) (t := 67) ?hr ?_; (case hd => rfl); (case hg => rfl); (case hr => first | (go_simp; done) | (go_simp; rfl)); intro g1 hgb wa hbox hb; have HBX1 := Aside0.mk hbox; have HB_ := Aside0.mk hb; clear HB hgb hbox hb; have HB := HB_; clear HB_; have hx0 : wa.cell? ⟨g1, 0, none⟩ = some (.int .i64 k) := (blk_cell HBX1.out 0).trans rfl; have hx1 : wa.cell? ⟨g1, 1, none⟩ = some (.slice A1 n1 c1) := (blk_cell HBX1.out 1).trans rfl; have hx2 : wa.cell? ⟨g1, 2, none⟩ = some (.slice A2 n2 c2) := (blk_cell HBX1.out 2).trans rfl) | (go_at_call 56; with_reducible refine (shaped_none k _ HSZ.out).mono ?_; rintro e wb ⟨rfl, hb⟩; have HB_ := Aside0.mk (below_step HB.out hb); have HBX1_ := Aside0.mk ((hb.block g1 (blk_lt HBX1.out)).trans HBX1.out); clear HB HBX1; have HB := HB_; have HBX1 := HBX1_; clear HB_ HBX1_; clear hb) | ((with_reducible refine gate_dst (N := 3) rfl ?_); refine box_event ?hg (N := 3) ?hd (cs := #[.string ⟨#[]⟩, .int .i64 0]) (t := 97) ?hr ?_; (case hd => rfl); (case hg => rfl); (case hr => first | (go_simp; done) | (go_simp; rfl)); intro g3 hgb wc hbox hb; have HBX3 := Aside0.mk hbox; have HGE3 := Aside0.mk (show w.heap.size ≤ g3 by rw [hgb]; exact HB.out.size); have HNE := Aside0.mk (show g1 ≠ g3 by have := blk_lt HBX1.out; omega); have HBX1_ := Aside0.mk ((hb.block g1 (blk_lt HBX1.out)).trans HBX1.out); have HB_ := Aside0.mk (below_step HB.out hb); clear HBX1 HB; have HBX1 := HBX1_; have HB := HB_; clear HBX1_ HB_; clear hgb hbox hb) | ((with_reducible refine gate_ (.store 97 (.tmp 3) (.tmp 11)) rfl ?_); refine store_event 97 (.tmp 3) (.tmp 11) rfl rfl rfl (g := g3) #[.string ⟨#[]⟩, .int .i64 0] #[.string ⟨#[]⟩, .int .i64 0] [.string ⟨#[]⟩, .int .i64 0] rfl rfl rfl size97 HBX3.out (by simp) (by rfl) rfl ?_; intro wd hbox hs; have HBX1_ := Aside0.mk (hs.blk HBX1.out HNE.out); have HB_ := Aside0.mk (hs.below HB.out HGE3.out); clear HBX1 HB; have HBX1 := HBX1_; have HB := HB_; clear HBX1_ HB_; have HBX3_ := Aside0.mk hbox; clear HBX3 hbox hs; have HBX3 := HBX3_; clear HBX3_; have hx0 : wd.cell? ⟨g1, 0, none⟩ = some (.int .i64 k) := (blk_cell HBX1.out 0).trans rfl; have hx1 : wd.cell? ⟨g1, 1, none⟩ = some (.slice A1 n1 c1) := (blk_cell HBX1.out 1).trans rfl; have hx2 : wd.cell? ⟨g1, 2, none⟩ = some (.slice A2 n2 c2) := (blk_cell HBX1.out 2).trans rfl; skip))
    go_ret
    exact ⟨rfl, HB.out⟩
  | some p =>
    obtain ⟨z, tx⟩ := p
    rw [hs] at h
    simp only at h
    have HSZ := Aside0.mk hs
    obtain ⟨sb, hsb⟩ : ∃ s, digB z = s := ⟨_, rfl⟩
    have HSB := Aside0.mk hsb
    obtain ⟨zl, hzl⟩ : ∃ n, z.length = n := ⟨_, rfl⟩
    have HZL := Aside0.mk hzl
    have hss : sb.size = zl := by rw [← hsb, digB_size, hzl]
    have hcs := szS_cases hs
    clear hs hsb
    by_cases cn : n1 = zl
    · have b1 : ((n1 : Int) != (zl : Int)) = false := by subst cn; simp
      by_cases ct : n2 > 20
      · have b2 : decide (20 < (n2 : Int)) = true := decide_eq_true (by omega)
        have hr : r = false := by rw [← h]; unfold textsOk; rw [decide_eq_false (by omega)]; simp
        subst hr
        clear h ct cn hcs
        go_enter Try.func40, Try.ntmps40
        go_wp2_with (first | ((with_reducible refine gate_dst (N := 1) rfl ?_); refine box_event ?hg (N := 1) ?hd (cs := #[.int .i64 k, .slice A1 n1 c1, .slice A2 n2 c2]) (t := 67) ?hr ?_; (case hd => rfl); (case hg => rfl); (case hr => first | (go_simp; done) | (go_simp; rfl)); intro g1 hgb wa hbox hb; have HBX1 := Aside0.mk hbox; have HB_ := Aside0.mk hb; clear HB hgb hbox hb; have HB := HB_; clear HB_; have hx0 : wa.cell? ⟨g1, 0, none⟩ = some (.int .i64 k) := (blk_cell HBX1.out 0).trans rfl; have hx1 : wa.cell? ⟨g1, 1, none⟩ = some (.slice A1 n1 c1) := (blk_cell HBX1.out 1).trans rfl; have hx2 : wa.cell? ⟨g1, 2, none⟩ = some (.slice A2 n2 c2) := (blk_cell HBX1.out 2).trans rfl) | (go_at_call 56; with_reducible refine (shaped_calls k z tx _ HSZ.out).mono ?_; rw [HSB.out]; rintro e wb ⟨rfl, hb⟩; have HB_ := Aside0.mk (below_step HB.out hb); have HBX1_ := Aside0.mk ((hb.block g1 (blk_lt HBX1.out)).trans HBX1.out); clear HB HBX1; have HB := HB_; have HBX1 := HBX1_; clear HB_ HBX1_; clear hb) | ((with_reducible refine gate_dst (N := 3) rfl ?_); refine box_event ?hg (N := 3) ?hd (cs := #[.string ⟨#[]⟩, .int .i64 0]) (t := 97) ?hr ?_; (case hd => rfl); (case hg => rfl); (case hr => first | (go_simp; done) | (go_simp; rfl)); intro g3 hgb wc hbox hb; have HBX3 := Aside0.mk hbox; have HGE3 := Aside0.mk (show w.heap.size ≤ g3 by rw [hgb]; exact HB.out.size); have HNE := Aside0.mk (show g1 ≠ g3 by have := blk_lt HBX1.out; omega); have HBX1_ := Aside0.mk ((hb.block g1 (blk_lt HBX1.out)).trans HBX1.out); have HB_ := Aside0.mk (below_step HB.out hb); clear HBX1 HB; have HBX1 := HBX1_; have HB := HB_; clear HBX1_ HB_; clear hgb hbox hb) | ((with_reducible refine gate_ (.store 97 (.tmp 3) (.tmp 11)) rfl ?_); refine store_event 97 (.tmp 3) (.tmp 11) rfl rfl rfl (g := g3) #[.string ⟨#[]⟩, .int .i64 0] #[.string sb, .int .i64 tx] [.string sb, .int .i64 tx] rfl rfl rfl size97 HBX3.out (by simp) (by rfl) rfl ?_; intro wd hbox hs; have HBX1_ := Aside0.mk (hs.blk HBX1.out HNE.out); have HB_ := Aside0.mk (hs.below HB.out HGE3.out); clear HBX1 HB; have HBX1 := HBX1_; have HB := HB_; clear HBX1_ HB_; have HBX3_ := Aside0.mk hbox; clear HBX3 hbox hs; have HBX3 := HBX3_; clear HBX3_; have hx0 : wd.cell? ⟨g1, 0, none⟩ = some (.int .i64 k) := (blk_cell HBX1.out 0).trans rfl; have hx1 : wd.cell? ⟨g1, 1, none⟩ = some (.slice A1 n1 c1) := (blk_cell HBX1.out 1).trans rfl; have hx2 : wd.cell? ⟨g1, 2, none⟩ = some (.slice A2 n2 c2) := (blk_cell HBX1.out 2).trans rfl; have hy0 : wd.cell? ⟨g3, 0, none⟩ = some (.string sb) := (blk_cell HBX3.out 0).trans rfl; have hy1 : wd.cell? ⟨g3, 1, none⟩ = some (.int .i64 tx) := (blk_cell HBX3.out 1).trans rfl))
        go_ret
        exact ⟨rfl, HB.out⟩
      · have b2 : decide (20 < (n2 : Int)) = false := decide_eq_false (by omega)
        by_cases cx : tx = -1 ∨ (n2 : Int) = tx
        · have htok : textsOk tx ts = !ts.any (fun t => decide (200 < t.size)) := by
            unfold textsOk
            rw [decide_eq_true (by omega), hn2]
            rcases cx with cx | cx
            · rw [cx]; simp
            · rw [cx]; simp
          rw [htok] at h
          obtain ⟨bb, hbb⟩ : ∃ b, ts.any (fun t => decide (200 < t.size)) = b := ⟨_, rfl⟩
          rw [hbb] at h
          have HBB := Aside0.mk hbb
          have HH := Aside0.mk h
          have HZ4 := Aside0.mk hcs.2.2.1
          clear h hbb htok ct hcs
          have hq : ((tx != -1) = true ∧ ((n2 : Int) != tx) = false) ∨ (tx != -1) = false := by
            rcases cx with cx | cx
            · exact .inr (by rw [cx]; rfl)
            · by_cases c9 : tx = -1
              · exact .inr (by rw [c9]; rfl)
              · exact .inl ⟨bne_iff_ne.mpr c9, by rw [cx]; simp⟩
          clear cx
          subst cn
          have hzl := HZL.out
          clear hzl
          rcases hq with ⟨b3, b4⟩ | b3
          · go_enter Try.func40, Try.ntmps40
            go_wp2_with (first | ((with_reducible refine gate_dst (N := 1) rfl ?_); refine box_event ?hg (N := 1) ?hd (cs := #[.int .i64 k, .slice A1 n1 c1, .slice A2 n2 c2]) (t := 67) ?hr ?_; (case hd => rfl); (case hg => rfl); (case hr => first | (go_simp; done) | (go_simp; rfl)); intro g1 hgb wa hbox hb; have HBX1 := Aside0.mk hbox; have HB_ := Aside0.mk hb; clear HB hgb hbox hb; have HB := HB_; clear HB_; have hx0 : wa.cell? ⟨g1, 0, none⟩ = some (.int .i64 k) := (blk_cell HBX1.out 0).trans rfl; have hx1 : wa.cell? ⟨g1, 1, none⟩ = some (.slice A1 n1 c1) := (blk_cell HBX1.out 1).trans rfl; have hx2 : wa.cell? ⟨g1, 2, none⟩ = some (.slice A2 n2 c2) := (blk_cell HBX1.out 2).trans rfl) | (go_at_call 56; with_reducible refine (shaped_calls k z tx _ HSZ.out).mono ?_; rw [HSB.out]; rintro e wb ⟨rfl, hb⟩; have HB_ := Aside0.mk (below_step HB.out hb); have HBX1_ := Aside0.mk ((hb.block g1 (blk_lt HBX1.out)).trans HBX1.out); clear HB HBX1; have HB := HB_; have HBX1 := HBX1_; clear HB_ HBX1_; clear hb) | ((with_reducible refine gate_dst (N := 3) rfl ?_); refine box_event ?hg (N := 3) ?hd (cs := #[.string ⟨#[]⟩, .int .i64 0]) (t := 97) ?hr ?_; (case hd => rfl); (case hg => rfl); (case hr => first | (go_simp; done) | (go_simp; rfl)); intro g3 hgb wc hbox hb; have HBX3 := Aside0.mk hbox; have HGE3 := Aside0.mk (show w.heap.size ≤ g3 by rw [hgb]; exact HB.out.size); have HNE := Aside0.mk (show g1 ≠ g3 by have := blk_lt HBX1.out; omega); have HBX1_ := Aside0.mk ((hb.block g1 (blk_lt HBX1.out)).trans HBX1.out); have HB_ := Aside0.mk (below_step HB.out hb); clear HBX1 HB; have HBX1 := HBX1_; have HB := HB_; clear HBX1_ HB_; clear hgb hbox hb) | ((with_reducible refine gate_ (.store 97 (.tmp 3) (.tmp 11)) rfl ?_); refine store_event 97 (.tmp 3) (.tmp 11) rfl rfl rfl (g := g3) #[.string ⟨#[]⟩, .int .i64 0] #[.string sb, .int .i64 tx] [.string sb, .int .i64 tx] rfl rfl rfl size97 HBX3.out (by simp) (by rfl) rfl ?_; intro wd hbox hs; have HBX1_ := Aside0.mk (hs.blk HBX1.out HNE.out); have HB_ := Aside0.mk (hs.below HB.out HGE3.out); clear HBX1 HB; have HBX1 := HBX1_; have HB := HB_; clear HBX1_ HB_; have HBX3_ := Aside0.mk hbox; clear HBX3 hbox hs; have HBX3 := HBX3_; clear HBX3_; have hx0 : wd.cell? ⟨g1, 0, none⟩ = some (.int .i64 k) := (blk_cell HBX1.out 0).trans rfl; have hx1 : wd.cell? ⟨g1, 1, none⟩ = some (.slice A1 n1 c1) := (blk_cell HBX1.out 1).trans rfl; have hx2 : wd.cell? ⟨g1, 2, none⟩ = some (.slice A2 n2 c2) := (blk_cell HBX1.out 2).trans rfl; have hy0 : wd.cell? ⟨g3, 0, none⟩ = some (.string sb) := (blk_cell HBX3.out 0).trans rfl; have hy1 : wd.cell? ⟨g3, 1, none⟩ = some (.int .i64 tx) := (blk_cell HBX3.out 1).trans rfl))
            clear hx0 hx1 hx2 hy0 hy1
            go_loopg [46] (n1 + 1) (fun kq v46 w' => ∃ i : Nat, v46 = .int .i64 (i : Int) ∧ Aside0 (kq + i = n1 + 1) ∧ Aside0 (i ≤ n1) ∧ Aside0 ((allFit (z.drop i) (ns.drop i) && !bb) = r) ∧ Aside0 (w'.heap[g1]? = some (.cells #[.int .i64 k, .slice A1 n1 c1, .slice A2 n2 c2] 67 (0, 0))) ∧ Aside0 (w'.heap[g3]? = some (.cells #[.string sb, .int .i64 tx] 97 (0, 0))) ∧ Aside0 (Below w.heap.size w w'))
            case atStart => exact ⟨0, rfl, ⟨by omega⟩, ⟨by omega⟩, HH, HBX1, HBX3, HB⟩
            case round =>
              clear HBX1 HBX3 HB HH
              obtain ⟨i, rfl, HKQ, HI, HX, HBX1, HBX3, HB⟩ := hrel
              obtain ⟨gk, rfl⟩ : ∃ gk', gk = gk' + 1 := ⟨gk - 1, by have := HKQ.out; have := HI.out; omega⟩
              by_cases ci : i < n1
              · have cb : decide ((i : Int) < (n1 : Int)) = true := decide_eq_true (by omega)
                have p1 : 0 ≤ (i : Int) := by omega
                have p2 : (i : Int) < (n1 : Int) := by omega
                have hwi : wrap64 ((i : Int) + 1) = ((i + 1 : Nat) : Int) := by have := HM1.out; unfold wrap64; omega
                obtain ⟨ad, e7, hv⟩ := Kd.at_int HC1.out (i : Int) p1 p2
                cases e7
                replace hv := (HB.out.cell (World.block_lt_of_cell? w _ hv)).trans hv
                simp only [Int.toNat_natCast] at hv
                have hil : i < ns.length := by rw [HN1.out]; exact ci
                have hiz : i < z.length := by rw [HZL.out]; exact ci
                have hd := rd_drop ns i hil
                have hdz := List.drop_eq_getElem_cons hiz
                have hse := size_eq HSZ.out i hiz
                have hs4 := HZ4.out z[i] (List.getElem_mem hiz)
                have hnw := HWF.out (rd ns (i : Int)) (FrNum.rd_mem ns i hil)
                rw [HSB.out] at hse
                obtain ⟨s, hs⟩ : ∃ s, z[i] = s := ⟨_, rfl⟩
                obtain ⟨nn, hnn⟩ : ∃ n, rd ns (i : Int) = n := ⟨_, rfl⟩
                rw [hs] at hdz hse hs4
                rw [hnn] at hv hd hnw
                have hx := HX.out
                rw [hd, hdz] at hx
                simp only [allFit] at hx
                obtain ⟨bl, hbl, hbi⟩ := len_ex nn s (by omega) hnw.1 hnw.2
                have hw8 : wrap64 (8 * (s : Int)) = 8 * (s : Int) := by unfold wrap64; omega
                have HSE := Aside0.mk hse
                have HBL := Aside0.mk hbl
                have hx1 : wr.cell? ⟨g1, 1, none⟩ = some (.slice (some ad) n1 c1) := (blk_cell HBX1.out 1).trans rfl
                by_cases cf : nn < 256 ^ s
                · have hf : fits (s : Int) nn = true := by unfold fits; rw [decide_eq_true_eq, Int.toNat_natCast]; exact ⟨by omega, by omega, cf⟩
                  have bf : decide (8 * (s : Int) < bl) = false := decide_eq_false (fun h => (hbi.1 h) cf)
                  rw [hf, Bool.true_and] at hx
                  have HX2 := Aside0.mk hx
                  clear hx hf cf hbi hbl hse hd hdz hs hnn hs4 hnw
                  go_upto_region 7 with (fail)
                  clear hx1
                  have hb := below_drew1 (Below.refl wr.heap.size wr)
                  have HB_ := Aside0.mk (below_step HB.out hb)
                  have HBX1_ := Aside0.mk ((hb.block g1 (blk_lt HBX1.out)).trans HBX1.out)
                  have HBX3_ := Aside0.mk ((hb.block g3 (blk_lt HBX3.out)).trans HBX3.out)
                  clear HB HBX1 HBX3
                  have HB := HB_
                  have HBX1 := HBX1_
                  have HBX3 := HBX3_
                  clear HB_ HBX1_ HBX3_
                  clear hb
                  refine start_ (n := 7) (S := fun w' => w'.cell? ⟨g3, 0, none⟩ = some (.string sb) ∧ w'.cell? ⟨g3, 1, none⟩ = some (.int .i64 tx)) (ds := []) #[false, false, false, false, false, false, false] (by kernel_rfl) rfl rfl ⟨(blk_cell HBX3.out 0).trans rfl, (blk_cell HBX3.out 1).trans rfl⟩ (fun hHeld => ?_)
                  generalize World.drew wr = ws at HB HBX1 HBX3 hHeld ⊢
                  refine pure_ (i := 0) (N := some 51) (v := ?_) (a' := ?_) #[true, false, false, false, false, false, false] rfl rfl (by kernel_rfl) (fun _ _ _ h => h) (Or.inl ⟨by rfl, ?_⟩) ?_ ?_
                  rotate_left
                  · intro w'
                    go_simp
                    with_reducible rfl
                  rotate_left
                  · simp only [Act.put, List.setIfInBounds_toArray, List.set_cons_zero, List.set_cons_succ, i64_w, i32_w]
                    rfl
                  refine pure_ (i := 3) (N := some 54) (v := ?_) (a' := ?_) #[true, false, false, true, false, false, false] rfl rfl (by kernel_rfl) (fun _ _ _ h => h) (Or.inl ⟨by rfl, ?_⟩) ?_ ?_
                  rotate_left
                  · intro w'
                    go_simp
                    with_reducible rfl
                  rotate_left
                  · simp only [Act.put, List.setIfInBounds_toArray, List.set_cons_zero, List.set_cons_succ, i64_w, i32_w]
                    rfl
                  refine take_ (i := 2) (N := some 53) (v := ?_) (a' := ?_) #[true, false, true, true, false, false, false] rfl rfl (by kernel_rfl) (fun _ _ _ h => h) (Or.inl ⟨by rfl, ?_⟩) hHeld ?_ ?_
                  rotate_left
                  · rintro w' ⟨s0, s1⟩
                    go_simp
                    with_reducible rfl
                  rotate_left
                  · simp only [Act.put, List.setIfInBounds_toArray, List.set_cons_zero, List.set_cons_succ, i64_w, i32_w]
                    rfl
                  refine one_ (i := 1) (N := some 52) #[true, true, true, true, false, false, false] rfl rfl (by kernel_rfl) (by decide) (fun K hK => ?_)
                  refine goes_ Try.func50 (by kernel_rfl) rfl #[.int .u64 nn] (by rfl) rfl rfl (by simp only [List.map_toArray, List.map_cons, List.map_nil]; rfl) ?_
                  with_reducible refine (bits_Len64.calls nn bl _ HBL.out).mono ?_
                  rintro e wk ⟨rfl, hb⟩
                  refine ⟨_, rfl, ?_⟩
                  replace hb := drawn_below hb
                  have HB_ := Aside0.mk (below_step HB.out hb)
                  have HBX1_ := Aside0.mk ((hb.block g1 (blk_lt HBX1.out)).trans HBX1.out)
                  have HBX3_ := Aside0.mk ((hb.block g3 (blk_lt HBX3.out)).trans HBX3.out)
                  clear HB HBX1 HBX3
                  have HB := HB_
                  have HBX1 := HBX1_
                  have HBX3 := HBX3_
                  clear HB_ HBX1_ HBX3_
                  clear hb
                  refine hK.out _ _ ⟨(blk_cell HBX3.out 0).trans rfl, (blk_cell HBX3.out 1).trans rfl⟩ (fun hHeld => ?_)
                  clear hK K
                  refine norm_ (a' := ?_) ?_ ?_
                  rotate_left
                  · show Act.put _ (some 52) _ = _
                    simp only [Act.put, List.setIfInBounds_toArray, List.set_cons_zero, List.set_cons_succ, i64_w, i32_w]
                    rfl
                  refine one_ (i := 4) (N := some 55) #[true, true, true, true, true, false, false] rfl rfl (by kernel_rfl) (by decide) (fun K hK => ?_)
                  refine goes_ Try.func57 (by kernel_rfl) rfl #[.agg #[.string sb, .int .i64 tx], .int .i64 (i : Int)] (by rfl) rfl rfl (by simp only [List.map_toArray, List.map_cons, List.map_nil]; rfl) ?_
                  with_reducible refine (msg_shape_size.calls sb tx (i : Int) (s : Int) _ HSE.out).mono ?_
                  rintro e wl ⟨rfl, hb⟩
                  refine ⟨_, rfl, ?_⟩
                  have HB_ := Aside0.mk (below_step HB.out hb)
                  have HBX1_ := Aside0.mk ((hb.block g1 (blk_lt HBX1.out)).trans HBX1.out)
                  have HBX3_ := Aside0.mk ((hb.block g3 (blk_lt HBX3.out)).trans HBX3.out)
                  clear HB HBX1 HBX3
                  have HB := HB_
                  have HBX1 := HBX1_
                  have HBX3 := HBX3_
                  clear HB_ HBX1_ HBX3_
                  clear hb
                  refine hK.out _ _ ⟨(blk_cell HBX3.out 0).trans rfl, (blk_cell HBX3.out 1).trans rfl⟩ (fun hHeld => ?_)
                  clear hK K
                  refine norm_ (a' := ?_) ?_ ?_
                  rotate_left
                  · show Act.put _ (some 55) _ = _
                    simp only [Act.put, List.setIfInBounds_toArray, List.set_cons_zero, List.set_cons_succ, i64_w, i32_w]
                    rfl
                  refine pure_ (i := 5) (N := some 56) (v := ?_) (a' := ?_) #[true, true, true, true, true, true, false] rfl rfl (by kernel_rfl) (fun _ _ _ h => h) (Or.inl ⟨by rfl, ?_⟩) ?_ ?_
                  rotate_left
                  · intro w'
                    go_simp
                    with_reducible rfl
                  rotate_left
                  · simp only [Act.put, List.setIfInBounds_toArray, List.set_cons_zero, List.set_cons_succ, i64_w, i32_w]
                    rfl
                  refine pure_ (i := 6) (N := some 57) (v := ?_) (a' := ?_) #[true, true, true, true, true, true, true] rfl rfl (by kernel_rfl) (fun _ _ _ h => h) (Or.inl ⟨by rfl, ?_⟩) ?_ ?_
                  rotate_left
                  · intro w'
                    go_simp
                    with_reducible rfl
                  rotate_left
                  · simp only [Act.put, List.setIfInBounds_toArray, List.set_cons_zero, List.set_cons_succ, i64_w, i32_w]
                    rfl
                  refine done_ (by kernel_rfl) ?_

                  go_wp2
                  go_roundg gk
                  case measure => omega
                  case rel => exact ⟨i + 1, congrArg (Value.int .i64) (by omega), ⟨by have := HKQ.out; omega⟩, ⟨by omega⟩, HX2, HBX1, HBX3, HB⟩
                · have hf : fits (s : Int) nn = false := by unfold fits; rw [decide_eq_false_iff_not, Int.toNat_natCast]; exact fun h => cf h.2.2
                  have bf : decide (8 * (s : Int) < bl) = true := decide_eq_true (hbi.2 cf)
                  rw [hf, Bool.false_and, Bool.false_and] at hx
                  subst hx
                  clear hf cf hbi hbl hse hd hdz hs hnn hs4 hnw
                  go_upto_region 7 with (fail)
                  clear hx1
                  have hb := below_drew1 (Below.refl wr.heap.size wr)
                  have HB_ := Aside0.mk (below_step HB.out hb)
                  have HBX1_ := Aside0.mk ((hb.block g1 (blk_lt HBX1.out)).trans HBX1.out)
                  have HBX3_ := Aside0.mk ((hb.block g3 (blk_lt HBX3.out)).trans HBX3.out)
                  clear HB HBX1 HBX3
                  have HB := HB_
                  have HBX1 := HBX1_
                  have HBX3 := HBX3_
                  clear HB_ HBX1_ HBX3_
                  clear hb
                  refine start_ (n := 7) (S := fun w' => w'.cell? ⟨g3, 0, none⟩ = some (.string sb) ∧ w'.cell? ⟨g3, 1, none⟩ = some (.int .i64 tx)) (ds := []) #[false, false, false, false, false, false, false] (by kernel_rfl) rfl rfl ⟨(blk_cell HBX3.out 0).trans rfl, (blk_cell HBX3.out 1).trans rfl⟩ (fun hHeld => ?_)
                  generalize World.drew wr = ws at HB HBX1 HBX3 hHeld ⊢
                  refine pure_ (i := 0) (N := some 51) (v := ?_) (a' := ?_) #[true, false, false, false, false, false, false] rfl rfl (by kernel_rfl) (fun _ _ _ h => h) (Or.inl ⟨by rfl, ?_⟩) ?_ ?_
                  rotate_left
                  · intro w'
                    go_simp
                    with_reducible rfl
                  rotate_left
                  · simp only [Act.put, List.setIfInBounds_toArray, List.set_cons_zero, List.set_cons_succ, i64_w, i32_w]
                    rfl
                  refine pure_ (i := 3) (N := some 54) (v := ?_) (a' := ?_) #[true, false, false, true, false, false, false] rfl rfl (by kernel_rfl) (fun _ _ _ h => h) (Or.inl ⟨by rfl, ?_⟩) ?_ ?_
                  rotate_left
                  · intro w'
                    go_simp
                    with_reducible rfl
                  rotate_left
                  · simp only [Act.put, List.setIfInBounds_toArray, List.set_cons_zero, List.set_cons_succ, i64_w, i32_w]
                    rfl
                  refine take_ (i := 2) (N := some 53) (v := ?_) (a' := ?_) #[true, false, true, true, false, false, false] rfl rfl (by kernel_rfl) (fun _ _ _ h => h) (Or.inl ⟨by rfl, ?_⟩) hHeld ?_ ?_
                  rotate_left
                  · rintro w' ⟨s0, s1⟩
                    go_simp
                    with_reducible rfl
                  rotate_left
                  · simp only [Act.put, List.setIfInBounds_toArray, List.set_cons_zero, List.set_cons_succ, i64_w, i32_w]
                    rfl
                  refine one_ (i := 1) (N := some 52) #[true, true, true, true, false, false, false] rfl rfl (by kernel_rfl) (by decide) (fun K hK => ?_)
                  refine goes_ Try.func50 (by kernel_rfl) rfl #[.int .u64 nn] (by rfl) rfl rfl (by simp only [List.map_toArray, List.map_cons, List.map_nil]; rfl) ?_
                  with_reducible refine (bits_Len64.calls nn bl _ HBL.out).mono ?_
                  rintro e wk ⟨rfl, hb⟩
                  refine ⟨_, rfl, ?_⟩
                  replace hb := drawn_below hb
                  have HB_ := Aside0.mk (below_step HB.out hb)
                  have HBX1_ := Aside0.mk ((hb.block g1 (blk_lt HBX1.out)).trans HBX1.out)
                  have HBX3_ := Aside0.mk ((hb.block g3 (blk_lt HBX3.out)).trans HBX3.out)
                  clear HB HBX1 HBX3
                  have HB := HB_
                  have HBX1 := HBX1_
                  have HBX3 := HBX3_
                  clear HB_ HBX1_ HBX3_
                  clear hb
                  refine hK.out _ _ ⟨(blk_cell HBX3.out 0).trans rfl, (blk_cell HBX3.out 1).trans rfl⟩ (fun hHeld => ?_)
                  clear hK K
                  refine norm_ (a' := ?_) ?_ ?_
                  rotate_left
                  · show Act.put _ (some 52) _ = _
                    simp only [Act.put, List.setIfInBounds_toArray, List.set_cons_zero, List.set_cons_succ, i64_w, i32_w]
                    rfl
                  refine one_ (i := 4) (N := some 55) #[true, true, true, true, true, false, false] rfl rfl (by kernel_rfl) (by decide) (fun K hK => ?_)
                  refine goes_ Try.func57 (by kernel_rfl) rfl #[.agg #[.string sb, .int .i64 tx], .int .i64 (i : Int)] (by rfl) rfl rfl (by simp only [List.map_toArray, List.map_cons, List.map_nil]; rfl) ?_
                  with_reducible refine (msg_shape_size.calls sb tx (i : Int) (s : Int) _ HSE.out).mono ?_
                  rintro e wl ⟨rfl, hb⟩
                  refine ⟨_, rfl, ?_⟩
                  have HB_ := Aside0.mk (below_step HB.out hb)
                  have HBX1_ := Aside0.mk ((hb.block g1 (blk_lt HBX1.out)).trans HBX1.out)
                  have HBX3_ := Aside0.mk ((hb.block g3 (blk_lt HBX3.out)).trans HBX3.out)
                  clear HB HBX1 HBX3
                  have HB := HB_
                  have HBX1 := HBX1_
                  have HBX3 := HBX3_
                  clear HB_ HBX1_ HBX3_
                  clear hb
                  refine hK.out _ _ ⟨(blk_cell HBX3.out 0).trans rfl, (blk_cell HBX3.out 1).trans rfl⟩ (fun hHeld => ?_)
                  clear hK K
                  refine norm_ (a' := ?_) ?_ ?_
                  rotate_left
                  · show Act.put _ (some 55) _ = _
                    simp only [Act.put, List.setIfInBounds_toArray, List.set_cons_zero, List.set_cons_succ, i64_w, i32_w]
                    rfl
                  refine pure_ (i := 5) (N := some 56) (v := ?_) (a' := ?_) #[true, true, true, true, true, true, false] rfl rfl (by kernel_rfl) (fun _ _ _ h => h) (Or.inl ⟨by rfl, ?_⟩) ?_ ?_
                  rotate_left
                  · intro w'
                    go_simp
                    with_reducible rfl
                  rotate_left
                  · simp only [Act.put, List.setIfInBounds_toArray, List.set_cons_zero, List.set_cons_succ, i64_w, i32_w]
                    rfl
                  refine pure_ (i := 6) (N := some 57) (v := ?_) (a' := ?_) #[true, true, true, true, true, true, true] rfl rfl (by kernel_rfl) (fun _ _ _ h => h) (Or.inl ⟨by rfl, ?_⟩) ?_ ?_
                  rotate_left
                  · intro w'
                    go_simp
                    with_reducible rfl
                  rotate_left
                  · simp only [Act.put, List.setIfInBounds_toArray, List.set_cons_zero, List.set_cons_succ, i64_w, i32_w]
                    rfl
                  refine done_ (by kernel_rfl) ?_

                  go_wp2
                  go_ret
                  exact ⟨rfl, HB.out⟩
              · have cb : decide ((i : Int) < (n1 : Int)) = false := decide_eq_false (by omega)
                have hx := HX.out
                rw [List.drop_eq_nil_of_le (by have := HN1.out; omega), List.drop_eq_nil_of_le (by have := HZL.out; omega)] at hx
                simp only [allFit, Bool.true_and] at hx
                subst hx
                have hx2 : wr.cell? ⟨g1, 2, none⟩ = some (.slice A2 n2 c2) := (blk_cell HBX1.out 2).trans rfl
                go_wp2_with (first | (go_at_call 58; with_reducible refine (ContainsFunc_calls A2 n2 c2 ts HN2.out bb _ (Kd.C_below HC2.out HB.out) HCC2.out HBB.out).mono ?_; rintro e w' ⟨rfl, hb⟩; have HB_ := Aside0.mk (below_step HB.out hb); clear HB; have HB := HB_; clear HB_; clear hb))
                go_ret
                exact ⟨rfl, HB.out⟩
          · go_enter Try.func40, Try.ntmps40
            go_wp2_with (first | ((with_reducible refine gate_dst (N := 1) rfl ?_); refine box_event ?hg (N := 1) ?hd (cs := #[.int .i64 k, .slice A1 n1 c1, .slice A2 n2 c2]) (t := 67) ?hr ?_; (case hd => rfl); (case hg => rfl); (case hr => first | (go_simp; done) | (go_simp; rfl)); intro g1 hgb wa hbox hb; have HBX1 := Aside0.mk hbox; have HB_ := Aside0.mk hb; clear HB hgb hbox hb; have HB := HB_; clear HB_; have hx0 : wa.cell? ⟨g1, 0, none⟩ = some (.int .i64 k) := (blk_cell HBX1.out 0).trans rfl; have hx1 : wa.cell? ⟨g1, 1, none⟩ = some (.slice A1 n1 c1) := (blk_cell HBX1.out 1).trans rfl; have hx2 : wa.cell? ⟨g1, 2, none⟩ = some (.slice A2 n2 c2) := (blk_cell HBX1.out 2).trans rfl) | (go_at_call 56; with_reducible refine (shaped_calls k z tx _ HSZ.out).mono ?_; rw [HSB.out]; rintro e wb ⟨rfl, hb⟩; have HB_ := Aside0.mk (below_step HB.out hb); have HBX1_ := Aside0.mk ((hb.block g1 (blk_lt HBX1.out)).trans HBX1.out); clear HB HBX1; have HB := HB_; have HBX1 := HBX1_; clear HB_ HBX1_; clear hb) | ((with_reducible refine gate_dst (N := 3) rfl ?_); refine box_event ?hg (N := 3) ?hd (cs := #[.string ⟨#[]⟩, .int .i64 0]) (t := 97) ?hr ?_; (case hd => rfl); (case hg => rfl); (case hr => first | (go_simp; done) | (go_simp; rfl)); intro g3 hgb wc hbox hb; have HBX3 := Aside0.mk hbox; have HGE3 := Aside0.mk (show w.heap.size ≤ g3 by rw [hgb]; exact HB.out.size); have HNE := Aside0.mk (show g1 ≠ g3 by have := blk_lt HBX1.out; omega); have HBX1_ := Aside0.mk ((hb.block g1 (blk_lt HBX1.out)).trans HBX1.out); have HB_ := Aside0.mk (below_step HB.out hb); clear HBX1 HB; have HBX1 := HBX1_; have HB := HB_; clear HBX1_ HB_; clear hgb hbox hb) | ((with_reducible refine gate_ (.store 97 (.tmp 3) (.tmp 11)) rfl ?_); refine store_event 97 (.tmp 3) (.tmp 11) rfl rfl rfl (g := g3) #[.string ⟨#[]⟩, .int .i64 0] #[.string sb, .int .i64 tx] [.string sb, .int .i64 tx] rfl rfl rfl size97 HBX3.out (by simp) (by rfl) rfl ?_; intro wd hbox hs; have HBX1_ := Aside0.mk (hs.blk HBX1.out HNE.out); have HB_ := Aside0.mk (hs.below HB.out HGE3.out); clear HBX1 HB; have HBX1 := HBX1_; have HB := HB_; clear HBX1_ HB_; have HBX3_ := Aside0.mk hbox; clear HBX3 hbox hs; have HBX3 := HBX3_; clear HBX3_; have hx0 : wd.cell? ⟨g1, 0, none⟩ = some (.int .i64 k) := (blk_cell HBX1.out 0).trans rfl; have hx1 : wd.cell? ⟨g1, 1, none⟩ = some (.slice A1 n1 c1) := (blk_cell HBX1.out 1).trans rfl; have hx2 : wd.cell? ⟨g1, 2, none⟩ = some (.slice A2 n2 c2) := (blk_cell HBX1.out 2).trans rfl; have hy0 : wd.cell? ⟨g3, 0, none⟩ = some (.string sb) := (blk_cell HBX3.out 0).trans rfl; have hy1 : wd.cell? ⟨g3, 1, none⟩ = some (.int .i64 tx) := (blk_cell HBX3.out 1).trans rfl))
            clear hx0 hx1 hx2 hy0 hy1
            go_loopg [46] (n1 + 1) (fun kq v46 w' => ∃ i : Nat, v46 = .int .i64 (i : Int) ∧ Aside0 (kq + i = n1 + 1) ∧ Aside0 (i ≤ n1) ∧ Aside0 ((allFit (z.drop i) (ns.drop i) && !bb) = r) ∧ Aside0 (w'.heap[g1]? = some (.cells #[.int .i64 k, .slice A1 n1 c1, .slice A2 n2 c2] 67 (0, 0))) ∧ Aside0 (w'.heap[g3]? = some (.cells #[.string sb, .int .i64 tx] 97 (0, 0))) ∧ Aside0 (Below w.heap.size w w'))
            case atStart => exact ⟨0, rfl, ⟨by omega⟩, ⟨by omega⟩, HH, HBX1, HBX3, HB⟩
            case round =>
              clear HBX1 HBX3 HB HH
              obtain ⟨i, rfl, HKQ, HI, HX, HBX1, HBX3, HB⟩ := hrel
              obtain ⟨gk, rfl⟩ : ∃ gk', gk = gk' + 1 := ⟨gk - 1, by have := HKQ.out; have := HI.out; omega⟩
              by_cases ci : i < n1
              · have cb : decide ((i : Int) < (n1 : Int)) = true := decide_eq_true (by omega)
                have p1 : 0 ≤ (i : Int) := by omega
                have p2 : (i : Int) < (n1 : Int) := by omega
                have hwi : wrap64 ((i : Int) + 1) = ((i + 1 : Nat) : Int) := by have := HM1.out; unfold wrap64; omega
                obtain ⟨ad, e7, hv⟩ := Kd.at_int HC1.out (i : Int) p1 p2
                cases e7
                replace hv := (HB.out.cell (World.block_lt_of_cell? w _ hv)).trans hv
                simp only [Int.toNat_natCast] at hv
                have hil : i < ns.length := by rw [HN1.out]; exact ci
                have hiz : i < z.length := by rw [HZL.out]; exact ci
                have hd := rd_drop ns i hil
                have hdz := List.drop_eq_getElem_cons hiz
                have hse := size_eq HSZ.out i hiz
                have hs4 := HZ4.out z[i] (List.getElem_mem hiz)
                have hnw := HWF.out (rd ns (i : Int)) (FrNum.rd_mem ns i hil)
                rw [HSB.out] at hse
                obtain ⟨s, hs⟩ : ∃ s, z[i] = s := ⟨_, rfl⟩
                obtain ⟨nn, hnn⟩ : ∃ n, rd ns (i : Int) = n := ⟨_, rfl⟩
                rw [hs] at hdz hse hs4
                rw [hnn] at hv hd hnw
                have hx := HX.out
                rw [hd, hdz] at hx
                simp only [allFit] at hx
                obtain ⟨bl, hbl, hbi⟩ := len_ex nn s (by omega) hnw.1 hnw.2
                have hw8 : wrap64 (8 * (s : Int)) = 8 * (s : Int) := by unfold wrap64; omega
                have HSE := Aside0.mk hse
                have HBL := Aside0.mk hbl
                have hx1 : wr.cell? ⟨g1, 1, none⟩ = some (.slice (some ad) n1 c1) := (blk_cell HBX1.out 1).trans rfl
                by_cases cf : nn < 256 ^ s
                · have hf : fits (s : Int) nn = true := by unfold fits; rw [decide_eq_true_eq, Int.toNat_natCast]; exact ⟨by omega, by omega, cf⟩
                  have bf : decide (8 * (s : Int) < bl) = false := decide_eq_false (fun h => (hbi.1 h) cf)
                  rw [hf, Bool.true_and] at hx
                  have HX2 := Aside0.mk hx
                  clear hx hf cf hbi hbl hse hd hdz hs hnn hs4 hnw
                  go_upto_region 7 with (fail)
                  clear hx1
                  have hb := below_drew1 (Below.refl wr.heap.size wr)
                  have HB_ := Aside0.mk (below_step HB.out hb)
                  have HBX1_ := Aside0.mk ((hb.block g1 (blk_lt HBX1.out)).trans HBX1.out)
                  have HBX3_ := Aside0.mk ((hb.block g3 (blk_lt HBX3.out)).trans HBX3.out)
                  clear HB HBX1 HBX3
                  have HB := HB_
                  have HBX1 := HBX1_
                  have HBX3 := HBX3_
                  clear HB_ HBX1_ HBX3_
                  clear hb
                  refine start_ (n := 7) (S := fun w' => w'.cell? ⟨g3, 0, none⟩ = some (.string sb) ∧ w'.cell? ⟨g3, 1, none⟩ = some (.int .i64 tx)) (ds := []) #[false, false, false, false, false, false, false] (by kernel_rfl) rfl rfl ⟨(blk_cell HBX3.out 0).trans rfl, (blk_cell HBX3.out 1).trans rfl⟩ (fun hHeld => ?_)
                  generalize World.drew wr = ws at HB HBX1 HBX3 hHeld ⊢
                  refine pure_ (i := 0) (N := some 51) (v := ?_) (a' := ?_) #[true, false, false, false, false, false, false] rfl rfl (by kernel_rfl) (fun _ _ _ h => h) (Or.inl ⟨by rfl, ?_⟩) ?_ ?_
                  rotate_left
                  · intro w'
                    go_simp
                    with_reducible rfl
                  rotate_left
                  · simp only [Act.put, List.setIfInBounds_toArray, List.set_cons_zero, List.set_cons_succ, i64_w, i32_w]
                    rfl
                  refine pure_ (i := 3) (N := some 54) (v := ?_) (a' := ?_) #[true, false, false, true, false, false, false] rfl rfl (by kernel_rfl) (fun _ _ _ h => h) (Or.inl ⟨by rfl, ?_⟩) ?_ ?_
                  rotate_left
                  · intro w'
                    go_simp
                    with_reducible rfl
                  rotate_left
                  · simp only [Act.put, List.setIfInBounds_toArray, List.set_cons_zero, List.set_cons_succ, i64_w, i32_w]
                    rfl
                  refine take_ (i := 2) (N := some 53) (v := ?_) (a' := ?_) #[true, false, true, true, false, false, false] rfl rfl (by kernel_rfl) (fun _ _ _ h => h) (Or.inl ⟨by rfl, ?_⟩) hHeld ?_ ?_
                  rotate_left
                  · rintro w' ⟨s0, s1⟩
                    go_simp
                    with_reducible rfl
                  rotate_left
                  · simp only [Act.put, List.setIfInBounds_toArray, List.set_cons_zero, List.set_cons_succ, i64_w, i32_w]
                    rfl
                  refine one_ (i := 1) (N := some 52) #[true, true, true, true, false, false, false] rfl rfl (by kernel_rfl) (by decide) (fun K hK => ?_)
                  refine goes_ Try.func50 (by kernel_rfl) rfl #[.int .u64 nn] (by rfl) rfl rfl (by simp only [List.map_toArray, List.map_cons, List.map_nil]; rfl) ?_
                  with_reducible refine (bits_Len64.calls nn bl _ HBL.out).mono ?_
                  rintro e wk ⟨rfl, hb⟩
                  refine ⟨_, rfl, ?_⟩
                  replace hb := drawn_below hb
                  have HB_ := Aside0.mk (below_step HB.out hb)
                  have HBX1_ := Aside0.mk ((hb.block g1 (blk_lt HBX1.out)).trans HBX1.out)
                  have HBX3_ := Aside0.mk ((hb.block g3 (blk_lt HBX3.out)).trans HBX3.out)
                  clear HB HBX1 HBX3
                  have HB := HB_
                  have HBX1 := HBX1_
                  have HBX3 := HBX3_
                  clear HB_ HBX1_ HBX3_
                  clear hb
                  refine hK.out _ _ ⟨(blk_cell HBX3.out 0).trans rfl, (blk_cell HBX3.out 1).trans rfl⟩ (fun hHeld => ?_)
                  clear hK K
                  refine norm_ (a' := ?_) ?_ ?_
                  rotate_left
                  · show Act.put _ (some 52) _ = _
                    simp only [Act.put, List.setIfInBounds_toArray, List.set_cons_zero, List.set_cons_succ, i64_w, i32_w]
                    rfl
                  refine one_ (i := 4) (N := some 55) #[true, true, true, true, true, false, false] rfl rfl (by kernel_rfl) (by decide) (fun K hK => ?_)
                  refine goes_ Try.func57 (by kernel_rfl) rfl #[.agg #[.string sb, .int .i64 tx], .int .i64 (i : Int)] (by rfl) rfl rfl (by simp only [List.map_toArray, List.map_cons, List.map_nil]; rfl) ?_
                  with_reducible refine (msg_shape_size.calls sb tx (i : Int) (s : Int) _ HSE.out).mono ?_
                  rintro e wl ⟨rfl, hb⟩
                  refine ⟨_, rfl, ?_⟩
                  have HB_ := Aside0.mk (below_step HB.out hb)
                  have HBX1_ := Aside0.mk ((hb.block g1 (blk_lt HBX1.out)).trans HBX1.out)
                  have HBX3_ := Aside0.mk ((hb.block g3 (blk_lt HBX3.out)).trans HBX3.out)
                  clear HB HBX1 HBX3
                  have HB := HB_
                  have HBX1 := HBX1_
                  have HBX3 := HBX3_
                  clear HB_ HBX1_ HBX3_
                  clear hb
                  refine hK.out _ _ ⟨(blk_cell HBX3.out 0).trans rfl, (blk_cell HBX3.out 1).trans rfl⟩ (fun hHeld => ?_)
                  clear hK K
                  refine norm_ (a' := ?_) ?_ ?_
                  rotate_left
                  · show Act.put _ (some 55) _ = _
                    simp only [Act.put, List.setIfInBounds_toArray, List.set_cons_zero, List.set_cons_succ, i64_w, i32_w]
                    rfl
                  refine pure_ (i := 5) (N := some 56) (v := ?_) (a' := ?_) #[true, true, true, true, true, true, false] rfl rfl (by kernel_rfl) (fun _ _ _ h => h) (Or.inl ⟨by rfl, ?_⟩) ?_ ?_
                  rotate_left
                  · intro w'
                    go_simp
                    with_reducible rfl
                  rotate_left
                  · simp only [Act.put, List.setIfInBounds_toArray, List.set_cons_zero, List.set_cons_succ, i64_w, i32_w]
                    rfl
                  refine pure_ (i := 6) (N := some 57) (v := ?_) (a' := ?_) #[true, true, true, true, true, true, true] rfl rfl (by kernel_rfl) (fun _ _ _ h => h) (Or.inl ⟨by rfl, ?_⟩) ?_ ?_
                  rotate_left
                  · intro w'
                    go_simp
                    with_reducible rfl
                  rotate_left
                  · simp only [Act.put, List.setIfInBounds_toArray, List.set_cons_zero, List.set_cons_succ, i64_w, i32_w]
                    rfl
                  refine done_ (by kernel_rfl) ?_

                  go_wp2
                  go_roundg gk
                  case measure => omega
                  case rel => exact ⟨i + 1, congrArg (Value.int .i64) (by omega), ⟨by have := HKQ.out; omega⟩, ⟨by omega⟩, HX2, HBX1, HBX3, HB⟩
                · have hf : fits (s : Int) nn = false := by unfold fits; rw [decide_eq_false_iff_not, Int.toNat_natCast]; exact fun h => cf h.2.2
                  have bf : decide (8 * (s : Int) < bl) = true := decide_eq_true (hbi.2 cf)
                  rw [hf, Bool.false_and, Bool.false_and] at hx
                  subst hx
                  clear hf cf hbi hbl hse hd hdz hs hnn hs4 hnw
                  go_upto_region 7 with (fail)
                  clear hx1
                  have hb := below_drew1 (Below.refl wr.heap.size wr)
                  have HB_ := Aside0.mk (below_step HB.out hb)
                  have HBX1_ := Aside0.mk ((hb.block g1 (blk_lt HBX1.out)).trans HBX1.out)
                  have HBX3_ := Aside0.mk ((hb.block g3 (blk_lt HBX3.out)).trans HBX3.out)
                  clear HB HBX1 HBX3
                  have HB := HB_
                  have HBX1 := HBX1_
                  have HBX3 := HBX3_
                  clear HB_ HBX1_ HBX3_
                  clear hb
                  refine start_ (n := 7) (S := fun w' => w'.cell? ⟨g3, 0, none⟩ = some (.string sb) ∧ w'.cell? ⟨g3, 1, none⟩ = some (.int .i64 tx)) (ds := []) #[false, false, false, false, false, false, false] (by kernel_rfl) rfl rfl ⟨(blk_cell HBX3.out 0).trans rfl, (blk_cell HBX3.out 1).trans rfl⟩ (fun hHeld => ?_)
                  generalize World.drew wr = ws at HB HBX1 HBX3 hHeld ⊢
                  refine pure_ (i := 0) (N := some 51) (v := ?_) (a' := ?_) #[true, false, false, false, false, false, false] rfl rfl (by kernel_rfl) (fun _ _ _ h => h) (Or.inl ⟨by rfl, ?_⟩) ?_ ?_
                  rotate_left
                  · intro w'
                    go_simp
                    with_reducible rfl
                  rotate_left
                  · simp only [Act.put, List.setIfInBounds_toArray, List.set_cons_zero, List.set_cons_succ, i64_w, i32_w]
                    rfl
                  refine pure_ (i := 3) (N := some 54) (v := ?_) (a' := ?_) #[true, false, false, true, false, false, false] rfl rfl (by kernel_rfl) (fun _ _ _ h => h) (Or.inl ⟨by rfl, ?_⟩) ?_ ?_
                  rotate_left
                  · intro w'
                    go_simp
                    with_reducible rfl
                  rotate_left
                  · simp only [Act.put, List.setIfInBounds_toArray, List.set_cons_zero, List.set_cons_succ, i64_w, i32_w]
                    rfl
                  refine take_ (i := 2) (N := some 53) (v := ?_) (a' := ?_) #[true, false, true, true, false, false, false] rfl rfl (by kernel_rfl) (fun _ _ _ h => h) (Or.inl ⟨by rfl, ?_⟩) hHeld ?_ ?_
                  rotate_left
                  · rintro w' ⟨s0, s1⟩
                    go_simp
                    with_reducible rfl
                  rotate_left
                  · simp only [Act.put, List.setIfInBounds_toArray, List.set_cons_zero, List.set_cons_succ, i64_w, i32_w]
                    rfl
                  refine one_ (i := 1) (N := some 52) #[true, true, true, true, false, false, false] rfl rfl (by kernel_rfl) (by decide) (fun K hK => ?_)
                  refine goes_ Try.func50 (by kernel_rfl) rfl #[.int .u64 nn] (by rfl) rfl rfl (by simp only [List.map_toArray, List.map_cons, List.map_nil]; rfl) ?_
                  with_reducible refine (bits_Len64.calls nn bl _ HBL.out).mono ?_
                  rintro e wk ⟨rfl, hb⟩
                  refine ⟨_, rfl, ?_⟩
                  replace hb := drawn_below hb
                  have HB_ := Aside0.mk (below_step HB.out hb)
                  have HBX1_ := Aside0.mk ((hb.block g1 (blk_lt HBX1.out)).trans HBX1.out)
                  have HBX3_ := Aside0.mk ((hb.block g3 (blk_lt HBX3.out)).trans HBX3.out)
                  clear HB HBX1 HBX3
                  have HB := HB_
                  have HBX1 := HBX1_
                  have HBX3 := HBX3_
                  clear HB_ HBX1_ HBX3_
                  clear hb
                  refine hK.out _ _ ⟨(blk_cell HBX3.out 0).trans rfl, (blk_cell HBX3.out 1).trans rfl⟩ (fun hHeld => ?_)
                  clear hK K
                  refine norm_ (a' := ?_) ?_ ?_
                  rotate_left
                  · show Act.put _ (some 52) _ = _
                    simp only [Act.put, List.setIfInBounds_toArray, List.set_cons_zero, List.set_cons_succ, i64_w, i32_w]
                    rfl
                  refine one_ (i := 4) (N := some 55) #[true, true, true, true, true, false, false] rfl rfl (by kernel_rfl) (by decide) (fun K hK => ?_)
                  refine goes_ Try.func57 (by kernel_rfl) rfl #[.agg #[.string sb, .int .i64 tx], .int .i64 (i : Int)] (by rfl) rfl rfl (by simp only [List.map_toArray, List.map_cons, List.map_nil]; rfl) ?_
                  with_reducible refine (msg_shape_size.calls sb tx (i : Int) (s : Int) _ HSE.out).mono ?_
                  rintro e wl ⟨rfl, hb⟩
                  refine ⟨_, rfl, ?_⟩
                  have HB_ := Aside0.mk (below_step HB.out hb)
                  have HBX1_ := Aside0.mk ((hb.block g1 (blk_lt HBX1.out)).trans HBX1.out)
                  have HBX3_ := Aside0.mk ((hb.block g3 (blk_lt HBX3.out)).trans HBX3.out)
                  clear HB HBX1 HBX3
                  have HB := HB_
                  have HBX1 := HBX1_
                  have HBX3 := HBX3_
                  clear HB_ HBX1_ HBX3_
                  clear hb
                  refine hK.out _ _ ⟨(blk_cell HBX3.out 0).trans rfl, (blk_cell HBX3.out 1).trans rfl⟩ (fun hHeld => ?_)
                  clear hK K
                  refine norm_ (a' := ?_) ?_ ?_
                  rotate_left
                  · show Act.put _ (some 55) _ = _
                    simp only [Act.put, List.setIfInBounds_toArray, List.set_cons_zero, List.set_cons_succ, i64_w, i32_w]
                    rfl
                  refine pure_ (i := 5) (N := some 56) (v := ?_) (a' := ?_) #[true, true, true, true, true, true, false] rfl rfl (by kernel_rfl) (fun _ _ _ h => h) (Or.inl ⟨by rfl, ?_⟩) ?_ ?_
                  rotate_left
                  · intro w'
                    go_simp
                    with_reducible rfl
                  rotate_left
                  · simp only [Act.put, List.setIfInBounds_toArray, List.set_cons_zero, List.set_cons_succ, i64_w, i32_w]
                    rfl
                  refine pure_ (i := 6) (N := some 57) (v := ?_) (a' := ?_) #[true, true, true, true, true, true, true] rfl rfl (by kernel_rfl) (fun _ _ _ h => h) (Or.inl ⟨by rfl, ?_⟩) ?_ ?_
                  rotate_left
                  · intro w'
                    go_simp
                    with_reducible rfl
                  rotate_left
                  · simp only [Act.put, List.setIfInBounds_toArray, List.set_cons_zero, List.set_cons_succ, i64_w, i32_w]
                    rfl
                  refine done_ (by kernel_rfl) ?_

                  go_wp2
                  go_ret
                  exact ⟨rfl, HB.out⟩
              · have cb : decide ((i : Int) < (n1 : Int)) = false := decide_eq_false (by omega)
                have hx := HX.out
                rw [List.drop_eq_nil_of_le (by have := HN1.out; omega), List.drop_eq_nil_of_le (by have := HZL.out; omega)] at hx
                simp only [allFit, Bool.true_and] at hx
                subst hx
                have hx2 : wr.cell? ⟨g1, 2, none⟩ = some (.slice A2 n2 c2) := (blk_cell HBX1.out 2).trans rfl
                go_wp2_with (first | (go_at_call 58; with_reducible refine (ContainsFunc_calls A2 n2 c2 ts HN2.out bb _ (Kd.C_below HC2.out HB.out) HCC2.out HBB.out).mono ?_; rintro e w' ⟨rfl, hb⟩; have HB_ := Aside0.mk (below_step HB.out hb); clear HB; have HB := HB_; clear HB_; clear hb))
                go_ret
                exact ⟨rfl, HB.out⟩
        · have cx1 : tx ≠ -1 := fun e => cx (.inl e)
          have cx2 : (n2 : Int) ≠ tx := fun e => cx (.inr e)
          have b3 : (tx != -1) = true := bne_iff_ne.mpr cx1
          have b4 : ((n2 : Int) != tx) = true := bne_iff_ne.mpr cx2
          have hr : r = false := by
            rw [← h]
            unfold textsOk
            rw [hn2, show (tx == -1) = false from beq_eq_false_iff_ne.mpr cx1, show ((n2 : Int) == tx) = false from beq_eq_false_iff_ne.mpr cx2]
            simp
          subst hr
          clear h ct cn hcs cx cx1 cx2
          go_enter Try.func40, Try.ntmps40
          go_wp2_with (first | ((with_reducible refine gate_dst (N := 1) rfl ?_); refine box_event ?hg (N := 1) ?hd (cs := #[.int .i64 k, .slice A1 n1 c1, .slice A2 n2 c2]) (t := 67) ?hr ?_; (case hd => rfl); (case hg => rfl); (case hr => first | (go_simp; done) | (go_simp; rfl)); intro g1 hgb wa hbox hb; have HBX1 := Aside0.mk hbox; have HB_ := Aside0.mk hb; clear HB hgb hbox hb; have HB := HB_; clear HB_; have hx0 : wa.cell? ⟨g1, 0, none⟩ = some (.int .i64 k) := (blk_cell HBX1.out 0).trans rfl; have hx1 : wa.cell? ⟨g1, 1, none⟩ = some (.slice A1 n1 c1) := (blk_cell HBX1.out 1).trans rfl; have hx2 : wa.cell? ⟨g1, 2, none⟩ = some (.slice A2 n2 c2) := (blk_cell HBX1.out 2).trans rfl) | (go_at_call 56; with_reducible refine (shaped_calls k z tx _ HSZ.out).mono ?_; rw [HSB.out]; rintro e wb ⟨rfl, hb⟩; have HB_ := Aside0.mk (below_step HB.out hb); have HBX1_ := Aside0.mk ((hb.block g1 (blk_lt HBX1.out)).trans HBX1.out); clear HB HBX1; have HB := HB_; have HBX1 := HBX1_; clear HB_ HBX1_; clear hb) | ((with_reducible refine gate_dst (N := 3) rfl ?_); refine box_event ?hg (N := 3) ?hd (cs := #[.string ⟨#[]⟩, .int .i64 0]) (t := 97) ?hr ?_; (case hd => rfl); (case hg => rfl); (case hr => first | (go_simp; done) | (go_simp; rfl)); intro g3 hgb wc hbox hb; have HBX3 := Aside0.mk hbox; have HGE3 := Aside0.mk (show w.heap.size ≤ g3 by rw [hgb]; exact HB.out.size); have HNE := Aside0.mk (show g1 ≠ g3 by have := blk_lt HBX1.out; omega); have HBX1_ := Aside0.mk ((hb.block g1 (blk_lt HBX1.out)).trans HBX1.out); have HB_ := Aside0.mk (below_step HB.out hb); clear HBX1 HB; have HBX1 := HBX1_; have HB := HB_; clear HBX1_ HB_; clear hgb hbox hb) | ((with_reducible refine gate_ (.store 97 (.tmp 3) (.tmp 11)) rfl ?_); refine store_event 97 (.tmp 3) (.tmp 11) rfl rfl rfl (g := g3) #[.string ⟨#[]⟩, .int .i64 0] #[.string sb, .int .i64 tx] [.string sb, .int .i64 tx] rfl rfl rfl size97 HBX3.out (by simp) (by rfl) rfl ?_; intro wd hbox hs; have HBX1_ := Aside0.mk (hs.blk HBX1.out HNE.out); have HB_ := Aside0.mk (hs.below HB.out HGE3.out); clear HBX1 HB; have HBX1 := HBX1_; have HB := HB_; clear HBX1_ HB_; have HBX3_ := Aside0.mk hbox; clear HBX3 hbox hs; have HBX3 := HBX3_; clear HBX3_; have hx0 : wd.cell? ⟨g1, 0, none⟩ = some (.int .i64 k) := (blk_cell HBX1.out 0).trans rfl; have hx1 : wd.cell? ⟨g1, 1, none⟩ = some (.slice A1 n1 c1) := (blk_cell HBX1.out 1).trans rfl; have hx2 : wd.cell? ⟨g1, 2, none⟩ = some (.slice A2 n2 c2) := (blk_cell HBX1.out 2).trans rfl; have hy0 : wd.cell? ⟨g3, 0, none⟩ = some (.string sb) := (blk_cell HBX3.out 0).trans rfl; have hy1 : wd.cell? ⟨g3, 1, none⟩ = some (.int .i64 tx) := (blk_cell HBX3.out 1).trans rfl))
          go_ret
          exact ⟨rfl, HB.out⟩
    · have b1 : ((n1 : Int) != (zl : Int)) = true := bne_iff_ne.mpr (by omega)
      have hr : r = false := by
        rw [← h]
        cases e : allFit z ns with
        | false => rfl
        | true => exact absurd (allFit_len e) (by omega)
      subst hr
      clear h cn hcs
      go_enter Try.func40, Try.ntmps40
      go_wp2_with (first | ((with_reducible refine gate_dst (N := 1) rfl ?_); refine box_event ?hg (N := 1) ?hd (cs := #[.int .i64 k, .slice A1 n1 c1, .slice A2 n2 c2]) (t := 67) ?hr ?_; (case hd => rfl); (case hg => rfl); (case hr => first | (go_simp; done) | (go_simp; rfl)); intro g1 hgb wa hbox hb; have HBX1 := Aside0.mk hbox; have HB_ := Aside0.mk hb; clear HB hgb hbox hb; have HB := HB_; clear HB_; have hx0 : wa.cell? ⟨g1, 0, none⟩ = some (.int .i64 k) := (blk_cell HBX1.out 0).trans rfl; have hx1 : wa.cell? ⟨g1, 1, none⟩ = some (.slice A1 n1 c1) := (blk_cell HBX1.out 1).trans rfl; have hx2 : wa.cell? ⟨g1, 2, none⟩ = some (.slice A2 n2 c2) := (blk_cell HBX1.out 2).trans rfl) | (go_at_call 56; with_reducible refine (shaped_calls k z tx _ HSZ.out).mono ?_; rw [HSB.out]; rintro e wb ⟨rfl, hb⟩; have HB_ := Aside0.mk (below_step HB.out hb); have HBX1_ := Aside0.mk ((hb.block g1 (blk_lt HBX1.out)).trans HBX1.out); clear HB HBX1; have HB := HB_; have HBX1 := HBX1_; clear HB_ HBX1_; clear hb) | ((with_reducible refine gate_dst (N := 3) rfl ?_); refine box_event ?hg (N := 3) ?hd (cs := #[.string ⟨#[]⟩, .int .i64 0]) (t := 97) ?hr ?_; (case hd => rfl); (case hg => rfl); (case hr => first | (go_simp; done) | (go_simp; rfl)); intro g3 hgb wc hbox hb; have HBX3 := Aside0.mk hbox; have HGE3 := Aside0.mk (show w.heap.size ≤ g3 by rw [hgb]; exact HB.out.size); have HNE := Aside0.mk (show g1 ≠ g3 by have := blk_lt HBX1.out; omega); have HBX1_ := Aside0.mk ((hb.block g1 (blk_lt HBX1.out)).trans HBX1.out); have HB_ := Aside0.mk (below_step HB.out hb); clear HBX1 HB; have HBX1 := HBX1_; have HB := HB_; clear HBX1_ HB_; clear hgb hbox hb) | ((with_reducible refine gate_ (.store 97 (.tmp 3) (.tmp 11)) rfl ?_); refine store_event 97 (.tmp 3) (.tmp 11) rfl rfl rfl (g := g3) #[.string ⟨#[]⟩, .int .i64 0] #[.string sb, .int .i64 tx] [.string sb, .int .i64 tx] rfl rfl rfl size97 HBX3.out (by simp) (by rfl) rfl ?_; intro wd hbox hs; have HBX1_ := Aside0.mk (hs.blk HBX1.out HNE.out); have HB_ := Aside0.mk (hs.below HB.out HGE3.out); clear HBX1 HB; have HBX1 := HBX1_; have HB := HB_; clear HBX1_ HB_; have HBX3_ := Aside0.mk hbox; clear HBX3 hbox hs; have HBX3 := HBX3_; clear HBX3_; have hx0 : wd.cell? ⟨g1, 0, none⟩ = some (.int .i64 k) := (blk_cell HBX1.out 0).trans rfl; have hx1 : wd.cell? ⟨g1, 1, none⟩ = some (.slice A1 n1 c1) := (blk_cell HBX1.out 1).trans rfl; have hx2 : wd.cell? ⟨g1, 2, none⟩ = some (.slice A2 n2 c2) := (blk_cell HBX1.out 2).trans rfl; have hy0 : wd.cell? ⟨g3, 0, none⟩ = some (.string sb) := (blk_cell HBX3.out 0).trans rfl; have hy1 : wd.cell? ⟨g3, 1, none⟩ = some (.int .i64 tx) := (blk_cell HBX3.out 1).trans rfl))
      go_ret
      exact ⟨rfl, HB.out⟩
end Go.Proofs.Ytagmefjpnmjcjab.Mh

/- Numbers and texts, put and taken: contracts with named lengths. -/
namespace Go.Proofs.Ytagmefjpnmjcjab.Mh
open Go.RowKit Go.Proofs.Ytagmefjpnmjcjab.Nu Go.Proofs.YtagmefjpnmjcjabW.PrintWords Go.Proofs.YtagmefjpnmjcjabW.PrintLast Go.Proofs.YtagmefjpnmjcjabW.PrintMore
open Go.Proofs.Ytagmefjpnmjcjab.FrNum
open Go.Proofs.Ytagmefjpnmjcjab.Fh (bt_drop bt_take fits_2 T8 T8.of_R T8.slice)
set_option linter.unusedVariables false
set_option linter.unusedSimpArgs false
theorem putText_eq (k : Nat) (l : List Int) (s : ByteArray) (hs : s.size ≤ 65535) (hl : l.length < 140737488200000) (hk : 11 ≤ k) :
    num_PutText.f k l s = some (l ++ be 2 (s.size : Int) ++ bytesOf s, 0) := by
  unfold num_PutText.f
  rw [if_neg (by omega), u64_small (by omega) (by omega), put_eq k l 2 (s.size : Int) (by omega) (by omega) (by omega) hk, if_pos (fits_2 (s.size : Int) (by omega) (by omega))]
  simp only [Option.bind_some]
  have e : (2 : Int).toNat = 2 := rfl
  rw [e]
  have hb := be_length 2 (s.size : Int)
  rw [if_pos (by rw [List.length_append, hb]; omega)]
/-- What the text taken off is, or why there is none. -/
def text1S (l : List Int) : ByteArray × List Int × Int := match text1 l with
  | none => (⟨#[]⟩, [], 3)
  | some (t, r) => (t, r, 0)
theorem takeText_eq (k : Nat) (l : List Int) (hb : Bytes l) (hl : l.length < 140737488355328) (hk : 11 ≤ k) : num_TakeText.f k l = some (text1S l) := by
  unfold num_TakeText.f text1S text1
  rw [take_eq k l 2 hb hl hk, if_pos (by decide)]
  by_cases h : l.length < 2
  · rw [if_pos (by omega), if_pos h]
    simp
  · rw [if_neg (by omega), if_neg h]
    have e : (2 : Int).toNat = 2 := rfl
    simp only [Option.bind_some, e]
    have hv := vl_bound (l.take 2) (bt_take hb 2)
    have hd : (l.drop 2).length = l.length - 2 := List.length_drop
    generalize vl 0 (l.take 2) = v at hv ⊢
    rw [if_pos trivial, u64_small (by omega) (by omega)]
    by_cases h2 : ((l.drop 2).length : Int) < v
    · rw [if_pos h2, if_pos h2]
    · rw [if_neg h2, if_neg h2, if_pos hv.1, if_pos (by omega)]
theorem Put_calls (A : Option Addr) (n c : Nat) (l : List Int) (hn : l.length = n) (s : Nat) (nn : Int) (w : World) (hC : Kd.C (Kd.int .u8) w A n l) (hc : n ≤ c) (hf : fits (s : Int) nn = true) (h0 : 0 ≤ nn ∧ nn ≤ 18446744073709551615) (hl : n ≤ 1000000) :
    Calls Try.prog 15 #[.slice A n c, .int .i64 (s : Int), .int .u64 nn] w fun e w' => ∃ v : Value, e = .returned (.tuple #[v, .int .i64 0]) ∧ Kd.R (Kd.int .u8) 5 w' w.heap.size (fun _ => True) v (l ++ be s nn) ∧ Below w.heap.size w w' := by
  subst hn
  refine num_Put.calls 11 A c l (s : Int) nn (l ++ be s nn) 0 w hC hc ?_
  rw [put_eq 11 l (s : Int) nn h0.1 h0.2 (by omega) (Nat.le_refl _), if_pos hf, Int.toNat_natCast]
theorem PutText_calls (A : Option Addr) (n c : Nat) (l : List Int) (hn : l.length = n) (t : ByteArray) (w : World) (hC : Kd.C (Kd.int .u8) w A n l) (hc : n ≤ c) (ht : t.size ≤ 65535) (hl : n ≤ 1000000) :
    Calls Try.prog 19 #[.slice A n c, .string t] w fun e w' => ∃ v : Value, e = .returned (.tuple #[v, .int .i64 0]) ∧ Kd.R (Kd.int .u8) 5 w' w.heap.size (fun _ => True) v (l ++ (be 2 (t.size : Int) ++ bytesOf t)) ∧ Below w.heap.size w w' := by
  subst hn
  refine num_PutText.calls 11 A c l t (l ++ (be 2 (t.size : Int) ++ bytesOf t)) 0 w hC hc ?_
  rw [putText_eq 11 l t ht (by omega) (Nat.le_refl _), List.append_assoc]
/-- What a number taken off is. -/
def num1S (s : Nat) (l : List Int) : Int × List Int × Int := if l.length < s then (0, [], 3) else (vl 0 (l.take s), l.drop s, 0)
theorem Take_calls (A : Option Addr) (n c : Nat) (l : List Int) (hn : l.length = n) (s : Nat) (hs : 1 ≤ s ∧ s ≤ 8) (r1 : Int) (r2 : List Int) (r3 : Int) (w : World) (hC : Kd.C (Kd.int .u8) w A n l) (hc : n ≤ c) (hB : Bytes l) (hl : n ≤ 1000000) (h : num1S s l = (r1, r2, r3)) :
    Calls Try.prog 17 #[.slice A n c, .int .i64 (s : Int)] w fun e w' => ∃ v : Value, e = .returned (.tuple #[.int .u64 r1, v, .int .i64 r3]) ∧ T8 w' v r2 ∧ Below w.heap.size w w' := by
  subst hn
  refine (num_Take.calls 11 A c l (s : Int) r1 r2 r3 w hC hc ?_).mono ?_
  · rw [take_eq 11 l (s : Int) hB (by omega) (Nat.le_refl _), if_pos (by omega), ← h]
    unfold num1S
    rw [Int.toNat_natCast]
    by_cases c1 : l.length < s
    · rw [if_pos (by omega), if_pos c1]
    · rw [if_neg (by omega), if_neg c1]
  · rintro e w' ⟨v, rfl, hr, hb⟩
    exact ⟨v, rfl, T8.of_R hr, hb⟩
theorem T8_of_Q {W : World} {base : Nat} {ok : Nat → Prop} {v : Value} {l : List Int} (h : Kd.Q (Kd.int .u8) 5 W base ok v l) : T8 W v l := by
  refine ⟨_, ?_, Kd.Q_V (Kd.Q_bound h)⟩
  rintro k ⟨_, _, _, q, hq, cells, hc⟩
  have : q = 5 := by simpa [Kd.int, Kd.scalar] using hq
  subst this
  exact ⟨cells, hc⟩
theorem TakeText_calls (A : Option Addr) (n c : Nat) (l : List Int) (hn : l.length = n) (r1 : ByteArray) (r2 : List Int) (r3 : Int) (w : World) (hC : Kd.C (Kd.int .u8) w A n l) (hc : n ≤ c) (hB : Bytes l) (hl : n ≤ 1000000) (h : text1S l = (r1, r2, r3)) :
    Calls Try.prog 21 #[.slice A n c] w fun e w' => ∃ v : Value, e = .returned (.tuple #[.string r1, v, .int .i64 r3]) ∧ T8 w' v r2 ∧ Below w.heap.size w w' := by
  subst hn
  refine (num_TakeText.calls 11 A c l r1 r2 r3 w hC hc ?_).mono ?_
  · rw [takeText_eq 11 l hB (by omega) (Nat.le_refl _), h]
  · rintro e w' ⟨v, rfl, hr, hb⟩
    exact ⟨v, rfl, T8_of_Q hr, hb⟩
theorem numsB_len : ∀ {z : List Nat} {ns : List Int}, (∀ s ∈ z, s = 4 ∨ s = 1) → (numsB z ns).length ≤ 4 * z.length
  | [], ns, _ => by simp [numsB]
  | s :: z, [], _ => by simp [numsB]
  | s :: z, n :: ns, h => by
    have h1 := numsB_len (z := z) (ns := ns) (fun x hx => h x (List.mem_cons_of_mem _ hx))
    have h2 := h s (by simp)
    unfold numsB
    rw [List.length_append, be_length, List.length_cons]
    omega
theorem textsB_len : ∀ {ts : List ByteArray}, (∀ t ∈ ts, t.size ≤ 200) → (textsB ts).length ≤ 202 * ts.length
  | [], _ => by simp [textsB]
  | t :: ts, h => by
    have h1 := textsB_len (ts := ts) (fun x hx => h x (List.mem_cons_of_mem _ hx))
    have h2 := h t (by simp)
    have e : textsB (t :: ts) = be 2 (t.size : Int) ++ bytesOf t ++ textsB ts := rfl
    rw [e, List.length_append, List.length_append, be_length, bytesOf_len, List.length_cons]
    omega
theorem bodyM_len {k : Int} {ns : List Int} {ts : List ByteArray} (h : rightS k ns ts = true) : (bodyM k ns ts).length ≤ 5000 := by
  unfold rightS at h
  unfold bodyM
  cases e : szS k with
  | none => simp
  | some p =>
    obtain ⟨z, tx⟩ := p
    rw [e] at h
    simp only [Bool.and_eq_true] at h
    have h1 := numsB_len (ns := ns) (szS_cases e).2.2.1
    have h2 := textsB_len (textsOk_small h.2).2
    have h3 := (textsOk_small h.2).1
    have h4 := (szS_cases e).2.1
    simp only [List.length_append]
    omega
end Go.Proofs.Ytagmefjpnmjcjab.Mh

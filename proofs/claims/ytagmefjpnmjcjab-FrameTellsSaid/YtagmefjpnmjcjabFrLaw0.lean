/- The frame package's and its document's contracts with named lengths. -/
import Derived.Test.YtagmefjpnmjcjabFrAwake
import Derived.Test.YtagmefjpnmjcjabFrPure
namespace Go.Proofs.Ytagmefjpnmjcjab.Fh
open Go.RowKit Go.Proofs.YtagmefjpnmjcjabW.PrintWords Go.Proofs.YtagmefjpnmjcjabW.PrintLast Go.Proofs.YtagmefjpnmjcjabW.PrintMore
open Go.Proofs.Ytagmefjpnmjcjab.Fr
open Go.Proofs.Ytagmefjpnmjcjab.FrNum (readS read_eq refRead_eq Bytes same_eq)
set_option linter.unusedVariables false
set_option linter.unusedSimpArgs false
theorem Frames_calls (ok : Nat → Prop) (A : Option Addr) (n c : Nat) (l : List S38) (hn : l.length = n) (w : World) (hV : Kd.V k38 38 w 0 ok (.slice A n c) l) (hl : n ≤ 1000000) :
    Calls Try.prog 31 #[.slice A n c] w fun e w' => ∃ B d, e = .returned (.slice B n d) ∧ n ≤ d ∧ Kd.C k41 w' B n (l.map to41) ∧ Below w.heap.size w w' := by
  subst hn
  refine (signalmanlaw02_frames.calls (l.length + 1) ok A c l _ w hV (frames_eq _ l hl (Nat.lt_succ_self _))).mono ?_
  rintro e w' ⟨v, rfl, hN, hb⟩
  obtain ⟨B, d, rfl, h1, h2⟩ := Kd.N_reads hN
  rw [List.length_map] at h1 h2
  exact ⟨B, d, by rw [List.length_map], h1, h2, hb⟩
theorem Same41_calls (A : Option Addr) (n c : Nat) (a : List S41) (hn : a.length = n) (B : Option Addr) (m d : Nat) (b : List S41) (hm : b.length = m) (r : Bool) (w : World) (hC : Kd.C k41 w A n a) (hc : n ≤ c) (hD : Kd.C k41 w B m b) (hd : m ≤ d) (hl : n ≤ 1000000) (hb : ∀ x ∈ a, x.f1.length ≤ 1000000) (h : decide (a = b) = r) :
    Calls Try.prog 30 #[.slice A n c, .slice B m d] w fun e w' => e = .returned (.bool r) ∧ Below w.heap.size w w' := by
  subst hn hm
  refine (signalmanref02_Same.calls (a.length + 1000002) A c a B d b r w hC hc hD hd (by rw [refSame_eq _ a b hl 1000000 (Nat.le_refl _) hb (by omega), h])).mono ?_
  rintro e w' ⟨rfl, hd⟩
  exact ⟨rfl, Drawn0.below_ hd⟩
theorem All_calls (ok : Nat → Prop) (A : Option Addr) (n c : Nat) (l : List Int) (hn : l.length = n) (o : List S38) (b2 : List Int) (e2 : Int) (w : World) (hV : Kd.V (Kd.int .u8) 5 w 0 ok (.slice A n c) l) (hB : Bytes l) (hl : n ≤ 1000000) (h : framesS l = (o, b2, e2)) :
    Calls Try.prog 35 #[.slice A n c] w fun e w' => ∃ B d v, e = .returned (.tuple #[.slice B o.length d, v, .int .i64 e2]) ∧ o.length ≤ d ∧ Kd.C k41 w' B o.length (o.map to41) ∧ T8 w' v b2 ∧ Below w.heap.size w w' := by
  subst hn
  refine (signalmanref02_All.calls (l.length + 1) ok A c l (o.map to41) b2 e2 w hV (by rw [refAll_eq _ l hB hl (Nat.lt_succ_self _), h])).mono ?_
  rintro e w' ⟨v0, v1, rfl, hS, hR, hb⟩
  obtain ⟨B, d, rfl, h1, h2⟩ := Kd.S_reads hS
  rw [List.length_map] at h1 h2
  exact ⟨B, d, v1, by rw [List.length_map], h1, h2, T8.of_R hR, hb⟩
theorem RefRead_calls (A : Option Addr) (n c : Nat) (l : List Int) (hn : l.length = n) (r1 : Int) (r2 : List Int) (r3 r4 : Int) (w : World) (hC : Kd.C (Kd.int .u8) w A n l) (hc : n ≤ c) (hl : n ≤ 1000000) (hB : Bytes l) (h : readS l = (r1, r2, r3, r4)) :
    Calls Try.prog 29 #[.slice A n c] w fun e w' => ∃ v1_ : Value, e = .returned (.tuple #[.agg #[.int .u8 r1, v1_], .int .i64 r3, .int .i64 r4]) ∧ Kd.R (Kd.int .u8) 5 w' w.heap.size (fun _ => True) v1_ r2 ∧ Below w.heap.size w w' := by
  subst hn
  exact signalmanref02_Read.calls A c l r1 r2 r3 r4 w hC hc (by rw [refRead_eq l hB hl, h])
theorem RefBytes_calls (a : Int) (A : Option Addr) (n c : Nat) (l : List Int) (hn : l.length = n) (r1 : List Int) (r2 : Int) (w : World) (hC : Kd.C (Kd.int .u8) w A n l) (hc : n ≤ c) (h : bytesS a l = (r1, r2)) :
    Calls Try.prog 27 #[.agg #[.int .u8 a, .slice A n c]] w fun e w' => ∃ v0_ : Value, e = .returned (.tuple #[v0_, .int .i64 r2]) ∧ Kd.R (Kd.int .u8) 5 w' w.heap.size (fun _ => True) v0_ r1 ∧ Below w.heap.size w w' := by
  subst hn
  exact signalmanref02_Bytes.calls a A c l r1 r2 w hC hc (by rw [refBytes_eq a l, h])
/-- A row of frames that is read, whatever decoder changes. -/
def T38 (W : World) (N : Nat) (v : Value) (l : List S38) : Prop := Kd.V k38 38 W 0 (fun k => N ≤ k) v l
theorem T38.of_R {W : World} {base N : Nat} {ok : Nat → Prop} {v : Value} {l : List S38} (h : Kd.R k38 38 W base ok v l) (hN : N ≤ base) : T38 W N v l := Kd.V_mono (Kd.R_V (Kd.R_bound h)) (fun k hk => Nat.le_trans hN hk.2.1)
section
variable {W W' : World} {N : Nat} {v : Value} {l : List S38}
theorem T38.below (h : T38 W N v l) (hb : Below W.heap.size W W') : T38 W' N v l := Kd.V_below h hb
theorem T38.alloc (h : T38 W N v l) (o : Obj) : T38 (W.alloc o) N v l := Kd.V_alloc h o
theorem T38.slice (h : T38 W N v l) : ∃ A c, v = .slice A l.length c := Kd.V_slice h
theorem T38.near {g : Nat} (h : T38 W N v l) (hg : g < N) (hn : Near W W' g) : T38 W' N v l := Kd.V_keep h hn.keep (fun k hk e => by omega)
end
theorem frames_len {x : List Int} {o : List S38} {b2 : List Int} {e2 : Int} (hB : Bytes x) (h : framesS x = (o, b2, e2)) : o.length ≤ x.length ∧ b2.length ≤ x.length ∧ Bytes b2 ∧ (∀ f ∈ o, Bytes f.f1 ∧ f.f1.length ≤ 300) := by
  have h1 := framesS_count hB
  have h2 := framesS_kept_le hB
  have h3 := framesS_kept_bytes hB
  have h4 := framesS_told hB
  rw [h] at h1 h2 h3 h4
  exact ⟨h1, h2, h3, fun f hf => (h4 f hf).2.2⟩
end Go.Proofs.Ytagmefjpnmjcjab.Fh

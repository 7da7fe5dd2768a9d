/- Lemmas and contracts of functions, several texts in one: BO. -/
import Derived.Test.YtgfhgeelfaalmaaGreatDoorK08
import Derived.Test.YtgfhgeelfaalmaaGreatDoorK07
namespace Go.Proofs.YtgfhgeelfaalmaaGreatDoor
open Go.RowKit
set_option linter.unusedVariables false
set_option linter.unusedSimpArgs false
theorem ok_s {fs : List DT} {x : X} (h : DT.ok (.struct fs) x) : ∃ xs, x = .agg xs ∧ DT.oks fs xs := by simpa only [DT.ok] using h
theorem oks_c {f : DT} {fs : List DT} {xs : List X} (h : DT.oks (f :: fs) xs) : ∃ y ys, xs = y :: ys ∧ DT.ok f y ∧ DT.oks fs ys := by simpa only [DT.oks] using h
theorem oks_n {xs : List X} (h : DT.oks [] xs) : xs = [] := by simpa only [DT.oks] using h
theorem cs_int {x : X} (h : DT.ok (.int .i64) x) : ∃ n, X.cs x = [i64 n] := by
  obtain ⟨n, rfl, _⟩ := ok_i64 h
  exact ⟨n, rfl⟩
theorem cs_str {x : X} (h : DT.ok .string x) : ∃ s, X.cs x = [strD s] := by
  simp only [DT.ok] at h
  obtain ⟨s, rfl, _⟩ := h
  exact ⟨s, rfl⟩
theorem cs_bool {x : X} (h : DT.ok .bool x) : ∃ s, X.cs x = [.val (.bool s)] := by
  simp only [DT.ok] at h
  obtain ⟨s, rfl⟩ := h
  exact ⟨s, rfl⟩
theorem list_cs {α : Type} {f : α → List D} {p : α → Prop} {e : DT} (h : ∀ x, e.ok x → ∃ a, X.cs x = f a ∧ p a) : ∀ {xs : List X}, (∀ y ∈ xs, e.ok y) → ∃ l : List α, X.css xs = l.map f ∧ (∀ a ∈ l, p a) ∧ l.length = xs.length
  | [], _ => ⟨[], by simp [X.css], (fun a ha => by cases ha), rfl⟩
  | x :: xs, hx => by
    obtain ⟨a, ha, hp⟩ := h x (hx x List.mem_cons_self)
    obtain ⟨l, hl, hq, hn⟩ := list_cs h fun y hy => hx y (List.mem_cons_of_mem _ hy)
    refine ⟨a :: l, by simp only [X.css, List.map_cons, ha, hl], fun b hb => ?_, by simp [hn]⟩
    rcases List.mem_cons.1 hb with rfl | hb
    · exact hp
    · exact hq b hb
theorem cs_slice {α : Type} {f : α → List D} {p : α → Prop} {e : DT} {sz by_ : Nat} {x : X} (hb : 0 < by_) (he : ∀ x, e.ok x → ∃ a, X.cs x = f a ∧ p a) (h : DT.ok (.slice sz by_ e) x) : ∃ l : List α, X.cs x = [.seq sz (l.map f)] ∧ (∀ a ∈ l, p a) ∧ big l.length := by
  simp only [DT.ok] at h
  obtain ⟨xs, rfl, hl, hx⟩ := h
  obtain ⟨l, h1, h2, h3⟩ := list_cs he hx
  refine ⟨l, by simp only [X.cs, h1], h2, ?_⟩
  unfold big
  have : xs.length * 1 ≤ xs.length * by_ := Nat.mul_le_mul_left _ hb
  omega
abbrev dP : DT := .struct [.int .i64, .int .i64]
abbrev dPl : DT := .struct [.int .i64, .slice 2 16 dP]
abbrev dOp : DT := .struct [.int .i64, dPl, .int .i64]
abbrev dRv : DT := .struct [.int .i64, .int .i64, .int .i64, .bool, dPl, .slice 4 48 dOp]
abbrev dSt : DT := .struct [.int .i64, dPl, dRv, .int .i64]
abbrev dTm : DT := .struct [.int .i64, .slice 1 8 (.int .i64), .slice 4 48 dOp, dPl, .string]
abbrev dBk : DT := .struct [.slice 11 136 dSt, dTm]
abbrev dTy : DT := .struct [.int .i64, .bool, .int .i64, .int .i64, .slice 1 8 (.int .i64)]
abbrev dLc : DT := .struct [.string, .int .i64]
abbrev dBd : DT := .struct [.string, .slice 1 16 .string, .slice 2 16 (.array 2 (.int .i64)), .slice 5 56 dTy, .slice 2 24 dLc, .int .i64, .slice 7 128 dBk]
theorem c_i (x : X) (h : DT.ok (.int .i64) x) : ∃ n, X.cs x = iD n ∧ True := by
  obtain ⟨n, h⟩ := cs_int h
  exact ⟨n, h, trivial⟩
theorem c_s (x : X) (h : DT.ok .string x) : ∃ n, X.cs x = sD n ∧ True := by
  obtain ⟨n, h⟩ := cs_str h
  exact ⟨n, h, trivial⟩
theorem c_pr (x : X) (h : DT.ok (.array 2 (.int .i64)) x) : ∃ p : Int × Int, X.cs x = pD p ∧ True := by
  obtain ⟨a, b, rfl, _, _⟩ := ok_pair h
  exact ⟨(a, b), rfl, trivial⟩
theorem c_P (x : X) (h : DT.ok dP x) : ∃ p : Int × Int, X.cs x = pD p ∧ True := by
  obtain ⟨xs, rfl, g0⟩ := ok_s h
  obtain ⟨y1, xs0, rfl, h1, g1⟩ := oks_c g0
  obtain ⟨y2, xs1, rfl, h2, g2⟩ := oks_c g1
  obtain rfl := oks_n g2
  obtain ⟨a, h1⟩ := cs_int h1
  obtain ⟨b, h2⟩ := cs_int h2
  exact ⟨(a, b), by simp only [X.cs, X.csf, h1, h2]; rfl, trivial⟩
theorem c_Pl (x : X) (h : DT.ok dPl x) : ∃ p, X.cs x = plD p ∧ okPl p := by
  obtain ⟨xs, rfl, g0⟩ := ok_s h
  obtain ⟨y1, xs0, rfl, h1, g1⟩ := oks_c g0
  obtain ⟨y2, xs1, rfl, h2, g2⟩ := oks_c g1
  obtain rfl := oks_n g2
  obtain ⟨a, h1⟩ := cs_int h1
  obtain ⟨b, h2, _, hb⟩ := cs_slice (by decide) c_P h2
  exact ⟨⟨a, b⟩, by simp only [X.cs, X.csf, h1, h2]; rfl, hb⟩
theorem c_Op (x : X) (h : DT.ok dOp x) : ∃ p, X.cs x = opD p ∧ okOp p := by
  obtain ⟨xs, rfl, g0⟩ := ok_s h
  obtain ⟨y1, xs0, rfl, h1, g1⟩ := oks_c g0
  obtain ⟨y2, xs1, rfl, h2, g2⟩ := oks_c g1
  obtain ⟨y3, xs2, rfl, h3, g3⟩ := oks_c g2
  obtain rfl := oks_n g3
  obtain ⟨a, h1⟩ := cs_int h1
  obtain ⟨b, h2, hb⟩ := c_Pl _ h2
  obtain ⟨c, h3⟩ := cs_int h3
  exact ⟨⟨a, b, c⟩, by simp only [X.cs, X.csf, h1, h2, h3]; rfl, hb⟩
theorem c_Rv (x : X) (h : DT.ok dRv x) : ∃ p, X.cs x = rvD p ∧ okRv p := by
  obtain ⟨xs, rfl, g0⟩ := ok_s h
  obtain ⟨y1, xs0, rfl, h1, g1⟩ := oks_c g0
  obtain ⟨y2, xs1, rfl, h2, g2⟩ := oks_c g1
  obtain ⟨y3, xs2, rfl, h3, g3⟩ := oks_c g2
  obtain ⟨y4, xs3, rfl, h4, g4⟩ := oks_c g3
  obtain ⟨y5, xs4, rfl, h5, g5⟩ := oks_c g4
  obtain ⟨y6, xs5, rfl, h6, g6⟩ := oks_c g5
  obtain rfl := oks_n g6
  obtain ⟨a, h1⟩ := cs_int h1
  obtain ⟨b, h2⟩ := cs_int h2
  obtain ⟨c, h3⟩ := cs_int h3
  obtain ⟨d, h4⟩ := cs_bool h4
  obtain ⟨e, h5, h5o⟩ := c_Pl _ h5
  obtain ⟨f, h6, h6o, h6b⟩ := cs_slice (by decide) c_Op h6
  exact ⟨⟨a, b, c, d, e, f⟩, by simp only [X.cs, X.csf, h1, h2, h3, h4, h5, h6]; rfl, h5o, h6b, h6o⟩
theorem c_St (x : X) (h : DT.ok dSt x) : ∃ p, X.cs x = stD p ∧ okSt p := by
  obtain ⟨xs, rfl, g0⟩ := ok_s h
  obtain ⟨y1, xs0, rfl, h1, g1⟩ := oks_c g0
  obtain ⟨y2, xs1, rfl, h2, g2⟩ := oks_c g1
  obtain ⟨y3, xs2, rfl, h3, g3⟩ := oks_c g2
  obtain ⟨y4, xs3, rfl, h4, g4⟩ := oks_c g3
  obtain rfl := oks_n g4
  obtain ⟨a, h1⟩ := cs_int h1
  obtain ⟨b, h2, hb⟩ := c_Pl _ h2
  obtain ⟨c, h3, hc⟩ := c_Rv _ h3
  obtain ⟨d, h4⟩ := cs_int h4
  exact ⟨⟨a, b, c, d⟩, by simp only [X.cs, X.csf, h1, h2, h3, h4]; rfl, hb, hc⟩
theorem c_Tm (x : X) (h : DT.ok dTm x) : ∃ p, X.cs x = tmD p ∧ okTm p := by
  obtain ⟨xs, rfl, g0⟩ := ok_s h
  obtain ⟨y1, xs0, rfl, h1, g1⟩ := oks_c g0
  obtain ⟨y2, xs1, rfl, h2, g2⟩ := oks_c g1
  obtain ⟨y3, xs2, rfl, h3, g3⟩ := oks_c g2
  obtain ⟨y4, xs3, rfl, h4, g4⟩ := oks_c g3
  obtain ⟨y5, xs4, rfl, h5, g5⟩ := oks_c g4
  obtain rfl := oks_n g5
  obtain ⟨a, h1⟩ := cs_int h1
  obtain ⟨b, h2, _, hb⟩ := cs_slice (by decide) c_i h2
  obtain ⟨c, h3, hco, hc⟩ := cs_slice (by decide) c_Op h3
  obtain ⟨d, h4, hd⟩ := c_Pl _ h4
  obtain ⟨e, h5⟩ := cs_str h5
  exact ⟨⟨a, b, c, d, e⟩, by simp only [X.cs, X.csf, h1, h2, h3, h4, h5]; rfl, hb, ⟨hc, hco⟩, hd⟩
theorem c_Bk (x : X) (h : DT.ok dBk x) : ∃ p, X.cs x = bkD p ∧ okBk p := by
  obtain ⟨xs, rfl, g0⟩ := ok_s h
  obtain ⟨y1, xs0, rfl, h1, g1⟩ := oks_c g0
  obtain ⟨y2, xs1, rfl, h2, g2⟩ := oks_c g1
  obtain rfl := oks_n g2
  obtain ⟨a, h1, hao, ha⟩ := cs_slice (by decide) c_St h1
  obtain ⟨b, h2, hb⟩ := c_Tm _ h2
  exact ⟨⟨a, b⟩, by simp only [X.cs, X.csf, h1, h2]; rfl, ⟨ha, hao⟩, hb⟩
theorem c_Ty (x : X) (h : DT.ok dTy x) : ∃ p, X.cs x = tyD p ∧ big p.ar.length := by
  obtain ⟨xs, rfl, g0⟩ := ok_s h
  obtain ⟨y1, xs0, rfl, h1, g1⟩ := oks_c g0
  obtain ⟨y2, xs1, rfl, h2, g2⟩ := oks_c g1
  obtain ⟨y3, xs2, rfl, h3, g3⟩ := oks_c g2
  obtain ⟨y4, xs3, rfl, h4, g4⟩ := oks_c g3
  obtain ⟨y5, xs4, rfl, h5, g5⟩ := oks_c g4
  obtain rfl := oks_n g5
  obtain ⟨a, h1⟩ := cs_int h1
  obtain ⟨b, h2⟩ := cs_bool h2
  obtain ⟨c, h3⟩ := cs_int h3
  obtain ⟨d, h4⟩ := cs_int h4
  obtain ⟨e, h5, _, he⟩ := cs_slice (by decide) c_i h5
  exact ⟨⟨a, b, c, d, e⟩, by simp only [X.cs, X.csf, h1, h2, h3, h4, h5]; rfl, he⟩
theorem c_Lc (x : X) (h : DT.ok dLc x) : ∃ p, X.cs x = lcD p ∧ True := by
  obtain ⟨xs, rfl, g0⟩ := ok_s h
  obtain ⟨y1, xs0, rfl, h1, g1⟩ := oks_c g0
  obtain ⟨y2, xs1, rfl, h2, g2⟩ := oks_c g1
  obtain rfl := oks_n g2
  obtain ⟨a, h1⟩ := cs_str h1
  obtain ⟨b, h2⟩ := cs_int h2
  exact ⟨⟨a, b⟩, by simp only [X.cs, X.csf, h1, h2]; rfl, trivial⟩
theorem ok_body {x : X} (h : DT.ok (DT.struct [DT.string, DT.slice 1 16 (DT.string), DT.slice 2 16 (DT.array 2 (DT.int .i64)), DT.slice 5 56 (DT.struct [DT.int .i64, DT.bool, DT.int .i64, DT.int .i64, DT.slice 1 8 (DT.int .i64)]), DT.slice 2 24 (DT.struct [DT.string, DT.int .i64]), DT.int .i64, DT.slice 7 128 (DT.struct [DT.slice 11 136 (DT.struct [DT.int .i64, DT.struct [DT.int .i64, DT.slice 2 16 (DT.struct [DT.int .i64, DT.int .i64])], DT.struct [DT.int .i64, DT.int .i64, DT.int .i64, DT.bool, DT.struct [DT.int .i64, DT.slice 2 16 (DT.struct [DT.int .i64, DT.int .i64])], DT.slice 4 48 (DT.struct [DT.int .i64, DT.struct [DT.int .i64, DT.slice 2 16 (DT.struct [DT.int .i64, DT.int .i64])], DT.int .i64])], DT.int .i64]), DT.struct [DT.int .i64, DT.slice 1 8 (DT.int .i64), DT.slice 4 48 (DT.struct [DT.int .i64, DT.struct [DT.int .i64, DT.slice 2 16 (DT.struct [DT.int .i64, DT.int .i64])], DT.int .i64]), DT.struct [DT.int .i64, DT.slice 2 16 (DT.struct [DT.int .i64, DT.int .i64])], DT.string]])]) x) : ∃ b, x.d = .agg (bdD b) ∧ okBd b := by
  obtain ⟨xs, rfl, g0⟩ := ok_s (show DT.ok dBd x from h)
  obtain ⟨y1, xs0, rfl, h1, g1⟩ := oks_c g0
  obtain ⟨y2, xs1, rfl, h2, g2⟩ := oks_c g1
  obtain ⟨y3, xs2, rfl, h3, g3⟩ := oks_c g2
  obtain ⟨y4, xs3, rfl, h4, g4⟩ := oks_c g3
  obtain ⟨y5, xs4, rfl, h5, g5⟩ := oks_c g4
  obtain ⟨y6, xs5, rfl, h6, g6⟩ := oks_c g5
  obtain ⟨y7, xs6, rfl, h7, g7⟩ := oks_c g6
  obtain rfl := oks_n g7
  obtain ⟨a1, h1⟩ := cs_str h1
  obtain ⟨a2, h2, _, k2⟩ := cs_slice (by decide) c_s h2
  obtain ⟨a3, h3, _, k3⟩ := cs_slice (by decide) c_pr h3
  obtain ⟨a4, h4, j4, k4⟩ := cs_slice (by decide) c_Ty h4
  obtain ⟨a5, h5, _, k5⟩ := cs_slice (by decide) c_Lc h5
  obtain ⟨a6, h6⟩ := cs_int h6
  obtain ⟨a7, h7, j7, k7⟩ := cs_slice (by decide) c_Bk h7
  exact ⟨⟨a1, a2, a3, a4, a5, a6, a7⟩, by simp only [X.d, X.csf, h1, h2, h3, h4, h5, h6, h7]; rfl, k2, k3, ⟨k4, j4⟩, k5, k7, j7⟩
end Go.Proofs.YtgfhgeelfaalmaaGreatDoor

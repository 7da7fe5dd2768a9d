/- A program logic over descriptions of values. Part 4: the operations that compute, and those on memory. -/
import Derived.Test.YtdcnpkpibbefhaaL3
import Derived.Laws.MakeOwn
namespace Go.Proofs.Ytdcnpkpibbefhaa
open Go.RowKit
set_option linter.unusedVariables false

def okd (n : Nat) : Option Tmp → Prop
  | some t => t < n
  | none => True
theorem okd_spec {n : Nat} {dst : Option Tmp} (h : okd n dst) : ∀ t, dst = some t → t < n := fun t e => by subst e; exact h
theorem sem_FR {ro : Option Nat} {ρ : Operand → Value} {o : Oper} (h : ∀ c, o.op ≠ .defer c) : o.semAt (FR ro).round ρ = execOp ρ o := Oper.semAt_eq ro ρ o h
theorem WO_val {cx : Cx} {o : Oper} {K : St → Prop} {s : St} (hdef : ∀ c, o.op ≠ .defer c) (hd : okd cx.n o.dst)
    (h : ∀ a w, Match cx s a w → ∃ v w' d H', (execOp a.eval o).run cx.P w = .ok (.value v) w' ∧ D.is w' H'.others d v ∧ HOk w' H' ∧ Ev s.H w H' w' ∧ K ((s.withH H').put o.dst d)) : WO cx o K s := fun a w m => by
  refine ⟨about_FR, ?_⟩
  rw [sem_FR hdef]
  obtain ⟨v, w', d, H', h1, h2, h3, h4, h5⟩ := h a w m
  rw [h1, Oper.uponIn_value]
  exact ⟨_, (m.go h4 h3).put (okd_spec hd) h2, h5⟩
/-- .. that leaves the world as it is. -/
theorem WO_pure {cx : Cx} {o : Oper} {K : St → Prop} {s : St} (hdef : ∀ c, o.op ≠ .defer c) (hd : okd cx.n o.dst)
    (h : ∀ a w, Match cx s a w → ∃ v d, (execOp a.eval o).run cx.P w = .ok (.value v) w ∧ D.is w s.H.others d v ∧ K (s.put o.dst d)) : WO cx o K s :=
  WO_val hdef hd fun a w m => by
    obtain ⟨v, d, h1, h2, h3⟩ := h a w m
    exact ⟨v, w, d, s.H, h1, h2, m.H, Ev.refl _ _, h3⟩
theorem WO_skip {cx : Cx} {o : Oper} {K : St → Prop} {s : St} (hdef : ∀ c, o.op ≠ .defer c) (hd : okd cx.n o.dst)
    (h : ∀ a w, Match cx s a w → ∃ w' H', (execOp a.eval o).run cx.P w = .ok .skip w' ∧ HOk w' H' ∧ Ev s.H w H' w' ∧ K ((s.withH H').put o.dst (.val undef))) : WO cx o K s := fun a w m => by
  refine ⟨about_FR, ?_⟩
  rw [sem_FR hdef]
  obtain ⟨w', H', h1, h3, h4, h5⟩ := h a w m
  rw [h1, Oper.uponIn_skip]
  exact ⟨_, (m.go h4 h3).put (okd_spec hd) (by simp only [D.is]), h5⟩
theorem is_val {w : World} {S : Nat → Prop} {u v : Value} (h : D.is w S (.val u) v) : v = u := by simpa only [D.is] using h
theorem is_mk {w : World} {S : Nat → Prop} (u : Value) : D.is w S (.val u) u := by simp only [D.is]

/-- Two integers. -/
def bInt (op : BinOp) (k : IntKind) (a b : Int) (K : D → Prop) : Prop :=
  match op with
  | .add => K (.val (.int k (k.wrap (a + b))))
  | .sub => K (.val (.int k (k.wrap (a - b))))
  | .mul => K (.val (.int k (k.wrap (a * b))))
  | .quo => b ≠ 0 ∧ K (.val (.int k (k.wrap (a.tdiv b))))
  | .rem => b ≠ 0 ∧ K (.val (.int k (a.tmod b)))
  | .and => K (.val (.int k (bits .and k a b)))
  | .or => K (.val (.int k (bits .or k a b)))
  | .xor => K (.val (.int k (bits .xor k a b)))
  | .andNot => K (.val (.int k (bits .andNot k a b)))
  | .eql => K (.val (.bool (decide (a = b))))
  | .neq => K (.val (.bool (decide (a ≠ b))))
  | .lss => K (.val (.bool (decide (a < b))))
  | .leq => K (.val (.bool (decide (a ≤ b))))
  | .gtr => K (.val (.bool (decide (b < a))))
  | .geq => K (.val (.bool (decide (b ≤ a))))
  | _ => False
def bStr (op : BinOp) (a b : ByteArray) (K : D → Prop) : Prop :=
  match op with
  | .add => a.size + b.size ≤ 9223372036854775807 ∧ K (.val (.string (a ++ b)))
  | .eql => K (.val (.bool (decide (a.toList = b.toList))))
  | .neq => K (.val (.bool (decide (a.toList ≠ b.toList))))
  | .lss => K (.val (.bool (Op.bytesLess a.toList b.toList)))
  | .leq => K (.val (.bool (Op.bytesLess a.toList b.toList || decide (a.toList = b.toList))))
  | .gtr => K (.val (.bool (!(Op.bytesLess a.toList b.toList || decide (a.toList = b.toList)))))
  | .geq => K (.val (.bool (!Op.bytesLess a.toList b.toList)))
  | _ => False
/-- Whether a pointer, a slice, a map is nil, where that is known. -/
def D.nilPtr : D → Option Bool
  | .val (.pointer none) => some true
  | .val (.pointer (some _)) | .ep _ _ _ _ _ | .rp _ => some false
  | _ => none
def D.nilSl : D → Option Bool
  | .val (.slice none _ _) => some true
  | .val (.slice (some _) _ _) => some false
  | .os _ _ _ _ n => if n = 0 then none else some false
  | .seq _ els => if els.length = 0 then none else some false
  | _ => none
def D.nilMap : D → Option Bool
  | .val (.map none) => some true
  | .val (.map (some _)) => some false
  | _ => none
def nilOp (op : BinOp) (b : Bool) (K : D → Prop) : Prop :=
  match op with
  | .eql => K (.val (.bool b))
  | .neq => K (.val (.bool (!b)))
  | _ => False
def bNilP (P : Program) (op : BinOp) (t : TypeId) (x : D) (K : D → Prop) : Prop :=
  match tyi P t, x.nilPtr with
  | some ⟨.ptr _, _, _, _⟩, some b => nilOp op b K
  | _, _ => False
def bNilS (P : Program) (op : BinOp) (t : TypeId) (x : D) (K : D → Prop) : Prop :=
  match tyi P t, x.nilSl with
  | some ⟨.slice _, _, _, _⟩, some b => nilOp op b K
  | _, _ => False
def bNilM (P : Program) (op : BinOp) (t : TypeId) (x : D) (K : D → Prop) : Prop :=
  match tyi P t, x.nilMap with
  | some ⟨.map _ _, _, _, _⟩, some b => nilOp op b K
  | _, _ => False
def isBoolTy (P : Program) (t : TypeId) : Prop := match tyi P t with | some ⟨.bool, _, _, _⟩ => True | _ => False
def binV (P : Program) (op : BinOp) (t : TypeId) (x y : D) (K : D → Prop) : Prop :=
  match x, y with
  | .val (.int k a), .val (.int k' b) =>
    (match op with
    | .shl => 0 ≤ b ∧ K (.val (.int k (k.wrap (a * 2 ^ min b.toNat k.bits))))
    | .shr => 0 ≤ b ∧ K (.val (.int k (a.fdiv (2 ^ min b.toNat k.bits))))
    | op => k = k' ∧ bInt op k a b K)
  | .val (.string a), .val (.string b) => bStr op a b K
  | .val (.bool a), .val (.bool b) => isBoolTy P t ∧ (match op with
    | .eql => K (.val (.bool (decide (a = b))))
    | .neq => K (.val (.bool (decide (a ≠ b))))
    | _ => False)
  | x, .val (.pointer none) => bNilP P op t x K
  | x, .val (.slice none _ _) => bNilS P op t x K
  | x, .val (.map none) => bNilM P op t x K
  | _, _ => False
theorem run_bInt {P : Program} {w : World} {op : BinOp} {t : TypeId} {k : IntKind} {a b : Int} {K : D → Prop} (h : bInt op k a b K) : ∃ v, (binOp op t (.int k a) (.int k b)).run P w = .ok v w ∧ K (.val v) := by
  cases op <;> simp only [bInt] at h <;> first
    | exact ⟨_, rfl, h⟩
    | (refine ⟨_, ?_, h.2⟩; have h0 := h.1; simp [binOp, Op.intDiv, h0]; done)
    | (refine ⟨_, ?_, h⟩; simp [binOp, Op.intCmp, bne]; done)
    | (refine ⟨_, ?_, h⟩; simp [binOp, Op.intCmp, bne]; rfl)
    | exact h.elim
theorem run_bStr {P : Program} {w : World} {op : BinOp} {t : TypeId} {a b : ByteArray} {K : D → Prop} (h : bStr op a b K) : ∃ v, (binOp op t (.string a) (.string b)).run P w = .ok v w ∧ K (.val v) := by
  have e : (a.toList == b.toList) = decide (a.toList = b.toList) := by
    by_cases h : a.toList = b.toList <;> simp [h]
  have e2 : (!decide (a.toList = b.toList)) = decide (a.toList ≠ b.toList) := by
    by_cases h : a.toList = b.toList <;> simp [h]
  cases op <;> simp only [bStr] at h <;> first
    | (refine ⟨_, ?_, h⟩; simp only [binOp, Op.stringOp, e]; rfl)
    | (refine ⟨_, ?_, h⟩; simp only [binOp, Op.stringOp, e, e2]; rfl)
    | (refine ⟨_, ?_, h.2⟩
       have h0 : ¬ ((a.size + b.size : Nat) : Int) > IntKind.i64.max := by
        have h1 := h.1
        have : IntKind.i64.max = 9223372036854775807 := by decide
        omega
       simp only [binOp, Op.stringOp, h0, if_false]; rfl)
    | exact h.elim
theorem nilPtr_spec {w : World} {S : Nat → Prop} {d : D} {v : Value} {b : Bool} (h : D.is w S d v) (hb : d.nilPtr = some b) : ∃ p : Option Addr, v = .pointer p ∧ p.isNone = b := by
  cases d with
  | val u =>
    have e := is_val h
    subst e
    cases v with
    | pointer p => refine ⟨p, rfl, ?_⟩; cases p <;> simp [D.nilPtr] at hb <;> simp [hb]
    | _ => simp [D.nilPtr] at hb
  | ep => simp only [D.is] at h; exact ⟨_, h, by simpa [D.nilPtr] using hb⟩
  | rp cs => simp only [D.is] at h; obtain ⟨b, o, rfl, _⟩ := h; exact ⟨_, rfl, by simpa [D.nilPtr] using hb⟩
  | _ => simp [D.nilPtr] at hb
theorem nilMap_spec {w : World} {S : Nat → Prop} {d : D} {v : Value} {b : Bool} (h : D.is w S d v) (hb : d.nilMap = some b) : ∃ p : Option Nat, v = .map p ∧ p.isNone = b := by
  cases d with
  | val u =>
    have e := is_val h
    subst e
    cases v with
    | map p => refine ⟨p, rfl, ?_⟩; cases p <;> simp [D.nilMap] at hb <;> simp [hb]
    | _ => simp [D.nilMap] at hb
  | _ => simp [D.nilMap] at hb
theorem nilSl_spec {w : World} {S : Nat → Prop} {d : D} {v : Value} {b : Bool} (h : D.is w S d v) (hb : d.nilSl = some b) : ∃ p n c, v = .slice p n c ∧ p.isNone = b := by
  cases d with
  | val u =>
    have e := is_val h
    subst e
    cases v with
    | slice p n c => refine ⟨p, n, c, rfl, ?_⟩; cases p <;> simp [D.nilSl] at hb <;> simp [hb]
    | _ => simp [D.nilSl] at hb
  | os b' o sz k n =>
    simp only [D.is] at h
    obtain ⟨A, c, rfl, h1, h2⟩ := h
    simp only [D.nilSl] at hb
    split at hb
    · cases hb
    · rcases h2 with h2 | ⟨rfl, _⟩
      · omega
      · exact ⟨_, _, _, rfl, by simpa using hb⟩
  | seq sz els =>
    simp only [D.is] at h
    obtain ⟨A, c, rfl, h1, h2⟩ := h
    simp only [D.nilSl] at hb
    split at hb
    · cases hb
    · rename_i hne
      rcases h2 with h2 | ⟨_, _, rfl, _⟩
      · subst h2; simp at hne
      · exact ⟨_, _, _, rfl, by simpa using hb⟩
  | _ => simp [D.nilSl] at hb
theorem eqIn_ptr {P : Program} {w : World} (d : Nat) {t e : TypeId} (h : P.underlying t = some (.pointer e)) (p : Option Addr) : (Op.equalIn (d + 1) t (.pointer p) (.pointer none)).run P w = .ok p.isNone w := by
  cases p <;> simp [Op.equalIn, run_under h]
theorem eqIn_slice {P : Program} {w : World} (d : Nat) {t e : TypeId} (h : P.underlying t = some (.slice e)) (p : Option Addr) (n c n' c' : Nat) : (Op.equalIn (d + 1) t (.slice p n c) (.slice none n' c')).run P w = .ok p.isNone w := by
  cases p <;> simp [Op.equalIn, run_under h]
theorem eqIn_map {P : Program} {w : World} (d : Nat) {t k e : TypeId} (h : P.underlying t = some (.map k e)) (p : Option Nat) : (Op.equalIn (d + 1) t (.map p) (.map none)).run P w = .ok p.isNone w := by
  cases p <;> simp [Op.equalIn, run_under h]
theorem eqIn_bool {P : Program} {w : World} (d : Nat) {t : TypeId} (h : P.underlying t = some .bool) (a b : Bool) : (Op.equalIn (d + 1) t (.bool a) (.bool b)).run P w = .ok (a == b) w := by
  simp [Op.equalIn, run_under h]
theorem run_nilOp {P : Program} {w : World} {op : BinOp} {t : TypeId} {v y : Value} {b : Bool} {K : D → Prop} (h : nilOp op b K) (hr : (Op.equal t v y).run P w = .ok b w) (he : binOp .eql t v y = (do pure (.bool (← Op.equal t v y)))) (hn : binOp .neq t v y = (do pure (.bool (!(← Op.equal t v y))))) :
    ∃ u, (binOp op t v y).run P w = .ok u w ∧ K (.val u) := by
  cases op <;> simp only [nilOp] at h <;> first
    | exact ⟨_, by rw [he]; simp [hr, Result.andThen], h⟩
    | exact ⟨_, by rw [hn]; simp [hr, Result.andThen], h⟩
    | exact h.elim
theorem run_bNilP {P : Program} {w : World} {S : Nat → Prop} {op : BinOp} {t : TypeId} {x : D} {v : Value} {K : D → Prop} (h : bNilP P op t x K) (hx : D.is w S x v) : ∃ u, (binOp op t v (.pointer none)).run P w = .ok u w ∧ K (.val u) := by
  unfold bNilP at h
  split at h
  · rename_i hT hb
    obtain ⟨d, i, h1, h2, h3⟩ := tyi_spec hT
    obtain ⟨p, rfl, hp⟩ := nilPtr_spec hx hb
    injection h3 with h3
    cases d <;> simp [tdOf] at h3
    subst h3
    exact run_nilOp h (by rw [← hp]; exact eqIn_ptr 9999 h1 p) rfl rfl
  · exact h.elim
theorem run_bNilS {P : Program} {w : World} {S : Nat → Prop} {op : BinOp} {t : TypeId} {x : D} {v : Value} {n c : Nat} {K : D → Prop} (h : bNilS P op t x K) (hx : D.is w S x v) : ∃ u, (binOp op t v (.slice none n c)).run P w = .ok u w ∧ K (.val u) := by
  unfold bNilS at h
  split at h
  · rename_i hT hb
    obtain ⟨d, i, h1, h2, h3⟩ := tyi_spec hT
    obtain ⟨p, n', c', rfl, hp⟩ := nilSl_spec hx hb
    injection h3 with h3
    cases d <;> simp [tdOf] at h3
    subst h3
    exact run_nilOp h (by rw [← hp]; exact eqIn_slice 9999 h1 p n' c' n c) rfl rfl
  · exact h.elim
theorem run_bNilM {P : Program} {w : World} {S : Nat → Prop} {op : BinOp} {t : TypeId} {x : D} {v : Value} {K : D → Prop} (h : bNilM P op t x K) (hx : D.is w S x v) : ∃ u, (binOp op t v (.map none)).run P w = .ok u w ∧ K (.val u) := by
  unfold bNilM at h
  split at h
  · rename_i hT hb
    obtain ⟨d, i, h1, h2, h3⟩ := tyi_spec hT
    obtain ⟨p, rfl, hp⟩ := nilMap_spec hx hb
    injection h3 with h3
    cases d <;> simp [tdOf] at h3
    obtain ⟨rfl, rfl⟩ := h3
    exact run_nilOp h (by rw [← hp]; exact eqIn_map 9999 h1 p) rfl rfl
  · exact h.elim
end Go.Proofs.Ytdcnpkpibbefhaa

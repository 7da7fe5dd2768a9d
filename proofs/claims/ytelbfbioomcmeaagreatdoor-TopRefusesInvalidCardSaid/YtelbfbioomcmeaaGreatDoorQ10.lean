/- Lemmas and contracts of functions, several texts in one. -/
import Derived.Test.YtelbfbioomcmeaaGreatDoorQ09
set_option maxRecDepth 100000
set_option maxHeartbeats 4000000
set_option linter.all false
namespace Go.Proofs.YtelbfbioomcmeaaGreatDoor
open Go.RowKit
def mC (H H':aA):Prop:=∀b o,H b=some (.obj o)->H' b=some (.obj o)
def rle (H H':aA):Prop:=∀b x,H b=some x->(∀o,x≠ .obj o)->H' b=some x
theorem rV (H:aA):mC H H:=fun _ _ h=>h
theorem mC.trans {H H' eL:aA} (h:mC H H') (h':mC H' eL):mC H eL:=fun b o e=>h' b o (h b o e)
theorem mC.new {H H':aA} {b:Nat} {x:gB} (h:mC H H') (hb:H' b=none):mC H (H'.bH b x):=fun c o e=>by
 have:=h c o e
 rw[aP (fun hc=>by rw[hc,hb] at this;cases this)];exact this
theorem mC.row {H H':aA} {b:Nat} {x y:gB} (h:mC H H') (hb:H' b=some y) (hy:∀o,y≠ .obj o):mC H (H'.bH b x):=fun c o e=>by
 have h2:=h c o e
 rw[aP (fun hc=>by rw[hc,hb] at h2;injection h2 with h2;exact hy o h2)];exact h2
theorem mC.del {H H':aA} {b:Nat} {y:gB} (h:mC H H') (hb:H' b=some y) (hy:∀o,y≠ .obj o):mC H (H'.del b):=fun c o e=>by
 have h2:=h c o e
 rw[bP (fun hc=>by rw[hc,hb] at h2;injection h2 with h2;exact hy o h2)];exact h2
theorem aEg {H:aA} {b:Nat} {x:gB} (hb:H b=none):rle H (H.bH b x):=fun c y e _=>by
 rw[aP (fun hc=>by rw[hc,hb] at e;cases e)];exact e
theorem C6 {H:aA} {b:Nat} {o:Obj} {x:gB} (hb:H b=some (.obj o)):rle H (H.bH b x):=fun c y e hy=>by
 rw[aP (fun hc=>by rw[hc,hb] at e;injection e with e;exact hy o e.symm)];exact e
theorem rle.trans {H H' eL:aA} (h:rle H H') (h':rle H' eL):rle H eL:=fun b x e hx=>h' b x (h b x e hx) hx
theorem R6 {H:aA} {b:Nat} {x:gB} (hz:∀z,H b=some z->∃o,z=.obj o):rle H (H.bH b x):=by
 cases e:H b with
 |none=>exact aEg e
 |some z=>obtain⟨o,rfl⟩:=hz z e;exact C6 e
def rst (s:St) (ps:List Nat) (ds:List D) (H:aA):St:=⟨(ps.zip ds).foldl (fun f p=>fun x=>if x=p.1 then p.2 else f x) s.fr,H,[]⟩
theorem IJ {w:World} {S:Nat->Prop} {n:Nat}:∀(ps:List Nat) (ds:List D) (vs:List Value) (f:Nat->D) (t:Array Value),aW w S ds vs->(∀p∈ps,p<n)->t.size=n->(∀x,D.is w S (f x) (t.getD x undef))->
  (((ps.zip vs).foldl (fun t p=>t.setIfInBounds p.1 p.2) t).size=n/\∀x,D.is w S ((ps.zip ds).foldl (fun f p=>fun x=>if x=p.1 then p.2 else f x) f x) (((ps.zip vs).foldl (fun t p=>t.setIfInBounds p.1 p.2) t).getD x undef))
 |[],ds,vs,f,t,_,_,hn,hf=>by
  simp only[List.zip_nil_left,List.foldl_nil]
  exact⟨hn,hf⟩
 |p::ps,[],vs,f,t,hv,_,hn,hf=>by
  simp only[aW] at hv
  subst hv
  simp only[List.zip_nil_right,List.foldl_nil]
  exact⟨hn,hf⟩
 |p::ps,d::ds,vs,f,t,hv,hp,hn,hf=>by
  simp only[aW] at hv
  obtain⟨u,us,rfl,h1,h2⟩:=hv
  simp only[List.zip_cons_cons,DP]
  refine IJ ps ds us _ _ h2 (fun q hq=>hp q (jR _ hq)) (by simpa using hn) fun x=>?_
  have gL:p<t.size:=by rw[hn];exact hp p wN
  rw[uQ _ _ _ _ _ gL]
  by_cases hx:x=p
  ·rw[aH hx,aH hx];exact h1
  ·rw[aD hx,aD hx];exact hf x
def rD (B:Nat->Prop) (H H':aA):Prop:=∀b o,B b->H b=some (.obj o)->H' b=some (.obj o)
def aEh (B:Nat->Prop) {α:Type} (I:List α->aA->Prop) (Ix:Exit->List α->aA->Prop) (ys:List α) (Hb:aA):Exit->St->Prop
 | .normal,s=>s.df=[]/\rD B Hb s.H/\I ys s.H
 | .ret,s=>s.df=[]/\rD B Hb s.H/\Ix .ret ys s.H
 | .exit id,s=>s.df=[]/\rD B Hb s.H/\Ix (.exit id) ys s.H
 | .goto t,s=>s.df=[]/\rD B Hb s.H/\Ix (.goto t) ys s.H
 |_,_=>False
def UU {α:Type} (I:List α->aA->Prop) (Ix:Exit->List α->aA->Prop) (ys:List α) (Hb:aA):Exit->St->Prop
 | .normal,s=>s.df=[]/\mC Hb s.H/\I ys s.H
 | .ret,s=>s.df=[]/\mC Hb s.H/\Ix .ret ys s.H
 | .exit id,s=>s.df=[]/\mC Hb s.H/\Ix (.exit id) ys s.H
 | .goto t,s=>s.df=[]/\mC Hb s.H/\Ix (.goto t) ys s.H
 |_,_=>False
def N4:Exit->Option Code
 | .ret=>some .ret
 | .exit id=>some (.exit id)
 | .goto t=>some (.goto t)
 |_=>none
def MP (D:Nat):Deferred:={target:=.collected D,args:= #[]}
theorem OE {H H':aA} {b:Nat} (h:H.le H') (hb:H' b=none):H b=none:=by
 cases e:H b with
 |none=>rfl
 |some x=>rw[h _ _ e] at hb;cases hb
theorem MJ {α : Type} {cx : Cx} {s : St} {g : Operand} {ps : List Nat} {assign body : Code} {Q : Exit -> St -> Prop} (hro : cx.ro = none) {gf : FuncId} {dO : List D} {mN : α -> List D} {Pf Fn : List α -> Prop} {ok kp : aA -> Prop}
    (it : aAS cx.P gf dO mN Pf Fn ok kp) (hg : s.ev g = .fn gf dO) (eX : ∀ H', s.H.le H' -> ok H') (Q5 : ∀ p ∈ ps, p < cx.n) (aGr : ∀ x, (mN x).length = ps.length)
    (B : Nat -> Prop) (hB : ∀ b, s.H b = none -> B b) (I : List α -> aA -> Prop) (hkp : ∀ pre Hc, I pre Hc -> rD B s.H Hc -> kp Hc) (Ix : Exit -> List α -> aA -> Prop) (hI : MD s.H I) (hIx : ∀ e, MD s.H (Ix e)) (h0 : I [] s.H)
    (T4 : ∀ (l : Nat) (w1 : World) (pre : List α) (x : α) (Hc : aA) (o : Obj) (g1 : E3 w1 Hc), B l -> Pf (pre ++ [x]) -> I pre Hc -> rD B s.H Hc -> Hc l = some (.obj o) -> W ⟨cx.P, some l, cx.n, Hc, w1, g1⟩ assign (iV (fun s1 => s1.df = [] /\ rD B Hc s1.H /\ ∀ w2 y (g2 : E3 w2 (s1.H.bH l (.obj y))), Ev cx.H0 cx.w0 (s1.H.bH l (.obj y)) w2 -> W ⟨cx.P, some l, cx.n, s1.H.bH l (.obj y), w2, g2⟩ body (aEh B I Ix (pre ++ [x]) (s1.H.bH l (.obj y))) (s1.dW (s1.H.bH l (.obj y)))) (fun _ _ => False)) (rst s ps (mN x) Hc))
    (aB7 : ∀ (ys : List α) (Hc : aA) (D : Nat), Fn ys -> I ys Hc -> rD B s.H Hc -> Hc D = some (.obj NB) -> s.H D = none -> Q .normal { s with H := Hc, df := MP D :: s.df })
    (aBl : ∀ (e : Exit) (c : Code) (pre : List α) (Hc : aA) (D : Nat), N4 e = some c -> Ix e pre Hc -> rD B s.H Hc -> Hc D = some (.obj NB) -> s.H D = none -> Q e { s with H := Hc, df := MP D :: s.df }) :
    W cx (.rangeFunc g ⟨ps⟩ assign body) Q s := fun a w m => by
  rw [hro]
  refine wpIn_rangeFunc ?_
  intro fn hfn
  have NV := m.uA g
  rw [hg] at NV
  simp only [D.is] at NV
  obtain ⟨lb, NV, QO⟩ := NV
  obtain ⟨rec, T3⟩ : ∃ rec : LoopState -> Option Code -> Loop, rec = fun st pe => { state := st, pending := pe, fn, tmps := a.tmps, params := ⟨ps⟩, assign, body, defers := w.heap.size } := ⟨_, rfl⟩
  obtain ⟨W1, hW1⟩ : ∃ W1, (w.alloc (.deferred (some []))).alloc (.loop (rec .ready none)) = W1 := ⟨_, rfl⟩
  obtain ⟨l, hl⟩ : ∃ l, l = w.heap.size + 1 := ⟨_, rfl⟩
  have aJH : (w.alloc (.deferred (some []))).heap.size = l := by rw [hl]; exact World.size_alloc _ _
  have QE := gZ m.H
  have yX : s.H l = none := by
    cases e : s.H l with
    | none => rfl
    | some x => exact absurd (m.H.lt e) (by omega)
  have aJC : fQ (w.alloc (.deferred (some []))) (s.H.bH w.heap.size (.obj NB)) := m.H.alloc (heap_alloc_new w _)
  have aDt := iO (.deferred (some [])) (.obj NB) m.H
  have aJD : fQ W1 ((s.H.bH w.heap.size (.obj NB)).bH l (.obj (.loop (rec .ready none)))) := by
    rw [<- hW1, <- aJH]
    exact aJC.alloc (heap_alloc_new (w.alloc (.deferred (some []))) _)
  have BL : Ev (s.H.bH w.heap.size (.obj NB)) (w.alloc (.deferred (some []))) ((s.H.bH w.heap.size (.obj NB)).bH l (.obj (.loop (rec .ready none)))) W1 := by
    rw [<- hW1, <- aJH]
    exact iO _ _ aJC
  obtain ⟨Hc0, aBX⟩ : ∃ H, H = (s.H.bH w.heap.size (.obj NB)).bH l (.obj (.loop (rec .ready none))) := ⟨_, rfl⟩
  rw [<- aBX] at aJD BL
  have QR : Ev s.H w Hc0 W1 := aDt.trans BL
  have hDl : w.heap.size ≠ l := by omega
  have wZ : s.H.le Hc0 := by
    rw [aBX]
    exact nH (nH (aE _) QE) (by rw [aP (Ne.symm hDl)]; exact yX)
  have hD0 : Hc0 w.heap.size = some (.obj NB) := by rw [aBX, aP hDl, aQ]
  have CS : Hc0 l = some (.obj (.loop (rec .ready none))) := by rw [aBX, aQ]
  refine ⟨l, [MP w.heap.size], W1, { target := .fn (.func gf) ⟨lb⟩, args := #[.func (.yield l) #[] #[]] }, W1, gf, #[.func (.yield l) #[] #[]] ++ ⟨lb⟩, W1, ?_, ?_, ?_, ?_, fun h => (by cases h), ?_⟩
  · rw [<- hW1, T3, hl]; exact run_enterLoop_outer _ _ _ _ _
  · simp only [resolve, NV]
    simp [go_sem]
  · intro f' hf'; trivial
  · have eg : ∀ args w, (callFunc gf args).run cx.P w = .ok (.enter gf args) w := it.1
    simp [invoke, go_sem, eg]
  · have dK := it.2 l (fun pre Hc => I pre Hc /\ rD B s.H Hc /\ Hc w.heap.size = some (.obj NB) /\ Hc l = some (.obj (.loop (rec .ready none))))
      (fun pre Hc => ∃ e c, N4 e = some c /\ Ix e pre Hc /\ rD B s.H Hc /\ Hc w.heap.size = some (.obj NB) /\ Hc l = some (.obj (.loop (rec .done (some c))))) Hc0 W1 (.func (.yield l) #[] #[] :: lb) (eX _ wZ) aJD (m.gok.ev QR)
      ⟨by rw [aBX]; exact hI _ _ _ _ yX (fun z h => by rw [aP (Ne.symm hDl), yX] at h; cases h) (hI _ _ _ _ QE (fun z h => by rw [QE] at h; cases h) h0), fun b o _ h => wZ _ _ h, hD0, CS⟩
      (fun pre H b o hb hz ⟨h1, h2, h3, h4⟩ => ⟨hI _ _ _ _ (OE wZ hb) hz h1, fun c o' hbc h => by
        rw [aP (fun hc => by rw [hc] at h; have := wZ _ _ h; rw [hb] at this; cases this)]; exact h2 c o' hbc h, by
        rw [aP (fun hc => by rw [<- hc, hD0] at hb; cases hb)]; exact h3, by
        rw [aP (fun hc => by rw [<- hc, CS] at hb; cases hb)]; exact h4⟩)
      (fun pre H b o hb hz ⟨e, c0, hj, h1, h2, h3, h4⟩ => ⟨e, c0, hj, hIx _ _ _ _ _ (OE wZ hb) hz h1, fun c o' hbc h => by
        rw [aP (fun hc => by rw [hc] at h; have := wZ _ _ h; rw [hb] at this; cases this)]; exact h2 c o' hbc h, by
        rw [aP (fun hc => by rw [<- hc, hD0] at hb; cases hb)]; exact h3, by
        rw [aP (fun hc => by rw [<- hc, CS] at hb; cases hb)]; exact h4⟩) (fun pre Hc h => hkp pre Hc h.1 h.2.1) ?_ (by
        simp only [aW]
        exact ⟨_, _, rfl, by simp only [yD, D.is], fZ QR.kept _ QO⟩)
    · have e1 : #[Value.func (.yield l) #[] #[]] ++ (⟨lb⟩ : Array Value) = (Value.func (.yield l) #[] #[] :: lb).toArray := by simp
      rw [e1]
      refine (BH (ro := none) (n := 8) dK).mono ?_
      rintro e w3 ⟨v, H3, rfl, aJE, aXO, hj⟩
      have fin : ∀ (st : LoopState) (pe : Option Code), st ≠ .busy -> H3 l = some (.obj (.loop (rec st pe))) -> rD B s.H H3 -> H3 w.heap.size = some (.obj NB) ->
          ∃ w4, (Instr.endLoop l).run cx.P w3 = .ok pe w4 /\ ∃ o4, cH cx { s with H := H3.bH l (.obj o4), df := MP w.heap.size :: s.df } { a with defers := [MP w.heap.size] ++ a.defers } w4 /\ rD B s.H (H3.bH l (.obj o4)) /\ (H3.bH l (.obj o4)) w.heap.size = some (.obj NB) := by
        intro st pe o9 hl3 rU hD3
        have NX : w3.heap[l]? = some (.loop (rec st pe)) := aJE l _ hl3
        have QP := run_endLoop (P := cx.P) NX (by rw [T3]; exact o9)
        obtain ⟨aXP, aXe⟩ := NH (o' := .loop { rec st pe with state := .exhausted }) (y := .obj (.loop { rec st pe with state := .exhausted })) aJE hl3 NX (fun _ _ _ h => by cases h) (EN NX)
        refine ⟨w3.putObj l (.loop { rec st pe with state := .exhausted }), by rw [T3] at QP ⊢; exact QP, .loop { rec st pe with state := .exhausted }, ?_, fun b o QJ h => ?_, by rw [aP hDl]; exact hD3⟩
        · have m4 := m.go ((QR.trans aXO).trans aXP) aXe
          exact ⟨m4.n, by simp only [List.singleton_append, m.df], m4.fr, m4.H, m4.ev⟩
        · have := rU b o QJ h
          rw [aP (fun hb => by rw [hb, yX] at h; cases h)]
          exact this
      rcases hj with ⟨ys, hfn, hi, rU, hD3, hl3⟩ | ⟨pre, e, c, hjc, hi, rU, hD3, hl3⟩
      · obtain ⟨w4, h4, o4, m4, ZE, hD4⟩ := fin _ _ (by simp) hl3 rU hD3
        exact ⟨none, w4, h4, _, m4, aB7 _ _ _ hfn (hI _ _ _ _ yX (fun z h => ⟨_, by rw [hl3] at h; injection h with h; exact h.symm⟩) hi) ZE hD4 QE⟩
      · obtain ⟨w4, h4, o4, m4, ZE, hD4⟩ := fin _ _ (by simp) hl3 rU hD3
        have hq := aBl e c pre _ _ hjc (hIx _ _ _ _ _ yX (fun z h => ⟨_, by rw [hl3] at h; injection h with h; exact h.symm⟩) hi) ZE hD4 QE
        refine ⟨some c, w4, h4, ?_⟩
        cases e <;> simp only [N4] at hjc <;> first
          | (cases hjc; done)
          | (injection hjc with hjc
             subst hjc
             first
               | exact wpIn_exit ⟨_, m4, hq⟩
               | exact wpIn_goto ⟨_, m4, hq⟩
               | exact wpIn_ret ⟨_, m4, hq⟩)
    ·
      rintro pre x Hc w5 vs oA ⟨hi, rU, hD5, hl5⟩ aJF aGs sN
      have NX : w5.heap[l]? = some (.loop (rec .ready none)) := aJF l _ hl5
      have eB := jO sN
      have hy := run_yield (P := cx.P) (args := vs.toArray) NX (by rw [T3]; simp [eB, aGr])
      rw [T3] at hy
      refine ⟨fn, _, assign, body, hy, roundIn_of_wpIn hfn ?_⟩
      have SY : ∀ t, D.is w5 Hc.others (s.fr t) (a.tmps.getD t undef) := fun t => pN (QR.trans aGs).kept _ (m.fr t)
      obtain ⟨g1, g2⟩ := IJ ps (mN x) vs s.fr a.tmps sN Q5 m.n SY
      have B5 : ((⟨ps⟩ : Array Nat).zip vs.toArray).foldl (fun t (p : Nat × Value) => t.setIfInBounds p.1 p.2) a.tmps = (ps.zip vs).foldl (fun t p => t.setIfInBounds p.1 p.2) a.tmps := by
        rw [<- Array.foldl_toList, Array.toList_zip]
      have g5 : E3 w5 Hc := (m.gok.ev QR).ev aGs
      have m5 : cH ⟨cx.P, some l, cx.n, Hc, w5, g5⟩ (rst s ps (mN x) Hc) { tmps := ((⟨ps⟩ : Array Nat).zip vs.toArray).foldl (fun t (p : Nat × Value) => t.setIfInBounds p.1 p.2) a.tmps, defers := [] } w5 := by
        rw [B5]
        exact ⟨g1, rfl, g2, aJF, gC _ _⟩
      have hW := T4 l w5 pre x Hc _ g5 (hB _ yX) oA hi rU hl5 _ _ m5
      refine wpIn_mono (JS 9 hW) ?_
      rintro e1 a1 w6 ⟨s1, m1, q1⟩
      cases e1 <;> first
        | exact q1.elim
        | skip
      obtain ⟨lS, QY, aIk⟩ := q1
      have EE : s1.H l = some (.obj (.loop (rec .ready none))) := QY _ _ (hB _ yX) hl5
      have aBh : w6.heap[l]? = some (.loop (rec .ready none)) := m1.H l _ EE
      obtain ⟨y1, hy1⟩ : ∃ y, y = Obj.loop { rec .ready none with state := .busy } := ⟨_, rfl⟩
      obtain ⟨aDu, aXf⟩ := NH (o' := y1) (y := .obj y1) m1.H EE aBh (fun _ _ _ h => by cases h) (EN aBh)
      refine ⟨w6.putObj l y1, by rw [hy1]; exact run_beginRound aBh (by rw [T3]), ?_⟩
      have g6 : E3 (w6.putObj l y1) (s1.H.bH l (.obj y1)) := m1.gok.ev aDu
      have m6 : cH ⟨cx.P, some l, cx.n, s1.H.bH l (.obj y1), w6.putObj l y1, g6⟩ (s1.dW (s1.H.bH l (.obj y1))) a1 (w6.putObj l y1) := by
        have := m1.go aDu aXf
        exact ⟨this.n, this.df, this.fr, this.H, gC _ _⟩
      refine wpIn_mono (JS 9 (aIk (w6.putObj l y1) y1 g6 ((((m.ev.trans QR).trans aGs).trans m1.ev).trans aDu) _ _ m6)) ?_
      rintro e2 a2 w7 ⟨s2, m2, q2⟩
      have key : ∀ (GB : Option Code), rD B (s1.H.bH l (.obj y1)) s2.H -> ∃ v w', (Instr.endRound l GB).run cx.P w7 = .ok v w' /\ v = .bool GB.isNone /\
          ∃ JW, fQ w' JW /\ Ev Hc w5 JW w' /\ (∀ b o, Hc0 b = none -> Hc b = some (.obj o) -> JW b = some (.obj o)) /\ (∀ p, I p s2.H -> I p JW) /\ (∀ e p, Ix e p s2.H -> Ix e p JW) /\ rD B s.H JW /\ JW w.heap.size = some (.obj NB) /\ JW l = some (.obj (.loop (rec (if GB.isNone then .ready else .done) GB))) := by
        intro GB w9
        have s7 : s2.H l = some (.obj y1) := w9 _ _ (hB _ yX) (aQ _ _ _)
        have WG : w7.heap[l]? = some y1 := m2.H l _ s7
        rw [hy1] at WG
        have QP := run_endRound (P := cx.P) GB WG
        obtain ⟨aXQ, aXg⟩ := NH (o' := Obj.loop (rec (if GB.isNone then .ready else .done) GB)) (y := .obj (Obj.loop (rec (if GB.isNone then .ready else .done) GB))) m2.H s7 WG (fun _ _ _ h => by cases h) (EN WG)
        have aBg : rD B s.H (s2.H.bH l (.obj (Obj.loop (rec (if GB.isNone then .ready else .done) GB)))) := fun b o QJ h => by
          have nX : b ≠ l := fun hb => by rw [hb, yX] at h; cases h
          rw [aP nX]
          refine w9 b o QJ ?_
          rw [aP nX]
          exact QY b o QJ (rU b o QJ h)
        refine ⟨_, _, by rw [T3] at QP ⊢; exact QP, rfl, _, aXg, ((m1.ev.trans aDu).trans m2.ev).trans aXQ, fun b o uR sI => by
          have nX : b ≠ l := fun hb => by rw [hb, CS] at uR; cases uR
          rw [aP nX]
          have QJ := hB b (OE wZ uR)
          refine w9 b o QJ ?_
          rw [aP nX]
          exact QY b o QJ sI, fun p => hI _ _ _ _ yX fun z h => ⟨_, by rw [s7] at h; injection h with h; exact h.symm⟩, fun e p => hIx _ _ _ _ _ yX fun z h => ⟨_, by rw [s7] at h; injection h with h; exact h.symm⟩, aBg, ?_, aQ _ _ _⟩
        rw [aP hDl]
        refine w9 _ _ (hB _ QE) ?_
        rw [aP hDl]
        exact QY _ _ (hB _ QE) hD5
      cases e2 with
      | normal =>
        obtain ⟨_, w9, DU⟩ := q2
        obtain ⟨v, w', h1, rfl, JW, h2, h3, h8, h4, h9, h5, h6, h7⟩ := key none w9
        exact ⟨_, w', h1, JW, h2, h3, h8, .inl ⟨rfl, h4 _ DU, h5, h6, h7⟩⟩
      | ret =>
        obtain ⟨_, w9, DU⟩ := q2
        obtain ⟨v, w', h1, rfl, JW, h2, h3, h8, h4, h9, h5, h6, h7⟩ := key (some .ret) w9
        exact ⟨_, w', h1, JW, h2, h3, h8, .inr ⟨rfl, .ret, _, rfl, h9 _ _ DU, h5, h6, h7⟩⟩
      | exit id =>
        obtain ⟨_, w9, DU⟩ := q2
        obtain ⟨v, w', h1, rfl, JW, h2, h3, h8, h4, h9, h5, h6, h7⟩ := key (some (.exit id)) w9
        exact ⟨_, w', h1, JW, h2, h3, h8, .inr ⟨rfl, .exit id, _, rfl, h9 _ _ DU, h5, h6, h7⟩⟩
      | goto t =>
        obtain ⟨_, w9, DU⟩ := q2
        obtain ⟨v, w', h1, rfl, JW, h2, h3, h8, h4, h9, h5, h6, h7⟩ := key (some (.goto t)) w9
        exact ⟨_, w', h1, JW, h2, h3, h8, .inr ⟨rfl, .goto t, _, rfl, h9 _ _ DU, h5, h6, h7⟩⟩
      | panic ch => exact q2.elim
      | outgrown => exact q2.elim
theorem pX {α:Type} {cx:Cx} {s:St} {g:Operand} {ps:List Nat} {assign body:Code} {Q:Exit->St->Prop} (hro:cx.ro=none) {gf:FuncId} {dO:List D} {mN:α->List D} {xs:List α} {ok:aA->Prop}
  (it:TA cx.P gf dO mN xs ok) (hg:s.ev g=.fn gf dO) (eX:∀H',s.H.le H'->ok H') (Q5:∀p∈ps,p<cx.n) (aGr:∀x,(mN x).length=ps.length)
  (I:List α->aA->Prop) (Ix:Exit->List α->aA->Prop) (hI:∀pre H H',rle H H'->I pre H->I pre H') (hIx:∀e pre H H',rle H H'->Ix e pre H->Ix e pre H') (h0:I [] s.H)
  (T4:∀(l:Nat) (w1:World) (pre:List α) (x:α) (Hc:aA) (o:Obj) (g1:E3 w1 Hc),(pre++[x])<+:xs->I pre Hc->mC s.H Hc->Hc l=some (.obj o)->W ⟨cx.P,some l,cx.n,Hc,w1,g1⟩ assign (iV (fun s1=>s1.df=[]/\mC Hc s1.H/\∀w2 y (g2:E3 w2 (s1.H.bH l (.obj y))),W ⟨cx.P,some l,cx.n,s1.H.bH l (.obj y),w2,g2⟩ body (UU I Ix (pre++[x]) (s1.H.bH l (.obj y))) (s1.dW (s1.H.bH l (.obj y)))) (fun _ _=>False)) (rst s ps (mN x) Hc))
  (aB7:∀(Hc:aA) (D:Nat),I xs Hc->mC s.H Hc->Hc D=some (.obj NB)->s.H D=none->Q .normal {s with H:=Hc,df:=MP D::s.df})
  (aBl:∀(e:Exit) (c:Code) (pre:List α) (Hc:aA) (D:Nat),N4 e=some c->Ix e pre Hc->mC s.H Hc->Hc D=some (.obj NB)->s.H D=none->Q e {s with H:=Hc,df:=MP D::s.df}):
  W cx (.rangeFunc g ⟨ps⟩ assign body) Q s:=MJ hro it hg eX Q5 aGr (fun _=>True) (fun _ _=>trivial) I (fun _ _ _ _=>trivial) Ix (fun pre H b o _ hz h=>hI pre _ _ (R6 hz) h) (fun e pre H b o _ hz h=>hIx e pre _ _ (R6 hz) h) h0 (fun l w1 pre x Hc o g1 _ h1 h2 h3 h4=>sA (T4 l w1 pre x Hc o g1 h1 h2 (fun b o=>h3 b o trivial) h4) fun e s1 q=>by cases e <;> first|exact⟨q.1,fun b o _=>q.2.1 b o,fun w2 y g2 _=>sA (q.2.2 w2 y g2) fun e s q=>by cases e <;> first|exact⟨q.1,fun b o _=>q.2.1 b o,q.2.2⟩|exact q⟩|exact q) (fun ys Hc D h0 h1 h2=>by subst h0;exact aB7 Hc D h1 fun b o=>h2 b o trivial) (fun e c pre Hc D h0 h1 h2=>aBl e c pre Hc D h0 h1 fun b o=>h2 b o trivial)
theorem aBs {α:Type} {P:Program} {f:FuncId} {fn:Func} {c:Code} {dO:List D} {mN:α->List D} {Pf Fn:List α->Prop} {ok kp:aA->Prop} (N:Nat) (hf:P.funcs[f]?=some fn) (uV:(fn.name== "runtime.NumGoroutine")=false) (hb:fn.body=some c) (hN:fn.ntmps=N) (J1:fn.results= #[]) (hl:dO.length+1<=N)
  (h:∀(l:Nat) (J Jx:List α->aA->Prop) (H:aA) (w0:World) (g0:E3 w0 H) (Q:Exit->St->Prop),ok H->J [] H->MD H J->MD H Jx->(∀pre Hc,J pre Hc->kp Hc)->YCG P l H w0 J Jx mN Pf->(∀e s,e=.normal\/e=.ret->s.df=[]->((∃ys,Fn ys/\J ys s.H)\/∃pre,Jx pre s.H)->Q e s)->W ⟨P,none,N,H,w0,g0⟩ c Q (St.init (yD l::dO) H)):aAS P f dO mN Pf Fn ok kp:=And.intro (tZ hf uV hb) fun l J Jx H w vs eX hH hG hJ hC hCx hkp hY sN=>by
 have aH4:Calls P f vs.toArray w fun e w'=>∃v d H',e=.returned v/\D.is w' H'.others d v/\fQ w' H'/\Ev H w H' w'/\((∃ys,Fn ys/\J ys H')\/∃pre,Jx pre H'):=by
  refine tG (ro:=none) (n:=9) (callsIn_of_wp hf hb trivial ?_ rfl)
  have eB:=jO sN
  obtain⟨ds,hds⟩:∃ds,ds=yD l::dO:=⟨_,rfl⟩
  have hl':ds.length<=N:=by rw[hds];exact hl
  have m:cH ⟨P,none,N,H,w,hG⟩ (St.init (yD l::dO) H) {tmps:=vs.toArray++Array.replicate (fn.ntmps - vs.toArray.size) undef,defers:=[]} w:=by
   rw[<-hds] at eB sN ⊢
   refine⟨by simp;omega,rfl,fun t=>?_,hH,gC _ _⟩
   simp only[St.init]
   rcases jW t ds.length with gL|EC
   ·obtain⟨v,h1,h2⟩:=l3 sN t ds[t] (by simp [gL])
    have e1:ds.getD t (.val undef)=ds[t]:=by simp [List.getD,gL]
    have e2:(vs.toArray++Array.replicate (fn.ntmps - vs.toArray.size) undef).getD t undef=v:=by
     rw[uE,DF (by simp;omega)]
     simp [h1]
    rw[e1,e2];exact h2
   ·have e1:ds.getD t (.val undef)=.val undef:=by simp [List.getD,EC]
    rw[e1]
    simp only[D.is]
    rw[uE,DE (by simp;omega),G8]
    split <;> rfl
  refine wpIn_mono (h l J Jx H w hG (aBE ⟨P,none,N,H,w,hG⟩ fn fun _ H'=>(∃ys,Fn ys/\J ys H')\/∃pre,Jx pre H') eX hJ hC hCx hkp hY (fun e s he bG hr=>CJ he bG (by rw[J1];exact⟨s.H,aE _,hr⟩)) _ _ m) fun e a' w' ⟨s',m',q⟩=>?_
  have key:s'.df=[]/\PL ⟨P,none,N,H,w,hG⟩ fn s' (fun _ H'=>(∃ys,Fn ys/\J ys H')\/∃pre,Jx pre H')->a'.defers=[]/\∃v,(results fn a'.tmps).run P w'=.ok v w'/\∃v' d H',Ending.returned v=.returned v'/\D.is w' H'.others d v'/\fQ w' H'/\Ev H w H' w'/\((∃ys,Fn ys/\J ys H')\/∃pre,Jx pre H'):=by
   rintro⟨bG,eE⟩
   obtain⟨v,d,H',h1,h2,h3,h4⟩:=eE a' w' m'
   have m2:=m'.less h3
   exact⟨m'.df.trans bG,v,h1,v,d,H',rfl,h2,m2.H,m2.ev,h4⟩
  cases e with
  |normal=>
   obtain⟨h1,v,h2,h3⟩:=key q
   exact⟨h1,v,h2,h3⟩
  |ret=>
   obtain⟨h1,v,h2,h3⟩:=key q
   exact⟨h1,v,h2,h3⟩
  |_=>exact q.elim
 refine aH4.mono ?_
 rintro e w' ⟨v,d,H',h1,_,h3,h4,h5⟩
 exact⟨v,H',h1,h3,h4,h5⟩
theorem N3 {α:Type} {P:Program} {f:FuncId} {fn:Func} {c:Code} {dO:List D} {mN:α->List D} {xs:List α} {ok:aA->Prop} (N:Nat) (hf:P.funcs[f]?=some fn) (uV:(fn.name== "runtime.NumGoroutine")=false) (hb:fn.body=some c) (hN:fn.ntmps=N) (J1:fn.results= #[]) (hl:dO.length+1<=N)
  (h:∀(l:Nat) (J Jx:List α->aA->Prop) (H:aA) (w0:World) (g0:E3 w0 H) (Q:Exit->St->Prop),ok H->J [] H->YC P l H w0 J Jx mN xs->(∀e s,e=.normal\/e=.ret->s.df=[]->(J xs s.H\/∃pre,Jx pre s.H)->Q e s)->W ⟨P,none,N,H,w0,g0⟩ c Q (St.init (yD l::dO) H)):TA P f dO mN xs ok:=aBs N hf uV hb hN J1 hl fun l J Jx H w0 g0 Q eX hJ _ _ _ hY aC=>h l J Jx H w0 g0 Q eX hJ hY fun e s he bG hr=>aC e s he bG (hr.imp (fun h=>⟨_,rfl,h⟩) id)
theorem aT.post {P:Program} {f:FuncId} {ds:List D} {H:aA} {K K0:D->aA->Prop} (h:aT P f ds H K)
  (hk:∀d H',K d H'->∃d0 H0,H0.le H'/\(∀w v,fQ w H'->D.is w H'.others d v->D.is w H0.others d0 v)/\K0 d0 H0):aT P f ds H K0:=
 And.intro h.1 fun w vs sN hH hG=>(h.2 w vs sN hH hG).mono fun e w' ⟨v,d,H',he,hd,hH',iP,yW⟩=>by
  obtain⟨d0,H0,h1,h2,h3⟩:=hk d H' yW
  exact⟨v,d0,H0,he,h2 w' v hH' hd,hH'.less h1,iP.less h1,h3⟩
theorem W6 {w:World} {H:aA} {b o sz:Nat} {ty:TypeId} {els:List (List D)} (hb:H b=none) {v:Value} (hH:fQ w (H.bH b (.row ty o sz els))) (h:D.is w (H.bH b (.row ty o sz els)).others (.os b o sz 0 els.length) v):D.is w H.others (.seq sz els) v:=by
 have:=NJ hH (aQ _ _ _) (by omega) h
 rwa[nV,oU hb,iY,kW] at this
theorem aT.aHq {P:Program} {f:FuncId} {ds:List D} {H:aA} {K:D->aA->Prop} {sz:Nat} {els:List (List D)} (h:aT P f ds H K)
  (hk:∀d H',K d H'->(d=.val (.slice none 0 0)/\els=[]/\H'=H)\/(∃b o ty,H b=none/\d=.os b o sz 0 els.length/\H'=H.bH b (.row ty o sz els))\/(d=.seq sz els/\H'=H)):
  aT P f ds H fun d H'=>d=.seq sz els/\H=H':=
 h.post fun d H' yW=>by
  rcases hk d H' yW with⟨rfl,rfl,rfl⟩|⟨b,o,ty,hb,rfl,rfl⟩|⟨rfl,rfl⟩
  ·exact⟨_,_,aE _,fun w v _ hv=>OD hv,rfl,rfl⟩
  ·exact⟨_,H,nH (aE _) hb,fun w v hH hv=>W6 hb hH hv,rfl,rfl⟩
  ·exact⟨_,_,aE _,fun w v _ hv=>hv,rfl,rfl⟩
def aFu (sz:Nat) (els:List (List D)) (d:D) (H1 H':aA):Prop:=
 (d=.val (.slice none 0 0)/\els=[]/\H'=H1)\/(d=.ND/\els=[]/\H'=H1)\/(∃b o ty,H1 b=none/\d=.os b o sz 0 els.length/\H'=H1.bH b (.row ty o sz els))\/(d=.seq sz els/\H'=H1)
def Gl (H0:aA) (e:TypeId) (sz:Nat) (els:List (List D)) (d:D) (H:aA) (ob:Option Nat):Prop:=
 (ob=none/\d=.val (.slice none 0 0)/\els=[])\/∃c o,ob=some c/\d=.os c o sz 0 els.length/\H0 c=none/\H c=some (.row e o sz els)
theorem Gl.nil (H0:aA) (e:TypeId) (sz:Nat) (H:aA):Gl H0 e sz [] (.val (.slice none 0 0)) H none:=.inl ⟨rfl,rfl,rfl⟩
abbrev nJ:=@Gl.nil
theorem Gl.jY {H0:aA} {e:TypeId} {sz:Nat} {els:List (List D)} {d:D} {H H':aA} {ob:Option Nat} (h:Gl H0 e sz els d H ob) (hk:∀c,ob=some c->H' c=H c):Gl H0 e sz els d H' ob:=by
 rcases h with h|⟨c,o,h1,h2,h3,h4⟩
 ·exact .inl h
 ·exact .inr ⟨c,o,h1,h2,h3,(hk c h1).trans h4⟩
theorem Gl.fin {H0:aA} {e:TypeId} {sz:Nat} {els:List (List D)} {d:D} {H:aA} {ob:Option Nat} (h:Gl H0 e sz els d H ob) (aR:H0.le H):∃H',H'.le H/\aFu sz els d H0 H':=by
 rcases h with⟨_,rfl,rfl⟩|⟨c,o,_,rfl,h3,h4⟩
 ·exact⟨H0,aR,.inl ⟨rfl,rfl,rfl⟩⟩
 ·refine⟨H0.bH c (.row e o sz els),fun b x hb=>?_,.inr (.inr (.inl ⟨c,o,e,h3,rfl,rfl⟩))⟩
  by_cases hc:b=c
  ·subst hc;rw[aQ] at hb;rw[h4];exact hb
  ·rw[aP hc] at hb;exact aR _ _ hb
theorem Gl.cells {H0:aA} {e:TypeId} {sz:Nat} {els:List (List D)} {d:D} {H:aA} {ob:Option Nat} (h:Gl H0 e sz els d H ob):D.cells d=some [d]:=by
 rcases h with⟨_,rfl,_⟩|⟨c,o,_,rfl,_⟩ <;> rfl
theorem cY {P:Program} {H0 H:aA} {t xt e:TypeId} {td xd:Ti} {sz sY:Nat} {zs:List Value} {ed:TD} {els new:List (List D)} {x y:D} {K:D->aA->Prop} {ob:Option Nat}
  (h1:aS P t=some td) (Y6:td.d=.slice e) (h2:aS P xt=some xd) (h2':xd.d.lZ=true) (h3:aS P e=some ⟨ed,sz,sY,some zs⟩) (hzs:zs.length=sz) (hby:sY≠0)
  (aR:H0.le H) (hs:Gl H0 e sz els x H ob) (hy:jZ H sz y (·=new)) (hb:(els.length+new.length) * sY<=140737488355328)
  (hk:∀d H' ob',Gl H0 e sz (els++new) d H' ob'->H0.le H'->(∀b z,H b=some z->ob≠some b->H' b=some z/\ob'≠some b)->K d H'):VF P H t xt x y K:=by
 have hs':∃H1,Sl e sz els x H1 H/\H0.le H1/\∀b z,H b=some z->ob≠some b->H1 b=some z:=by
  rcases hs with⟨rfl,rfl,rfl⟩|⟨c,o,rfl,rfl,CP,hc⟩
  ·exact⟨H,.inl ⟨rfl,rfl,rfl⟩,aR,fun b z hb _=>hb⟩
  ·refine⟨H.del c,.inr ⟨c,o,rfl,sX _ _,?_⟩,aA.N8 aR CP,fun b z hb fP=>by rw[bP (fun e=>fP (by rw[e]))];exact hb⟩
   rw[aA.VQ]
   funext b
   by_cases e:b=c
   ·subst e;rw[aQ,hc]
   ·rw[aP e]
 obtain⟨H1,PB,j9,hp⟩:=hs'
 refine Sl.VF h1 Y6 h2 h2' h3 hzs hby PB hy hb fun d H' ZH=>?_
 rcases ZH with⟨rfl,h5,rfl⟩|⟨c',o',rfl,eM,rfl⟩
 ·exact hk _ _ none (.inl ⟨rfl,rfl,h5⟩) j9 fun b z hb fP=>⟨hp b z hb fP,by simp⟩
 ·have h0:H0 c'=none:=by
   cases hx:H0 c' with
   |none=>rfl
   |some x=>have:=j9 _ _ hx;rw[eM] at this;cases this
  refine hk _ _ (some c') (.inr ⟨c',o',rfl,rfl,h0,aQ _ _ _⟩) (nH j9 eM) fun b z hb fP=>?_
  have h6:=hp b z hb fP
  have h7:b≠c':=fun e=>by rw[e,eM] at h6;cases h6
  exact⟨by rw[aP h7];exact h6,fun e=>h7 (by injection e with e;exact e.symm)⟩
theorem PN {cx:Cx} {c:Code} {Q:Exit->St->Prop} {s:St} (M:St->Prop) (h1:M s) (h2:∀s,M s->W cx c Q s):W cx c Q s:=h2 s h1
def St.wdf (s:St) (ds:List Deferred):St:={s with df:=ds}
theorem fH (s:St) (ds:List Deferred):(s.wdf ds).fr=s.fr:=rfl
theorem fM (s:St) (ds:List Deferred):(s.wdf ds).H=s.H:=rfl
theorem eQ (s:St) (ds:List Deferred):(s.wdf ds).df=ds:=rfl
theorem cB (s:St) (ds:List Deferred) (H:aA):(s.wdf ds).dW H=(s.dW H).wdf ds:=rfl
theorem aJc (s:St) (p:Nat) (d:D) (H:aA):rst s [p] [d] H=((s.dW H).wdf []).put (some p) d:=rfl
theorem aHn (s:St) (p q:Nat) (d e:D) (H:aA):rst s [p,q] [d,e] H=(((s.dW H).wdf []).put (some p) d).put (some q) e:=rfl
theorem D3 (s:St) (H:aA) (ds:List Deferred):({s with H:=H,df:=ds}:St)=(s.dW H).wdf ds:=rfl
theorem mk1 {D:Nat} {H:aA} (h:H D=some (.obj NB)):mk [MP D] H:=⟨D,rfl,h,trivial⟩
theorem LS (D:Nat) (H:aA):RQ [MP D] H=H.bH D .hid:=rfl
theorem fL (N:St->Prop) (Q:Exit->St->Prop) (s:St):iV N Q .normal s=N s:=rfl
theorem fK (id:Nat) (Q:Exit->St->Prop) (s:St):nK id Q .normal s=Q .normal s:=rfl
theorem mD (N:St->Prop) (Q:Exit->St->Prop) (s:St):iV N Q .ret s=Q .ret s:=rfl
theorem jE (id:Nat) (Q:Exit->St->Prop) (s:St):nK id Q .ret s=Q .ret s:=rfl
theorem iC {α:Type} (I:List α->aA->Prop) (Ix:Exit->List α->aA->Prop) (ys:List α) (Hb:aA) (s:St):UU I Ix ys Hb .normal s=(s.df=[]/\mC Hb s.H/\I ys s.H):=rfl
theorem jN {α:Type} (I:List α->aA->Prop) (Ix:Exit->List α->aA->Prop) (ys:List α) (Hb:aA) (s:St):UU I Ix ys Hb .ret s=(s.df=[]/\mC Hb s.H/\Ix .ret ys s.H):=rfl
theorem aA.aH1 {H H':aA} {b:Nat} {x:gB} (h:H.le H') (hb:H b=Option.none):H.le (H'.bH b x):=fun c y e=>by
 rw[aP (fun hc=>by rw[hc,hb] at e;cases e)];exact h _ _ e
abbrev bQ:=@aA.aH1
theorem aA.aE1 {H H':aA} {b:Nat} (h:H.le H') (hb:H' b=Option.none):H b=Option.none:=by
 cases e:H b with
 |none=>rfl
 |some x=>rw[h _ _ e] at hb;cases hb
abbrev AA:=@aA.aE1
theorem LR {H0 Hb H1 H':aA} {e:TypeId} {sz:Nat} {els:List (List D)} {d:D} {ob:Option Nat} {p:Nat->Prop} (h:mC Hb H1) (hg:Gl H0 e sz els d H1 ob) (hp:∀b z,H1 b=some z->ob≠some b->H' b=some z/\p b):mC Hb H':=fun c o hc=>by
 have h1:=h c o hc
 refine(hp c _ h1 fun e=>?_).1
 rcases hg with⟨h2,_⟩|⟨c',o',h2,_,_,h4⟩
 ·rw[h2] at e;cases e
 ·rw[h2] at e;injection e with e;rw[e,h1] at h4;cases h4
theorem Gl.new {H0:aA} {e:TypeId} {sz:Nat} {els:List (List D)} {d:D} {H:aA} {ob:Option Nat} {b:Nat} {x:gB} (h:Gl H0 e sz els d H ob) (hb:H b=none):Gl H0 e sz els d (H.bH b x) ob:=by
 rcases h with h|⟨c,o,h1,h2,h3,h4⟩
 ·exact .inl h
 ·exact .inr ⟨c,o,h1,h2,h3,by rw[aP (fun e=>by rw[e,hb] at h4;cases h4)];exact h4⟩
theorem Gl.obj {H0:aA} {e:TypeId} {sz:Nat} {els:List (List D)} {d:D} {H:aA} {ob:Option Nat} {b:Nat} {x:gB} {o:Obj} (h:Gl H0 e sz els d H ob) (hb:H b=some (.obj o)):Gl H0 e sz els d (H.bH b x) ob:=by
 rcases h with h|⟨c,o,h1,h2,h3,h4⟩
 ·exact .inl h
 ·exact .inr ⟨c,o,h1,h2,h3,by rw[aP (fun e=>by rw[e,hb] at h4;cases h4)];exact h4⟩
theorem aCI {H:aA} {sz b n:Nat} {t:TypeId} {els:List (List D)} (h:H b=some (.row t 0 sz els)) (hn:n=els.length):jZ H sz (.os b 0 sz 0 n) (·=els):=by
 subst hn
 simp only[jZ,kU,h,iY,kW]
 exact⟨trivial,trivial,trivial,by omega,trivial⟩
theorem aA.aJ4 {H:aA} {b c:Nat} {x:gB} (h:H b=some x) (hc:H c=Option.none):b≠c:=fun e=>by rw[e,hc] at h;cases h
abbrev rP:=@aA.aJ4
theorem y9 {H:aA} {b l:Nat} {x:gB} {y:Obj} (hx:∀o,x≠ .obj o):mC ((H.bH b x).bH l (.obj y)) (H.bH l (.obj y)):=fun c o e=>by
 by_cases h1:c=l
 ·subst h1;rw[aQ] at e ⊢;exact e
 ·rw[aP h1] at e ⊢
  by_cases h2:c=b
  ·subst h2;rw[aQ] at e;injection e with e;exact absurd e (hx o)
  ·rw[aP h2] at e;exact e
theorem n4 {P:Program} {b:Frame} {a:Act} {k:List Item} {cs:List Frame} {w:World} {c:Code}:step P (lone (b.atR a (.code (.scope c)::k)) cs w)=.next (lone (b.atR a (.code c:: .inScope c::k)) cs w):=
 step_lone_go (by simp [stepG,stepG.exec,Frame.atR])
theorem KR {P:Program} {b:Frame} {a:Act} {k:List Item} {cs:List Frame} {w:World} {c:Code}:step P (lone (b.atR a (.inScope c::k)) cs w)=.next (lone (b.atR a k) cs w):=
 step_lone_go (by simp [stepG,stepG.exec,Frame.atR])
def G2 (Q:Exit->St->Prop):Exit->St->Prop
 | .goto _,_=>False
 |e,s=>Q e s
theorem cG {cx:Cx} {c:Code} {Q:Exit->St->Prop} {s:St} (h:W cx c (G2 Q) s):W cx (.scope c) Q s:=fun a w m=>by
 intro b k cs hro hb hr
 have h0:(lone (b.atR a (.code (.scope c)::k)) cs w).fenced cx.P (FR cx.ro):=fenced_calm hb hr rfl
 obtain⟨e,aAZ,aDA,⟨s',m',hq⟩,Y9⟩:=h a w m b (.inScope c::k) cs hro hb hr
 cases e with
 |normal=>exact⟨.normal,aAZ,aDA,⟨s',m',hq⟩,.head h0 n4 (StepsIn.trans Y9 (.one (fenced_calm hb hr rfl) KR))⟩
 |exit id'=>
  have hx:exitTo id' (.inScope c::k)=exitTo id' k:=by simp [exitTo]
  exact⟨.exit id',aAZ,aDA,⟨s',m',hq⟩,fun k' hk=>.head h0 n4 (Y9.1 k' (by rw[hx];exact hk)),
   fun hr' hk=>let ⟨aXr,h1,h2⟩:=Y9.2 hr' (by rw[hx];exact hk);⟨aXr,h1,.head h0 n4 h2⟩⟩
 |goto l=>exact hq.elim
 |ret=>exact⟨_,aAZ,aDA,⟨s',m',hq⟩,.of_steps (.one h0 n4) Y9⟩
 |panic ch=>exact⟨_,aAZ,aDA,⟨s',m',hq⟩,.of_steps (.one h0 n4) Y9⟩
 |outgrown=>exact⟨_,aAZ,aDA,⟨s',m',hq⟩,.of_steps (.one h0 n4) Y9⟩
theorem jJ (Q:Exit->St->Prop) (s:St):G2 Q .normal s=Q .normal s:=rfl
theorem jK (Q:Exit->St->Prop) (s:St):G2 Q .ret s=Q .ret s:=rfl
theorem jI (Q:Exit->St->Prop) (i:Nat) (s:St):G2 Q (.exit i) s=Q (.exit i) s:=rfl
theorem U5 (s:St):s.dW s.H=s:=rfl
def bsQ (P:Program) (t:TypeId) (len:Nat) (ds:List (Nat×D)) (K:D->Prop):Prop:=
 match aS P t with
 |some ⟨.slice e,_,_,_⟩=>(match aS P e with
  |some ⟨_,sz,_,some zs⟩=>zs.length=sz/\ds.length=len/\len * sz<=16777216/\(match pC sz ds 0 with
   |some els=>els.length=len/\K (.seq sz els)
   |none=>False)
  |_=>False)
 |_=>False
theorem aEo {P:Program} {H:aA} {w:World} (hH:fQ w H) {t:TypeId} {len:Nat} {ds:List (Nat×D)} {vs:Array (Nat×Value)} {K:D->Prop} (h:bsQ P t len ds K) (hx:lA w H.others ds vs.toList):
  ∃r d' w' H',(Instr.buildSlice t len vs).run P w=.ok r w'/\D.is w' H'.others d' r/\fQ w' H'/\Ev H w H' w'/\(K d'/\H'=H):=by
 unfold bsQ at h
 split at h
 ·rename_i e _ _ _ hT
  split at h
  ·rename_i dE sz byE zs hE
   obtain⟨h1,h2,h3,h4⟩:=h
   split at h4
   ·rename_i els hr
    obtain⟨hl,hk⟩:=h4
    obtain⟨r,d',w',H',g1,g2,g3,g4,b,g5,g6,g7⟩:=W7 (K:=fun d H'=>∃b,H b=none/\d=.os b 0 sz 0 len/\H'=H.bH b (.row e 0 sz els)) hH (by
     unfold O7
     rw[hT];simp only
     rw[hE];simp only
     refine⟨h1,h2,h3,?_⟩
     rw[hr]
     exact fun b hb=>⟨b,hb,rfl,rfl⟩) hx
    subst g6 g7
    rw[<-hl] at g2
    exact⟨r,.seq sz els,w',H,g1,W6 g5 g3 g2,g3.less (nH (aE _) g5),g4.less (nH (aE _) g5),hk,rfl⟩
   ·exact h4.elim
  ·exact h.elim
 ·exact h.elim
def tN (cx:Cx) (o:Oper) (s:St) (K:St->Prop):Prop:=
 match o.op with
 | .buildSlice t (n+1) ps=>bsQ cx.P t (n+1) (s.parts ps) fun d=>K (s.put o.dst d)
 |_=>dM cx o s K
theorem tO {cx:Cx} {o:Oper} {s:St} {K:St->Prop} (hd:BS cx.n o.dst) (h:tN cx o s K):WO cx o K s:=by
 unfold tN at h
 split at h
 ·rename_i t n ps e
  refine r9 (by simp [e]) hd fun a w m=>?_
  obtain⟨r,d,w',H',h1,h2,h3,h4,h5,h6⟩:=aEo m.H h (m.I5 ps)
  subst h6
  exact⟨r,w',d,s.H,by simp only[execOp,e,Sem.run_bind,h1,Result.andThen,Sem.run_pure],h2,h3,h4,h5⟩
 ·exact nO hd h
def qV (cx:Cx) (aV:Array Oper) (Q:Exit->St->Prop):List Oper->St->Prop
 |[],s=>Q .normal s
 |o::dD,s=>(match o.guard with
  |none=>tN cx o s fun s'=>if kA o.op then WL cx aV dD Q s' else qV cx aV Q dD s'
  |some (j,eC)=>(match mF aV j with
   |some t=>(match s.fr t with
    | .val (.bool b)=>vU (b==eC) (tN cx o (s.put (some t) (.val (.bool eC))) fun s'=>if kA o.op then WL cx aV dD Q s' else qV cx aV Q dD s') (qV cx aV Q dD ((s.put (some t) (.val (.bool !eC))).put o.dst (.val undef)))
    | .val (.tuple ⟨[]⟩)=>qV cx aV Q dD (s.put o.dst (.val undef))
    |_=>False)
   |none=>False))
theorem vV {cx:Cx} {aV:List Oper} {Q:Exit->St->Prop} (eX:eP cx.n aV=true):∀{l:List Oper} {s:St},eP cx.n l=true->qV cx aV.toArray Q l s->WL cx aV.toArray l Q s
 |[],s,_,h=>MF h
 |o::dD,s,hl,h=>by
  simp only[eP,l8,eF] at hl
  have hd:BS cx.n o.dst:=by
   have:=hl.1
   unfold BS
   cases ho:o.dst with
   |none=>trivial
   |some t=>rw[ho] at this;simpa using this
  have ih:∀s',qV cx aV.toArray Q dD s'->WL cx aV.toArray dD Q s':=fun s' h'=>vV eX hl.2 h'
  have ih2:∀s',(if kA o.op then WL cx aV.toArray dD Q s' else qV cx aV.toArray Q dD s')->WL cx aV.toArray dD Q s':=fun s' h'=>by
   split at h'
   ·exact h'
   ·exact ih s' h'
  simp only[qV] at h
  split at h
  ·rename_i hg
   exact tF hg (yM (tO hd h) ih2)
  ·rename_i j eC hg
   split at h
   ·rename_i t ht
    have htn:t<cx.n:=by
     unfold mF at ht
     cases hj:aV.toArray[j]? with
     |none=>rw[hj] at ht;cases ht
     |some o'=>
      rw[hj] at ht
      have:=(eD.1 eX) o' (by have:=zP hj;simpa using this)
      simp at ht
      rw[ht] at this
      simpa using this
    split at h
    ·rename_i b hb
     exact xJ hg ht htn (hU hd) (.inl ⟨b,hb,fun e=>by
       have h2:=OQ h (by rw[e];cases eC <;> rfl)
       rw[OL (by rw[hb,e])] at h2
       exact yM (tO hd h2) ih2,fun e=>by
       have h2:=OP h (by rw[e];cases eC <;> rfl)
       rw[OL (by rw[hb,e])] at h2
       exact ih _ h2⟩)
    ·rename_i hb
     exact xJ hg ht htn (hU hd) (.inr ⟨hb,ih _ h⟩)
    ·exact h.elim
   ·exact h.elim
theorem gN {cx:Cx} {id:Nat} {aV:List Oper} {Q:Exit->St->Prop} {s:St} (eX:eP cx.n aV=true) (h:qV cx aV.toArray Q aV s):W cx (.region id aV.toArray false) Q s:=
 B8 (vV eX eX h)
theorem gM {cx:Cx} {aV l:List Oper} {Q:Exit->St->Prop} {s:St} (eX:eP cx.n aV=true) (hl:eP cx.n l=true) (h:qV cx aV.toArray Q l s):WL cx aV.toArray l Q s:=vV eX hl h
def LtN (i n:Nat):Prop:=i<n
theorem bB {cx:Cx} {c:Code} {Q:Exit->St->Prop} {s:St} (n:Nat) (I:Nat->St->Prop) (h0:I 0 s)
  (round:∀i s,i<=n->I i s->W cx c (iV (fun s'=>LtN i n/\I (i+1) s') Q) s):W cx (.loop c) Q s:=by
 refine aAW (fun s=>∃i,i<=n/\I i s) (fun s=>Classical.epsilon fun k=>∃i,i<=n/\I i s/\k=n - i/\∀j,j<=n->I j s->n - i<=n - j) s.H (aE _) ⟨0,tV _,h0⟩ ?_
 rintro s1 hex
 have pick:∀s:St,(∃i,i<=n/\I i s)->∃i,i<=n/\I i s/\∀j,j<=n->I j s->n - i<=n - j:=fun s ⟨i,hi,h⟩=>by
  obtain⟨k,⟨i',h1,h2,rfl⟩,h3⟩:=aCC (fun k=>∃i,i<=n/\I i s/\n - i=k) ⟨_,i,hi,h,rfl⟩
  exact⟨i',h1,h2,fun j hj hI=>h3 _ ⟨j,hj,hI,rfl⟩⟩
 have mu:∀s:St,(∃i,i<=n/\I i s)->∃i,i<=n/\I i s/\(Classical.epsilon fun k=>∃i,i<=n/\I i s/\k=n - i/\∀j,j<=n->I j s->n - i<=n - j)=n - i/\∀j,j<=n->I j s->n - i<=n - j:=fun s h=>by
  obtain⟨i,h1,h2,h3⟩:=pick s h
  obtain⟨i',g1,g2,g3,g4⟩:=O6 (p:=fun k=>∃i,i<=n/\I i s/\k=n - i/\∀j,j<=n->I j s->n - i<=n - j) ⟨_,i,h1,h2,rfl,h3⟩
  exact⟨i',g1,g2,g3,g4⟩
 obtain⟨i,h1,h2,h3,h4⟩:=mu s1 hex
 refine sA (round i s1 h1 h2) fun e s' q=>?_
 cases e with
 |normal=>
  obtain⟨gL,hI⟩:=q
  replace gL:i<n:=gL
  refine⟨s'.H,aE _,⟨i+1,gL,hI⟩,?_⟩
  rw[h3]
  obtain⟨j,g1,g2,g3,g4⟩:=mu s' ⟨i+1,gL,hI⟩
  show(Classical.epsilon _)<_
  have:=g4 (i+1) gL hI
  rw[show s'.dW s'.H=s' from rfl,g3]
  omega
 |_=>exact q
def J6 (H H':aA) (d d0:D):Prop:=∀w v,fQ w H'->D.is w H'.others d v->D.is w H.others d0 v
theorem aT.fW {P:Program} {f:FuncId} {ds:List D} {H:aA} {K:D->Prop} (h:aT P f ds H fun d H'=>H.le H'/\∃d0,J6 H H' d d0/\K d0):aT P f ds H fun d H'=>K d/\H=H':=
 h.post fun d H' ⟨aR,d0,hf,hk⟩=>⟨d0,H,aR,hf,hk,rfl⟩
abbrev bM:=@aT.fW
theorem aJ {H H':aA} {d:D} (h:H.le H'):J6 H H' d d:=fun w v _ hv=>pN (nI h w) d hv
theorem NK {H H':aA} {b o sz k n:Nat} {ty:TypeId} {els:List (List D)} (aR:H.le H') (hb:H' b=some (.row ty o sz els)) (h0:H b=none) (hn:k+n<=els.length):J6 H H' (.os b o sz k n) (.seq sz ((els.drop k).take n)):=fun w v hH hv=>by
 have h1:=NJ hH hb hn hv
 refine pN (nI (H':=H) (fun c x hc=>?_) w) _ h1
 rw[bP (fun e=>by rw[e,h0] at hc;cases hc)]
 exact aR _ _ hc
theorem aBQ {H H':aA} {b o sz i k:Nat} {ty:TypeId} {els:List (List D)} {el:List D} (aR:H.le H') (hb:H' b=some (.row ty o sz els)) (h0:H b=none) (hi:els[i]?=some el):J6 H H' (.ep b o sz i k) (.rp (el.drop k)):=fun w v hH hv=>by
 have h1:=NL hH hb hi hv
 refine pN (nI (H':=H) (fun c x hc=>?_) w) _ h1
 rw[bP (fun e=>by rw[e,h0] at hc;cases hc)]
 exact aR _ _ hc
theorem yT {H H':aA} {sz:Nat}:J6 H H' (.val (.slice none 0 0)) (.seq sz []):=fun w v _ hv=>OD hv
theorem sF {H H':aA} {e:TypeId} {sz:Nat} {els:List (List D)} {d:D} {ob:Option Nat} (aR:H.le H') (hg:Gl H e sz els d H' ob):J6 H H' d (.seq sz els):=by
 rcases hg with⟨_,rfl,rfl⟩|⟨c,o,_,rfl,h3,h4⟩
 ·exact yT
 ·have:=NK (k:=0) (n:=els.length) aR h4 h3 (by omega)
  rwa[iY,kW] at this
def xH (H H':aA):List D->List D->Prop
 |[],[]=>True
 |d::ds,e::es=>J6 H H' d e/\xH H H' ds es
 |_,_=>False
theorem xH.all {H H':aA} {w:World} (hH:fQ w H'):∀{ds es:List D} {vs:List Value},xH H H' ds es->aW w H'.others ds vs->aW w H.others es vs
 |[],[],vs,_,h=>by simp only[aW] at h ⊢;exact h
 |d::ds,e::es,vs,hv,h=>by
  simp only[aW] at h ⊢
  obtain⟨u,us,rfl,h1,h2⟩:=h
  exact⟨u,us,rfl,hv.1 w u hH h1,xH.all hH hv.2 h2⟩
 |[],_::_,_,hv,_=>hv.elim
 |_::_,[],_,hv,_=>hv.elim
theorem xH.cells {H H':aA} {w:World} (hH:fQ w H'):∀{ds es:List D} {vs:List Value},xH H H' ds es->aU w H'.others ds vs->aU w H.others es vs
 |[],[],vs,_,h=>by simp only[aU] at h ⊢;exact h
 |d::ds,e::es,vs,hv,h=>by
  simp only[aU] at h ⊢
  obtain⟨u,us,rfl,h0,h1,h2⟩:=h
  exact⟨u,us,rfl,h0,hv.1 w u hH h1,xH.cells hH hv.2 h2⟩
 |[],_::_,_,hv,_=>hv.elim
 |_::_,[],_,hv,_=>hv.elim
theorem pS {H H':aA} {ds es:List D} (h:xH H H' ds es):J6 H H' (.fV ds) (.fV es):=fun w v hH hv=>by
 simp only[D.is] at hv ⊢
 obtain⟨vs,rfl,h1⟩:=hv
 exact⟨vs,rfl,h.all hH h1⟩
theorem TT {H H':aA} {a a' b b':D} (h:J6 H H' a a') (h2:J6 H H' b b'):xH H H' [a,b] [a',b']:=⟨h,h2,trivial⟩
def Imp (d d':D):Prop:=∀w S v,D.is w S d v->D.is w S d' v
theorem oG (d:D):Imp d d:=fun _ _ _ h=>h
theorem kZ {sz:Nat}:Imp (.val (.slice none 0 0)) (.seq sz []):=fun _ _ _ h=>OD h
def AD:List D->List D->Prop
 |[],[]=>True
 |d::ds,e::es=>Imp d e/\AD ds es
 |_,_=>False
def PK:List (List D)->List (List D)->Prop
 |[],[]=>True
 |d::ds,e::es=>AD d e/\PK ds es
 |_,_=>False
theorem AD.len:∀{ds es:List D},AD ds es->ds.length=es.length
 |[],[],_=>rfl
 |d::ds,e::es,h=>by rw[fN,fN,AD.len h.2]
 |[],_::_,h=>h.elim
 |_::_,[],h=>h.elim
theorem PK.len:∀{ds es:List (List D)},PK ds es->ds.length=es.length
 |[],[],_=>rfl
 |d::ds,e::es,h=>by rw[fN,fN,PK.len h.2]
 |[],_::_,h=>h.elim
 |_::_,[],h=>h.elim
theorem AD.at {w:World} {S:Nat->Prop} {b:Nat}:∀{ds es:List D} {o:Nat},AD ds es->cK w S b o ds->cK w S b o es
 |[],[],_,_,h=>by simp only[cK] at h ⊢
 |d::ds,e::es,o,hv,h=>by
  simp only[cK] at h ⊢
  obtain⟨⟨u,h1,h2,h3⟩,h4⟩:=h
  exact⟨⟨u,h1,h2,hv.1 w S u h3⟩,AD.at hv.2 h4⟩
 |[],_::_,_,hv,_=>hv.elim
 |_::_,[],_,hv,_=>hv.elim
theorem PK.at {w:World} {S:Nat->Prop} {b sz:Nat}:∀{ds es:List (List D)} {o:Nat},PK ds es->dC w S b sz o ds->dC w S b sz o es
 |[],[],_,_,h=>by simp only[dC] at h ⊢
 |d::ds,e::es,o,hv,h=>by
  simp only[dC] at h ⊢
  exact⟨hv.1.len▸h.1,hv.1.at h.2.1,PK.at hv.2 h.2.2⟩
 |[],_::_,_,hv,_=>hv.elim
 |_::_,[],_,hv,_=>hv.elim
theorem aEG {sz:Nat} {els aG5:List (List D)} (h:PK els aG5):Imp (.seq sz els) (.seq sz aG5):=fun w S v hv=>by
 simp only[D.is] at hv ⊢
 obtain⟨A,c,rfl,h1,h2⟩:=hv
 refine⟨A,c,by rw[h.len],by rw[<-h.len];exact h1,?_⟩
 rcases h2 with h2|⟨b,o,h3,h4,h5,h6⟩
 ·left
  have:=h.len
  rw[h2] at this
  exact gP this.symm
 ·exact .inr ⟨b,o,h3,h4,h5,h.at h6⟩
theorem AD.aQr {w:World} {S:Nat->Prop}:∀{ds es:List D} {vs:List Value},AD ds es->aW w S ds vs->aW w S es vs
 |[],[],vs,_,h=>by simp only[aW] at h ⊢;exact h
 |d::ds,e::es,vs,hv,h=>by
  simp only[aW] at h ⊢
  obtain⟨u,us,rfl,h1,h2⟩:=h
  exact⟨u,us,rfl,hv.1 w S u h1,AD.aQr hv.2 h2⟩
 |[],_::_,_,hv,_=>hv.elim
 |_::_,[],_,hv,_=>hv.elim
theorem aT.imp {P:Program} {f:FuncId} {ds ds':List D} {H:aA} {K:D->aA->Prop} (h:aT P f ds' H K) (hi:AD ds ds'):aT P f ds H K:=
 h.aQu (aE _) fun _ _ _ hv=>hi.aQr hv
end Go.Proofs.YtelbfbioomcmeaaGreatDoor


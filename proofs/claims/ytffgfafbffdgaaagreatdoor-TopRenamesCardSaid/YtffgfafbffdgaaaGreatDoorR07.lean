/- Lemmas and contracts of functions, several texts in one. -/
import Derived.Test.YtffgfafbffdgaaaGreatDoorR06
set_option maxRecDepth 100000
set_option maxHeartbeats 4000000
set_option linter.all false
namespace Go.Proofs.YtffgfafbffdgaaaGreatDoor
open Go.RowKit
variable {H H' H'' H0:aA}{b o n sz:Nat}{x y:cY}{w:World}{cx:Cx}{P:Program}{f:FuncId}{c:Code}{bc ds es:List D}{ty e t:TypeId}{els:List (List D)}{d a' b':D}{ob:Option Nat}{s:St}{aY:List Oper}
def gE (H H':aA):Prop:=∀b o,H b=some (.obj o)->H' b=some (.obj o)
def Am (H H':aA):Prop:=∀b x,H b=some x->(∀o,x≠ .obj o)->H' b=some x
theorem jU (H:aA):gE H H:=λ_ _ h=>h
theorem gE.trans (h:gE H H')(h':gE H' H''):gE H H'':=λb o e=>h' b o (h b o e)
theorem gE.new (h:gE H H')(hb:H' b=none):gE H (H'.aU b x):=λc o e=>by
 have:=h c o e;rw[aJ (λa=>by rw[a,hb] at this;cases this)];exact this
theorem gE.row (h:gE H H')(hb:H' b=some y)(hy:∀o,y≠ .obj o):gE H (H'.aU b x):=λc o e=>by
 have a:=h c o e;rw[aJ (λg=>by rw[g,hb] at a;injection a with a;exact hy o a)];exact a
theorem gE.del (h:gE H H')(hb:H' b=some y)(hy:∀o,y≠ .obj o):gE H (H'.del b):=λc o e=>by
 have a:=h c o e;rw[bL (λg=>by rw[g,hb] at a;injection a with a;exact hy o a)];exact a
theorem T2 (hb:H b=none):Am H (H.aU b x):=λc y e _=>by rw[aJ (λa=>by rw[a,hb] at e;cases e)];exact e
theorem kA {o:Obj}(hb:H b=some (.obj o)):Am H (H.aU b x):=λc y e g=>by rw[aJ (λa=>by rw[a,hb] at e;injection e with e;exact g o e.symm)];exact e
theorem Am.trans (h:Am H H')(h':Am H' H''):Am H H'':=λb x e a=>h' b x (h b x e a) a
theorem lQ (hz:∀z,H b=some z->∃o,z=.obj o):Am H (H.aU b x):=by
 cases e:H b with
 |none=>exact T2 e
 |some z=>obtain⟨o,rfl⟩:=hz z e;exact kA e
def ZO (s:St) (ps:List Nat) (ds:List D) (H:aA):St:=⟨(ps.zip ds).foldl (λf p=>λx=>if x=p.1 then p.2 else f x) s.fr,H,[]⟩
theorem AJ {S:Nat->Prop}:∀(ps:List Nat) (ds:List D) (vs:List Value) (f:Nat->D) (t:Array Value),aT w S ds vs->(∀p∈ps,p<n)->t.size=n->(∀x,D.is w S (f x) (t.getD x undef))->
  (((ps.zip vs).foldl (λt p=>t.setIfInBounds p.1 p.2) t).size=n/\∀x,D.is w S ((ps.zip ds).foldl (λf p=>λx=>if x=p.1 then p.2 else f x) f x) (((ps.zip vs).foldl (λt p=>t.setIfInBounds p.1 p.2) t).getD x undef))
 |[],ds,vs,f,t,_,_,hn,hf=>by
  simp only[List.zip_nil_left,List.foldl_nil];exact⟨hn,hf⟩
 |p::ps,[],vs,f,t,hv,_,hn,hf=>by
  simp only[aT] at hv;subst hv;simp only[List.zip_nil_right,List.foldl_nil];exact⟨hn,hf⟩
 |p::ps,d::ds,vs,f,t,hv,hp,hn,hf=>by
  simp only[aT] at hv;obtain⟨u,us,rfl,h1,h2⟩:=hv;simp only[List.zip_cons_cons,rH];refine AJ ps ds us _ _ h2 (λq h=>hp q (dH _ h)) (by simpa using hn) λx=>?_;have g:p<t.size:=by rw[hn];exact hp p jm
  rw[qB _ _ _ _ _ g];by_cases a:x=p
  ·rw[aD a,aD a];exact h1
  ·rw[aC a,aC a];exact hf x
def mI (B:Nat->Prop) (H H':aA):Prop:=∀b o,B b->H b=some (.obj o)->H' b=some (.obj o)
def T3 (B:Nat->Prop) {h:Type}(I:List h->aA->Prop) (g:Exit->List h->aA->Prop) (a:List h) (Hb:aA):Exit->St->Prop
 | .normal,s=>s.df=[]/\mI B Hb s.H/\I a s.H
 | .ret,s=>s.df=[]/\mI B Hb s.H/\g .ret a s.H
 | .exit id,s=>s.df=[]/\mI B Hb s.H/\g (.exit id) a s.H
 | .goto t,s=>s.df=[]/\mI B Hb s.H/\g (.goto t) a s.H
 |_,_=>False
def IH {h:Type}(I:List h->aA->Prop) (g:Exit->List h->aA->Prop) (a:List h) (Hb:aA):Exit->St->Prop
 | .normal,s=>s.df=[]/\gE Hb s.H/\I a s.H
 | .ret,s=>s.df=[]/\gE Hb s.H/\g .ret a s.H
 | .exit id,s=>s.df=[]/\gE Hb s.H/\g (.exit id) a s.H
 | .goto t,s=>s.df=[]/\gE Hb s.H/\g (.goto t) a s.H
 |_,_=>False
def Dp:Exit->Option Code
 | .ret=>some .ret
 | .exit id=>some (.exit id)
 | .goto t=>some (.goto t)
 |_=>none
def oN (D:Nat):Deferred:={target:=.collected D,args:= #[]}
theorem gA (h:H.le H')(hb:H' b=none):H b=none:=by
 cases e:H b with
 |none=>rfl
 |some x=>rw[h _ _ e] at hb;cases hb
theorem lC {α:Type}{s:St}{g:Operand}{ps:List Nat}{assign body:Code}{Q:Exit -> St -> Prop}(c8 : cx.ro = none){gf:FuncId}{bc:List D}{X:α -> List D}{Pf Fn:List α -> Prop}{ok kp:aA -> Prop}
    (it : ph cx.P gf bc X Pf Fn ok kp) (hg : s.ev g = .fn gf bc) (dC : ∀ H', s.H.le H' -> ok H') (c7 : ∀ p ∈ ps, p < cx.n) (bo : ∀ x, (X x).length = ps.length)
    (B : Nat -> Prop) (hB : ∀ b, s.H b = none -> B b) (I : List α -> aA -> Prop) (c6 : ∀ j i, I j i -> mI B s.H i -> kp i) (Ix : Exit -> List α -> aA -> Prop) (hI : yN s.H I) (am : ∀ e, yN s.H (Ix e)) (h0 : I [] s.H)
    (bf : ∀ (l : Nat) (w1 : World) (j : List α) (x : α) (i : aA) (o : Obj) (g1 : wW w1 i), B l -> Pf (j ++ [x]) -> I j i -> mI B s.H i -> i l = some (.obj o) -> W ⟨cx.P, some l, cx.n, i, w1, g1⟩ assign (dR (λs1 => s1.df = [] /\ mI B i s1.H /\ ∀ w2 y (g2 : wW w2 (s1.H.aU l (.obj y))), Ev cx.H0 cx.w0 (s1.H.aU l (.obj y)) w2 -> W ⟨cx.P, some l, cx.n, s1.H.aU l (.obj y), w2, g2⟩ body (T3 B I Ix (j ++ [x]) (s1.H.aU l (.obj y))) (s1.cJ (s1.H.aU l (.obj y)))) (λ_ _ => False)) (ZO s ps (X x) i))
    (bi : ∀ (ys : List α) (i : aA) (D : Nat), Fn ys -> I ys i -> mI B s.H i -> i D = some (.obj xl) -> s.H D = none -> Q .normal { s with H := i, df := oN D :: s.df })
    (bl : ∀ (e : Exit) (c : Code) (j : List α) (i : aA) (D : Nat), Dp e = some c -> Ix e j i -> mI B s.H i -> i D = some (.obj xl) -> s.H D = none -> Q e { s with H := i, df := oN D :: s.df }) :
    W cx (.rangeFunc g ⟨ps⟩ assign body) Q s := λa w m => by
  rw [c8];refine wpIn_rangeFunc ?_;intro fn b0;have a6 := m.nz g;rw [hg] at a6;simp only [D.is] at a6;obtain ⟨lb, a6, be⟩ := a6;obtain ⟨rec, K⟩ : ∃ rec : LoopState -> Option Code -> Loop, rec = λst pe => { state := st, pending := pe, fn, tmps := a.tmps, params := ⟨ps⟩, assign, body, defers := w.heap.size } := ⟨_, rfl⟩;obtain ⟨W1, ap⟩ : ∃ W1, (w.alloc (.deferred (some []))).alloc (.loop (rec .ready none)) = W1 := ⟨_, rfl⟩;obtain ⟨l, hl⟩ : ∃ l, l = w.heap.size + 1 := ⟨_, rfl⟩;have b7 : (w.alloc (.deferred (some []))).heap.size = l := by rw [hl]; exact World.size_alloc _ _
  have L := ff m.H;have u : s.H l = none := by
    cases e : s.H l with
    | none => rfl
    | some x => exact absurd (m.H.lt e) (by omega)
  have b3 : eF (w.alloc (.deferred (some []))) (s.H.aU w.heap.size (.obj xl)) := m.H.alloc (heap_alloc_new w _);have bm := gN (.deferred (some [])) (.obj xl) m.H;have b4 : eF W1 ((s.H.aU w.heap.size (.obj xl)).aU l (.obj (.loop (rec .ready none)))) := by
    rw [<- ap, <- b7];exact b3.alloc (heap_alloc_new (w.alloc (.deferred (some []))) _)
  have b2 : Ev (s.H.aU w.heap.size (.obj xl)) (w.alloc (.deferred (some []))) ((s.H.aU w.heap.size (.obj xl)).aU l (.obj (.loop (rec .ready none)))) W1 := by
    rw [<- ap, <- b7];exact gN _ _ b3
  obtain ⟨R, a3⟩ : ∃ H, H = (s.H.aU w.heap.size (.obj xl)).aU l (.obj (.loop (rec .ready none))) := ⟨_, rfl⟩;rw [<- a3] at b4 b2;have S : Ev s.H w R W1 := bm.trans b2;have T : w.heap.size ≠ l := by omega
  have J : s.H.le R := by
    rw [a3];exact j5 (j5 (aF _) L) (by rw [aJ (Ne.symm T)]; exact u)
  have ak : R w.heap.size = some (.obj xl) := by rw [a3, aJ T, aK]
  have aa : R l = some (.obj (.loop (rec .ready none))) := by rw [a3, aK]
  refine ⟨l, [oN w.heap.size], W1, { target := .fn (.func gf) ⟨lb⟩, args := #[.func (.yield l) #[] #[]] }, W1, gf, #[.func (.yield l) #[] #[]] ++ ⟨lb⟩, W1, ?_, ?_, ?_, ?_, λh => (by cases h), ?_⟩
  · rw [<- ap, K, hl]; exact run_enterLoop_outer _ _ _ _ _
  · simp only [resolve, a6]
    simp [go_sem]
  · intro f' ce; trivial
  · have eg : ∀ args w, (callFunc gf args).run cx.P w = .ok (.enter gf args) w := it.1
    simp [invoke, go_sem, eg]
  · have ba := it.2 l (λj i => I j i /\ mI B s.H i /\ i w.heap.size = some (.obj xl) /\ i l = some (.obj (.loop (rec .ready none))))
      (λj i => ∃ e c, Dp e = some c /\ Ix e j i /\ mI B s.H i /\ i w.heap.size = some (.obj xl) /\ i l = some (.obj (.loop (rec .done (some c))))) R W1 (.func (.yield l) #[] #[] :: lb) (dC _ J) b4 (m.Xo.ev S)
      ⟨by rw [a3]; exact hI _ _ _ _ u (λz h => by rw [aJ (Ne.symm T), u] at h; cases h) (hI _ _ _ _ L (λz h => by rw [L] at h; cases h) h0), λb o _ h => J _ _ h, ak, aa⟩
      (λj H b o A hz ⟨h1, h2, h3, V⟩ => ⟨hI _ _ _ _ (gA J A) hz h1, λc o' aw h => by
        rw [aJ (λhc => by rw [hc] at h; have := J _ _ h; rw [A] at this; cases this)]; exact h2 c o' aw h, by
        rw [aJ (λhc => by rw [<- hc, ak] at A; cases A)]; exact h3, by
        rw [aJ (λhc => by rw [<- hc, aa] at A; cases A)]; exact V⟩)
      (λj H b o A hz ⟨e, c0, hj, h1, h2, h3, V⟩ => ⟨e, c0, hj, am _ _ _ _ _ (gA J A) hz h1, λc o' aw h => by
        rw [aJ (λhc => by rw [hc] at h; have := J _ _ h; rw [A] at this; cases this)]; exact h2 c o' aw h, by
        rw [aJ (λhc => by rw [<- hc, ak] at A; cases A)]; exact h3, by
        rw [aJ (λhc => by rw [<- hc, aa] at A; cases A)]; exact V⟩) (λj i h => c6 j i h.1 h.2.1) ?_ (by
        simp only [aT];exact ⟨_, _, rfl, by simp only [yD, D.is], fF S.kept _ be⟩)
    · have e1 : #[Value.func (.yield l) #[] #[]] ++ (⟨lb⟩ : Array Value) = (Value.func (.yield l) #[] #[] :: lb).toArray := by simp
      rw [e1]
      refine (uM (ro := none) (n := 8) ba).mono ?_
      rintro e w3 ⟨v, H3, rfl, b5, br, hj⟩
      have fin : ∀ (st : LoopState) (pe : Option Code), st ≠ .busy -> H3 l = some (.obj (.loop (rec st pe))) -> mI B s.H H3 -> H3 w.heap.size = some (.obj xl) ->
          ∃ w4, (Instr.endLoop l).run cx.P w3 = .ok pe w4 /\ ∃ o4, bj cx { s with H := H3.aU l (.obj o4), df := oN w.heap.size :: s.df } { a with defers := [oN w.heap.size] ++ a.defers } w4 /\ mI B s.H (H3.aU l (.obj o4)) /\ (H3.aU l (.obj o4)) w.heap.size = some (.obj xl) := by
        intro st pe c9 F G a4;have Z : w3.heap[l]? = some (.loop (rec st pe)) := b5 l _ F;have a0 := run_endLoop (P := cx.P) Z (by rw [K]; exact c9);obtain ⟨c2, bs⟩ := AF (o' := .loop { rec st pe with state := .exhausted }) (y := .obj (.loop { rec st pe with state := .exhausted })) b5 F Z (λ_ _ _ h => by cases h) (sq Z);refine ⟨w3.putObj l (.loop { rec st pe with state := .exhausted }), by rw [K] at a0 ⊢; exact a0, .loop { rec st pe with state := .exhausted }, ?_, λb o E h => ?_, by rw [aJ T]; exact a4⟩
        · have m4 := m.go ((S.trans br).trans c2) bs
          exact ⟨m4.n, by simp only [List.singleton_append, m.df], m4.fr, m4.H, m4.ev⟩
        · have := G b o E h
          rw [aJ (λA => by rw [A, u] at h; cases h)]
          exact this
      rcases hj with ⟨ys, b0, hi, G, a4, F⟩ | ⟨j, e, c, Uk, hi, G, a4, F⟩
      · obtain ⟨w4, V, o4, m4, ad, al⟩ := fin _ _ (by simp) F G a4
        exact ⟨none, w4, V, _, m4, bi _ _ _ b0 (hI _ _ _ _ u (λz h => ⟨_, by rw [F] at h; injection h with h; exact h.symm⟩) hi) ad al L⟩
      · obtain ⟨w4, V, o4, m4, ad, al⟩ := fin _ _ (by simp) F G a4
        have hq := bl e c j _ _ Uk (am _ _ _ _ _ u (λz h => ⟨_, by rw [F] at h; injection h with h; exact h.symm⟩) hi) ad al L
        refine ⟨some c, w4, V, ?_⟩
        cases e <;> simp only [Dp] at Uk <;> first
          | (cases Uk; done)
          | (injection Uk with Uk
             subst Uk
             first
               | exact wpIn_exit ⟨_, m4, hq⟩
               | exact wpIn_goto ⟨_, m4, hq⟩
               | exact wpIn_ret ⟨_, m4, hq⟩)
    ·
      rintro j x i w5 vs bb ⟨hi, G, c4, b1⟩ b6 ag js
      have Z : w5.heap[l]? = some (.loop (rec .ready none)) := b6 l _ b1
      have cd := fo js
      have hy := run_yield (P := cx.P) (args := vs.toArray) Z (by rw [K]; simp [cd, bo])
      rw [K] at hy
      refine ⟨fn, _, assign, body, hy, roundIn_of_wpIn b0 ?_⟩
      have xu : ∀ t, D.is w5 i.others (s.fr t) (a.tmps.getD t undef) := λt => j6 (S.trans ag).kept _ (m.fr t)
      obtain ⟨g1, g2⟩ := AJ ps (X x) vs s.fr a.tmps js c7 m.n xu
      have tY : ((⟨ps⟩ : Array Nat).zip vs.toArray).foldl (λt (p : Nat × Value) => t.setIfInBounds p.1 p.2) a.tmps = (ps.zip vs).foldl (λt p => t.setIfInBounds p.1 p.2) a.tmps := by rw [<- Array.foldl_toList, Array.toList_zip]
      have g5 : wW w5 i := (m.Xo.ev S).ev ag
      have m5 : bj ⟨cx.P, some l, cx.n, i, w5, g5⟩ (ZO s ps (X x) i) { tmps := ((⟨ps⟩ : Array Nat).zip vs.toArray).foldl (λt (p : Nat × Value) => t.setIfInBounds p.1 p.2) a.tmps, defers := [] } w5 := by
        rw [tY];exact ⟨g1, rfl, g2, b6, dr _ _⟩
      have hW := bf l w5 j x i _ g5 (hB _ u) bb hi G b1 _ _ m5
      refine wpIn_mono (BO 9 hW) ?_
      rintro e1 a1 w6 ⟨s1, m1, q1⟩
      cases e1 <;> first
        | exact q1.elim
        | skip
      obtain ⟨cc, a7, bq⟩ := q1
      have b8 : s1.H l = some (.obj (.loop (rec .ready none))) := a7 _ _ (hB _ u) b1
      have ae : w6.heap[l]? = some (.loop (rec .ready none)) := m1.H l _ b8
      obtain ⟨N, b9⟩ : ∃ y, y = Obj.loop { rec .ready none with state := .busy } := ⟨_, rfl⟩
      obtain ⟨a9, bt⟩ := AF (o' := N) (y := .obj N) m1.H b8 ae (λ_ _ _ h => by cases h) (sq ae)
      refine ⟨w6.putObj l N, by rw [b9]; exact run_beginRound ae (by rw [K]), ?_⟩
      have g6 : wW (w6.putObj l N) (s1.H.aU l (.obj N)) := m1.Xo.ev a9
      have m6 : bj ⟨cx.P, some l, cx.n, s1.H.aU l (.obj N), w6.putObj l N, g6⟩ (s1.cJ (s1.H.aU l (.obj N))) a1 (w6.putObj l N) := by
        have := m1.go a9 bt;exact ⟨this.n, this.df, this.fr, this.H, dr _ _⟩
      refine wpIn_mono (BO 9 (bq (w6.putObj l N) N g6 ((((m.ev.trans S).trans ag).trans m1.ev).trans a9) _ _ m6)) ?_
      rintro e2 a2 w7 ⟨s2, m2, q2⟩
      have ac : ∀ (r : Option Code), mI B (s1.H.aU l (.obj N)) s2.H -> ∃ v w', (Instr.endRound l r).run cx.P w7 = .ok v w' /\ v = .bool r.isNone /\
          ∃ k, eF w' k /\ Ev i w5 k w' /\ (∀ b o, R b = none -> i b = some (.obj o) -> k b = some (.obj o)) /\ (∀ p, I p s2.H -> I p k) /\ (∀ e p, Ix e p s2.H -> Ix e p k) /\ mI B s.H k /\ k w.heap.size = some (.obj xl) /\ k l = some (.obj (.loop (rec (if r.isNone then .ready else .done) r))) := by
        intro r q;have ab : s2.H l = some (.obj N) := q _ _ (hB _ u) (aK _ _ _);have a8 : w7.heap[l]? = some N := m2.H l _ ab;rw [b9] at a8;have a0 := run_endRound (P := cx.P) r a8;obtain ⟨c3, c1⟩ := AF (o' := Obj.loop (rec (if r.isNone then .ready else .done) r)) (y := .obj (Obj.loop (rec (if r.isNone then .ready else .done) r))) m2.H ab a8 (λ_ _ _ h => by cases h) (sq a8);have bk : mI B s.H (s2.H.aU l (.obj (Obj.loop (rec (if r.isNone then .ready else .done) r)))) := λb o E h => by
          have a5 : b ≠ l := λA => by rw [A, u] at h; cases h
          rw [aJ a5];refine q b o E ?_;rw [aJ a5];exact a7 b o E (G b o E h)
        refine ⟨_, _, by rw [K] at a0 ⊢; exact a0, rfl, _, c1, ((m1.ev.trans a9).trans m2.ev).trans c3, λb o ar c5 => by
          have a5 : b ≠ l := λA => by rw [A, aa] at ar; cases ar
          rw [aJ a5];have E := hB b (gA J ar);refine q b o E ?_;rw [aJ a5];exact a7 b o E c5, λp => hI _ _ _ _ u λz h => ⟨_, by rw [ab] at h; injection h with h; exact h.symm⟩, λe p => am _ _ _ _ _ u λz h => ⟨_, by rw [ab] at h; injection h with h; exact h.symm⟩, bk, ?_, aK _ _ _⟩
        rw [aJ T];refine q _ _ (hB _ L) ?_;rw [aJ T];exact a7 _ _ (hB _ L) c4
      cases e2 with
      | normal =>
        obtain ⟨_, q, M⟩ := q2
        obtain ⟨v, w', h1, rfl, k, h2, h3, h8, V, h9, h5, h6, h7⟩ := ac none q
        exact ⟨_, w', h1, k, h2, h3, h8, .inl ⟨rfl, V _ M, h5, h6, h7⟩⟩
      | ret =>
        obtain ⟨_, q, M⟩ := q2
        obtain ⟨v, w', h1, rfl, k, h2, h3, h8, V, h9, h5, h6, h7⟩ := ac (some .ret) q
        exact ⟨_, w', h1, k, h2, h3, h8, .inr ⟨rfl, .ret, _, rfl, h9 _ _ M, h5, h6, h7⟩⟩
      | exit id =>
        obtain ⟨_, q, M⟩ := q2
        obtain ⟨v, w', h1, rfl, k, h2, h3, h8, V, h9, h5, h6, h7⟩ := ac (some (.exit id)) q
        exact ⟨_, w', h1, k, h2, h3, h8, .inr ⟨rfl, .exit id, _, rfl, h9 _ _ M, h5, h6, h7⟩⟩
      | goto t =>
        obtain ⟨_, q, M⟩ := q2
        obtain ⟨v, w', h1, rfl, k, h2, h3, h8, V, h9, h5, h6, h7⟩ := ac (some (.goto t)) q
        exact ⟨_, w', h1, k, h2, h3, h8, .inr ⟨rfl, .goto t, _, rfl, h9 _ _ M, h5, h6, h7⟩⟩
      | panic ch => exact q2.elim
      | outgrown => exact q2.elim
theorem kZ {k:Type}{s:St}{g:Operand}{ps:List Nat}{assign body:Code}{Q:Exit->St->Prop}(M:cx.ro=none){S:FuncId}{bc:List D}{j:k->List D}{R:List k}{ok:aA->Prop}
  (it:BY cx.P S bc j R ok) (hg:s.ev g=.fn S bc) (T:∀H',s.H.le H'->ok H') (L:∀p∈ps,p<cx.n) (F:∀x,(j x).length=ps.length)
  (I:List k->aA->Prop) (m:Exit->List k->aA->Prop) (Z:∀a H H',Am H H'->I a H->I a H') (K:∀e a H H',Am H H'->m e a H->m e a H') (h0:I [] s.H)
  (A:∀(l:Nat) (v:World) (a:List k) (x:k) (i:aA) (o:Obj) (G:wW v i),(a++[x])<+:R->I a i->gE s.H i->i l=some (.obj o)->W ⟨cx.P,some l,cx.n,i,v,G⟩ assign (dR (λs1=>s1.df=[]/\gE i s1.H/\∀z y (J:wW z (s1.H.aU l (.obj y))),W ⟨cx.P,some l,cx.n,s1.H.aU l (.obj y),z,J⟩ body (IH I m (a++[x]) (s1.H.aU l (.obj y))) (s1.cJ (s1.H.aU l (.obj y)))) (λ_ _=>False)) (ZO s ps (j x) i))
  (B:∀(i:aA) (D:Nat),I R i->gE s.H i->i D=some (.obj xl)->s.H D=none->Q .normal {s with H:=i,df:=oN D::s.df})
  (E:∀(e:Exit) (c:Code) (a:List k) (i:aA) (D:Nat),Dp e=some c->m e a i->gE s.H i->i D=some (.obj xl)->s.H D=none->Q e {s with H:=i,df:=oN D::s.df}):
  W cx (.rangeFunc g ⟨ps⟩ assign body) Q s:=lC M it hg T L F (λ_=>True) (λ_ _=>trivial) I (λ_ _ _ _=>trivial) m (λa H b o _ N h=>Z a _ _ (lQ N) h) (λe a H b o _ N h=>K e a _ _ (lQ N) h) h0 (λl v a x i o G _ r u V X=>nA (A l v a x i o G r u (λb o=>V b o trivial) X) λe s1 q=>by cases e <;> first|exact⟨q.1,λb o _=>q.2.1 b o,λz y J _=>nA (q.2.2 z y J) λe s q=>by cases e <;> first|exact⟨q.1,λb o _=>q.2.1 b o,q.2.2⟩|exact q⟩|exact q) (λys i D h0 r u=>by subst h0;exact B i D r λb o=>u b o trivial) (λe c a i D h0 r u=>E e c a i D h0 r λb o=>u b o trivial)
theorem v7 {Z:Type}{fn:Func}{z:Z->List D}{Pf Fn:List Z->Prop}{ok kp:aA->Prop}(N:Nat)(hf:P.funcs[f]?=some fn)(mh:(fn.name== "runtime.NumGoroutine")=false)(hb:fn.body=some c)(hN:fn.ntmps=N)(xv:fn.results= #[])(hl:bc.length+1<=N)
  (h:∀(l:Nat) (J j:List Z->aA->Prop) (H:aA) (X:World) (g0:wW X H) (Q:Exit->St->Prop),ok H->J [] H->yN H J->yN H j->(∀a Hc,J a Hc->kp Hc)->Xm P l H X J j z Pf->(∀e s,e=.normal\/e=.ret->s.df=[]->((∃g,Fn g/\J g s.H)\/∃a,j a s.H)->Q e s)->W ⟨P,none,N,H,X,g0⟩ c Q (St.init (yD l::bc) H)):ph P f bc z Pf Fn ok kp:=And.intro (jH hf mh hb) λl J j H w F dC hH G hJ hC R S hY T=>by
 have K:Calls P f F.toArray w λe i=>∃v d H',e=.returned v/\D.is i H'.others d v/\eF i H'/\Ev H w H' i/\((∃g,Fn g/\J g H')\/∃a,j a H'):=by
  refine mf (ro:=none) (n:=9) (callsIn_of_wp hf hb trivial ?_ rfl);have cd:=fo T;obtain⟨ds,A⟩:∃ds,ds=yD l::bc:=⟨_,rfl⟩;have a0:ds.length<=N:=by rw[A];exact hl
  have m:bj ⟨P,none,N,H,w,G⟩ (St.init (yD l::bc) H) {tmps:=F.toArray++Array.replicate (fn.ntmps - F.toArray.size) undef,defers:=[]} w:=by
   rw[<-A] at cd T ⊢;refine⟨by simp;omega,rfl,λt=>?_,hH,dr _ _⟩;simp only[St.init];rcases fv t ds.length with B|wY
   ·obtain⟨v,k,p⟩:=iO T t ds[t] (by simp [B])
    have L:ds.getD t (.val undef)=ds[t]:=by simp [List.getD,B]
    have e2:(F.toArray++Array.replicate (fn.ntmps - F.toArray.size) undef).getD t undef=v:=by
     rw[nK,wF (by simp;omega)];simp [k]
    rw[L,e2];exact p
   ·have L:ds.getD t (.val undef)=.val undef:=by simp [List.getD,wY]
    rw[L];simp only[D.is];rw[nK,wD (by simp;omega),wG];split <;> rfl
  refine wpIn_mono (h l J j H w G (LK ⟨P,none,N,H,w,G⟩ fn λ_ H'=>(∃g,Fn g/\J g H')\/∃a,j a H') dC hJ hC R S hY (λe s he u hr=>sG he u (by rw[xv];exact⟨s.H,aF _,hr⟩)) _ _ m) λe a' i ⟨s',V,q⟩=>?_;have E:s'.df=[]/\Ew ⟨P,none,N,H,w,G⟩ fn s' (λ_ H'=>(∃g,Fn g/\J g H')\/∃a,j a H')->a'.defers=[]/\∃v,(results fn a'.tmps).run P i=.ok v i/\∃v' d H',Ending.returned v=.returned v'/\D.is i H'.others d v'/\eF i H'/\Ev H w H' i/\((∃g,Fn g/\J g H')\/∃a,j a H'):=by
   rintro⟨u,I⟩;obtain⟨v,d,H',k,p,r,M⟩:=I a' i V;have m2:=V.less r;exact⟨V.df.trans u,v,k,v,d,H',rfl,p,m2.H,m2.ev,M⟩
  cases e with
  |normal=>
   obtain⟨k,v,p,r⟩:=E q
   exact⟨k,v,p,r⟩
  |ret=>
   obtain⟨k,v,p,r⟩:=E q
   exact⟨k,v,p,r⟩
  |_=>exact q.elim
 refine K.mono ?_;rintro e i ⟨v,d,H',k,_,r,M,h5⟩;exact⟨v,H',k,r,M,h5⟩
theorem yg {q:Type}{fn:Func}{a:q->List D}{p:List q}{ok:aA->Prop}(N:Nat)(hf:P.funcs[f]?=some fn)(mh:(fn.name== "runtime.NumGoroutine")=false)(hb:fn.body=some c)(z:fn.ntmps=N)(F:fn.results= #[])(hl:bc.length+1<=N)
  (h:∀(l:Nat) (J i:List q->aA->Prop) (H:aA) (g:World) (j:wW g H) (Q:Exit->St->Prop),ok H->J [] H->YC P l H g J i a p->(∀e s,e=.normal\/e=.ret->s.df=[]->(J p s.H\/∃m,i m s.H)->Q e s)->W ⟨P,none,N,H,g,j⟩ c Q (St.init (yD l::bc) H)):BY P f bc a p ok:=v7 N hf mh hb z F hl λl J i H g j Q u v _ _ _ A r=>h l J i H g j Q u v A λe s B k E=>r e s B k (E.imp (λh=>⟨_,rfl,h⟩) id)
theorem aN.post {K i:D->aA->Prop}(h:aN P f ds H K)
  (hk:∀d H',K d H'->∃d0 H0,H0.le H'/\(∀w v,eF w H'->D.is w H'.others d v->D.is w H0.others d0 v)/\i d0 H0):aN P f ds H i:=
 And.intro h.1 λw A z q p=>(h.2 w A z q p).mono λe B ⟨v,d,H',u,r,a,k,g⟩=>by
  obtain⟨d0,H0,j,l,m⟩:=hk d H' g;exact⟨v,d0,H0,u,l B v a r,a.less j,k.less j,m⟩
theorem Jl (hb:H b=none){v:Value}(a:eF w (H.aU b (.row ty o sz els)))(h:D.is w (H.aU b (.row ty o sz els)).others (.os b o sz 0 els.length) v):D.is w H.others (.seq sz els) v:=by
 have:=AL a (aK _ _ _) (by omega) h;rwa[kX,iy hb,dj,dI] at this
theorem aN.XV {K:D->aA->Prop}{sz:Nat}{els:List (List D)}(h:aN P f ds H K)
  (hk:∀d H',K d H'->(d=.val (.slice none 0 0)/\els=[]/\H'=H)\/(∃b o ty,H b=none/\d=.os b o sz 0 els.length/\H'=H.aU b (.row ty o sz els))\/(d=.seq sz els/\H'=H)):
  aN P f ds H λd H'=>d=.seq sz els/\H=H':=
 h.post λd H' g=>by
  rcases hk d H' g with⟨rfl,rfl,rfl⟩|⟨b,o,ty,i,rfl,rfl⟩|⟨rfl,rfl⟩
  ·exact⟨_,_,aF _,λw v _ a=>yo a,rfl,rfl⟩
  ·exact⟨_,H,j5 (aF _) i,λw v j a=>Jl i j a,rfl,rfl⟩
  ·exact⟨_,_,aF _,λw v _ a=>a,rfl,rfl⟩
theorem aA.BI {c:Nat}(h:b≠c):(H.aU b x).aU c y=(H.aU c y).aU b x:=funext λk=>by
 by_cases a:k=b
 ·subst a;rw[aJ h,aK,aK]
 ·by_cases g:k=c
  ·subst g;rw[aK,aJ a,aK]
  ·rw[aJ g,aJ a,aJ a,aJ g]
def VW (sz:Nat) (els:List (List D)) (d:D) (H1 H':aA):Prop:=
 (d=.val (.slice none 0 0)/\els=[]/\H'=H1)\/(d=.Ep/\els=[]/\H'=H1)\/(∃b o ty,H1 b=none/\d=.os b o sz 0 els.length/\H'=H1.aU b (.row ty o sz els))\/(d=.seq sz els/\H'=H1)
def Gl (H0:aA) (e:TypeId) (sz:Nat) (els:List (List D)) (d:D) (H:aA) (ob:Option Nat):Prop:=
 (ob=none/\d=.val (.slice none 0 0)/\els=[])\/∃c o,ob=some c/\d=.os c o sz 0 els.length/\H0 c=none/\H c=some (.row e o sz els)
theorem Gl.nil (H0:aA)(e:TypeId)(sz:Nat)(H:aA):Gl H0 e sz [] (.val (.slice none 0 0)) H none:=.inl ⟨rfl,rfl,rfl⟩
abbrev eB:=@Gl.nil
theorem Gl.cM (h:Gl H0 e sz els d H ob)(hk:∀c,ob=some c->H' c=H c):Gl H0 e sz els d H' ob:=by
 rcases h with h|⟨c,o,a,g,i,j⟩
 ·exact .inl h
 ·exact .inr ⟨c,o,a,g,i,(hk c a).trans j⟩
theorem Gl.fin (h:Gl H0 e sz els d H ob)(g:H0.le H):∃H',H'.le H/\VW sz els d H0 H':=by
 rcases h with⟨_,rfl,rfl⟩|⟨c,o,_,rfl,j,k⟩
 ·exact⟨H0,g,.inl ⟨rfl,rfl,rfl⟩⟩
 ·refine⟨H0.aU c (.row e o sz els),λb x a=>?_,.inr (.inr (.inl ⟨c,o,e,j,rfl,rfl⟩))⟩
  by_cases i:b=c
  ·subst i;rw[aK] at a;rw[k];exact a
  ·rw[aJ i] at a;exact g _ _ a
theorem Gl.cells (h:Gl H0 e sz els d H ob):D.cells d=some [d]:=by rcases h with⟨_,rfl,_⟩|⟨c,o,_,rfl,_⟩ <;> rfl
theorem ax {P:Program}{H0 H:aA}{t xt e:TypeId}{I J:Ti}{sz B:Nat}{L:List Value}{M:TD}{els new:List (List D)}{x y:D}{K:D->aA->Prop}{ob:Option Nat}
  (h1:cG P t=some I) (l:I.d=.slice e) (h2:cG P xt=some J) (m:J.d.gX=true) (h3:cG P e=some ⟨M,sz,B,some L⟩) (A:L.length=sz) (q:B≠0)
  (E:H0.le H) (hs:Gl H0 e sz els x H ob) (hy:gP H sz y (·=new)) (hb:(els.length+new.length) * B<=140737488355328)
  (hk:∀d H' j,Gl H0 e sz (els++new) d H' j->H0.le H'->(∀b z,H b=some z->ob≠some b->H' b=some z/\j≠some b)->K d H'):Gz P H t xt x y K:=by
 have u:∃k,Sl e sz els x k H/\H0.le k/\∀b z,H b=some z->ob≠some b->k b=some z:=by
  rcases hs with⟨rfl,rfl,rfl⟩|⟨c,o,rfl,rfl,r,S⟩
  ·exact⟨H,.inl ⟨rfl,rfl,rfl⟩,E,λb z hb _=>hb⟩
  ·refine⟨H.del c,.inr ⟨c,o,rfl,lf _ _,?_⟩,aA.AW E r,λb z hb a=>by rw[bL (λe=>a (by rw[e]))];exact hb⟩
   rw[aA.Is];funext b;by_cases e:b=c
   ·subst e;rw[aK,S]
   ·rw[aJ e]
 obtain⟨k,W,g,G⟩:=u;refine Sl.Gz h1 l h2 m h3 A q W hy hb λd H' v=>?_;rcases v with⟨rfl,R,rfl⟩|⟨i,V,rfl,h,rfl⟩
 ·exact hk _ _ none (.inl ⟨rfl,rfl,R⟩) g λb z hb a=>⟨G b z hb a,by simp⟩
 ·have N:H0 i=none:=by
   cases T:H0 i with
   |none=>rfl
   |some x=>have:=g _ _ T;rw[h] at this;cases this
  refine hk _ _ (some i) (.inr ⟨i,V,rfl,rfl,N,aK _ _ _⟩) (j5 g h) λb z hb a=>?_
  have p:=G b z hb a
  have F:b≠i:=λe=>by rw[e,h] at p;cases p
  exact⟨by rw[aJ F];exact p,λe=>F (by injection e with e;exact e.symm)⟩
theorem iz {Q:Exit->St->Prop}(M:St->Prop)(h1:M s)(h2:∀s,M s->W cx c Q s):W cx c Q s:=h2 s h1
def St.VG (s:St) (ds:List Deferred):St:={s with df:=ds}
theorem cR (s:St)(ds:List Deferred):(s.VG ds).fr=s.fr:=rfl
theorem cO (s:St)(ds:List Deferred):(s.VG ds).H=s.H:=rfl
theorem cE (s:St)(ds:List Deferred):(s.VG ds).df=ds:=rfl
theorem au (s:St)(ds:List Deferred)(H:aA):(s.VG ds).cJ H=(s.cJ H).VG ds:=rfl
theorem Ls (s:St)(p:Nat)(d:D)(H:aA):ZO s [p] [d] H=((s.cJ H).VG []).put (some p) d:=rfl
theorem T4 (s:St)(p q:Nat)(d e:D)(H:aA):ZO s [p,q] [d,e] H=(((s.cJ H).VG []).put (some p) d).put (some q) e:=rfl
theorem mK (s:St)(H:aA)(ds:List Deferred):({s with H:=H,df:=ds}:St)=(s.cJ H).VG ds:=rfl
theorem Ql {D:Nat}(h:H D=some (.obj xl)):mk [oN D] H:=⟨D,rfl,h,trivial⟩
theorem sP (D:Nat)(H:aA):xL [oN D] H=H.aU D .hid:=rfl
theorem cF (N:St->Prop)(Q:Exit->St->Prop)(s:St):dR N Q .normal s=N s:=rfl
theorem cp (id:Nat)(Q:Exit->St->Prop)(s:St):eT id Q .normal s=Q .normal s:=rfl
theorem fW (N:St->Prop)(Q:Exit->St->Prop)(s:St):dR N Q .ret s=Q .ret s:=rfl
theorem eU (id:Nat)(Q:Exit->St->Prop)(s:St):eT id Q .ret s=Q .ret s:=rfl
theorem fK {a:Type}(I:List a->aA->Prop)(h:Exit->List a->aA->Prop)(g:List a)(Hb:aA)(s:St):IH I h g Hb .normal s=(s.df=[]/\gE Hb s.H/\I g s.H):=rfl
theorem fL {a:Type}(I:List a->aA->Prop)(g:Exit->List a->aA->Prop)(h:List a)(Hb:aA)(s:St):IH I g h Hb .ret s=(s.df=[]/\gE Hb s.H/\g .ret h s.H):=rfl
theorem aA.Wp (h:H.le H')(hb:H b=Option.none):H.le (H'.aU b x):=λc y e=>by rw[aJ (λa=>by rw[a,hb] at e;cases e)];exact h _ _ e
abbrev aQ:=@aA.Wp
theorem aA.TE (h:H.le H')(hb:H' b=Option.none):H b=Option.none:=by
 cases e:H b with
 |none=>rfl
 |some x=>rw[h _ _ e] at hb;cases hb
abbrev iY:=@aA.TE
theorem qD {Hb H1:aA}{p:Nat->Prop}(h:gE Hb H1)(hg:Gl H0 e sz els d H1 ob)(hp:∀b z,H1 b=some z->ob≠some b->H' b=some z/\p b):gE Hb H':=λc o j=>by
 have g:=h c o j;refine(hp c _ g λe=>?_).1;rcases hg with⟨a,_⟩|⟨k,l,a,_,_,i⟩
 ·rw[a] at e;cases e
 ·rw[a] at e;injection e with e;rw[e,g] at i;cases i
theorem Gl.new (h:Gl H0 e sz els d H ob)(hb:H b=none):Gl H0 e sz els d (H.aU b x) ob:=by
 rcases h with h|⟨c,o,g,i,j,a⟩
 ·exact .inl h
 ·exact .inr ⟨c,o,g,i,j,by rw[aJ (λe=>by rw[e,hb] at a;cases a)];exact a⟩
theorem Gl.obj {o:Obj}(h:Gl H0 e sz els d H ob)(hb:H b=some (.obj o)):Gl H0 e sz els d (H.aU b x) ob:=by
 rcases h with h|⟨c,o,g,i,j,a⟩
 ·exact .inl h
 ·exact .inr ⟨c,o,g,i,j,by rw[aJ (λe=>by rw[e,hb] at a;cases a)];exact a⟩
theorem PB (h:H b=some (.row t 0 sz els))(hn:n=els.length):gP H sz (.os b 0 sz 0 n) (·=els):=by
 subst hn;simp only[gP,gy,h,dj,dI];exact⟨trivial,trivial,trivial,by omega,trivial⟩
theorem aA.ZC {c:Nat}(h:H b=some x)(hc:H c=Option.none):b≠c:=λe=>by rw[e,hc] at h;cases h
abbrev lj:=@aA.ZC
theorem oC {l:Nat}{y:Obj}(hx:∀o,x≠ .obj o):gE ((H.aU b x).aU l (.obj y)) (H.aU l (.obj y)):=λc o e=>by
 by_cases a:c=l
 ·subst a;rw[aK] at e ⊢;exact e
 ·rw[aJ a] at e ⊢
  by_cases g:c=b
  ·subst g;rw[aK] at e;injection e with e;exact absurd e (hx o)
  ·rw[aJ g] at e;exact e
theorem kr {b:Frame}{a:Act}{k:List Item}{cs:List Frame}:step P (lone (b.atR a (.code (.scope c)::k)) cs w)=.next (lone (b.atR a (.code c:: .inScope c::k)) cs w):=
 step_lone_go (by simp [stepG,stepG.exec,Frame.atR])
theorem Bg {b:Frame}{a:Act}{k:List Item}{cs:List Frame}:step P (lone (b.atR a (.inScope c::k)) cs w)=.next (lone (b.atR a k) cs w):=
 step_lone_go (by simp [stepG,stepG.exec,Frame.atR])
def yp (Q:Exit->St->Prop):Exit->St->Prop
 | .goto _,_=>False
 |e,s=>Q e s
theorem vA {Q:Exit->St->Prop}(h:W cx c (yp Q) s):W cx (.scope c) Q s:=λa w m=>by
 intro b k cs F A D;have q:(lone (b.atR a (.code (.scope c)::k)) cs w).fenced cx.P (FR cx.ro):=fenced_calm A D rfl;obtain⟨e,i,j,⟨v,u,r⟩,g⟩:=h a w m b (.inScope c::k) cs F A D;cases e with
 |normal=>exact⟨.normal,i,j,⟨v,u,r⟩,.head q kr (StepsIn.trans g (.one (fenced_calm A D rfl) Bg))⟩
 |exit p=>
  have G:exitTo p (.inScope c::k)=exitTo p k:=by simp [exitTo]
  exact⟨.exit p,i,j,⟨v,u,r⟩,λK B=>.head q kr (g.1 K (by rw[G];exact B)),
   λE B=>let ⟨z,I,J⟩:=g.2 E (by rw[G];exact B);⟨z,I,.head q kr J⟩⟩
 |goto l=>exact r.elim
 |ret=>exact⟨_,i,j,⟨v,u,r⟩,.of_steps (.one q kr) g⟩
 |panic L=>exact⟨_,i,j,⟨v,u,r⟩,.of_steps (.one q kr) g⟩
 |outgrown=>exact⟨_,i,j,⟨v,u,r⟩,.of_steps (.one q kr) g⟩
theorem fQ (Q:Exit->St->Prop)(s:St):yp Q .normal s=Q .normal s:=rfl
theorem fR (Q:Exit->St->Prop)(s:St):yp Q .ret s=Q .ret s:=rfl
theorem fP (Q:Exit->St->Prop)(i:Nat)(s:St):yp Q (.exit i) s=Q (.exit i) s:=rfl
theorem I1 (s:St):s.cJ s.H=s:=rfl
def YT (P:Program) (t:TypeId) (len:Nat) (ds:List (Nat×D)) (K:D->Prop):Prop:=
 match cG P t with
 |some ⟨.slice e,_,_,_⟩=>(match cG P e with
  |some ⟨_,sz,_,some a⟩=>a.length=sz/\ds.length=len/\len * sz<=16777216/\(match jd sz ds 0 with
   |some els=>els.length=len/\K (.seq sz els)
   |none=>False)
  |_=>False)
 |_=>False
theorem Te (F:eF w H){len:Nat}{ds:List (Nat×D)}{vs:Array (Nat×Value)}{K:D->Prop}(h:YT P t len ds K)(hx:iu w H.others ds vs.toList):
  ∃r g a H',(Instr.buildSlice t len vs).run P w=.ok r a/\D.is a H'.others g r/\eF a H'/\Ev H w H' a/\(K g/\H'=H):=by
 unfold YT at h;split at h
 ·rename_i e _ _ _ G
  split at h
  ·rename_i dE sz m N E
   obtain⟨z,A,B,j⟩:=h;split at j
   ·rename_i els M
    obtain⟨L,J⟩:=j;obtain⟨r,g,a,H',p,k,l,q,b,i,u,v⟩:=Jm (K:=λd H'=>∃b,H b=none/\d=.os b 0 sz 0 len/\H'=H.aU b (.row e 0 sz els)) F (by
     unfold BR;rw[G];simp only;rw[E];simp only;refine⟨z,A,B,?_⟩;rw[M];exact λb I=>⟨b,I,rfl,rfl⟩) hx
    subst u v;rw[<-L] at k;exact⟨r,.seq sz els,a,H,p,Jl i l k,l.less (j5 (aF _) i),q.less (j5 (aF _) i),J,rfl⟩
   ·exact j.elim
  ·exact h.elim
 ·exact h.elim
def pG (cx:Cx) (o:Oper) (s:St) (K:St->Prop):Prop:=
 match o.op with
 | .buildSlice t (n+1) a=>YT cx.P t (n+1) (s.parts a) λd=>K (s.put o.dst d)
 |_=>cU cx o s K
theorem pH {o:Oper}{K:St->Prop}(hd:qP cx.n o.dst)(h:pG cx o s K):WO cx o K s:=by
 unfold pG at h;split at h
 ·rename_i t n q e
  refine mJ (by simp [e]) hd λa w m=>?_;obtain⟨r,d,u,H',g,i,j,k,l,p⟩:=Te m.H h (m.Ag q);subst p;exact⟨r,u,d,s.H,by simp only[execOp,e,Sem.run_bind,g,Result.andThen,Sem.run_pure],i,j,k,l⟩
 ·exact kQ hd h
def nJ (cx:Cx) (aY:Array Oper) (Q:Exit->St->Prop):List Oper->St->Prop
 |[],s=>Q .normal s
 |o::a,s=>(match o.guard with
  |none=>pG cx o s λh=>if fh o.op then WL cx aY a Q h else nJ cx aY Q a h
  |some (j,g)=>(match j9 aY j with
   |some t=>(match s.fr t with
    | .val (.bool b)=>qj (b==g) (pG cx o (s.put (some t) (.val (.bool g))) λh=>if fh o.op then WL cx aY a Q h else nJ cx aY Q a h) (nJ cx aY Q a ((s.put (some t) (.val (.bool !g))).put o.dst (.val undef)))
    | .val (.tuple ⟨[]⟩)=>nJ cx aY Q a (s.put o.dst (.val undef))
    |_=>False)
   |none=>False))
theorem qp {Q:Exit->St->Prop}(B:dQ cx.n aY=true):∀{l:List Oper}{s:St},dQ cx.n l=true->nJ cx aY.toArray Q l s->WL cx aY.toArray l Q s
 |[],s,_,h=>Cw h
 |o::a,s,hl,h=>by
  simp only[dQ,jQ,cX] at hl;have hd:qP cx.n o.dst:=by
   have:=hl.1;unfold qP;cases D:o.dst with
   |none=>trivial
   |some t=>rw[D] at this;simpa using this
  have A:∀g,nJ cx aY.toArray Q a g->WL cx aY.toArray a Q g:=λg m=>qp B hl.2 m;have u:∀g,(if fh o.op then WL cx aY.toArray a Q g else nJ cx aY.toArray Q a g)->WL cx aY.toArray a Q g:=λg m=>by
   split at m
   ·exact m
   ·exact A g m
  simp only[nJ] at h;split at h
  ·rename_i v
   exact lA v (sX (pH hd h) u)
  ·rename_i j k v
   split at h
   ·rename_i t i
    have r:t<cx.n:=by
     unfold j9 at i;cases z:aY.toArray[j]? with
     |none=>rw[z] at i;cases i
     |some E=>
      rw[z] at i
      have:=(dK.1 B) E (by have:=tJ z;simpa using this)
      simp at i
      rw[i] at this
      simpa using this
    split at h
    ·rename_i b q
     exact pj v i r (fI hd) (.inl ⟨b,q,λe=>by
       have p:=E0 h (by rw[e];cases k <;> rfl);rw[EV (by rw[q,e])] at p;exact sX (pH hd p) u,λe=>by
       have p:=EZ h (by rw[e];cases k <;> rfl);rw[EV (by rw[q,e])] at p;exact A _ p⟩)
    ·rename_i q
     exact pj v i r (fI hd) (.inr ⟨q,A _ h⟩)
    ·exact h.elim
   ·exact h.elim
theorem V4 {id:Nat}{Q:Exit->St->Prop}(a:dQ cx.n aY=true)(h:nJ cx aY.toArray Q aY s):W cx (.region id aY.toArray false) Q s:=
 uz (qp a a h)
theorem VZ {l:List Oper}{Q:Exit->St->Prop}(a:dQ cx.n aY=true)(hl:dQ cx.n l=true)(h:nJ cx aY.toArray Q l s):WL cx aY.toArray l Q s:=qp a hl h
def LtN (i n:Nat):Prop:=i<n
theorem aO {cx:Cx}{c:Code}{Q:Exit->St->Prop}(n:Nat)(I:Nat->St->Prop)(h0:I 0 s)
  (round:∀i s,i<=n->I i s->W cx c (dR (λg=>LtN i n/\I (i+1) g) Q) s):W cx (.loop c) Q s:=by
 refine Mi (λs=>∃i,i<=n/\I i s) (λs=>Classical.epsilon λk=>∃i,i<=n/\I i s/\k=n - i/\∀j,j<=n->I j s->n - i<=n - j) s.H (aF _) ⟨0,jY _,h0⟩ ?_;rintro s1 B;have v:∀s:St,(∃i,i<=n/\I i s)->∃i,i<=n/\I i s/\∀j,j<=n->I j s->n - i<=n - j:=λs ⟨i,J,h⟩=>by
  obtain⟨k,⟨D,l,m,rfl⟩,r⟩:=Od (λk=>∃i,i<=n/\I i s/\n - i=k) ⟨_,i,J,h,rfl⟩;exact⟨D,l,m,λj K u=>r _ ⟨j,K,u,rfl⟩⟩
 have G:∀s:St,(∃i,i<=n/\I i s)->∃i,i<=n/\I i s/\(Classical.epsilon λk=>∃i,i<=n/\I i s/\k=n - i/\∀j,j<=n->I j s->n - i<=n - j)=n - i/\∀j,j<=n->I j s->n - i<=n - j:=λs h=>by
  obtain⟨i,l,m,r⟩:=v s h;obtain⟨D,E,F,z,A⟩:=Em (p:=λk=>∃i,i<=n/\I i s/\k=n - i/\∀j,j<=n->I j s->n - i<=n - j) ⟨_,i,l,m,rfl,r⟩;exact⟨D,E,F,z,A⟩
 obtain⟨i,l,m,r,L⟩:=G s1 B;refine nA (round i s1 l m) λe g q=>?_;cases e with
 |normal=>
  obtain⟨a,u⟩:=q
  replace a:i<n:=a
  refine⟨g.H,aF _,⟨i+1,a,u⟩,?_⟩
  rw[r]
  obtain⟨j,E,F,z,A⟩:=G g ⟨i+1,a,u⟩
  show(Classical.epsilon _)<_
  have:=A (i+1) a u
  rw[show g.cJ g.H=g from rfl,z]
  omega
 |_=>exact q
def uq (H H':aA) (d d0:D):Prop:=∀w v,eF w H'->D.is w H'.others d v->D.is w H.others d0 v
theorem aN.cm {K:D->Prop}(h:aN P f ds H λd H'=>H.le H'/\∃d0,uq H H' d d0/\K d0):aN P f ds H λd H'=>K d/\H=H':=
 h.post λd H' ⟨a,d0,g,i⟩=>⟨d0,H,a,g,i,rfl⟩
abbrev aq:=@aN.cm
theorem aL (h:H.le H'):uq H H' d d:=λw v _ a=>j6 (kK h w) d a
theorem nY {k:Nat}(g:H.le H')(hb:H' b=some (.row ty o sz els))(h0:H b=none)(hn:k+n<=els.length):uq H H' (.os b o sz k n) (.seq sz ((els.drop k).take n)):=λw v i j=>by
 have h:=AL i hb hn j;refine j6 (kK (H':=H) (λc x a=>?_) w) _ h;rw[bL (λe=>by rw[e,h0] at a;cases a)];exact g _ _ a
theorem HQ {i k:Nat}{el:List D}(g:H.le H')(hb:H' b=some (.row ty o sz els))(h0:H b=none)(hi:els[i]?=some el):uq H H' (.ep b o sz i k) (.rp (el.drop k)):=λw v j l=>by
 have h:=Dg j hb hi l;refine j6 (kK (H':=H) (λc x a=>?_) w) _ h;rw[bL (λe=>by rw[e,h0] at a;cases a)];exact g _ _ a
theorem iq:uq H H' (.val (.slice none 0 0)) (.seq sz []):=λw v _ a=>yo a
theorem da (a:H.le H')(hg:Gl H e sz els d H' ob):uq H H' d (.seq sz els):=by
 rcases hg with⟨_,rfl,rfl⟩|⟨c,o,_,rfl,g,h⟩
 ·exact iq
 ·have:=nY (k:=0) (n:=els.length) a h g (by omega)
  rwa[dj,dI] at this
def mz (H H':aA):List D->List D->Prop
 |[],[]=>True
 |d::ds,e::es=>uq H H' d e/\mz H H' ds es
 |_,_=>False
theorem mz.all (a:eF w H'):∀{ds es:List D}{vs:List Value},mz H H' ds es->aT w H'.others ds vs->aT w H.others es vs
 |[],[],vs,_,h=>by simp only[aT] at h ⊢;exact h
 |d::ds,e::es,vs,hv,h=>by
  simp only[aT] at h ⊢;obtain⟨u,us,rfl,h1,h2⟩:=h;exact⟨u,us,rfl,hv.1 w u a h1,mz.all a hv.2 h2⟩
 |[],_::_,_,hv,_=>hv.elim
 |_::_,[],_,hv,_=>hv.elim
theorem mz.cells (a:eF w H'):∀{ds es:List D}{vs:List Value},mz H H' ds es->aW w H'.others ds vs->aW w H.others es vs
 |[],[],vs,_,h=>by simp only[aW] at h ⊢;exact h
 |d::ds,e::es,vs,hv,h=>by
  simp only[aW] at h ⊢;obtain⟨u,us,rfl,h0,h1,h2⟩:=h;exact⟨u,us,rfl,h0,hv.1 w u a h1,mz.cells a hv.2 h2⟩
 |[],_::_,_,hv,_=>hv.elim
 |_::_,[],_,hv,_=>hv.elim
theorem lI (h:mz H H' ds es):uq H H' (.eO ds) (.eO es):=λw v i a=>by
 simp only[D.is] at a ⊢;obtain⟨j,rfl,g⟩:=a;exact⟨j,rfl,h.all i g⟩
theorem yd (h:mz H H' ds es):uq H H' (.agg ds) (.agg es):=λw v i a=>by
 simp only[D.is] at a ⊢;obtain⟨j,rfl,g⟩:=a;exact⟨j,rfl,h.cells i g⟩
theorem HP {a b:D}(h:uq H H' a a')(h2:uq H H' b b'):mz H H' [a,b] [a',b']:=⟨h,h2,trivial⟩
theorem Yb {a b c g:D}(h:uq H H' a a')(h2:uq H H' b b')(h3:uq H H' c g):mz H H' [a,b,c] [a',b',g]:=⟨h,h2,h3,trivial⟩
theorem V1 {Q:Exit->St->Prop}(t:Nat)(H':aA)(d0:D)(j:H'.le s.H)(hf:uq H' s.H (s.fr t) d0)(h:W cx c Q ((s.cJ H').put (some t) d0)):W cx c Q s:=λa w m=>by
 refine h a w ?_;have g:=m.less j;refine⟨g.n,g.df,λx=>?_,g.H,g.ev⟩;rw[sR];show D.is w H'.others _ _;by_cases i:x=t
 ·subst i;rw[aD rfl];exact hf w _ m.H (m.fr x)
 ·rw[aC i];exact g.fr x
def U2 (d a:D):Prop:=∀w S v,D.is w S d v->D.is w S a v
theorem fG (d:D):U2 d d:=λ_ _ _ h=>h
theorem fO:U2 (.val (.slice none 0 0)) (.seq sz []):=λ_ _ _ h=>yo h
def qQ:List D->List D->Prop
 |[],[]=>True
 |d::ds,e::es=>U2 d e/\qQ ds es
 |_,_=>False
def Eu:List (List D)->List (List D)->Prop
 |[],[]=>True
 |d::ds,e::es=>qQ d e/\Eu ds es
 |_,_=>False
theorem qQ.len:∀{ds es:List D},qQ ds es->ds.length=es.length
 |[],[],_=>rfl
 |d::ds,e::es,h=>by rw[bx,bx,qQ.len h.2]
 |[],_::_,h=>h.elim
 |_::_,[],h=>h.elim
theorem Eu.len:∀{ds es:List (List D)},Eu ds es->ds.length=es.length
 |[],[],_=>rfl
 |d::ds,e::es,h=>by rw[bx,bx,Eu.len h.2]
 |[],_::_,h=>h.elim
 |_::_,[],h=>h.elim
theorem qQ.at {S:Nat->Prop}:∀{ds es:List D}{o:Nat},qQ ds es->bU w S b o ds->bU w S b o es
 |[],[],_,_,h=>by simp only[bU] at h ⊢
 |d::ds,e::es,o,hv,h=>by
  simp only[bU] at h ⊢;obtain⟨⟨u,h1,h2,h3⟩,h4⟩:=h;exact⟨⟨u,h1,h2,hv.1 w S u h3⟩,qQ.at hv.2 h4⟩
 |[],_::_,_,hv,_=>hv.elim
 |_::_,[],_,hv,_=>hv.elim
theorem Eu.at {S:Nat->Prop}:∀{ds es:List (List D)}{o:Nat},Eu ds es->cK w S b sz o ds->cK w S b sz o es
 |[],[],_,_,h=>by simp only[cK] at h ⊢
 |d::ds,e::es,o,hv,h=>by
  simp only[cK] at h ⊢;exact⟨hv.1.len▸h.1,hv.1.at h.2.1,Eu.at hv.2 h.2.2⟩
 |[],_::_,_,hv,_=>hv.elim
 |_::_,[],_,hv,_=>hv.elim
theorem SI {els':List (List D)}(h:Eu els els'):U2 (.seq sz els) (.seq sz els'):=λw S v g=>by
 simp only[D.is] at g ⊢;obtain⟨A,c,rfl,i,a⟩:=g;refine⟨A,c,by rw[h.len],by rw[<-h.len];exact i,?_⟩;rcases a with a|⟨b,o,j,k,l,m⟩
 ·left
  have:=h.len;rw[a] at this;exact cy this.symm
 ·exact .inr ⟨b,o,j,k,l,h.at m⟩
theorem qQ.aBM {S:Nat->Prop}:∀{ds es:List D}{vs:List Value},qQ ds es->aT w S ds vs->aT w S es vs
 |[],[],vs,_,h=>by simp only[aT] at h ⊢;exact h
 |d::ds,e::es,vs,hv,h=>by
  simp only[aT] at h ⊢;obtain⟨u,us,rfl,h1,h2⟩:=h;exact⟨u,us,rfl,hv.1 w S u h1,qQ.aBM hv.2 h2⟩
 |[],_::_,_,hv,_=>hv.elim
 |_::_,[],_,hv,_=>hv.elim
theorem CS:∀l:List D,qQ l l
 |[]=>trivial
 |_::l=>⟨fG _,CS l⟩
theorem aN.imp {a:List D}{K:D->aA->Prop}(h:aN P f a H K)(hi:qQ ds a):aN P f ds H K:=
 h.aBP (aF _) λ_ _ _ g=>hi.aBM g
end Go.Proofs.YtffgfafbffdgaaaGreatDoor

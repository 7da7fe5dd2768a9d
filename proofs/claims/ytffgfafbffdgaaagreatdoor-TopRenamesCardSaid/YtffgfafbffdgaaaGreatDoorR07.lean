/- Lemmas and contracts of functions, several texts in one. -/
import Derived.Test.YtffgfafbffdgaaaGreatDoorR06
set_option maxRecDepth 100000
set_option maxHeartbeats 4000000
set_option linter.all false
namespace Go.Proofs.YtffgfafbffdgaaaGreatDoor
open Go.RowKit
variable {H H' H'' H0:aA}{b o n sz:Nat}{x y:cY}{w:World}{cx:Cx}{P:Program}{f:FuncId}{c:Code}{bc ds es:List D}{ty e t:TypeId}{els:List (List D)}{d a' b':D}{ob:Option Nat}{s:St}{aY:List Oper}
def gE (H H':aA):Prop:=∀b o,H b=some (.obj o)->H' b=some (.obj o)
def Am (H H':aA):Prop:=∀b x,H b=some x->(∀o,x≠ .obj o)->H' b=some x
theorem jU (H:aA):gE H H:=λ_ _ h=>h
theorem gE.trans (h:gE H H')(h':gE H' H''):gE H H'':=λb o e=>h' b o (h b o e)
theorem gE.new (h:gE H H')(hb:H' b=none):gE H (H'.aU b x):=λc o e=>by
 have:=h c o e;rw[aJ (λa=>by rw[a,hb] at this;cases this)];exact this
theorem gE.row (h:gE H H')(hb:H' b=some y)(hy:∀o,y≠ .obj o):gE H (H'.aU b x):=λc o e=>by
 have a:=h c o e;rw[aJ (λg=>by rw[g,hb] at a;injection a with a;exact hy o a)];exact a
theorem gE.del (h:gE H H')(hb:H' b=some y)(hy:∀o,y≠ .obj o):gE H (H'.del b):=λc o e=>by
 have a:=h c o e;rw[bL (λg=>by rw[g,hb] at a;injection a with a;exact hy o a)];exact a
theorem T2 (hb:H b=none):Am H (H.aU b x):=λc y e _=>by rw[aJ (λa=>by rw[a,hb] at e;cases e)];exact e
theorem kA {o:Obj}(hb:H b=some (.obj o)):Am H (H.aU b x):=λc y e g=>by rw[aJ (λa=>by rw[a,hb] at e;injection e with e;exact g o e.symm)];exact e
theorem Am.trans (h:Am H H')(h':Am H' H''):Am H H'':=λb x e a=>h' b x (h b x e a) a
theorem lQ (hz:∀z,H b=some z->∃o,z=.obj o):Am H (H.aU b x):=by
 cases e:H b with
 |none=>exact T2 e
 |some z=>obtain⟨o,rfl⟩:=hz z e;exact kA e
def ZO (s:St) (ps:List Nat) (ds:List D) (H:aA):St:=⟨(ps.zip ds).foldl (λf p=>λx=>if x=p.1 then p.2 else f x) s.fr,H,[]⟩
theorem AJ {S:Nat->Prop}:∀(ps:List Nat) (ds:List D) (vs:List Value) (f:Nat->D) (t:Array Value),aT w S ds vs->(∀p∈ps,p<n)->t.size=n->(∀x,D.is w S (f x) (t.getD x undef))->
  (((ps.zip vs).foldl (λt p=>t.setIfInBounds p.1 p.2) t).size=n/\∀x,D.is w S ((ps.zip ds).foldl (λf p=>λx=>if x=p.1 then p.2 else f x) f x) (((ps.zip vs).foldl (λt p=>t.setIfInBounds p.1 p.2) t).getD x undef))
 |[],ds,vs,f,t,_,_,hn,hf=>by
  simp only[List.zip_nil_left,List.foldl_nil];exact⟨hn,hf⟩
 |p::ps,[],vs,f,t,hv,_,hn,hf=>by
  simp only[aT] at hv;subst hv;simp only[List.zip_nil_right,List.foldl_nil];exact⟨hn,hf⟩
 |p::ps,d::ds,vs,f,t,hv,hp,hn,hf=>by
  simp only[aT] at hv;obtain⟨u,us,rfl,h1,h2⟩:=hv;simp only[List.zip_cons_cons,rH];refine AJ ps ds us _ _ h2 (λq h=>hp q (dH _ h)) (by simpa using hn) λx=>?_;have g:p<t.size:=by rw[hn];exact hp p jm
  rw[qB _ _ _ _ _ g];by_cases a:x=p
  ·rw[aD a,aD a];exact h1
  ·rw[aC a,aC a];exact hf x
def mI (B:Nat->Prop) (H H':aA):Prop:=∀b o,B b->H b=some (.obj o)->H' b=some (.obj o)
def T3 (B:Nat->Prop) {h:Type}(I:List h->aA->Prop) (g:Exit->List h->aA->Prop) (a:List h) (Hb:aA):Exit->St->Prop
 | .normal,s=>s.df=[]/\mI B Hb s.H/\I a s.H
 | .ret,s=>s.df=[]/\mI B Hb s.H/\g .ret a s.H
 | .exit id,s=>s.df=[]/\mI B Hb s.H/\g (.exit id) a s.H
 | .goto t,s=>s.df=[]/\mI B Hb s.H/\g (.goto t) a s.H
 |_,_=>False
def IH {h:Type}(I:List h->aA->Prop) (g:Exit->List h->aA->Prop) (a:List h) (Hb:aA):Exit->St->Prop
 | .normal,s=>s.df=[]/\gE Hb s.H/\I a s.H
 | .ret,s=>s.df=[]/\gE Hb s.H/\g .ret a s.H
 | .exit id,s=>s.df=[]/\gE Hb s.H/\g (.exit id) a s.H
 | .goto t,s=>s.df=[]/\gE Hb s.H/\g (.goto t) a s.H
 |_,_=>False
def Dp:Exit->Option Code
 | .ret=>some .ret
 | .exit id=>some (.exit id)
 | .goto t=>some (.goto t)
 |_=>none
def oN (D:Nat):Deferred:={target:=.collected D,args:= #[]}
theorem gA (h:H.le H')(hb:H' b=none):H b=none:=by
 cases e:H b with
 |none=>rfl
 |some x=>rw[h _ _ e] at hb;cases hb
theorem lC {α:Type}{s:St}{g:Operand}{ps:List Nat}{assign body:Code}{Q:Exit -> St -> Prop}(cc : cx.ro = none){gf:FuncId}{bc:List D}{a0:α -> List D}{Pf Fn:List α -> Prop}{ok kp:aA -> Prop}
    (it : ph cx.P gf bc a0 Pf Fn ok kp) (hg : s.ev g = .fn gf bc) (dC : ∀ H', s.H.le H' -> ok H') (c9 : ∀ p ∈ ps, p < cx.n) (br : ∀ x, (a0 x).length = ps.length)
    (B : Nat -> Prop) (hB : ∀ b, s.H b = none -> B b) (I : List α -> aA -> Prop) (c8 : ∀ j i, I j i -> mI B s.H i -> kp i) (Ix : Exit -> List α -> aA -> Prop) (hI : yN s.H I) (ar : ∀ e, yN s.H (Ix e)) (h0 : I [] s.H)
    (bk : ∀ (l : Nat) (w1 : World) (j : List α) (x : α) (i : aA) (o : Obj) (g1 : wW w1 i), B l -> Pf (j ++ [x]) -> I j i -> mI B s.H i -> i l = some (.obj o) -> W ⟨cx.P, some l, cx.n, i, w1, g1⟩ assign (dR (λs1 => s1.df = [] /\ mI B i s1.H /\ ∀ w2 y (g2 : wW w2 (s1.H.aU l (.obj y))), Ev cx.H0 cx.w0 (s1.H.aU l (.obj y)) w2 -> W ⟨cx.P, some l, cx.n, s1.H.aU l (.obj y), w2, g2⟩ body (T3 B I Ix (j ++ [x]) (s1.H.aU l (.obj y))) (s1.cJ (s1.H.aU l (.obj y)))) (λ_ _ => False)) (ZO s ps (a0 x) i))
    (bl : ∀ (ys : List α) (i : aA) (D : Nat), Fn ys -> I ys i -> mI B s.H i -> i D = some (.obj xl) -> s.H D = none -> Q .normal { s with H := i, df := oN D :: s.df })
    (bo : ∀ (e : Exit) (c : Code) (j : List α) (i : aA) (D : Nat), Dp e = some c -> Ix e j i -> mI B s.H i -> i D = some (.obj xl) -> s.H D = none -> Q e { s with H := i, df := oN D :: s.df }) :
    W cx (.rangeFunc g ⟨ps⟩ assign body) Q s := λa w m => by
  rw [cc];refine wpIn_rangeFunc ?_;intro fn b2;have a8 := m.nz g;rw [hg] at a8;simp only [D.is] at a8;obtain ⟨lb, a8, bi⟩ := a8;obtain ⟨rec, M⟩ : ∃ rec : LoopState -> Option Code -> Loop, rec = λst pe => { state := st, pending := pe, fn, tmps := a.tmps, params := ⟨ps⟩, assign, body, defers := w.heap.size } := ⟨_, rfl⟩;obtain ⟨W1, aw⟩ : ∃ W1, (w.alloc (.deferred (some []))).alloc (.loop (rec .ready none)) = W1 := ⟨_, rfl⟩;obtain ⟨l, hl⟩ : ∃ l, l = w.heap.size + 1 := ⟨_, rfl⟩;have b9 : (w.alloc (.deferred (some []))).heap.size = l := by rw [hl]; exact World.size_alloc _ _
  have N := ff m.H;have A : s.H l = none := by
    cases e : s.H l with
    | none => rfl
    | some x => exact absurd (m.H.lt e) (by omega)
  have b5 : eF (w.alloc (.deferred (some []))) (s.H.aU w.heap.size (.obj xl)) := m.H.alloc (heap_alloc_new w _);have bq := gN (.deferred (some [])) (.obj xl) m.H;have b6 : eF W1 ((s.H.aU w.heap.size (.obj xl)).aU l (.obj (.loop (rec .ready none)))) := by
    rw [<- aw, <- b9];exact b5.alloc (heap_alloc_new (w.alloc (.deferred (some []))) _)
  have b4 : Ev (s.H.aU w.heap.size (.obj xl)) (w.alloc (.deferred (some []))) ((s.H.aU w.heap.size (.obj xl)).aU l (.obj (.loop (rec .ready none)))) W1 := by
    rw [<- aw, <- b9];exact gN _ _ b5
  obtain ⟨T, a5⟩ : ∃ H, H = (s.H.aU w.heap.size (.obj xl)).aU l (.obj (.loop (rec .ready none))) := ⟨_, rfl⟩;rw [<- a5] at b6 b4;have V : Ev s.H w T W1 := bq.trans b4;have Z : w.heap.size ≠ l := by omega
  have L : s.H.le T := by
    rw [a5];exact j5 (j5 (aF _) N) (by rw [aJ (Ne.symm Z)]; exact A)
  have am : T w.heap.size = some (.obj xl) := by rw [a5, aJ Z, aK]
  have ac : T l = some (.obj (.loop (rec .ready none))) := by rw [a5, aK]
  refine ⟨l, [oN w.heap.size], W1, { target := .fn (.func gf) ⟨lb⟩, args := #[.func (.yield l) #[] #[]] }, W1, gf, #[.func (.yield l) #[] #[]] ++ ⟨lb⟩, W1, ?_, ?_, ?_, ?_, λh => (by cases h), ?_⟩
  · rw [<- aw, M, hl]; exact run_enterLoop_outer _ _ _ _ _
  · simp only [resolve, a8]
    simp [go_sem]
  · intro f' ck; trivial
  · have eg : ∀ args w, (callFunc gf args).run cx.P w = .ok (.enter gf args) w := it.1
    simp [invoke, go_sem, eg]
  · have be := it.2 l (λj i => I j i /\ mI B s.H i /\ i w.heap.size = some (.obj xl) /\ i l = some (.obj (.loop (rec .ready none))))
      (λj i => ∃ e c, Dp e = some c /\ Ix e j i /\ mI B s.H i /\ i w.heap.size = some (.obj xl) /\ i l = some (.obj (.loop (rec .done (some c))))) T W1 (.func (.yield l) #[] #[] :: lb) (dC _ L) b6 (m.Xo.ev V)
      ⟨by rw [a5]; exact hI _ _ _ _ A (λz h => by rw [aJ (Ne.symm Z), A] at h; cases h) (hI _ _ _ _ N (λz h => by rw [N] at h; cases h) h0), λb o _ h => L _ _ h, am, ac⟩
      (λj H b o E hz ⟨h1, h2, h3, h4⟩ => ⟨hI _ _ _ _ (gA L E) hz h1, λc o' b1 h => by
        rw [aJ (λhc => by rw [hc] at h; have := L _ _ h; rw [E] at this; cases this)]; exact h2 c o' b1 h, by
        rw [aJ (λhc => by rw [<- hc, am] at E; cases E)]; exact h3, by
        rw [aJ (λhc => by rw [<- hc, ac] at E; cases E)]; exact h4⟩)
      (λj H b o E hz ⟨e, c0, hj, h1, h2, h3, h4⟩ => ⟨e, c0, hj, ar _ _ _ _ _ (gA L E) hz h1, λc o' b1 h => by
        rw [aJ (λhc => by rw [hc] at h; have := L _ _ h; rw [E] at this; cases this)]; exact h2 c o' b1 h, by
        rw [aJ (λhc => by rw [<- hc, am] at E; cases E)]; exact h3, by
        rw [aJ (λhc => by rw [<- hc, ac] at E; cases E)]; exact h4⟩) (λj i h => c8 j i h.1 h.2.1) ?_ (by
        simp only [aT];exact ⟨_, _, rfl, by simp only [yD, D.is], fF V.kept _ bi⟩)
    · have e1 : #[Value.func (.yield l) #[] #[]] ++ (⟨lb⟩ : Array Value) = (Value.func (.yield l) #[] #[] :: lb).toArray := by simp
      rw [e1]
      refine (uM (ro := none) (n := 8) be).mono ?_
      rintro e w3 ⟨v, H3, rfl, b7, bt, hj⟩
      have fin : ∀ (st : LoopState) (pe : Option Code), st ≠ .busy -> H3 l = some (.obj (.loop (rec st pe))) -> mI B s.H H3 -> H3 w.heap.size = some (.obj xl) ->
          ∃ w4, (Instr.endLoop l).run cx.P w3 = .ok pe w4 /\ ∃ o4, bj cx { s with H := H3.aU l (.obj o4), df := oN w.heap.size :: s.df } { a with defers := [oN w.heap.size] ++ a.defers } w4 /\ mI B s.H (H3.aU l (.obj o4)) /\ (H3.aU l (.obj o4)) w.heap.size = some (.obj xl) := by
        intro st pe ce J K a6;have a3 : w3.heap[l]? = some (.loop (rec st pe)) := b7 l _ J;have a4 := run_endLoop (P := cx.P) a3 (by rw [M]; exact ce);obtain ⟨c4, c1⟩ := AF (o' := .loop { rec st pe with state := .exhausted }) (y := .obj (.loop { rec st pe with state := .exhausted })) b7 J a3 (λ_ _ _ h => by cases h) (sq a3);refine ⟨w3.putObj l (.loop { rec st pe with state := .exhausted }), by rw [M] at a4 ⊢; exact a4, .loop { rec st pe with state := .exhausted }, ?_, λb o G h => ?_, by rw [aJ Z]; exact a6⟩
        · have m4 := m.go ((V.trans bt).trans c4) c1
          exact ⟨m4.n, by simp only [List.singleton_append, m.df], m4.fr, m4.H, m4.ev⟩
        · have := K b o G h
          rw [aJ (λE => by rw [E, A] at h; cases h)]
          exact this
      rcases hj with ⟨ys, b2, hi, K, a6, J⟩ | ⟨j, e, c, Uk, hi, K, a6, J⟩
      · obtain ⟨w4, h4, o4, m4, ag, ap⟩ := fin _ _ (by simp) J K a6
        exact ⟨none, w4, h4, _, m4, bl _ _ _ b2 (hI _ _ _ _ A (λz h => ⟨_, by rw [J] at h; injection h with h; exact h.symm⟩) hi) ag ap N⟩
      · obtain ⟨w4, h4, o4, m4, ag, ap⟩ := fin _ _ (by simp) J K a6
        have hq := bo e c j _ _ Uk (ar _ _ _ _ _ A (λz h => ⟨_, by rw [J] at h; injection h with h; exact h.symm⟩) hi) ag ap N
        refine ⟨some c, w4, h4, ?_⟩
        cases e <;> simp only [Dp] at Uk <;> first
          | (cases Uk; done)
          | (injection Uk with Uk
             subst Uk
             first
               | exact wpIn_exit ⟨_, m4, hq⟩
               | exact wpIn_goto ⟨_, m4, hq⟩
               | exact wpIn_ret ⟨_, m4, hq⟩)
    ·
      rintro j x i w5 vs bf ⟨hi, K, c6, b3⟩ b8 al js
      have a3 : w5.heap[l]? = some (.loop (rec .ready none)) := b8 l _ b3
      have cd := fo js
      have hy := run_yield (P := cx.P) (args := vs.toArray) a3 (by rw [M]; simp [cd, br])
      rw [M] at hy
      refine ⟨fn, _, assign, body, hy, roundIn_of_wpIn b2 ?_⟩
      have xu : ∀ t, D.is w5 i.others (s.fr t) (a.tmps.getD t undef) := λt => j6 (V.trans al).kept _ (m.fr t)
      obtain ⟨g1, g2⟩ := AJ ps (a0 x) vs s.fr a.tmps js c9 m.n xu
      have tY : ((⟨ps⟩ : Array Nat).zip vs.toArray).foldl (λt (p : Nat × Value) => t.setIfInBounds p.1 p.2) a.tmps = (ps.zip vs).foldl (λt p => t.setIfInBounds p.1 p.2) a.tmps := by rw [<- Array.foldl_toList, Array.toList_zip]
      have g5 : wW w5 i := (m.Xo.ev V).ev al
      have m5 : bj ⟨cx.P, some l, cx.n, i, w5, g5⟩ (ZO s ps (a0 x) i) { tmps := ((⟨ps⟩ : Array Nat).zip vs.toArray).foldl (λt (p : Nat × Value) => t.setIfInBounds p.1 p.2) a.tmps, defers := [] } w5 := by
        rw [tY];exact ⟨g1, rfl, g2, b8, dr _ _⟩
      have hW := bk l w5 j x i _ g5 (hB _ A) bf hi K b3 _ _ m5
      refine wpIn_mono (BO 9 hW) ?_
      rintro e1 a1 w6 ⟨s1, m1, q1⟩
      cases e1 <;> first
        | exact q1.elim
        | skip
      obtain ⟨ci, a9, bs⟩ := q1
      have ba : s1.H l = some (.obj (.loop (rec .ready none))) := a9 _ _ (hB _ A) b3
      have ak : w6.heap[l]? = some (.loop (rec .ready none)) := m1.H l _ ba
      obtain ⟨S, bb⟩ : ∃ y, y = Obj.loop { rec .ready none with state := .busy } := ⟨_, rfl⟩
      obtain ⟨ab, c2⟩ := AF (o' := S) (y := .obj S) m1.H ba ak (λ_ _ _ h => by cases h) (sq ak)
      refine ⟨w6.putObj l S, by rw [bb]; exact run_beginRound ak (by rw [M]), ?_⟩
      have g6 : wW (w6.putObj l S) (s1.H.aU l (.obj S)) := m1.Xo.ev ab
      have m6 : bj ⟨cx.P, some l, cx.n, s1.H.aU l (.obj S), w6.putObj l S, g6⟩ (s1.cJ (s1.H.aU l (.obj S))) a1 (w6.putObj l S) := by
        have := m1.go ab c2;exact ⟨this.n, this.df, this.fr, this.H, dr _ _⟩
      refine wpIn_mono (BO 9 (bs (w6.putObj l S) S g6 ((((m.ev.trans V).trans al).trans m1.ev).trans ab) _ _ m6)) ?_
      rintro e2 a2 w7 ⟨s2, m2, q2⟩
      have ae : ∀ (u : Option Code), mI B (s1.H.aU l (.obj S)) s2.H -> ∃ v w', (Instr.endRound l u).run cx.P w7 = .ok v w' /\ v = .bool u.isNone /\
          ∃ k, eF w' k /\ Ev i w5 k w' /\ (∀ b o, T b = none -> i b = some (.obj o) -> k b = some (.obj o)) /\ (∀ p, I p s2.H -> I p k) /\ (∀ e p, Ix e p s2.H -> Ix e p k) /\ mI B s.H k /\ k w.heap.size = some (.obj xl) /\ k l = some (.obj (.loop (rec (if u.isNone then .ready else .done) u))) := by
        intro u r;have ad : s2.H l = some (.obj S) := r _ _ (hB _ A) (aK _ _ _);have aa : w7.heap[l]? = some S := m2.H l _ ad;rw [bb] at aa;have a4 := run_endRound (P := cx.P) u aa;obtain ⟨c5, c3⟩ := AF (o' := Obj.loop (rec (if u.isNone then .ready else .done) u)) (y := .obj (Obj.loop (rec (if u.isNone then .ready else .done) u))) m2.H ad aa (λ_ _ _ h => by cases h) (sq aa);have bm : mI B s.H (s2.H.aU l (.obj (Obj.loop (rec (if u.isNone then .ready else .done) u)))) := λb o G h => by
          have a7 : b ≠ l := λE => by rw [E, A] at h; cases h
          rw [aJ a7];refine r b o G ?_;rw [aJ a7];exact a9 b o G (K b o G h)
        refine ⟨_, _, by rw [M] at a4 ⊢; exact a4, rfl, _, c3, ((m1.ev.trans ab).trans m2.ev).trans c5, λb o b0 c7 => by
          have a7 : b ≠ l := λE => by rw [E, ac] at b0; cases b0
          rw [aJ a7];have G := hB b (gA L b0);refine r b o G ?_;rw [aJ a7];exact a9 b o G c7, λp => hI _ _ _ _ A λz h => ⟨_, by rw [ad] at h; injection h with h; exact h.symm⟩, λe p => ar _ _ _ _ _ A λz h => ⟨_, by rw [ad] at h; injection h with h; exact h.symm⟩, bm, ?_, aK _ _ _⟩
        rw [aJ Z];refine r _ _ (hB _ N) ?_;rw [aJ Z];exact a9 _ _ (hB _ N) c6
      cases e2 with
      | normal =>
        obtain ⟨_, r, R⟩ := q2
        obtain ⟨v, w', h1, rfl, k, h2, h3, h8, h4, h9, h5, h6, h7⟩ := ae none r
        exact ⟨_, w', h1, k, h2, h3, h8, .inl ⟨rfl, h4 _ R, h5, h6, h7⟩⟩
      | ret =>
        obtain ⟨_, r, R⟩ := q2
        obtain ⟨v, w', h1, rfl, k, h2, h3, h8, h4, h9, h5, h6, h7⟩ := ae (some .ret) r
        exact ⟨_, w', h1, k, h2, h3, h8, .inr ⟨rfl, .ret, _, rfl, h9 _ _ R, h5, h6, h7⟩⟩
      | exit id =>
        obtain ⟨_, r, R⟩ := q2
        obtain ⟨v, w', h1, rfl, k, h2, h3, h8, h4, h9, h5, h6, h7⟩ := ae (some (.exit id)) r
        exact ⟨_, w', h1, k, h2, h3, h8, .inr ⟨rfl, .exit id, _, rfl, h9 _ _ R, h5, h6, h7⟩⟩
      | goto t =>
        obtain ⟨_, r, R⟩ := q2
        obtain ⟨v, w', h1, rfl, k, h2, h3, h8, h4, h9, h5, h6, h7⟩ := ae (some (.goto t)) r
        exact ⟨_, w', h1, k, h2, h3, h8, .inr ⟨rfl, .goto t, _, rfl, h9 _ _ R, h5, h6, h7⟩⟩
      | panic ch => exact q2.elim
      | outgrown => exact q2.elim
theorem kZ {k:Type}{s:St}{g:Operand}{ps:List Nat}{assign body:Code}{Q:Exit->St->Prop}(N:cx.ro=none){T:FuncId}{bc:List D}{j:k->List D}{S:List k}{ok:aA->Prop}
  (it:BY cx.P T bc j S ok) (hg:s.ev g=.fn T bc) (V:∀H',s.H.le H'->ok H') (M:∀p∈ps,p<cx.n) (G:∀x,(j x).length=ps.length)
  (I:List k->aA->Prop) (m:Exit->List k->aA->Prop) (hI:∀a H H',Am H H'->I a H->I a H') (L:∀e a H H',Am H H'->m e a H->m e a H') (h0:I [] s.H)
  (A:∀(l:Nat) (v:World) (a:List k) (x:k) (i:aA) (o:Obj) (J:wW v i),(a++[x])<+:S->I a i->gE s.H i->i l=some (.obj o)->W ⟨cx.P,some l,cx.n,i,v,J⟩ assign (dR (λs1=>s1.df=[]/\gE i s1.H/\∀z y (K:wW z (s1.H.aU l (.obj y))),W ⟨cx.P,some l,cx.n,s1.H.aU l (.obj y),z,K⟩ body (IH I m (a++[x]) (s1.H.aU l (.obj y))) (s1.cJ (s1.H.aU l (.obj y)))) (λ_ _=>False)) (ZO s ps (j x) i))
  (B:∀(i:aA) (D:Nat),I S i->gE s.H i->i D=some (.obj xl)->s.H D=none->Q .normal {s with H:=i,df:=oN D::s.df})
  (E:∀(e:Exit) (c:Code) (a:List k) (i:aA) (D:Nat),Dp e=some c->m e a i->gE s.H i->i D=some (.obj xl)->s.H D=none->Q e {s with H:=i,df:=oN D::s.df}):
  W cx (.rangeFunc g ⟨ps⟩ assign body) Q s:=lC N it hg V M G (λ_=>True) (λ_ _=>trivial) I (λ_ _ _ _=>trivial) m (λa H b o _ R h=>hI a _ _ (lQ R) h) (λe a H b o _ R h=>L e a _ _ (lQ R) h) h0 (λl v a x i o J _ r u Z h4=>nA (A l v a x i o J r u (λb o=>Z b o trivial) h4) λe s1 q=>by cases e <;> first|exact⟨q.1,λb o _=>q.2.1 b o,λz y K _=>nA (q.2.2 z y K) λe s q=>by cases e <;> first|exact⟨q.1,λb o _=>q.2.1 b o,q.2.2⟩|exact q⟩|exact q) (λys i D h0 r u=>by subst h0;exact B i D r λb o=>u b o trivial) (λe c a i D h0 r u=>E e c a i D h0 r λb o=>u b o trivial)
theorem v7 {α:Type}{fn:Func}{z:α->List D}{Pf Fn:List α->Prop}{ok kp:aA->Prop}(N:Nat)(hf:P.funcs[f]?=some fn)(mh:(fn.name== "runtime.NumGoroutine")=false)(hb:fn.body=some c)(hN:fn.ntmps=N)(xv:fn.results= #[])(hl:bc.length+1<=N)
  (h:∀(l:Nat) (J j:List α->aA->Prop) (H:aA) (w0:World) (g0:wW w0 H) (Q:Exit->St->Prop),ok H->J [] H->yN H J->yN H j->(∀a Hc,J a Hc->kp Hc)->Xm P l H w0 J j z Pf->(∀e s,e=.normal\/e=.ret->s.df=[]->((∃g,Fn g/\J g s.H)\/∃a,j a s.H)->Q e s)->W ⟨P,none,N,H,w0,g0⟩ c Q (St.init (yD l::bc) H)):ph P f bc z Pf Fn ok kp:=And.intro (jH hf mh hb) λl J j H w G dC hH I hJ hC S T hY V=>by
 have L:Calls P f G.toArray w λe i=>∃v d H',e=.returned v/\D.is i H'.others d v/\eF i H'/\Ev H w H' i/\((∃g,Fn g/\J g H')\/∃a,j a H'):=by
  refine mf (ro:=none) (n:=9) (callsIn_of_wp hf hb trivial ?_ rfl);have cd:=fo V;obtain⟨ds,A⟩:∃ds,ds=yD l::bc:=⟨_,rfl⟩;have a0:ds.length<=N:=by rw[A];exact hl
  have m:bj ⟨P,none,N,H,w,I⟩ (St.init (yD l::bc) H) {tmps:=G.toArray++Array.replicate (fn.ntmps - G.toArray.size) undef,defers:=[]} w:=by
   rw[<-A] at cd V ⊢;refine⟨by simp;omega,rfl,λt=>?_,hH,dr _ _⟩;simp only[St.init];rcases fv t ds.length with B|wY
   ·obtain⟨v,k,p⟩:=iO V t ds[t] (by simp [B])
    have M:ds.getD t (.val undef)=ds[t]:=by simp [List.getD,B]
    have e2:(G.toArray++Array.replicate (fn.ntmps - G.toArray.size) undef).getD t undef=v:=by
     rw[nK,wF (by simp;omega)];simp [k]
    rw[M,e2];exact p
   ·have M:ds.getD t (.val undef)=.val undef:=by simp [List.getD,wY]
    rw[M];simp only[D.is];rw[nK,wD (by simp;omega),wG];split <;> rfl
  refine wpIn_mono (h l J j H w I (LK ⟨P,none,N,H,w,I⟩ fn λ_ H'=>(∃g,Fn g/\J g H')\/∃a,j a H') dC hJ hC S T hY (λe s he u hr=>sG he u (by rw[xv];exact⟨s.H,aF _,hr⟩)) _ _ m) λe a' i ⟨s',Z,q⟩=>?_;have E:s'.df=[]/\Ew ⟨P,none,N,H,w,I⟩ fn s' (λ_ H'=>(∃g,Fn g/\J g H')\/∃a,j a H')->a'.defers=[]/\∃v,(results fn a'.tmps).run P i=.ok v i/\∃v' d H',Ending.returned v=.returned v'/\D.is i H'.others d v'/\eF i H'/\Ev H w H' i/\((∃g,Fn g/\J g H')\/∃a,j a H'):=by
   rintro⟨u,K⟩;obtain⟨v,d,H',k,p,r,R⟩:=K a' i Z;have m2:=Z.less r;exact⟨Z.df.trans u,v,k,v,d,H',rfl,p,m2.H,m2.ev,R⟩
  cases e with
  |normal=>
   obtain⟨k,v,p,r⟩:=E q
   exact⟨k,v,p,r⟩
  |ret=>
   obtain⟨k,v,p,r⟩:=E q
   exact⟨k,v,p,r⟩
  |_=>exact q.elim
 refine L.mono ?_;rintro e i ⟨v,d,H',k,_,r,R,h5⟩;exact⟨v,H',k,r,R,h5⟩
theorem yg {r:Type}{fn:Func}{a:r->List D}{p:List r}{ok:aA->Prop}(N:Nat)(hf:P.funcs[f]?=some fn)(mh:(fn.name== "runtime.NumGoroutine")=false)(hb:fn.body=some c)(A:fn.ntmps=N)(I:fn.results= #[])(hl:bc.length+1<=N)
  (h:∀(l:Nat) (J i:List r->aA->Prop) (H:aA) (g:World) (j:wW g H) (Q:Exit->St->Prop),ok H->J [] H->YC P l H g J i a p->(∀e s,e=.normal\/e=.ret->s.df=[]->(J p s.H\/∃m,i m s.H)->Q e s)->W ⟨P,none,N,H,g,j⟩ c Q (St.init (yD l::bc) H)):BY P f bc a p ok:=v7 N hf mh hb A I hl λl J i H g j Q v z _ _ _ B u=>h l J i H g j Q v z B λe s E k G=>u e s E k (G.imp (λh=>⟨_,rfl,h⟩) id)
theorem aN.post {K i:D->aA->Prop}(h:aN P f ds H K)
  (hk:∀d H',K d H'->∃d0 H0,H0.le H'/\(∀w v,eF w H'->D.is w H'.others d v->D.is w H0.others d0 v)/\i d0 H0):aN P f ds H i:=
 And.intro h.1 λw B A r p=>(h.2 w B A r p).mono λe E ⟨v,d,H',z,u,a,k,g⟩=>by
  obtain⟨d0,H0,j,l,m⟩:=hk d H' g;exact⟨v,d0,H0,z,l E v a u,a.less j,k.less j,m⟩
theorem Jl (hb:H b=none){v:Value}(a:eF w (H.aU b (.row ty o sz els)))(h:D.is w (H.aU b (.row ty o sz els)).others (.os b o sz 0 els.length) v):D.is w H.others (.seq sz els) v:=by
 have:=AL a (aK _ _ _) (by omega) h;rwa[kX,iy hb,dj,dI] at this
theorem aN.XV {K:D->aA->Prop}{sz:Nat}{els:List (List D)}(h:aN P f ds H K)
  (hk:∀d H',K d H'->(d=.val (.slice none 0 0)/\els=[]/\H'=H)\/(∃b o ty,H b=none/\d=.os b o sz 0 els.length/\H'=H.aU b (.row ty o sz els))\/(d=.seq sz els/\H'=H)):
  aN P f ds H λd H'=>d=.seq sz els/\H=H':=
 h.post λd H' g=>by
  rcases hk d H' g with⟨rfl,rfl,rfl⟩|⟨b,o,ty,i,rfl,rfl⟩|⟨rfl,rfl⟩
  ·exact⟨_,_,aF _,λw v _ a=>yo a,rfl,rfl⟩
  ·exact⟨_,H,j5 (aF _) i,λw v j a=>Jl i j a,rfl,rfl⟩
  ·exact⟨_,_,aF _,λw v _ a=>a,rfl,rfl⟩
theorem aA.BI {c:Nat}(h:b≠c):(H.aU b x).aU c y=(H.aU c y).aU b x:=funext λk=>by
 by_cases a:k=b
 ·subst a;rw[aJ h,aK,aK]
 ·by_cases g:k=c
  ·subst g;rw[aK,aJ a,aK]
  ·rw[aJ g,aJ a,aJ a,aJ g]
def VW (sz:Nat) (els:List (List D)) (d:D) (H1 H':aA):Prop:=
 (d=.val (.slice none 0 0)/\els=[]/\H'=H1)\/(d=.Ep/\els=[]/\H'=H1)\/(∃b o ty,H1 b=none/\d=.os b o sz 0 els.length/\H'=H1.aU b (.row ty o sz els))\/(d=.seq sz els/\H'=H1)
def Gl (H0:aA) (e:TypeId) (sz:Nat) (els:List (List D)) (d:D) (H:aA) (ob:Option Nat):Prop:=
 (ob=none/\d=.val (.slice none 0 0)/\els=[])\/∃c o,ob=some c/\d=.os c o sz 0 els.length/\H0 c=none/\H c=some (.row e o sz els)
theorem Gl.nil (H0:aA)(e:TypeId)(sz:Nat)(H:aA):Gl H0 e sz [] (.val (.slice none 0 0)) H none:=.inl ⟨rfl,rfl,rfl⟩
abbrev eB:=@Gl.nil
theorem Gl.cM (h:Gl H0 e sz els d H ob)(hk:∀c,ob=some c->H' c=H c):Gl H0 e sz els d H' ob:=by
 rcases h with h|⟨c,o,a,g,i,j⟩
 ·exact .inl h
 ·exact .inr ⟨c,o,a,g,i,(hk c a).trans j⟩
theorem Gl.fin (h:Gl H0 e sz els d H ob)(g:H0.le H):∃H',H'.le H/\VW sz els d H0 H':=by
 rcases h with⟨_,rfl,rfl⟩|⟨c,o,_,rfl,j,k⟩
 ·exact⟨H0,g,.inl ⟨rfl,rfl,rfl⟩⟩
 ·refine⟨H0.aU c (.row e o sz els),λb x a=>?_,.inr (.inr (.inl ⟨c,o,e,j,rfl,rfl⟩))⟩
  by_cases i:b=c
  ·subst i;rw[aK] at a;rw[k];exact a
  ·rw[aJ i] at a;exact g _ _ a
theorem Gl.cells (h:Gl H0 e sz els d H ob):D.cells d=some [d]:=by rcases h with⟨_,rfl,_⟩|⟨c,o,_,rfl,_⟩ <;> rfl
theorem ax {P:Program}{H0 H:aA}{t xt e:TypeId}{L M:Ti}{sz E:Nat}{N:List Value}{R:TD}{els new:List (List D)}{x y:D}{K:D->aA->Prop}{ob:Option Nat}
  (h1:cG P t=some L) (l:L.d=.slice e) (h2:cG P xt=some M) (m:M.d.gX=true) (h3:cG P e=some ⟨R,sz,E,some N⟩) (B:N.length=sz) (r:E≠0)
  (G:H0.le H) (hs:Gl H0 e sz els x H ob) (hy:gP H sz y (·=new)) (hb:(els.length+new.length) * E<=140737488355328)
  (hk:∀d H' j,Gl H0 e sz (els++new) d H' j->H0.le H'->(∀b z,H b=some z->ob≠some b->H' b=some z/\j≠some b)->K d H'):Gz P H t xt x y K:=by
 have v:∃k,Sl e sz els x k H/\H0.le k/\∀b z,H b=some z->ob≠some b->k b=some z:=by
  rcases hs with⟨rfl,rfl,rfl⟩|⟨c,o,rfl,rfl,u,V⟩
  ·exact⟨H,.inl ⟨rfl,rfl,rfl⟩,G,λb z hb _=>hb⟩
  ·refine⟨H.del c,.inr ⟨c,o,rfl,lf _ _,?_⟩,aA.AW G u,λb z hb a=>by rw[bL (λe=>a (by rw[e]))];exact hb⟩
   rw[aA.Is];funext b;by_cases e:b=c
   ·subst e;rw[aK,V]
   ·rw[aJ e]
 obtain⟨k,ye,g,J⟩:=v;refine Sl.Gz h1 l h2 m h3 B r ye hy hb λd H' A=>?_;rcases A with⟨rfl,T,rfl⟩|⟨i,Z,rfl,h,rfl⟩
 ·exact hk _ _ none (.inl ⟨rfl,rfl,T⟩) g λb z hb a=>⟨J b z hb a,by simp⟩
 ·have S:H0 i=none:=by
   cases hx:H0 i with
   |none=>rfl
   |some x=>have:=g _ _ hx;rw[h] at this;cases this
  refine hk _ _ (some i) (.inr ⟨i,Z,rfl,rfl,S,aK _ _ _⟩) (j5 g h) λb z hb a=>?_
  have p:=J b z hb a
  have I:b≠i:=λe=>by rw[e,h] at p;cases p
  exact⟨by rw[aJ I];exact p,λe=>I (by injection e with e;exact e.symm)⟩
theorem iz {Q:Exit->St->Prop}(M:St->Prop)(h1:M s)(h2:∀s,M s->W cx c Q s):W cx c Q s:=h2 s h1
def St.VG (s:St) (ds:List Deferred):St:={s with df:=ds}
theorem cR (s:St)(ds:List Deferred):(s.VG ds).fr=s.fr:=rfl
theorem cO (s:St)(ds:List Deferred):(s.VG ds).H=s.H:=rfl
theorem cE (s:St)(ds:List Deferred):(s.VG ds).df=ds:=rfl
theorem au (s:St)(ds:List Deferred)(H:aA):(s.VG ds).cJ H=(s.cJ H).VG ds:=rfl
theorem Ls (s:St)(p:Nat)(d:D)(H:aA):ZO s [p] [d] H=((s.cJ H).VG []).put (some p) d:=rfl
theorem T4 (s:St)(p q:Nat)(d e:D)(H:aA):ZO s [p,q] [d,e] H=(((s.cJ H).VG []).put (some p) d).put (some q) e:=rfl
theorem mK (s:St)(H:aA)(ds:List Deferred):({s with H:=H,df:=ds}:St)=(s.cJ H).VG ds:=rfl
theorem Ql {D:Nat}(h:H D=some (.obj xl)):mk [oN D] H:=⟨D,rfl,h,trivial⟩
theorem sP (D:Nat)(H:aA):xL [oN D] H=H.aU D .hid:=rfl
theorem cF (N:St->Prop)(Q:Exit->St->Prop)(s:St):dR N Q .normal s=N s:=rfl
theorem cp (id:Nat)(Q:Exit->St->Prop)(s:St):eT id Q .normal s=Q .normal s:=rfl
theorem fW (N:St->Prop)(Q:Exit->St->Prop)(s:St):dR N Q .ret s=Q .ret s:=rfl
theorem eU (id:Nat)(Q:Exit->St->Prop)(s:St):eT id Q .ret s=Q .ret s:=rfl
theorem fK {a:Type}(I:List a->aA->Prop)(h:Exit->List a->aA->Prop)(g:List a)(Hb:aA)(s:St):IH I h g Hb .normal s=(s.df=[]/\gE Hb s.H/\I g s.H):=rfl
theorem fL {a:Type}(I:List a->aA->Prop)(g:Exit->List a->aA->Prop)(h:List a)(Hb:aA)(s:St):IH I g h Hb .ret s=(s.df=[]/\gE Hb s.H/\g .ret h s.H):=rfl
theorem aA.Wp (h:H.le H')(hb:H b=Option.none):H.le (H'.aU b x):=λc y e=>by rw[aJ (λa=>by rw[a,hb] at e;cases e)];exact h _ _ e
abbrev aQ:=@aA.Wp
theorem aA.TE (h:H.le H')(hb:H' b=Option.none):H b=Option.none:=by
 cases e:H b with
 |none=>rfl
 |some x=>rw[h _ _ e] at hb;cases hb
abbrev iY:=@aA.TE
theorem qD {Hb H1:aA}{p:Nat->Prop}(h:gE Hb H1)(hg:Gl H0 e sz els d H1 ob)(hp:∀b z,H1 b=some z->ob≠some b->H' b=some z/\p b):gE Hb H':=λc o j=>by
 have g:=h c o j;refine(hp c _ g λe=>?_).1;rcases hg with⟨a,_⟩|⟨k,l,a,_,_,i⟩
 ·rw[a] at e;cases e
 ·rw[a] at e;injection e with e;rw[e,g] at i;cases i
theorem Gl.new (h:Gl H0 e sz els d H ob)(hb:H b=none):Gl H0 e sz els d (H.aU b x) ob:=by
 rcases h with h|⟨c,o,g,i,j,a⟩
 ·exact .inl h
 ·exact .inr ⟨c,o,g,i,j,by rw[aJ (λe=>by rw[e,hb] at a;cases a)];exact a⟩
theorem Gl.obj {o:Obj}(h:Gl H0 e sz els d H ob)(hb:H b=some (.obj o)):Gl H0 e sz els d (H.aU b x) ob:=by
 rcases h with h|⟨c,o,g,i,j,a⟩
 ·exact .inl h
 ·exact .inr ⟨c,o,g,i,j,by rw[aJ (λe=>by rw[e,hb] at a;cases a)];exact a⟩
theorem PB (h:H b=some (.row t 0 sz els))(hn:n=els.length):gP H sz (.os b 0 sz 0 n) (·=els):=by
 subst hn;simp only[gP,gy,h,dj,dI];exact⟨trivial,trivial,trivial,by omega,trivial⟩
theorem aA.ZC {c:Nat}(h:H b=some x)(hc:H c=Option.none):b≠c:=λe=>by rw[e,hc] at h;cases h
abbrev lj:=@aA.ZC
theorem oC {l:Nat}{y:Obj}(hx:∀o,x≠ .obj o):gE ((H.aU b x).aU l (.obj y)) (H.aU l (.obj y)):=λc o e=>by
 by_cases a:c=l
 ·subst a;rw[aK] at e ⊢;exact e
 ·rw[aJ a] at e ⊢
  by_cases g:c=b
  ·subst g;rw[aK] at e;injection e with e;exact absurd e (hx o)
  ·rw[aJ g] at e;exact e
theorem kr {b:Frame}{a:Act}{k:List Item}{cs:List Frame}:step P (lone (b.atR a (.code (.scope c)::k)) cs w)=.next (lone (b.atR a (.code c:: .inScope c::k)) cs w):=
 step_lone_go (by simp [stepG,stepG.exec,Frame.atR])
theorem Bg {b:Frame}{a:Act}{k:List Item}{cs:List Frame}:step P (lone (b.atR a (.inScope c::k)) cs w)=.next (lone (b.atR a k) cs w):=
 step_lone_go (by simp [stepG,stepG.exec,Frame.atR])
def yp (Q:Exit->St->Prop):Exit->St->Prop
 | .goto _,_=>False
 |e,s=>Q e s
theorem vA {Q:Exit->St->Prop}(h:W cx c (yp Q) s):W cx (.scope c) Q s:=λa w m=>by
 intro b k cs J B G;have r:(lone (b.atR a (.code (.scope c)::k)) cs w).fenced cx.P (FR cx.ro):=fenced_calm B G rfl;obtain⟨e,i,j,⟨z,v,u⟩,g⟩:=h a w m b (.inScope c::k) cs J B G;cases e with
 |normal=>exact⟨.normal,i,j,⟨z,v,u⟩,.head r kr (StepsIn.trans g (.one (fenced_calm B G rfl) Bg))⟩
 |exit p=>
  have K:exitTo p (.inScope c::k)=exitTo p k:=by simp [exitTo]
  exact⟨.exit p,i,j,⟨z,v,u⟩,λN E=>.head r kr (g.1 N (by rw[K];exact E)),
   λI E=>let ⟨A,L,M⟩:=g.2 I (by rw[K];exact E);⟨A,L,.head r kr M⟩⟩
 |goto l=>exact u.elim
 |ret=>exact⟨_,i,j,⟨z,v,u⟩,.of_steps (.one r kr) g⟩
 |panic R=>exact⟨_,i,j,⟨z,v,u⟩,.of_steps (.one r kr) g⟩
 |outgrown=>exact⟨_,i,j,⟨z,v,u⟩,.of_steps (.one r kr) g⟩
theorem fQ (Q:Exit->St->Prop)(s:St):yp Q .normal s=Q .normal s:=rfl
theorem fR (Q:Exit->St->Prop)(s:St):yp Q .ret s=Q .ret s:=rfl
theorem fP (Q:Exit->St->Prop)(i:Nat)(s:St):yp Q (.exit i) s=Q (.exit i) s:=rfl
theorem I1 (s:St):s.cJ s.H=s:=rfl
def YT (P:Program) (t:TypeId) (len:Nat) (ds:List (Nat×D)) (K:D->Prop):Prop:=
 match cG P t with
 |some ⟨.slice e,_,_,_⟩=>(match cG P e with
  |some ⟨_,sz,_,some a⟩=>a.length=sz/\ds.length=len/\len * sz<=16777216/\(match jd sz ds 0 with
   |some els=>els.length=len/\K (.seq sz els)
   |none=>False)
  |_=>False)
 |_=>False
theorem Te (I:eF w H){len:Nat}{ds:List (Nat×D)}{vs:Array (Nat×Value)}{K:D->Prop}(h:YT P t len ds K)(hx:iu w H.others ds vs.toList):
  ∃r g a H',(Instr.buildSlice t len vs).run P w=.ok r a/\D.is a H'.others g r/\eF a H'/\Ev H w H' a/\(K g/\H'=H):=by
 unfold YT at h;split at h
 ·rename_i e _ _ _ J
  split at h
  ·rename_i dE sz m S G
   obtain⟨A,B,E,j⟩:=h;split at j
   ·rename_i els R
    obtain⟨N,M⟩:=j;obtain⟨r,g,a,H',p,k,l,u,b,i,v,z⟩:=Jm (K:=λd H'=>∃b,H b=none/\d=.os b 0 sz 0 len/\H'=H.aU b (.row e 0 sz els)) I (by
     unfold BR;rw[J];simp only;rw[G];simp only;refine⟨A,B,E,?_⟩;rw[R];exact λb L=>⟨b,L,rfl,rfl⟩) hx
    subst v z;rw[<-N] at k;exact⟨r,.seq sz els,a,H,p,Jl i l k,l.less (j5 (aF _) i),u.less (j5 (aF _) i),M,rfl⟩
   ·exact j.elim
  ·exact h.elim
 ·exact h.elim
def pG (cx:Cx) (o:Oper) (s:St) (K:St->Prop):Prop:=
 match o.op with
 | .buildSlice t (n+1) a=>YT cx.P t (n+1) (s.parts a) λd=>K (s.put o.dst d)
 |_=>cU cx o s K
theorem pH {o:Oper}{K:St->Prop}(hd:qP cx.n o.dst)(h:pG cx o s K):WO cx o K s:=by
 unfold pG at h;split at h
 ·rename_i t n u e
  refine mJ (by simp [e]) hd λa w m=>?_;obtain⟨r,d,v,H',g,i,j,k,l,p⟩:=Te m.H h (m.Ag u);subst p;exact⟨r,v,d,s.H,by simp only[execOp,e,Sem.run_bind,g,Result.andThen,Sem.run_pure],i,j,k,l⟩
 ·exact kQ hd h
def nJ (cx:Cx) (aY:Array Oper) (Q:Exit->St->Prop):List Oper->St->Prop
 |[],s=>Q .normal s
 |o::a,s=>(match o.guard with
  |none=>pG cx o s λh=>if fh o.op then WL cx aY a Q h else nJ cx aY Q a h
  |some (j,g)=>(match j9 aY j with
   |some t=>(match s.fr t with
    | .val (.bool b)=>qj (b==g) (pG cx o (s.put (some t) (.val (.bool g))) λh=>if fh o.op then WL cx aY a Q h else nJ cx aY Q a h) (nJ cx aY Q a ((s.put (some t) (.val (.bool !g))).put o.dst (.val undef)))
    | .val (.tuple ⟨[]⟩)=>nJ cx aY Q a (s.put o.dst (.val undef))
    |_=>False)
   |none=>False))
theorem qp {Q:Exit->St->Prop}(B:dQ cx.n aY=true):∀{l:List Oper}{s:St},dQ cx.n l=true->nJ cx aY.toArray Q l s->WL cx aY.toArray l Q s
 |[],s,_,h=>Cw h
 |o::a,s,hl,h=>by
  simp only[dQ,jQ,cX] at hl;have hd:qP cx.n o.dst:=by
   have:=hl.1;unfold qP;cases ho:o.dst with
   |none=>trivial
   |some t=>rw[ho] at this;simpa using this
  have A:∀g,nJ cx aY.toArray Q a g->WL cx aY.toArray a Q g:=λg m=>qp B hl.2 m;have v:∀g,(if fh o.op then WL cx aY.toArray a Q g else nJ cx aY.toArray Q a g)->WL cx aY.toArray a Q g:=λg m=>by
   split at m
   ·exact m
   ·exact A g m
  simp only[nJ] at h;split at h
  ·rename_i z
   exact lA z (sX (pH hd h) v)
  ·rename_i j k z
   split at h
   ·rename_i t i
    have u:t<cx.n:=by
     unfold j9 at i;cases hj:aY.toArray[j]? with
     |none=>rw[hj] at i;cases i
     |some E=>
      rw[hj] at i
      have:=(dK.1 B) E (by have:=tJ hj;simpa using this)
      simp at i
      rw[i] at this
      simpa using this
    split at h
    ·rename_i b r
     exact pj z i u (fI hd) (.inl ⟨b,r,λe=>by
       have p:=E0 h (by rw[e];cases k <;> rfl);rw[EV (by rw[r,e])] at p;exact sX (pH hd p) v,λe=>by
       have p:=EZ h (by rw[e];cases k <;> rfl);rw[EV (by rw[r,e])] at p;exact A _ p⟩)
    ·rename_i r
     exact pj z i u (fI hd) (.inr ⟨r,A _ h⟩)
    ·exact h.elim
   ·exact h.elim
theorem V4 {id:Nat}{Q:Exit->St->Prop}(a:dQ cx.n aY=true)(h:nJ cx aY.toArray Q aY s):W cx (.region id aY.toArray false) Q s:=
 uz (qp a a h)
theorem VZ {l:List Oper}{Q:Exit->St->Prop}(a:dQ cx.n aY=true)(hl:dQ cx.n l=true)(h:nJ cx aY.toArray Q l s):WL cx aY.toArray l Q s:=qp a hl h
def LtN (i n:Nat):Prop:=i<n
theorem aO {cx:Cx}{c:Code}{Q:Exit->St->Prop}(n:Nat)(I:Nat->St->Prop)(h0:I 0 s)
  (round:∀i s,i<=n->I i s->W cx c (dR (λg=>LtN i n/\I (i+1) g) Q) s):W cx (.loop c) Q s:=by
 refine Mi (λs=>∃i,i<=n/\I i s) (λs=>Classical.epsilon λk=>∃i,i<=n/\I i s/\k=n - i/\∀j,j<=n->I j s->n - i<=n - j) s.H (aF _) ⟨0,jY _,h0⟩ ?_;rintro s1 B;have v:∀s:St,(∃i,i<=n/\I i s)->∃i,i<=n/\I i s/\∀j,j<=n->I j s->n - i<=n - j:=λs ⟨i,L,h⟩=>by
  obtain⟨k,⟨E,l,m,rfl⟩,r⟩:=Od (λk=>∃i,i<=n/\I i s/\n - i=k) ⟨_,i,L,h,rfl⟩;exact⟨E,l,m,λj M u=>r _ ⟨j,M,u,rfl⟩⟩
 have K:∀s:St,(∃i,i<=n/\I i s)->∃i,i<=n/\I i s/\(Classical.epsilon λk=>∃i,i<=n/\I i s/\k=n - i/\∀j,j<=n->I j s->n - i<=n - j)=n - i/\∀j,j<=n->I j s->n - i<=n - j:=λs h=>by
  obtain⟨i,l,m,r⟩:=v s h;obtain⟨E,G,J,z,A⟩:=Em (p:=λk=>∃i,i<=n/\I i s/\k=n - i/\∀j,j<=n->I j s->n - i<=n - j) ⟨_,i,l,m,rfl,r⟩;exact⟨E,G,J,z,A⟩
 obtain⟨i,l,m,r,N⟩:=K s1 B;refine nA (round i s1 l m) λe g q=>?_;cases e with
 |normal=>
  obtain⟨a,u⟩:=q
  replace a:i<n:=a
  refine⟨g.H,aF _,⟨i+1,a,u⟩,?_⟩
  rw[r]
  obtain⟨j,G,J,z,A⟩:=K g ⟨i+1,a,u⟩
  show(Classical.epsilon _)<_
  have:=A (i+1) a u
  rw[show g.cJ g.H=g from rfl,z]
  omega
 |_=>exact q
def uq (H H':aA) (d d0:D):Prop:=∀w v,eF w H'->D.is w H'.others d v->D.is w H.others d0 v
theorem aN.cm {K:D->Prop}(h:aN P f ds H λd H'=>H.le H'/\∃d0,uq H H' d d0/\K d0):aN P f ds H λd H'=>K d/\H=H':=
 h.post λd H' ⟨a,d0,g,i⟩=>⟨d0,H,a,g,i,rfl⟩
abbrev aq:=@aN.cm
theorem aL (h:H.le H'):uq H H' d d:=λw v _ a=>j6 (kK h w) d a
theorem nY {k:Nat}(g:H.le H')(hb:H' b=some (.row ty o sz els))(h0:H b=none)(hn:k+n<=els.length):uq H H' (.os b o sz k n) (.seq sz ((els.drop k).take n)):=λw v i j=>by
 have h:=AL i hb hn j;refine j6 (kK (H':=H) (λc x a=>?_) w) _ h;rw[bL (λe=>by rw[e,h0] at a;cases a)];exact g _ _ a
theorem HQ {i k:Nat}{el:List D}(g:H.le H')(hb:H' b=some (.row ty o sz els))(h0:H b=none)(hi:els[i]?=some el):uq H H' (.ep b o sz i k) (.rp (el.drop k)):=λw v j l=>by
 have h:=Dg j hb hi l;refine j6 (kK (H':=H) (λc x a=>?_) w) _ h;rw[bL (λe=>by rw[e,h0] at a;cases a)];exact g _ _ a
theorem iq:uq H H' (.val (.slice none 0 0)) (.seq sz []):=λw v _ a=>yo a
theorem da (a:H.le H')(hg:Gl H e sz els d H' ob):uq H H' d (.seq sz els):=by
 rcases hg with⟨_,rfl,rfl⟩|⟨c,o,_,rfl,g,h⟩
 ·exact iq
 ·have:=nY (k:=0) (n:=els.length) a h g (by omega)
  rwa[dj,dI] at this
def mz (H H':aA):List D->List D->Prop
 |[],[]=>True
 |d::ds,e::es=>uq H H' d e/\mz H H' ds es
 |_,_=>False
theorem mz.all (a:eF w H'):∀{ds es:List D}{vs:List Value},mz H H' ds es->aT w H'.others ds vs->aT w H.others es vs
 |[],[],vs,_,h=>by simp only[aT] at h ⊢;exact h
 |d::ds,e::es,vs,hv,h=>by
  simp only[aT] at h ⊢;obtain⟨u,us,rfl,h1,h2⟩:=h;exact⟨u,us,rfl,hv.1 w u a h1,mz.all a hv.2 h2⟩
 |[],_::_,_,hv,_=>hv.elim
 |_::_,[],_,hv,_=>hv.elim
theorem mz.cells (a:eF w H'):∀{ds es:List D}{vs:List Value},mz H H' ds es->aW w H'.others ds vs->aW w H.others es vs
 |[],[],vs,_,h=>by simp only[aW] at h ⊢;exact h
 |d::ds,e::es,vs,hv,h=>by
  simp only[aW] at h ⊢;obtain⟨u,us,rfl,h0,h1,h2⟩:=h;exact⟨u,us,rfl,h0,hv.1 w u a h1,mz.cells a hv.2 h2⟩
 |[],_::_,_,hv,_=>hv.elim
 |_::_,[],_,hv,_=>hv.elim
theorem lI (h:mz H H' ds es):uq H H' (.eO ds) (.eO es):=λw v i a=>by
 simp only[D.is] at a ⊢;obtain⟨j,rfl,g⟩:=a;exact⟨j,rfl,h.all i g⟩
theorem yd (h:mz H H' ds es):uq H H' (.agg ds) (.agg es):=λw v i a=>by
 simp only[D.is] at a ⊢;obtain⟨j,rfl,g⟩:=a;exact⟨j,rfl,h.cells i g⟩
theorem HP {a b:D}(h:uq H H' a a')(h2:uq H H' b b'):mz H H' [a,b] [a',b']:=⟨h,h2,trivial⟩
theorem Yb {a b c g:D}(h:uq H H' a a')(h2:uq H H' b b')(h3:uq H H' c g):mz H H' [a,b,c] [a',b',g]:=⟨h,h2,h3,trivial⟩
theorem V1 {Q:Exit->St->Prop}(t:Nat)(H':aA)(d0:D)(j:H'.le s.H)(hf:uq H' s.H (s.fr t) d0)(h:W cx c Q ((s.cJ H').put (some t) d0)):W cx c Q s:=λa w m=>by
 refine h a w ?_;have g:=m.less j;refine⟨g.n,g.df,λx=>?_,g.H,g.ev⟩;rw[sR];show D.is w H'.others _ _;by_cases i:x=t
 ·subst i;rw[aD rfl];exact hf w _ m.H (m.fr x)
 ·rw[aC i];exact g.fr x
def U2 (d a:D):Prop:=∀w S v,D.is w S d v->D.is w S a v
theorem fG (d:D):U2 d d:=λ_ _ _ h=>h
theorem fO:U2 (.val (.slice none 0 0)) (.seq sz []):=λ_ _ _ h=>yo h
def qQ:List D->List D->Prop
 |[],[]=>True
 |d::ds,e::es=>U2 d e/\qQ ds es
 |_,_=>False
def Eu:List (List D)->List (List D)->Prop
 |[],[]=>True
 |d::ds,e::es=>qQ d e/\Eu ds es
 |_,_=>False
theorem qQ.len:∀{ds es:List D},qQ ds es->ds.length=es.length
 |[],[],_=>rfl
 |d::ds,e::es,h=>by rw[bx,bx,qQ.len h.2]
 |[],_::_,h=>h.elim
 |_::_,[],h=>h.elim
theorem Eu.len:∀{ds es:List (List D)},Eu ds es->ds.length=es.length
 |[],[],_=>rfl
 |d::ds,e::es,h=>by rw[bx,bx,Eu.len h.2]
 |[],_::_,h=>h.elim
 |_::_,[],h=>h.elim
theorem qQ.at {S:Nat->Prop}:∀{ds es:List D}{o:Nat},qQ ds es->bU w S b o ds->bU w S b o es
 |[],[],_,_,h=>by simp only[bU] at h ⊢
 |d::ds,e::es,o,hv,h=>by
  simp only[bU] at h ⊢;obtain⟨⟨u,h1,h2,h3⟩,h4⟩:=h;exact⟨⟨u,h1,h2,hv.1 w S u h3⟩,qQ.at hv.2 h4⟩
 |[],_::_,_,hv,_=>hv.elim
 |_::_,[],_,hv,_=>hv.elim
theorem Eu.at {S:Nat->Prop}:∀{ds es:List (List D)}{o:Nat},Eu ds es->cK w S b sz o ds->cK w S b sz o es
 |[],[],_,_,h=>by simp only[cK] at h ⊢
 |d::ds,e::es,o,hv,h=>by
  simp only[cK] at h ⊢;exact⟨hv.1.len▸h.1,hv.1.at h.2.1,Eu.at hv.2 h.2.2⟩
 |[],_::_,_,hv,_=>hv.elim
 |_::_,[],_,hv,_=>hv.elim
theorem SI {els':List (List D)}(h:Eu els els'):U2 (.seq sz els) (.seq sz els'):=λw S v g=>by
 simp only[D.is] at g ⊢;obtain⟨A,c,rfl,i,a⟩:=g;refine⟨A,c,by rw[h.len],by rw[<-h.len];exact i,?_⟩;rcases a with a|⟨b,o,j,k,l,m⟩
 ·left
  have:=h.len;rw[a] at this;exact cy this.symm
 ·exact .inr ⟨b,o,j,k,l,h.at m⟩
theorem qQ.aBM {S:Nat->Prop}:∀{ds es:List D}{vs:List Value},qQ ds es->aT w S ds vs->aT w S es vs
 |[],[],vs,_,h=>by simp only[aT] at h ⊢;exact h
 |d::ds,e::es,vs,hv,h=>by
  simp only[aT] at h ⊢;obtain⟨u,us,rfl,h1,h2⟩:=h;exact⟨u,us,rfl,hv.1 w S u h1,qQ.aBM hv.2 h2⟩
 |[],_::_,_,hv,_=>hv.elim
 |_::_,[],_,hv,_=>hv.elim
theorem CS:∀l:List D,qQ l l
 |[]=>trivial
 |_::l=>⟨fG _,CS l⟩
theorem aN.imp {a:List D}{K:D->aA->Prop}(h:aN P f a H K)(hi:qQ ds a):aN P f ds H K:=
 h.aBP (aF _) λ_ _ _ g=>hi.aBM g
end Go.Proofs.YtffgfafbffdgaaaGreatDoor

/- Lemmas and contracts of functions, several texts in one. -/
import Derived.Shelf.Sort.Plain
import Derived.Shelf.Slices.In.SortNone
import Derived.Test.YtfiipaodjpiooaaGreatDoorQ18
set_option maxRecDepth 100000
set_option maxHeartbeats 4000000
set_option linter.all false
namespace Go.Proofs.YtfiipaodjpiooaaGreatDoor
open Go.RowKit
open Tryz
def EqI (l m:List Int) (i:Nat) (s:St):Prop:=s.df=[]/\s.fr 0=.seq 1 (l.map iD)/\s.fr 1=.seq 1 (m.map iD)/\s.fr 12=i64 l.length/\s.fr 13=i64 i/\s.H=aC.none/\l.take i=m.take i
theorem aGc (l m:List Int) (hl:l.length<=140737488351232):bE prog 214 [.seq 1 (l.map iD),.seq 1 (m.map iD)] .none fun d _=>d=.val (.bool (decide (l=m))):=by
 have jY:=lm iD l
 have dX:=lm iD m
 refine aQ _ _ func214 rfl rfl ntmps214 results214 (by simp) fun w0 g0 Q aD=>?_
 by_cases hlm:l.length=m.length
 case neg=>
  have q:((l.length:Int)=(m.length:Int))=False:=aI (by omega)
  refine tq (eA jY dX q) ?_;intro Nx aB Gx aF
  refine rt aD trivial ?_
  exact⟨_,aG _,by rw[bB fun e=>hlm (by rw[e])]⟩
 have q:((l.length:Int)=(m.length:Int))=True:=aK (by omega)
 have hmm:(m.length:Int)=(l.length:Int):=by omega
 refine tq (eA jY dX q) ?_;intro Nx aB Gx aF
 refine aZ l.length (EqI l m) ⟨rfl,rfl,rfl,rfl,rfl,rfl,by simp⟩ ?_
 rintro i s hi ⟨aT,f0,f1,f12,f13,hH,pY⟩
 have hx:=bI i
 have cJ:=bM i
 by_cases aV:i<l.length
 case neg=>
  have q1:=lF i l.length (by omega)
  rw[cW (by omega),cW (by omega)] at pY
  refine tq (eA f12 f13 q1) ?_;intro Nx aB Gx aF
  refine rt aD aT ?_
  exact⟨_,aG _,by rw[bG pY]⟩
 have q1:=lT i l.length (by omega)
 have VH:i<m.length:=by omega
 have cD:=cO aV
 have OV:=cO VH
 have w3:=wS i (by omega)
 by_cases h2:l[i]=m[i]
 ·have q2:(l[i]=m[i])=True:=aK h2
  refine tq (eA f12 f13 q1) ?_;intro Nx aB Gx aF
  refine dE (fun _ _ _ _=>False) fun Nx aB=>?_;refine dst (rQ f0 f1 jY dX cD OV hx cJ aV VH q2) ?_;intro Nx aB Gx aF
  refine tq (eA f13 w3 q2) ?_;intro Nx aB Gx aF
  refine⟨aV,aT,f0,f1,f12,rfl,hH,?_⟩
  rw[dH aV,dH VH,pY,h2]
 ·have q2:(l[i]=m[i])=False:=aI h2
  refine tq (eA f12 f13 q1) ?_;intro Nx aB Gx aF
  refine dE (fun _ _ _ _=>False) fun Nx aB=>?_;refine dst (rQ f0 f1 jY dX cD OV hx cJ aV VH q2) ?_;intro Nx aB Gx aF
  refine tq (eA f13 w3 q2) ?_;intro Nx aB Gx aF
  refine rt aD aT ?_
  exact⟨_,aG _,by rw[bB];rintro rfl;exact h2 rfl⟩
theorem aEu (H:aC) (l m:List Int) (hl:l.length<=140737488351232):bE prog 214 [.seq 1 (l.map iD),.seq 1 (m.map iD)] H fun d H'=>d=.val (.bool (decide (l=m)))/\H=H':=
 MC (aGc l m hl) rfl (aJC (tE _ _) (tE _ _))
theorem BO:∀{l m:List Int},l.Pairwise (·<·)->m.Pairwise (·<·)->(∀x,x∈l↔x∈m)->l=m
 |[],[],_,_,_=>rfl
 |[],b::m,_,_,h=>by have:=(h b).2 (by simp);simp at this
 |a::l,[],_,_,h=>by have:=(h a).1 (by simp);simp at this
 |a::l,b::m,h1,h2,h=>by
  rw[wW] at h1 h2
  have hab:a=b:=by
   have ha:=(h a).1 (by simp)
   have hb:=(h b).2 (by simp)
   rcases dJ.1 ha with e|ha
   ·exact e
   rcases dJ.1 hb with e|hb
   ·exact e.symm
   have:=h1.1 b hb
   have:=h2.1 a ha
   omega
  subst hab
  rw[BO h1.2 h2.2 fun x=>?_]
  constructor
  ·intro hx
   have:=h1.1 x hx
   rcases dJ.1 ((h x).1 (gY _ hx)) with e|h
   ·omega
   ·exact h
  ·intro hx
   have:=h2.1 x hx
   rcases dJ.1 ((h x).2 (gY _ hx)) with e|h
   ·omega
   ·exact h
def aAP (acc:List Int) (x:Int):List Int:=if acc.getLast?=some x then acc else acc++[x]
def tP (l:List Int):List Int:=l.foldl aAP []
theorem AT (l:List Int) (x:Int):tP (l++[x])=aAP (tP l) x:=by unfold tP;rw[zP];rfl
theorem aEe (acc:List Int) (x:Int):(aAP acc x).getLast?=some x:=by
 unfold aAP
 split
 ·assumption
 ·simp
theorem aEf {l:List Int} {i:Nat} (h:i<l.length):(tP (l.take (i+1))).getLast?=some l[i]:=by
 rw[dH h,AT,aEe]
theorem U6 {l:List Int} {i:Nat} (h:i+1<l.length):tP (l.take (i+1+1))=if l[i]=l[i+1] then tP (l.take (i+1)) else tP (l.take (i+1))++[l[i+1]]:=by
 rw[dH h,AT]
 have h1:=aEf (l:=l) (i:=i) (by omega)
 unfold aAP
 rw[h1]
 simp only[oU]
theorem JB {l:List Int} {x:Int}:x∈tP l↔x∈l:=by
 induction l using BM with
 |h0=>exact Iff.rfl
 |h1 l a ih=>
  rw[AT,bV,cR,<-ih]
  unfold aAP
  split
  ·rename_i h
   exact⟨.inl,fun h'=>h'.elim id fun e=>e▸List.mem_of_getLast? h⟩
  ·rw[bV,cR]
theorem aGS (l:List Int):(tP l).length<=l.length:=by
 induction l using BM with
 |h0=>exact dI _
 |h1 l a ih=>
  rw[AT,bN]
  unfold aAP
  split
  ·simp;omega
  ·rw[bN];simp;omega
theorem MV {l:List Int} (h:l.Pairwise (·<=·)):(tP l).Pairwise (·<·):=by
 induction l using BM with
 |h0=>exact List.Pairwise.nil
 |h1 l a ih=>
  rw[F3] at h
  have h1:=ih h.1
  rw[AT]
  unfold aAP
  split
  ·exact h1
  ·rename_i fM
   rw[F3]
   refine⟨h1,by simp,fun x hx y hy=>?_⟩
   rw[cR] at hy
   subst hy
   have aS:=h.2.2 x (JB.1 hx) y (by simp)
   rcases Int.lt_or_eq_of_le aS with h3|h3
   ·exact h3
   ·subst h3
    exfalso
    apply fM
    obtain⟨q,hq⟩:∃q,(tP l).getLast?=some q:=by
     cases e:(tP l).getLast? with
     |none=>rw[List.getLast?_eq_none_iff] at e;rw[e] at hx;cases hx
     |some q=>exact⟨q,rfl⟩
    have hqm:=List.mem_of_getLast? hq
    have hql:=h.2.2 q (JB.1 hqm) x (by simp)
    obtain⟨ys,hys⟩:=List.getLast?_eq_some_iff.1 hq
    rw[hys,bV,cR] at hx
    rcases hx with hx|hx
    ·rw[hys,F3] at h1
     have:=h1.2.2 x hx q (by simp)
     omega
    ·rw[hq,hx]
theorem aB0 (H:aC) (b:Nat) (x y:fK):(H.bH b x).bH b y=H.bH b y:=by
 funext c
 by_cases e:c=b
 ·rw[e,aO,aO]
 ·rw[aN e,aN e,aN e]
theorem SS {H:aC} {b:Nat} {x:fK} (h:H b=some x):H.bH b x=H:=by
 funext c
 by_cases e:c=b
 ·rw[e,aO,h]
 ·rw[aN e]
theorem MW (H:aC):bE prog 122 [.val (.slice none 0 0)] H fun d H'=>d=.val (.slice none 0 0)/\H=H':=by
 refine aQ _ _ func122 rfl rfl ntmps122 results122 (by simp) fun w0 g0 Q aD=>?_
 refine tq trivial ?_;intro Nx aB Gx aF
 refine rt aD trivial ?_
 exact⟨_,aG _,by first|rfl|exact⟨rfl,rfl⟩⟩
theorem MX {H:aC} {b o:Nat} {T:TypeId} {l:List Int} (hb:H b=some (.row T o 1 (l.map iD))) (hl:l.length<=140737488351232):
  bE prog 122 [.os b o 1 0 l.length] H fun d H'=>d=.os b o 1 0 (tP l).length/\∃K2:List Int,H'=H.bH b (.row T o 1 (K2.map iD))/\K2.take (tP l).length=tP l:=by
 have jY:=lm iD l
 refine aQ _ _ func122 rfl rfl ntmps122 results122 (by simp) fun w0 g0 Q aD=>?_
 by_cases h2:l.length<2
 ·have q1:((l.length:Int)<2)=True:=aK (by omega)
  have BB:tP l=l:=by
   match l,h2 with
   |[],_=>rfl
   |[a],_=>rfl
  refine tq (dG jY q1) ?_;intro Nx aB Gx aF
  refine rt aD trivial ?_
  exact⟨_,aG _,by rw[BB],l,(SS hb).symm,by rw[BB,nC]⟩
 have q1:((l.length:Int)<2)=False:=aI (by omega)
 refine tq (dG jY q1) ?_;intro Nx aB Gx aF
 refine aZ (l.length - 1) (fun i s=>s.df=[]/\s.fr 0=.os b o 1 0 l.length/\s.fr 3=i64 ((i+1:Nat):Int)/\s.H=H/\i+1<=l.length/\tP (l.take (i+1))=l.take (i+1)) ⟨rfl,rfl,rfl,rfl,by omega,by rw[dH (show 0<l.length by omega)] <;> rfl⟩ ?_
 rintro i s hi ⟨aT,f0,f3,hH,aV,hcm⟩
 have hHb:s.H b=some (.row T o 1 (l.map iD)):=by rw[hH];exact hb
 by_cases TH:i+1<l.length
 case neg=>
  have q2:(((i+1:Nat):Int)<(l.length:Int))=False:=aI (by omega)
  rw[cW (by omega)] at hcm
  refine tq (eA f0 f3 q2) ?_;intro Nx aB Gx aF
  refine rt aD aT ?_
  exact⟨_,aG _,by rw[hcm],l,by rw[hH];exact(SS hb).symm,by rw[hcm,nC]⟩
 have q2:(((i+1:Nat):Int)<(l.length:Int))=True:=aK (by omega)
 have hx:((i+1:Nat):Int).toNat=i+1:=bI _
 have hx0:=bI i
 have cJ:(0:Int)<=((i+1:Nat):Int):=bM _
 have aQB:=bM i
 have JN:=cO TH
 have GK:=cO (show i<l.length by omega)
 have aOL:i<l.length:=by omega
 have q3:=lT i l.length (by omega)
 have w1:IntKind.i64.wrap (((i+1:Nat):Int) - 1)=(i:Int):=by rw[bF (by omega)];omega
 have w2:IntKind.i64.wrap (((i+1:Nat):Int)+1)=((i+1+1:Nat):Int):=by rw[bF (by omega)];omega
 have BC:=U6 TH
 by_cases he:l[i]=l[i+1]
 case neg=>
  have q4:(l[i+1]=l[i])=False:=aI fun e=>he e.symm
  rw[aA he] at BC
  refine tq (eA f0 f3 q2) ?_;intro Nx aB Gx aF
  refine dE (fun _ _ _ _=>False) fun Nx aB=>?_;refine dst (aAN f0 f3 hHb JN GK hx hx0 cJ aQB TH aOL jY q2 q3 q4 w1) ?_;intro Nx aB Gx aF
  refine tq (dG f3 w2) ?_;intro Nx aB Gx aF
  exact⟨by show i<l.length - 1;omega,aT,f0,rfl,hH,by omega,by rw[BC,hcm,<-dH TH]⟩
 have q4:(l[i+1]=l[i])=True:=aK he.symm
 rw[aE he] at BC
 refine tq (eA f0 f3 q2) ?_;intro Nx aB Gx aF
 refine dE (fun _ _ _ _=>False) fun Nx aB=>?_;refine dst (aAN f0 f3 hHb JN GK hx hx0 cJ aQB TH aOL jY q2 q3 q4 w1) ?_;intro Nx aB Gx aF
 have q5:(((i+1:Nat):Int)<=(l.length:Int))=True:=aK (by omega)
 refine tq (nF f0 f3 q2 hx cJ jY q5) ?_;intro Nx aB Gx aF
 obtain⟨n2,hn2⟩:∃n2,n2=l.length - (i+1):=⟨_,rfl⟩
 rw[<-hn2]
 refine aZ (n2 - 1) (fun j s=>s.df=[]/\s.fr 0=.os b o 1 0 l.length/\s.fr 4=.os b o 1 (i+1) n2/\s.fr 5=i64 ((j+1:Nat):Int)/\j+1<=n2/\∃(K2:List Int) (k:Nat),s.H=H.bH b (.row T o 1 (K2.map iD))/\K2.length=l.length/\s.fr 3=i64 k/\K2.take k=tP (l.take (i+1+j+1))/\(∀m (h:m<l.length) (h':m<K2.length),i+1+j<=m->K2[m]=l[m])/\k<=i+1+j) ⟨aT,f0,rfl,rfl,by omega,l,i+1,by show s.H=_;rw[hH];exact(SS hb).symm,rfl,f3,by show _=tP (l.take (i+1+1));rw[BC,hcm],fun _ _ _ _=>rfl,by omega⟩ ?_
 rintro j s2 hj ⟨qX,g0,g4,g5,hjn,K2,k,mV,BB,g3,pY,aD4,hki⟩
 have aKM:s2.H b=some (.row T o 1 (K2.map iD)):=by rw[mV];exact aO _ _ _
 have aBy:=lm iD K2
 by_cases fQ:j+1<n2
 case neg=>
  have q6:(((j+1:Nat):Int)<(n2:Int))=False:=aI (by omega)
  have aQ1:i+1+j+1=l.length:=by omega
  rw[aQ1,nC] at pY
  have CA:k=(tP l).length:=by rw[<-pY,dU];omega
  have q7:((k:Int)<=(l.length:Int))=True:=aK (by omega)
  have hxk:=bI k
  have h0k:=bM k
  have hkc:k<=K2.length:=by omega
  refine tq (zY g0 g3 g4 g5 q6 q7 hxk h0k aKM aBy hkc @KZ) ?_;intro Nx aB Gx aF
  refine rt aD qX ?_
  have LS:(tP l).length<=K2.length:=by have:=aGS l;omega
  exact⟨_,aG _,by rw[CA],tP l,by rw[mV,aB0,<-qB,pY],nC⟩
 have q6:(((j+1:Nat):Int)<(n2:Int))=True:=aK (by omega)
 have NB:i+1+j+1<l.length:=by omega
 have JN:(K2.map iD)[i+1+(j+1)]?=some [.val (.int .i64 K2[i+1+j+1])]:=cO (show i+1+j+1<K2.length by omega)
 have GK:=cO (show i+1+j<K2.length by omega)
 rw[aD4 _ NB (by omega) (by omega)] at JN
 rw[aD4 _ (show i+1+j<l.length by omega) (by omega) (by omega)] at GK
 have G8:((j+1:Nat):Int).toNat=j+1:=bI _
 have aRC:=bI j
 have xB:(0:Int)<=((j+1:Nat):Int):=bM _
 have aQC:=bM j
 have q7:((j:Int)<(n2:Int))=True:=aK (by omega)
 have DR:j<n2:=by omega
 have w3:IntKind.i64.wrap (((j+1:Nat):Int) - 1)=(j:Int):=by rw[bF (by omega)];omega
 have w4:IntKind.i64.wrap (((j+1:Nat):Int)+1)=((j+1+1:Nat):Int):=by rw[bF (by omega)];omega
 have w5:=wS k (by omega)
 have aHA:=U6 (l:=l) (i:=i+1+j) NB
 obtain⟨x,tV⟩:∃x,x=l[i+1+j]:=⟨_,rfl⟩
 obtain⟨y,hye⟩:∃y,y=l[i+1+j+1]:=⟨_,rfl⟩
 rw[<-hye] at JN
 rw[<-tV] at GK
 rw[<-tV,<-hye] at aHA
 by_cases he2:x=y
 ·have q8:(y=x)=True:=aK he2.symm
  rw[aE he2] at aHA
  refine tq (jE g0 g3 g4 g5 q6) ?_;intro Nx aB Gx aF
  refine dE (fun _ _ _ _=>False) fun Nx aB=>?_;refine dst (aAN g4 g5 aKM JN GK G8 aRC xB aQC fQ DR aBy q6 q7 q8 w3) ?_;intro Nx aB Gx aF
  refine tq (dG g5 w4) ?_;intro Nx aB Gx aF
  exact⟨by show j<n2 - 1;omega,qX,g0,g4,rfl,by omega,K2,k,mV,BB,g3,by rw[show i+1+(j+1)+1=i+1+j+1+1 by omega,aHA];exact pY,fun m h h' hm=>aD4 m h h' (by omega),by omega⟩
 ·have q8:(y=x)=False:=aI fun e=>he2 e.symm
  rw[aA he2] at aHA
  have hxk:=bI k
  have h0k:=bM k
  have CA:k<l.length:=by omega
  have aHK:=lT k l.length (by omega)
  have hkc:k<K2.length:=by omega
  have TG:=cO hkc
  refine tq (jE g0 g3 g4 g5 q6) ?_;intro Nx aB Gx aF
  refine dE (fun _ _ _ _=>False) fun Nx aB=>?_;refine dst (aAN g4 g5 aKM JN GK G8 aRC xB aQC fQ DR aBy q6 q7 q8 w3) ?_;intro Nx aB Gx aF
  refine tq (aXp g0 g3 g4 g5 q6 q7 q8 w4 w5 aKM JN GK TG G8 xB hxk h0k CA aHK hkc fQ aBy) ?_;intro Nx aB Gx aF
  have tU:(List.map iD K2).set k [.val (.int .i64 y)]=(K2.set k y).map iD:=by rw[K1];rfl
  refine⟨by show j<n2 - 1;omega,qX,g0,g4,rfl,by omega,K2.set k y,k+1,by show s2.H.bH b _=_;rw[mV,aB0,<-tU],by rw[wD];exact BB,rfl,?_,fun m h h' hm=>?_,by omega⟩
  ·rw[show i+1+(j+1)+1=i+1+j+1+1 by omega,aHA,dH (by rw[wD];exact hkc),List.take_set_of_le (dI _),pY,List.getElem_set_self]
  ·rw[List.getElem_set_ne (by omega)]
   exact aD4 m h (by rw[wD] at h';exact h') (by omega)
end Go.Proofs.YtfiipaodjpiooaaGreatDoor
namespace Go.Proofs.YtfiipaodjpiooaaGreatDoor
open Go.RowKit Go.Sort
end Go.Proofs.YtfiipaodjpiooaaGreatDoor
namespace Go.Proofs.YtfiipaodjpiooaaGreatDoor
open Go.RowKit
open Tryz
def tgP (G:Gr) (l:List Int):List Int:=l.flatMap fun (t:Int)=>if 0<=t/\t<G.length then [(cY G t.toNat:Int)] else []
theorem aIj (G:Gr) (l:List Int) (t:Int):tgP G (l++[t])=tgP G l++(if 0<=t/\t<G.length then [(cY G t.toNat:Int)] else []):=by
 unfold tgP;rw[CU];simp
theorem aMF (G:Gr) (l:List Int):(tgP G l).length<=l.length:=by
 induction l with
 |nil=>simp [tgP]
 |cons t l ih=>
  have:tgP G (t::l)=(if 0<=t/\t<G.length then [(cY G t.toNat:Int)] else [])++tgP G l:=rfl
  rw[this,bN,eO]
  split <;> simp <;> omega
theorem aLH {G:Gr} {l:List Int} {q:Int}:q∈tgP G l↔∃t∈l,0<=t/\t<G.length/\q=cY G t.toNat:=by
 unfold tgP
 rw[tF]
 constructor
 ·rintro⟨t,ht,h⟩
  split at h
  ·rename_i h1
   exact⟨t,ht,h1.1,h1.2,by simpa using h⟩
  ·cases h
 ·rintro⟨t,ht,h1,h2,rfl⟩
  exact⟨t,ht,by rw[aE ⟨h1,h2⟩];simp⟩
theorem aOx {G:Gr} {p:Int} {i k:Nat} (h:At G p i k) (hi:i<G.length) (hk:k<G[i].1):nxt G p=[p+1]:=by
 refine BO (RV G p) (by simp) fun q=>?_
 rw[PA,B6 h,cR]
 obtain⟨_,_,h3⟩:=h
 constructor
 ·rintro⟨_,⟨_,e⟩|⟨e,_⟩⟩ <;> omega
 ·intro e;exact⟨hi,.inl ⟨hk,by omega⟩⟩
theorem aLP {G:Gr} {p:Int} {i k:Nat} (h:At G p i k) (hi:i<G.length) (hk:k=G[i].1):tP (fX (tgP G G[i].2))=nxt G p:=by
 refine BO (MV (J9 _)) (RV G p) fun q=>?_
 rw[JB,FM,aLH,PA,B6 h]
 constructor
 ·rintro h;exact⟨hi,.inr ⟨hk,h⟩⟩
 ·rintro⟨_,⟨h1,_⟩|⟨_,h2⟩⟩
  ·omega
  ·exact h2
theorem aRW (b:sO) (p:Int) (i k:Nat) (H:aC) (xC:At b.g p i k) (hc:bZ b.g<=1000000) (NF:∀x∈b.bl,x.tg.length<=1000000):bE prog 65 [.agg (qM b),.seq 1 ((ZD b.g (b.bl.length+1)).map iD),.agg [i64 i,i64 k]] H fun d H'=>d=.seq 1 ((nxt b.g p).map iD)/\H=H':=by
 refine bO (K:=fun d=>d=.seq 1 ((nxt b.g p).map iD)) ?_
 have l4:=HG b
 have hsm:=xL hc
 have jY:(List.map iD (ZD b.g (b.bl.length+1))).length=b.bl.length+1:=by rw[bC,wT]
 obtain⟨aV,hk,OD⟩:=aNO.1 xC
 have hig:i<b.g.length:=by rw[b.xV];exact aV
 have cC:(i:Int)<b.bl.length:=by omega
 have DK:(i:Int)<((b.bl.length+1:Nat):Int):=by omega
 have hx:=bI i
 have cJ:=bM i
 have cD:=E1 aV
 have nI:=xF hc aV
 have htx:=NF b.bl[i] (bU aV)
 have hgc:=KC b.g (show i<b.bl.length+1 by omega)
 have hn1:=aOx xC hig
 have hn2:=aLP xC hig
 rw[b.aA1 aV] at hn1 hn2
 obtain⟨x,tV⟩:∃x,x=b.bl[i]:=⟨_,rfl⟩
 rw[<-tV] at cD hk nI htx hn1 hn2
 simp only[JI] at cD
 refine aQ _ _ func65 rfl rfl ntmps65 results65 (by simp) fun w0 g0 Q aD=>?_
 refine tq @qM.eq_1 ?_;intro Nx aB Gx aF
 intro c3 j5 c5 lY
 have fM:c3≠c5:=nZ (aO _ _ _) lY
 have aA6:H c5=none:=(bY.1 lY).2
 refine aB _ ?_
 refine cA 3 rfl ((aN fM).trans (aO _ _ _)) rfl ?_
 refine cA 5 rfl ((bS fM.symm).trans (aO _ _ _)) rfl ?_
 refine eV H (fun x z hz=>?_) ?_
 ·have e1:x≠c3:=fun e=>by rw[e,j5] at hz;cases hz
  have e2:x≠c5:=fun e=>by rw[e,aA6] at hz;cases hz
  show((((H.bH c3 _).bH c5 _).del c3).del c5) x=_
  rw[bS e2,bS e1,aN e2,aN e1]
  exact hz
 simp only[St.jH,List.drop]
 refine tq (kB cD hx cJ aV cC l4) ?_;intro Nx aB Gx aF
 intro c7 EG
 refine aB _ ?_
 refine fZ 7 EG ?_
 by_cases hks:k<x.st.length
 ·have q1:=lT k x.st.length (by omega)
  have w1:IntKind.i64.wrap ((cY b.g i:Int)+(k:Int))=p:=by rw[bF (by omega)];omega
  have w2:IntKind.i64.wrap (p+1)=p+1:=by rw[bF (by omega)]
  have e:=hn1 hks
  refine tq q1 ?_;intro Nx aB Gx aF
  refine dE (fun _ _ _ _=>False) fun Nx aB=>?_;refine dst (nF hgc hx cJ DK jY w1 w2) ?_;intro Nx aB Gx aF
  refine tq trivial ?_;intro Nx aB Gx aF
  refine rt aD trivial ?_
  exact⟨_,aG _,aG _,_,aH (aG _),by rw[e] <;> rfl⟩
 have q1:=lF k x.st.length (by omega)
 have e:=hn2 (by show k=x.st.length;omega)
 have wI:=lm iD x.tg
 refine tq (dG q1 wI) ?_;intro Nx aB Gx aF
 refine aZ x.tg.length (fun j s=>s.df=[]/\s.fr 1=.seq 1 ((ZD b.g (b.bl.length+1)).map iD)/\s.fr 3=.rp (qM b)/\s.fr 35=.seq 1 (x.tg.map iD)/\s.fr 36=i64 x.tg.length/\s.fr 37=i64 j/\H.le s.H/\∃ob,Gl H 3 1 ((tgP b.g (x.tg.take j)).map iD) (s.fr 8) s.H ob) ⟨rfl,rfl,rfl,rfl,rfl,rfl,aG _,none,iW _ _ _ _⟩ ?_
 rintro j s hj ⟨aT,f1,f3,f35,f36,f37,aS,ob,hg⟩
 simp only[qM] at f3
 have G8:=bI j
 have xB:=bM j
 have htp:=aMF b.g (x.tg.take j)
 rw[dU] at htp
 by_cases fQ:j<x.tg.length
 case neg=>
  have q2:=lF j x.tg.length (by omega)
  rw[cW (by omega)] at hg htp
  refine tq (eA f36 f37 q2) ?_;intro Nx aB Gx aF
  rcases hg with⟨_,e1,e2⟩|⟨c,o,e0,e1,e2,e3⟩
  ·have AM:tgP b.g x.tg=[]:=by simpa using e2
   rw[e1]
   refine(KA _).mono ?_
   rintro d _ ⟨rfl,rfl⟩
   refine tq e1 ?_;intro Nx aB Gx aF
   refine(MW _).mono ?_
   rintro d _ ⟨rfl,rfl⟩
   refine tq trivial ?_;intro Nx aB Gx aF
   refine rt aD aT ?_
   exact⟨_,aG _,aS,.seq 1 [],qA,by rw[<-e,AM];simp [fX,tP]⟩
  ·rw[bC] at e1
   rw[e1]
   refine(KB e3 (by omega)).mono ?_
   rintro d _ ⟨rfl,rfl⟩
   refine tq e1 ?_;intro Nx aB Gx aF
   have h5:((s.H.bH c (.row 3 o 1 ((fX (tgP b.g x.tg)).map iD))) c)=some (.row 3 o 1 ((fX (tgP b.g x.tg)).map iD)):=aO _ _ _
   have h6:=MX h5 (by rw[iF];omega)
   rw[iF] at h6
   refine h6.mono ?_
   rintro d _ ⟨rfl,K2,rfl,aHB⟩
   refine tq trivial ?_;intro Nx aB Gx aF
   refine rt aD aT ?_
   have eM:H.le (s.H.bH c (.row 3 o 1 (K2.map iD))):=bK aS e2
   have hnl:(tP (fX (tgP b.g x.tg))).length<=K2.length:=by have:=cS List.length aHB;rw[dU] at this;omega
   exact⟨_,aG _,eM,_,yY (k:=0) eM (aO _ _ _) e2 (by rw[bC];omega),by rw[jB,<-qB,aHB,e]⟩
 have q2:=lT j x.tg.length (by omega)
 have qR:=cO fQ
 have w4:=wS j (by omega)
 have pY:=dH fQ
 obtain⟨t,hte⟩:∃t,t=x.tg[j]:=⟨_,rfl⟩
 rw[<-hte] at qR pY
 have qT:=aIj b.g (x.tg.take j) t
 rw[<-pY,b.xV] at qT
 by_cases AM:0<=t
 case neg=>
  have q3:(0<=t)=False:=aI AM
  rw[aA fun h=>AM h.1,iJ] at qT
  refine tq (rQ f35 f36 f37 q2 q3 qR G8 xB fQ wI w4) ?_;intro Nx aB Gx aF
  exact⟨fQ,aT,f1,f3,f35,f36,rfl,aS,ob,by rw[qT];exact hg⟩
 have q3:(0<=t)=True:=aK AM
 by_cases htb:t<b.bl.length
 case neg=>
  have q4:(t<(b.bl.length:Int))=False:=aI htb
  rw[aA fun h=>htb h.2,iJ] at qT
  refine tq (DH f3 f35 f36 f37 q2 q3 q4 qR G8 xB fQ wI l4 w4) ?_;intro Nx aB Gx aF
  exact⟨fQ,aT,f1,f3,f35,f36,rfl,aS,ob,by rw[qT];exact hg⟩
 have q4:(t<(b.bl.length:Int))=True:=aK htb
 rw[aE ⟨AM,htb⟩] at qT
 have rK:=KC b.g (show t.toNat<b.bl.length+1 by omega)
 have aZI:t<((b.bl.length+1:Nat):Int):=by omega
 refine tq (aNW f1 f3 f35 f36 f37 q2 q3 q4 qR G8 xB fQ wI l4 rK AM aZI jY) ?_;intro Nx aB Gx aF
 refine dD (e:=3) kZ rfl kZ rfl PF rfl (by decide) aS hg (new:=[iD (cY b.g t.toNat:Int)]) (by exact⟨rfl,rfl⟩) (by rw[bC];show(_+1) * 8<=_;omega) fun d H6 oG j6 eM nJ=>?_
 refine tq (dG f37 w4) ?_;intro Nx aB Gx aF
 refine⟨fQ,aT,f1,f3,f35,f36,rfl,eM,oG,?_⟩
 rw[qT,cQ]
 exact j6
def HH (G:Gr) (i n:Nat):List (Nat×Nat×Nat):=(List.range n).map fun k=>(cY G i+k,i,k)
def BY (G:Gr) (n:Nat):List (Nat×Nat×Nat):=(List.range n).flatMap fun i=>HH G i ((G.getD i (0,[])).1+1)
theorem U1 (G:Gr) (i n:Nat):HH G i (n+1)=HH G i n++[(cY G i+n,i,n)]:=by unfold HH;rw[P3,cQ];rfl
theorem LC {G:Gr} {n:Nat} (h:n<G.length):BY G (n+1)=BY G n++HH G n (G[n].1+1):=by
 unfold BY
 rw[P3,CU]
 simp [oT,bX h]
theorem V0 {a b:Nat} (h:a<=b):∃t,List.range b=List.range a++t:=by
 obtain⟨k,rfl⟩:=Nat.exists_eq_add_of_le h
 exact⟨_,List.range_add⟩
theorem aGL (G:Gr) (i:Nat) {a b:Nat} (h:a<=b):HH G i a<+:HH G i b:=by
 obtain⟨t,ht⟩:=V0 h
 unfold HH
 rw[ht,cQ]
 exact⟨_,rfl⟩
theorem aGC (G:Gr) {a b:Nat} (h:a<=b):BY G a<+:BY G b:=by
 obtain⟨t,ht⟩:=V0 h
 unfold BY
 rw[ht,CU]
 exact⟨_,rfl⟩
theorem aJ5 {G:Gr} {i k:Nat} (h:i<G.length) (hk:k<=G[i].1+1):BY G i++HH G i k<+:BY G G.length:=by
 refine List.IsPrefix.trans ?_ (aGC G (show i+1<=G.length by omega))
 rw[LC h]
 exact(List.prefix_append_right_inj _).2 (aGL G i hk)
def ptD (x:Nat×Nat×Nat):List D:=[i64 x.1,.agg [i64 x.2.1,i64 x.2.2]]
theorem aNL (b:sO) (hc:bZ b.g<=1000000):Z8 prog 126 [.rp (qM b)] ptD (BY b.g b.g.length) fun _=>True:=by
 have l4:=HG b
 have hsm:=xL hc
 refine aD8 _ func126 rfl rfl ntmps126 results126 (by simp) fun l J Jx H w0 g0 Q fI hJ hY aD=>?_
 refine tq (eA @qM.eq_1 @yD.eq_1 l4) ?_;intro Nx aB Gx aF
 refine aZ b.bl.length (fun i s=>s.df=[]/\s.fr 0=yD l/\s.fr 3=i64 (cY b.g i)/\s.fr 8=.seq 7 (b.bl.map JI)/\s.fr 9=i64 b.bl.length/\s.fr 10=i64 i/\J (BY b.g i) s.H) ⟨rfl,rfl,rfl,rfl,rfl,rfl,hJ⟩ ?_
 rintro i s hi ⟨aT,f0,f3,f8,f9,f10,hj⟩
 have hx:=bI i
 have cJ:=bM i
 by_cases aV:i<b.bl.length
 case neg=>
  have q1:=lF i b.bl.length (by omega)
  have e:i=b.g.length:=by rw[b.xV];omega
  subst e
  refine tq (eA f9 f10 q1) ?_;intro Nx aB Gx aF
  exact aD _ _ (.inl rfl) aT (.inl hj)
 have q1:=lT i b.bl.length (by omega)
 have cC:(i:Int)<b.bl.length:=by omega
 have cD:=E1 aV
 have nI:=xF hc aV
 have LW:=AY b aV
 have hig:i<b.g.length:=by rw[b.xV];exact aV
 have lP:=fun k=>aJ5 (G:=b.g) (i:=i) (k:=k) hig
 have fF:=LC hig
 rw[b.aA1 aV] at lP fF
 obtain⟨x,tV⟩:∃x,x=b.bl[i]:=⟨_,rfl⟩
 rw[<-tV] at cD nI LW lP fF
 simp only at lP fF
 simp only[JI] at cD
 have w1:IntKind.i64.wrap ((x.st.length:Int)+1)=((x.st.length+1:Nat):Int):=by rw[bF (by omega)];omega
 have w3:=wS i (by omega)
 refine tq (nN f8 f9 f10 q1 cD hx cJ aV cC l4) ?_;intro Nx aB Gx aF
 intro c5 lY
 refine aB _ ?_
 refine fZ 5 lY ?_
 refine tq w1 ?_;intro Nx aB Gx aF
 refine aZ (x.st.length+1) (fun k s=>s.df=[]/\s.fr 0=yD l/\s.fr 3=i64 (cY b.g i+k:Nat)/\s.fr 4=i64 i/\s.fr 8=.seq 7 (b.bl.map JI)/\s.fr 9=i64 b.bl.length/\s.fr 10=i64 i/\s.fr 18=i64 (x.st.length+1:Nat)/\s.fr 19=i64 k/\J (BY b.g i++HH b.g i k) s.H) ⟨aT,f0,f3,rfl,f8,f9,f10,rfl,rfl,by unfold HH;rw[List.range_zero,nE,iJ];exact hj⟩ ?_
 rintro k s2 hk ⟨GG,g0,g3,g4,g8,g9,Z0,g18,g19,gj⟩
 by_cases CA:k<x.st.length+1
 case neg=>
  have q2:((k:Int)<((x.st.length+1:Nat):Int))=False:=aI (by omega)
  have e:k=x.st.length+1:=by omega
  subst e
  rw[<-fF] at gj
  have e2:cY b.g i+(x.st.length+1)=cY b.g (i+1):=by omega
  rw[e2] at g3
  refine tq (jE Z0 g18 g19 q2 w3) ?_;intro Nx aB Gx aF
  exact⟨aV,GG,g0,g3,g8,g9,rfl,gj⟩
 have q2:((k:Int)<((x.st.length+1:Nat):Int))=True:=aK (by omega)
 have w4:IntKind.i64.wrap (((cY b.g i+k:Nat):Int)+1)=((cY b.g i+(k+1):Nat):Int):=by rw[bF (by omega)];omega
 have w5:=wS k (by omega)
 have hpk:=lP (k+1) (by omega)
 rw[U1,<-iR] at hpk
 (have fs:=And.intro g0 (And.intro g3 (And.intro g4 (And.intro g18 (And.intro g19 q2))));(iterate 11 (first|refine aF _ ?_|refine aB _ ?_|refine dW ?_|refine dV ?_|refine fE ?_|refine cU ?_|refine cV ?_|refine cL ?_|refine bP ?_|((first|refine tS fun Nx aB=>?_|refine mS rfl rfl (by kernel_rfl) (by kernel_rfl) fun Gx aF=>?_|refine cH (by kernel_rfl) ?_|refine mJ fun A B wL wM=>?_);refine qK ?_;(first|refine aF _ ?_|refine aB _ ?_|refine wL ?_|refine wM ?_|skip))));(try clear fs))
 refine QA (5) (by kernel_rfl) ?_;simp (maxSteps:=4000000) only[vX,vB,vT,vZ,oN,kV,mmV,O6,RT,mB,jI,kW,↓nV,OS,eG,W8,QF,U2,yQ,yM,AQ,AR,sF,qE,sE,oL,D.nilPtr,D.nK,D.mY,jK,UK,U8,K3,nH,rE,fieldsOf,l3,TW,UA,UB,UC,EP,TK,D.cells,rG,W4,WW,AS,iN,iL,TS,S8,qI,YS,DG,UI,mK,TD.kX,TD.agg,ZY,DI,yN,cpV,wP,AE,AD,UD,TV,tY,BK,gK,iV,Value.oneCell',nY,nW,mR,reduceCtorEq,sB,oA,fO,fW,↓reduceIte,Nat.reduceEqDiff,Int.reduceLE,Int.reduceLT,Int.reduceNeg,Int.reduceToNat,Nat.reduceAdd,Nat.reduceMul,Nat.reduceLeDiff,Nat.reduceMod,Nat.reduceSub,Int.reduceEq,Int.reduceNe,Int.reduceAdd,Int.reduceSub,Int.reduceMul,nX,WX,g0,g3,g4,g18,g19,i64]
 refine wJ rfl (D1 (BY b.g i++HH b.g i k) (cY b.g i+k,i,k) rfl rfl rfl (by simp [DE]) hY hpk gj rfl (fun H' DR=>?_) fun H' DR=>?_)
 ·refine tq (nF g0 g3 g4 g18 g19 w4 w5) ?_;intro Nx aB Gx aF
  exact⟨CA,GG,g0,rfl,g4,g8,g9,Z0,g18,rfl,by rw[U1,<-iR];exact DR⟩
 ·refine tq (jE g0 g3 g4 g18 g19) ?_;intro Nx aB Gx aF
  exact aD _ _ (.inr rfl) GG (.inr ⟨_,DR⟩)
theorem aPl (b:sO) (H:aC):bE prog 64 [.agg (qM b)] H fun d H'=>d=.fn 126 [.rp (qM b)]/\H=H':=by
 refine aQ _ _ func64 rfl rfl ntmps64 results64 (by simp) fun w0 g0 Q aD=>?_
 refine tq @qM.eq_1 ?_;intro Nx aB Gx aF
 intro c1 mA
 refine aB _ ?_
 refine fZ 1 mA ?_
 refine tq trivial ?_;intro Nx aB Gx aF
 refine rt aD trivial ?_
 exact⟨_,aG _,rfl,rfl⟩
theorem aHq {G:Gr} {n:Nat} {x:Nat×Nat×Nat}:x∈BY G n↔x.2.1<n/\x.2.2<=(G.getD x.2.1 (0,[])).1/\x.1=cY G x.2.1+x.2.2:=by
 unfold BY HH
 rw[tF]
 constructor
 ·rintro⟨i,hi,h⟩
  obtain⟨k,hk,rfl⟩:=eW.1 h
  rw[oB] at hi hk
  exact⟨hi,by simp only;omega,rfl⟩
 ·rintro⟨h1,h2,h3⟩
  exact⟨x.2.1,oB.2 h1,eW.2 ⟨x.2.2,oB.2 (by omega),by rw[<-h3]⟩⟩
noncomputable def JD (G:Gr) (l:List (Nat×Nat×Nat)):List (Int×Int):=l.flatMap fun x=>(nxt G x.1).map fun q=>((x.1:Int),q)
theorem aEo (G:Gr) (l:List (Nat×Nat×Nat)) (x:Nat×Nat×Nat):JD G (l++[x])=JD G l++(nxt G x.1).map fun q=>((x.1:Int),q):=by
 unfold JD;rw[CU];simp
theorem aGK (G:Gr) (i n:Nat):(HH G i n).map (·.1)=(List.range n).map fun k=>cY G i+k:=by
 unfold HH;rw[oZ];rfl
theorem QD (G:Gr):∀n,n<=G.length->(BY G n).map (·.1)=List.range (cY G n)
 |0,_=>rfl
 |n+1,h=>by
  rw[LC (by omega),cQ,QD G n (by omega),aGK,mT (by omega),C0]
  exact List.range_add.symm
theorem aG8 (G:Gr):JD G (BY G G.length)=tQ G:=by
 have h1:=QD G G.length (dI _)
 rw[nS (dI _)] at h1
 unfold JD tQ vN
 rw[<-h1,oZ,List.flatMap_map]
 rfl
theorem aG9 (G:Gr) (l:List (Nat×Nat×Nat)):(JD G l).length<=l.length * bZ G:=by
 induction l with
 |nil=>simp [JD]
 |cons x l ih=>
  have:JD G (x::l)=((nxt G x.1).map fun q=>((x.1:Int),q))++JD G l:=rfl
  rw[this,bN,bC,eO,oY]
  have:=YW G x.1
  omega
theorem aGB (G:Gr):(BY G G.length).length=bZ G:=by
 have h1:=cS List.length (QD G G.length (dI _))
 rwa[bC,PY,nS (dI _)] at h1
theorem aNK {b:sO} {x:Nat×Nat×Nat} (h:x∈BY b.g b.g.length):At b.g x.1 x.2.1 x.2.2:=by
 obtain⟨h1,h2,h3⟩:=aHq.1 h
 refine⟨h1,?_,by omega⟩
 rw[oT,bX h1] at h2
 exact h2
def EdI (H:aC) (c:Nat) (l:List (Int×Int)) (Hc:aC):Prop:=H.le Hc/\∃x ob,Hc c=some (.row 23 0 1 [[x]])/\Gl H 48 2 (l.map pD) x Hc ob/\ob≠some c
theorem aJy (b:sO) (H:aC) (hc:bZ b.g<=1000000) (NF:∀x∈b.bl,x.tg.length<=1000000):bE prog 30 [.agg (qM b)] H fun d H'=>d=.seq 2 ((tQ b.g).map pD)/\H=H':=by
 refine bO (K:=fun d=>d=.seq 2 ((tQ b.g).map pD)) ?_
 refine xR _ _ func30 rfl rfl ntmps30 results30 (by simp) fun w0 g0 Q aD=>?_
 refine tq @qM.eq_1 ?_;intro Nx aB Gx aF
 intro c1 mA
 refine aB _ ?_
 refine fZ 1 mA ?_
 refine tq trivial ?_;intro Nx aB Gx aF
 intro c3 j5
 refine aB _ ?_
 refine tq trivial ?_;intro Nx aB Gx aF
 refine(aBT b _ hc).mono ?_
 rintro d _ ⟨rfl,rfl⟩
 refine tq trivial ?_;intro Nx aB Gx aF
 intro c4 uL
 refine aB _ ?_
 refine fZ 4 uL ?_
 refine tq trivial ?_;intro Nx aB Gx aF
 refine(aPl b _).mono ?_
 rintro d _ ⟨rfl,rfl⟩
 refine tq trivial ?_;intro Nx aB Gx aF
 have rT:H.le (H.bH c3 (.row 23 0 1 [[.val (.slice none 0 0)]])):=bK (aG _) j5
 refine sR (fun s=>s.df=[]/\s.fr 1=.rp (qM b)/\s.fr 3=.ep c3 0 1 0 0/\s.fr 4=.rp [.seq 1 ((ZD b.g (b.bl.length+1)).map iD)]/\s.fr 12=.fn 126 [.rp (qM b)]/\H.le s.H/\EdI H.DS c3 [] s.H) ⟨rfl,rfl,rfl,rfl,rfl,rT,mH (L6 H) rT,_,none,aO _ _ _,iW _ _ _ _,by simp⟩ ?_
 rintro s ⟨aT,f1,f3,f4,f12,aY,hI0⟩
 simp only[qM] at f1
 refine yW rfl (aNL b hc) f12 (fun _ _=>trivial) (by simp) (fun _=>rfl) (fun pre=>EdI H.DS c3 (JD b.g pre)) (fun _ _ _=>False) ?_ ?_ ?_ ?_ ?_ ?_
 ·rintro pre H1 H2 hr ⟨h1,x,ob,h2,h3,h4⟩
  refine⟨nU (rX H) h1 hr,x,ob,hr _ _ h2 (by simp),?_,h4⟩
  rcases h3 with h3|⟨c,o,g1,g2,g3,g4⟩
  ·exact .inl h3
  ·exact .inr ⟨c,o,g1,g2,g3,hr _ _ g4 (by simp)⟩
 ·exact fun _ _ _ _ _ h=>h
 ·exact hI0
 ·rintro l w1 pre x Hc o gk1 lP ⟨g1,xs,ob,g2,g3,g4⟩ kN hl
  rw[ptD,aPH]
  refine tq (jE eY eX eN bW aT) ?_;intro Nx aB Gx aF
  intro b9 hb9
  refine aB _ ?_
  simp only[eQ]
  refine⟨rfl,lU.new (xE _) hb9,fun w2 y gk2=>?_⟩
  have n5:∀c x,Hc c=some x->c≠b9:=fun c x h e=>by rw[e,hb9] at h;cases h
  have nl:∀c t o sz els,Hc c=some (.row t o sz els)->c≠l:=fun c t o sz els h e=>by rw[e,hl] at h;cases h
  have n3:=nl _ _ _ _ _ g2
  have l5:=n5 _ _ hl
  have hxm:x∈BY b.g b.g.length:=lP.subset (by simp)
  have zB:pre.length+1<=bZ b.g:=by
   have h1:=lP.length_le
   rw[aGB,bN,wB] at h1
   exact h1
  have DB:=aG9 b.g pre
  have aQX:pre.length * bZ b.g<=1000000 * 1000000:=pW (by omega) hc
  have qT:=aEo b.g pre x
  refine cA 6 rfl (b:=b9) (by simp only[s5,eX,lX];rw[aN (Ne.symm l5),aO]) rfl ?_
  simp only[St.jH,s5,eX,lX,nA,bW,jN,F8 (Ne.symm l5),wC,tH hb9,List.drop]
  have OC:=fun (x:fK) (hx:∀o,x≠ .obj o)=>BI (H:=Hc) (b:=b9) (l:=l) (y:=y) hx
  refine tq (kB f1 f4 eY eX eN bW) ?_;intro Nx aB Gx aF
  refine(aRW b x.1 x.2.1 x.2.2 _ (aNK hxm) hc NF).mono ?_
  rintro d _ ⟨rfl,rfl⟩
  have hnl:=YW b.g x.1
  have dX:(List.map iD (nxt b.g x.1)).length=(nxt b.g x.1).length:=bC _
  obtain⟨L,hL⟩:∃L,L=nxt b.g x.1:=⟨_,rfl⟩
  rw[<-hL] at hnl dX qT ⊢
  refine tq dX ?_;intro Nx aB Gx aF
  have hHb:EdI H.DS c3 (JD b.g pre) (Hc.bH l (.obj y)):=by
   refine⟨nU (rX H) g1 (s7 hl),xs,ob,(aN n3).trans g2,?_,g4⟩
   exact g3.fS fun c h=>aN fun e=>by
    rcases g3 with g3|⟨c',o',h1,_,_,h2⟩
    ·rw[g3.1] at h;cases h
    ·rw[h1] at h;injection h with h;rw[h,e,hl] at h2;cases h2
  refine aZ L.length (fun j s=>s.df=[]/\s.fr 3=.ep c3 0 1 0 0/\s.fr 5=i64 x.1/\s.fr 18=.seq 1 (L.map iD)/\s.fr 19=i64 L.length/\s.fr 20=i64 j/\lU ((Hc.bH b9 (.row 125 0 2 [[i64 x.2.1,i64 x.2.2]])).bH l (.obj y)) s.H/\EdI H.DS c3 (JD b.g pre++(L.take j).map fun q=>((x.1:Int),q)) s.H) ⟨rfl,f3,rfl,rfl,rfl,rfl,OC _ (by simp),by rw[wZ,nE,iJ];exact hHb⟩ ?_
  rintro j s2 hj ⟨GG,k3,k5,k18,k19,k20,kob,kle,xs2,ob2,kc3,kg,kne⟩
  have G8:=bI j
  have xB:=bM j
  by_cases fQ:j<L.length
  case neg=>
   have q2:=lF j L.length (by omega)
   rw[cW (by omega),<-qT] at kg
   refine tq (eA k19 k20 q2) ?_;intro Nx aB Gx aF
   exact⟨GG,kob,kle,xs2,ob2,kc3,kg,kne⟩
  have q2:=lT j L.length (by omega)
  have qR:=cO fQ
  have w4:=wS j (by omega)
  refine tq (zY k3 k5 k18 k19 k20 q2 dX qR G8 xB fQ kc3) ?_;intro Nx aB Gx aF
  refine dD (e:=48) vY rfl vY rfl ML rfl (by decide) kle kg (new:=[pD ((x.1:Int),L[j])]) (by exact⟨rfl,rfl⟩) (by rw[bC,bN,bC,dU];show(_+1) * 16<=_;omega) fun d H6 oG j6 eM nJ=>?_
  have q3:=nJ _ _ kc3 kne
  have q31:=q3.1
  have hd6:∃c o n,d=.os c o 2 0 n:=by
   rcases j6 with⟨_,_,h⟩|⟨c,o,_,h,_⟩
   ·simp at h
   ·exact⟨c,o,_,h⟩
  obtain⟨c',o',n',rfl⟩:=hd6
  have e:(JD b.g pre++(L.take (j+1)).map fun q=>((x.1:Int),q)).map pD=(JD b.g pre++(L.take j).map fun q=>((x.1:Int),q)).map pD++[pD ((x.1:Int),L[j])]:=by
   rw[dH fQ];simp only[cQ,eU,nE,iR]
  (have fs:=q31;refine qK ?_;try clear fs);(first|refine aF _ ?_|refine aB _ ?_|skip)
  refine tq (dG k20 w4) ?_;intro Nx aB Gx aF
  refine⟨fQ,GG,k3,k5,k18,k19,rfl,(FF kob kg nJ).row q31 (by simp),bK eM (rB j5),_,oG,aO _ _ _,?_,q3.2⟩
  rw[e]
  exact j6.fS fun c h=>aN fun e=>q3.2 (by rw[h,e])
 ·rintro Hc M ⟨g1,xs,ob,g2,g3,g4⟩ kN hD NZ
  rw[xP,fP,eQ,aT]
  have hM3:c3≠M:=fun e=>by rw[e,hD] at g2;cases g2
  rw[aG8] at g3
  have g1:=vH g1 aY kN
  have g3:=XY g3 g1
  refine tq (dG f3 g2) ?_;intro Nx aB Gx aF
  refine aD _ _ (.inr rfl) ?_ ?_
  ·(have fs:=f3;refine evG ?_;clear fs)
   exact mk1 hD
  ·(have fs:=f3;refine evG ?_;clear fs)
   rw[J1]
   have hMo:∀c,ob=some c->c≠M:=fun c h e=>by
    rcases g3 with⟨g,_⟩|⟨c2,o2,h1,_,_,h4⟩
    ·rw[g] at h;cases h
    ·rw[h] at h1;injection h1 with h1;rw[<-h1,e,hD] at h4;cases h4
   have iC:H.le (Hc.bH M .hid):=bK g1 (tJ aY NZ)
   exact⟨_,aG _,iC,_,qL iC (g3.fS fun c h=>aN (hMo c h)),rfl⟩
 ·exact fun _ _ _ _ _ _ h=>h.elim
end Go.Proofs.YtfiipaodjpiooaaGreatDoor


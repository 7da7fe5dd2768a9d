/- Lemmas and contracts of functions, several texts in one. -/
import Derived.Test.YtelbfbioomcmeaaGreatDoorQ36
import Derived.WalkKit
import Derived.Test.YtelbfbioomcmeaaGreatDoorProg
import Derived.Laws.CopyOwn
import Derived.Maps.AppendAt
import Derived.Deep.QuietTactic
import Derived.BigQuiet
set_option maxRecDepth 100000
set_option maxHeartbeats 4000000
set_option linter.all false
namespace Go.Proofs.YtelbfbioomcmeaaGreatDoor
open Go.RowKit
open Tryz
def UY (i:Nat) (d:List UInt8):List UInt8:=UInt8.ofNat (i+1)::(put d.length++eR d)
def oW:Nat->List (List UInt8)->List UInt8
 |_,[]=>[]
 |i,d::l=>UY i d++oW (i+1) l
def mag:List UInt8:=[77,73,82,84,1]
def lD (ds:List (List UInt8)):List UInt8:=mag++oW 0 ds
theorem ID:∀(i:Nat) (l m:List (List UInt8)),oW i (l++m)=oW i l++oW (i+l.length) m
 |_,[],_=>rfl
 |i,d::l,m=>by
  simp only[eT,oW,ID (i+1) l m,fN,dN]
  rw[show i+(l.length+1)=i+1+l.length by omega]
theorem D4 {ds:List (List UInt8)} {i:Nat} (h:i<ds.length):oW 0 (ds.take (i+1))=oW 0 (ds.take i)++UY i ds[i]:=by
 rw[dH h,ID,dJ,uI (by omega)]
 simp [oW]
theorem IE {ds:List (List UInt8)} {i:Nat} (h:i<ds.length):∃r,oW 0 ds=oW 0 (ds.take i)++(UY i ds[i]++r):=by
 refine⟨oW (i+1) (ds.drop (i+1)),?_⟩
 have e:ds=ds.take (i+1)++ds.drop (i+1):=(kV _ _).symm
 have e2:oW 0 ds=oW 0 (ds.take (i+1)++ds.drop (i+1)):=cV _ e
 rw[e2,ID,D4 h,dJ,uI (by omega),dN,iZ]
theorem JD (i:Nat) (d:List UInt8):(UY i d).length=1+((put d.length).length+(d.length+4)):=by
 unfold UY;rw[fN,bJ,gA];omega
def aHp (i:Nat) (d:List UInt8):List D:=[i64 (i+1:Nat),.seq 1 (d.map bD)]
def C8 (ds:List (List UInt8)):List (List D):=ds.mapIdx aHp
theorem SA (ds:List (List UInt8)):(C8 ds).length=ds.length:=List.length_mapIdx
theorem R9 {ds:List (List UInt8)} {i:Nat} (h:i<ds.length):(C8 ds)[i]?=some (aHp i ds[i]):=by
 unfold C8;rw[List.getElem?_mapIdx,cP h];rfl
theorem aAk (ds:List (List UInt8)) (H:aA) (hn:ds.length<=127) (hl:(lD ds).length<=1000000000):aT prog 46 [.seq 2 (C8 ds)] H fun d H'=>d=.fV [.seq 1 ((lD ds).map bD),i64 0]/\H=H':=by
 refine bM (K:=fun d=>d=.fV [.seq 1 ((lD ds).map bD),i64 0]) ?_
 have cI:=SA ds
 have a0a:(List.map bD mag).length=5:=rfl
 refine aN _ _ func46 rfl rfl ntmps46 results46 (by simp) fun w0 g0 Q aC=>?_
 refine to trivial ?_;intro Nx aB Gx aG
 intro b hb b2 mW
 obtain⟨n2,mW⟩:=bT.1 mW
 have j9:H.le ((H.bH b (.row 5 0 1 [[.val (.int .u8 77)],[.val (.int .u8 73)],[.val (.int .u8 82)],[.val (.int .u8 84)]])).bH b2 (.row 5 0 1 [[.val (.int .u8 1)]])):=bQ (bQ (aE _) hb) mW
 refine cY (e:=5) u9 rfl u9 rfl ty5 rfl (by decide) j9 (.inr ⟨b,0,rfl,rfl,hb,(aP (Ne.symm n2)).trans (aQ _ _ _)⟩:Gl H 5 1 [[.val (.int .u8 77)],[.val (.int .u8 73)],[.val (.int .u8 82)],[.val (.int .u8 84)]] _ _ _) (new:=[[.val (.int .u8 1)]]) (aCI (aQ _ _ _) rfl) (by decide) fun d H1 ob hg aR _=>?_
 refine tq cI ?_;intro Nx aB Gx aG
 refine bB ds.length (fun i s=>s.df=[]/\s.fr 12=.seq 2 (C8 ds)/\s.fr 13=i64 ds.length/\s.fr 14=i64 i/\s.fr 5=i64 i/\H.le s.H/\∃ob,Gl H 5 1 ((mag++oW 0 (ds.take i)).map bD) (s.fr 4) s.H ob) ⟨rfl,rfl,rfl,rfl,rfl,aR,ob,hg⟩ ?_
 rintro i s hi ⟨bG,f12,f13,f14,f5,aR,ob,hg⟩
 by_cases aZ:i<ds.length
 case neg=>
  have q1:=lF i ds.length (by omega)
  rw[dQ (by omega)] at hg
  refine tq (gE f12 f13 f14 f5 q1) ?_;intro Nx aB Gx aG
  refine rt aC bG ?_
  exact⟨_,aE _,aR,_,pS (TT (sF aR hg) (aJ aR)),rfl⟩
 have q1:=lT i ds.length aZ
 have b8:=R9 aZ
 unfold aHp at b8
 have hx:=bL i
 have cL:=bY i
 have cN:(i:Int)<(ds.length:Int):=by omega
 have q2:(((i+1:Nat):Int)<=(i:Int))=False:=aI (by omega)
 have q3:((127:Int)<((i+1:Nat):Int))=False:=aI (by omega)
 have w3:=wS i (by omega)
 have he:=D4 aZ
 obtain⟨r,T6⟩:=IE aZ
 have hz:(lD ds).length=5+((oW 0 (ds.take i)).length+(1+((put ds[i].length).length+(ds[i].length+4))+r.length)):=by
  unfold lD;rw[T6,bJ,bJ,bJ,JD];rfl
 have hwc:=gA ds[i]
 have FG:(mag++oW 0 (ds.take i)).length=5+(oW 0 (ds.take i)).length:=by rw[bJ];rfl
 have w1:IntKind.u8.wrap ((i+1:Nat):Int)=((UInt8.ofNat (i+1)).toNat:Int):=by rw[qK,yJ];omega
 obtain⟨D1,hD⟩:∃D1,D1=ds[i]:=⟨_,rfl⟩
 rw[<-hD] at b8 hz hwc he
 have hmd:=lm bD D1
 have w2:IntKind.u64.wrap (D1.length:Int)=(D1.length:Int):=j6 (by omega)
 have IP:=nN D1.length (by omega)
 refine tq (pE f12 f13 f14 f5 q1 b8 hx cL cI aZ cN) ?_;intro Nx aB Gx aG
 intro b3 GQ
 refine aB _ ?_
 refine fW 7 GQ ?_
 refine tq (gE f14 f5 q2 q3 w1) ?_;intro Nx aB Gx aG
 refine cY (e:=5) u9 rfl u9 rfl ty5 rfl (by decide) aR hg (new:=[UInt8.ofNat (i+1)].map bD) (by exact⟨rfl,rfl⟩) (by rw[bK,bK,FG];show(_+1) * 1<=_;omega) fun d H1 ob hg aR _=>?_
 rw[<-fI] at hg
 refine tq (cZ w2 hmd) ?_;intro Nx aB Gx aG
 refine(aFk D1.length _ (by omega)).mono ?_
 rintro d _ ⟨rfl,rfl⟩
 refine tq trivial ?_;intro Nx aB Gx aG
 refine cY (e:=5) u9 rfl u9 rfl ty5 rfl (by decide) aR hg (new:=(put D1.length).map bD) (by exact⟨rfl,rfl⟩) (by rw[bK,bK,bJ,FG,nT];show(_+_) * 1<=_;omega) fun d H1 ob hg aR _=>?_
 rw[<-fI] at hg
 refine tq trivial ?_;intro Nx aB Gx aG
 refine(aIZ D1 _ (by omega)).mono ?_
 rintro d _ ⟨rfl,rfl⟩
 refine tq trivial ?_;intro Nx aB Gx aG
 refine cY (e:=5) u9 rfl u9 rfl ty5 rfl (by decide) aR hg (new:=(eR D1).map bD) (by exact⟨rfl,rfl⟩) (by rw[bK,bK,bJ,bJ,FG,nT];show(_+_) * 1<=_;omega) fun d H1 ob hg aR _=>?_
 rw[<-fI] at hg
 refine tq (cZ f14 w3) ?_;intro Nx aB Gx aG
 refine⟨aZ,bG,f12,f13,rfl,rfl,aR,ob,?_⟩
 have e:mag++oW 0 (ds.take (i+1))=mag++oW 0 (ds.take i)++[UInt8.ofNat (i+1)]++put D1.length++eR D1:=by rw[he];unfold UY;simp
 rw[e];exact hg
def BV (ds:List (List UInt8)) (i:Nat):Nat:=5+(oW 0 (ds.take i)).length
def s8 (ds:List (List UInt8)) (i:Nat):List UInt8:=ds.getD i []
def QB (ds:List (List UInt8)) (i:Nat):Nat:=BV ds i+1+(put (s8 ds i).length).length
def S6 (ds:List (List UInt8)) (i:Nat):Nat:=QB ds i+(s8 ds i).length
def aBP (ds:List (List UInt8)) (i:Nat):List D:=[i64 (i+1:Nat),i64 (QB ds i),i64 (S6 ds i),i64 0]
theorem HZ {ds:List (List UInt8)} {i:Nat} (h:i<ds.length):s8 ds i=ds[i]:=by simp [s8,List.getD,h]
theorem NF {ds:List (List UInt8)} {i:Nat} (h:i<ds.length):∃p r,lD ds=p++(UInt8.ofNat (i+1)::(put (s8 ds i).length++(eR (s8 ds i)++r)))/\p.length=BV ds i:=by
 obtain⟨r,hr⟩:=IE h
 refine⟨mag++oW 0 (ds.take i),r,?_,by rw[bJ];rfl⟩
 unfold lD
 rw[hr,HZ h]
 simp [UY]
theorem Z3 {ds:List (List UInt8)} {i:Nat} (h:i<ds.length):BV ds (i+1)=S6 ds i+4:=by
 unfold S6 QB BV
 rw[D4 h,bJ,JD,HZ h];omega
theorem aCT (ds:List (List UInt8)):BV ds ds.length=(lD ds).length:=by
 unfold BV lD;rw[kW,bJ];rfl
theorem OX {ds:List (List UInt8)} {i:Nat} (h:i<ds.length):S6 ds i+4<=(lD ds).length/\BV ds i<QB ds i:=by
 obtain⟨p,r,h1,h2⟩:=NF h
 have h3:=cV List.length h1
 have h4:=gA (s8 ds i)
 simp only[bJ,fN] at h3
 unfold S6 QB
 omega
theorem aH6 (ds:List (List UInt8)) (i:Nat) (H:aA) (h:i<ds.length) (hn:ds.length<=127) (hl:(lD ds).length<=1000000000):
  aT prog 111 [.seq 1 ((lD ds).map bD),i64 (BV ds i),i64 i] H fun d H'=>d=.agg (aBP ds i)/\H=H':=by
 obtain⟨p,r,h1,h2⟩:=NF h
 obtain⟨ht,hf⟩:=OX h
 have hwc:=gA (s8 ds i)
 have SY:QB ds i=BV ds i+1+(put (s8 ds i).length).length:=rfl
 have hto:S6 ds i=QB ds i+(s8 ds i).length:=rfl
 unfold aBP
 generalize hE:lD ds=bs at *
 generalize BV ds i=a at *
 generalize QB ds i=f at *
 generalize S6 ds i=t at *
 generalize hD:s8 ds i=D1 at *
 have cI:=lm bD bs
 have hc:(UInt8.ofNat (i+1)).toNat=i+1:=by rw[yJ];omega
 have hab:a<bs.length:=by omega
 have hg:(bs.map bD)[a]?=some [.val (.int .u8 ((i+1:Nat):Int))]:=by
  rw[cR,h1,qX (by omega),h2,Nat.sub_self,l7]
  show some (bD (UInt8.ofNat (i+1)))=_
  unfold bD
  rw[hc]
 have hnx:HM bs (a+1) D1.length f:=⟨⟨p++[UInt8.ofNat (i+1)],eR D1++r,by rw[h1];simp,by rw[bJ,h2];rfl,by omega⟩,by omega⟩
 have AL:List.drop f (List.take (t+4) (bs.map bD))=(eR D1).map bD:=by
  have e:bs=(p++[UInt8.ofNat (i+1)]++put D1.length)++(eR D1++r):=by rw[h1];simp
  have e2:(p++[UInt8.ofNat (i+1)]++put D1.length).length=f:=by simp only[bJ,nT];omega
  have e3:List.drop f bs=eR D1++r:=by rw[e,<-e2,List.drop_left]
  rw[List.drop_take,<-List.map_drop,e3,<-sW,show t+4 - f=(eR D1).length by omega,List.take_left]
 have w1:IntKind.i64.wrap ((i+1:Nat):Int)=((i+1:Nat):Int):=aY (by omega)
 have w2:=wS a (by omega)
 have hx:=bL a
 have cL:=bY a
 have aIe:(a:Int)<(bs.length:Int):=by omega
 have q1:(((i+1:Nat):Int)<=(i:Int))=False:=aI (by omega)
 have q2:((127:Int)<((i+1:Nat):Int))=False:=aI (by omega)
 have w3:IntKind.i64.wrap ((bs.length:Int) - (f:Int))=(bs.length:Int) - f:=aY (by omega)
 have w4:IntKind.i64.wrap ((bs.length:Int) - (f:Int) - 4)=(bs.length:Int) - f - 4:=aY (by omega)
 have w5:IntKind.u64.wrap ((bs.length:Int) - (f:Int) - 4)=(bs.length:Int) - f - 4:=j6 (by omega)
 have q4:((bs.length:Int) - (f:Int) - 4<0)=False:=aI (by omega)
 have q5:((bs.length:Int) - (f:Int) - 4<(D1.length:Int))=False:=aI (by omega)
 have w6:IntKind.i64.wrap (D1.length:Int)=(D1.length:Int):=aY (by omega)
 have w7:IntKind.i64.wrap ((f:Int)+(D1.length:Int))=(t:Int):=by rw[aY (by omega)];omega
 have w8:IntKind.i64.wrap ((t:Int)+4)=((t+4:Nat):Int):=by rw[aY (by omega)];omega
 have hxf:=bL f
 have hxt:((t+4:Nat):Int).toNat=t+4:=bL _
 clear hE hD
 refine aN _ _ func111 rfl rfl ntmps111 results111 (by simp) fun w0 g0 Q aC=>?_
 refine tq (rF hg w1 w2 hx cL hab aIe cI q1 q2) ?_;intro Nx aB Gx aG
 intro r0 hr0
 refine aB _ ?_
 refine tq (rF hg w1 w2 hx cL hab aIe cI q1 q2) ?_;intro Nx aB Gx aG
 refine(aBU hnx _ (by omega)).mono ?_
 rintro d _ ⟨rfl,rfl⟩
 refine tq (CF cI w3 w4 w5 q4 q5 w6 w7 w8 AL hxf hxt) ?_;intro Nx aB Gx aG
 refine⟨by omega,by omega,by omega,(aGS D1 _ (by omega)).mono ?_⟩
 rintro d _ ⟨rfl,rfl⟩
 refine tq trivial ?_;intro Nx aB Gx aG
 refine rt aC trivial ?_
 exact⟨H,bQ (aE _) hr0,rfl⟩
end Go.Proofs.YtelbfbioomcmeaaGreatDoor


/- Lemmas and contracts of functions, several texts in one. -/
import Derived.Test.YtfiipaodjpiooaaGreatDoorQ36
import Derived.Test.YtfiipaodjpiooaaGreatDoorQ40
import Derived.Test.YtfiipaodjpiooaaGreatDoorQ38
import Derived.Test.YtfiipaodjpiooaaGreatDoorQ37
set_option maxRecDepth 100000
set_option maxHeartbeats 4000000
set_option linter.all false
namespace Go.Proofs.YtfiipaodjpiooaaGreatDoor
open Go.RowKit
open Tryz
def uT (r:Bool):HF:=⟨if r=true then 2 else 5,[],[],⟨0,[]⟩,ByteArray.empty⟩
def uB (r:Bool):mP:=⟨[],uT r⟩
theorem aZW (b:cT) (r:Bool):BU b (uT r)=0:=by
 cases r <;> (unfold BU;rw[aA (by decide),aA (by decide),aA (by simp [uT]),aA (by decide),aA (by decide),aA (by decide)])
theorem aR8 {b:cT} {t:HF} (h:BU b t=0):∀x∈t.tg,cE b.bl.length x:=by
 unfold BU at h
 split at h
 ·cases h
 split at h
 ·cases h
 split at h
 ·cases h
 rename_i h3
 have h4:(t.tg.all fun x=>decide (cE b.bl.length x))=true:=by cases e:(t.tg.all fun x=>decide (cE b.bl.length x));exact absurd e h3;rfl
 intro x hx
 exact CV (eZ.1 h4 x hx)
theorem aPU {b:cT} (h:qJ b=0):tgG (dK b):=fun y hy t ht=>by
 obtain⟨x,hx,rfl⟩:=eW.1 (show y∈b.bl.map fun x=>(x.st.length,x.tm.tg) from hy)
 rw[jR]
 exact aR8 ((uY h).2 x hx).2.2 t ht
def uN (r:Bool):List D:=[.val (.slice none 0 0),i64 (if r=true then 2 else 5),.val (.slice none 0 0),.val (.slice none 0 0),i64 0,.val (.slice none 0 0),cX ByteArray.empty]
theorem aP3 (r:Bool):yK (uN r) (jP (uB r)):=⟨fR,dQ _,fR,fR,dQ _,fR,dQ _,trivial⟩
theorem aM2 (r:Bool):aPx (uB r):=⟨rfl,rfl⟩
theorem aR5 {b:cT} (ts:Ts b) (r:Bool):Tb (apD b (uB r)):=by
 obtain⟨o1,o2,o3,o5,o6,o7⟩:=id ts.ok
 have t:=ts.tb
 have l4:=ts.sk.bl
 have hu:aLS (uB r):=⟨⟨by unfold dO;exact oD _,fun s hs=>by simp [uB] at hs⟩,by unfold dO;exact oD _,⟨by unfold dO;exact oD _,fun o ho=>by simp [uB,uT] at ho⟩,by unfold L9 dO;exact oD _⟩
 have hm:∀x,x∈b.bl++[uB r]->x∈b.bl\/x=uB r:=fun x hx=>(bV.1 hx).imp id cR.1
 have ok:AG (apD b (uB r)):=⟨o1,o2,o3,o5,by show dO (b.bl++[uB r]).length;rw[bN];show dO (b.bl.length+1);unfold dO;omega,fun x hx=>by
  rcases hm x hx with h|h
  ·exact o7 x h
  ·rw[h];exact hu⟩
 exact {
  ok:=ok
  sb:=aI2 t.sb ok fun x hx=>by
   rcases hm x hx with h|h
   ·exact t.sb.ts x h
   ·rw[h];unfold dO;exact oD _
  ck:=aGR t.ck ok.2.2.2.2.1
  ch:=aJi b (uB r) rfl (oD _) (aZW _ r) (by omega) ts.ch
  cn:=by rw[Q7 (aM2 r),aNM];have:=ts.cn;omega
  lc:=t.lc
  rg:=t.rg
  ar:=fun x hx=>by
   rcases hm x hx with h|h
   ·exact t.ar x h
   ·rw[h];exact⟨fun s hs=>by simp [uB] at hs,oD _⟩}
theorem aGD {P:Program} {H:aC} {t e:TypeId} {td:Ti} {sz uW:Nat} {zs:List Value} {ed:TD} {els:List (List D)} {K:D->aC->Prop}
  (h1:bQ P t=some td) (VF:td.d=.slice e) (h2':td.d.kX=true) (h3:bQ P e=some ⟨ed,sz,uW,some zs⟩) (hzs:zs.length=sz) (hby:uW≠0)
  (hb:els.length * uW<=140737488355328) (k0:els=[]->K .TA H) (k1:els≠[]->∀b,H b=none->K (.os b 0 sz 0 els.length) (H.bH b (.row e 0 sz els))):WX P H t t .TA (.seq sz els) K:=by
 obtain⟨d0,s0,b0,z0⟩:=td
 simp only at VF h2'
 subst VF
 unfold WX
 rw[h1]
 simp only[h3]
 exact⟨h2',hzs,hby,rfl,hb,k0,k1⟩
theorem aNN {P:Program} {H:aC} {t e:TypeId} {td:Ti} {sz uW:Nat} {zs:List Value} {ed:TD} {A:List (List D)} {y:List D} {K:D->D->aC->Prop}
  (h1:bQ P t=some td) (VF:td.d=.slice e) (h2':td.d.kX=true) (h3:bQ P e=some ⟨ed,sz,uW,some zs⟩) (hzs:zs.length=sz) (hby:uW≠0)
  (hb:(A.length+1) * uW<=140737488355328) (hk:∀d0 c o H',Gl aC.none e sz (A++[y]) (.os c o sz 0 (A++[y]).length) H' (some c)->(∀b z,H b=some z->H' b=some z/\some c≠some b)->K d0 (.os c o sz 0 (A++[y]).length) H'):
  WX P H t t .TA (.seq sz A) fun d H'=>WX P H' t t d (.seq sz [y]) (K d):=by
 have hnw:∀(b c:Nat) (z:fK),H b=some z->H c=none->b≠c:=fun b c z e1 e2 e=>by rw[e,e2] at e1;cases e1
 refine aGD h1 VF h2' h3 hzs hby (qQ (lQ _ (Nat.le_succ _)) hb) (fun e=>?_) fun e b wN=>?_
 ·subst e
  refine aGD h1 VF h2' h3 hzs hby hb (fun e=>by simp at e) fun _ b wN=>?_
  exact hk _ b 0 _ (.inr ⟨b,0,rfl,rfl,rfl,aO _ _ _⟩) fun c z hc=>⟨by rw[aN (hnw _ _ _ hc wN)];exact hc,fun e=>hnw _ _ _ hc wN (by injection e with e;exact e.symm)⟩
 ·refine dD (H0:=aC.none) h1 VF h1 h2' h3 hzs hby (iY _) (.inr ⟨b,0,rfl,rfl,rfl,aO _ _ _⟩) (new:=[y]) (by exact⟨rfl,rfl⟩) hb fun d H' ob hg aS hp=>?_
  rcases hg with⟨_,_,h⟩|⟨c,o,rfl,rfl,h5,h6⟩
  ·simp at h
  ·exact hk _ c o H' (.inr ⟨c,o,rfl,rfl,h5,h6⟩) fun b' z B7=>hp b' z (by rw[aN (hnw _ _ _ B7 wN)];exact B7) fun e=>hnw _ _ _ B7 wN (by injection e with e;exact e.symm)
theorem aOr (b:cT) (r:Bool) (ok:AG b):bE prog 4 [.agg (iS b),.val (.bool r)] .none fun d _=>d=.val (.bool true):=by
 have TI:=fun H1=>ES b H1 ok
 have BC:=fun H1 h=>aCO b H1 h
 unfold iS at TI BC ⊢
 refine aQ _ _ func4 rfl rfl ntmps4 results4 (by simp) fun w0 g0 Q aD=>?_
 refine tq trivial ?_;intro Nx aB Gx aF
 intro c2 lH
 refine aB _ ?_
 refine fZ 2 lH ?_
 refine tq trivial ?_;intro Nx aB Gx aF
 refine(TI _).mono ?_
 rintro d _ ⟨hd,rfl⟩
 rcases hd with rfl|⟨rfl,ts⟩
 ·refine tq trivial ?_;intro Nx aB Gx aF
  refine(kQ _).mono ?_
  rintro d _ ⟨rfl,rfl⟩
  refine tq trivial ?_;intro Nx aB Gx aF
  refine rt aD trivial ?_
  exact⟨_,aG _⟩
 refine tq trivial ?_;intro Nx aB Gx aF
 refine(BC _ (by have:=ts.cn;omega)).mono ?_
 rintro d _ ⟨rfl,rfl⟩
 by_cases h59:bZ (dK b)<=59
 case neg=>
  have q1:((59:Int)<(bZ (dK b):Int))=True:=aK (by omega)
  refine tq q1 ?_;intro Nx aB Gx aF
  refine(kQ _).mono ?_
  rintro d _ ⟨rfl,rfl⟩
  refine tq trivial ?_;intro Nx aB Gx aF
  refine rt aD trivial ?_
  exact⟨_,aG _⟩
 have q1:((59:Int)<(bZ (dK b):Int))=False:=aI (by omega)
 have gV:=fun H1=>I9 ts.tb H1
 have X2:=fun H1=>I9 (aR5 ts r) H1
 rw[aMQ (aM2 r) (aPU ts.ch)] at X2
 have heq:=fun H1=>QY H1 (rZ b) (rZ b) (by
  have h1:=zF (VP b) (mO b).length (bZ (dK b))
  have h2:=HY b
  have h3:=ts.cn
  have h4:(mO b).length * bZ (dK b)<=60 * 60:=pW (by omega) h3
  show(tO _ _ _).length<=_
  omega)
 rw[bG rfl] at heq
 unfold iS at gV
 simp only[iS,apD,FT] at X2
 refine tq q1 ?_;intro Nx aB Gx aF
 intro c5 lY
 refine aB _ ?_
 refine tq trivial ?_;intro Nx aB Gx aF
 intro c6 DJ
 have n56:c5≠c6:=nZ (aO _ _ _) DJ
 refine aB _ ?_
 show W _ _ _ _
 refine bP ?_
 refine I0 (fun s=>s.df=[]/\s.fr 2=.rp [cX b.nm,.seq 1 (b.rg.map sD),.seq 2 (b.ol.map pD),.seq 5 (b.ty.map cP),.seq 2 (b.lc.map mN),i64 b.ag,.seq 7 (b.bl.map jP)]/\s.fr 5=.ep c5 0 7 0 0/\s.fr 6=.ep c6 0 6 0 0/\s.H c5=some (.row 28 0 7 [[cX b.nm,.seq 1 (b.rg.map sD),.seq 2 (b.ol.map pD),.seq 5 (b.ty.map cP),.seq 2 (b.lc.map mN),i64 b.ag,.seq 7 (b.bl.map jP)]])/\s.H c6=some (.row 38 0 6 [[i64 (if r=true then 2 else 5),.val (.slice none 0 0),.val (.slice none 0 0),i64 0,.val (.slice none 0 0),cX ByteArray.empty]])) ?_ ?_
 ·cases r
  ·refine tq trivial ?_;intro Nx aB Gx aF
   exact⟨rfl,rfl,rfl,rfl,(aN n56).trans (aO _ _ _),aO _ _ _⟩
  ·refine tq trivial ?_;intro Nx aB Gx aF
   exact⟨rfl,rfl,rfl,rfl,(aN n56).trans (aO _ _ _),aO _ _ _⟩
 rintro s ⟨aT,f2,f5,f6,h5,h6⟩
 refine cA 6 f6 h6 rfl ?_
 refine sR (fun s=>s.df=[]/\s.fr 2=.rp [cX b.nm,.seq 1 (b.rg.map sD),.seq 2 (b.ol.map pD),.seq 5 (b.ty.map cP),.seq 2 (b.lc.map mN),i64 b.ag,.seq 7 (b.bl.map jP)]/\s.fr 5=.ep c5 0 7 0 0/\s.fr 6=.rp [i64 (if r=true then 2 else 5),.val (.slice none 0 0),.val (.slice none 0 0),i64 0,.val (.slice none 0 0),cX ByteArray.empty]/\s.H c5=some (.row 28 0 7 [[cX b.nm,.seq 1 (b.rg.map sD),.seq 2 (b.ol.map pD),.seq 5 (b.ty.map cP),.seq 2 (b.lc.map mN),i64 b.ag,.seq 7 (b.bl.map jP)]])) ⟨aT,f2,f5,rfl,(bS n56).trans h5⟩ ?_
 clear aT f2 f5 f6 h5 h6
 rintro s ⟨aT,f2,f5,f6,h5⟩
 refine bP ?_
 refine wE (fun t=>t==some 26||t==some 28||t==some 30) (fun _=>false) (fun _ _ _ _=>False) (fun _ _ _ _ _=>False) fun Nx aB=>?_;have fs:=And.intro f2 (And.intro f5 (And.intro f6 h5));refine TU ?_;(first|refine aF _ ?_|refine aB _ ?_|skip);(try clear fs)
 refine aNN (A:=b.bl.map jP) (y:=uN r) aML rfl rfl aP1 rfl (by decide) (by rw[bC];show(_+1) * _<=_;have:=ts.sk.bl;omega) fun d0 c o H7 hg hp=>?_
 have h7:=hp c5 _ h5
 have h57:=h7.1
 (have fs:=h57;refine qK ?_;try clear fs);(first|refine aF _ ?_|refine aB _ ?_|skip)
 show W _ _ _ _
 refine aBc 5 aC.none (.rp (iS (apD b (uB r)))) (iY _) (by show GB _ _ (s.fr 5) _;rw[f5];exact aGk (b:=b) (l:=b.bl++[uB r]) (aO _ _ _) h7.2 (hg.fS fun c' e=>aN fun e2=>h7.2 (by rw[e,e2])) (by rw[cQ];exact aAk (L1 _) ⟨aP3 r,trivial⟩)) ?_
 refine sR (fun s=>s.df=[]/\s.fr 2=.rp [cX b.nm,.seq 1 (b.rg.map sD),.seq 2 (b.ol.map pD),.seq 5 (b.ty.map cP),.seq 2 (b.lc.map mN),i64 b.ag,.seq 7 (b.bl.map jP)]/\s.fr 5=.rp [cX b.nm,.seq 1 (b.rg.map sD),.seq 2 (b.ol.map pD),.seq 5 (b.ty.map cP),.seq 2 (b.lc.map mN),i64 b.ag,.seq 7 ((b.bl++[uB r]).map jP)]/\s.H=aC.none) ⟨aT,f2,rfl,rfl⟩ ?_
 clear aT f2 f5 f6 h5 h7 h57 hp hg
 rintro s ⟨aT,f2,f5,hH⟩
 refine tq (dG f2 hH) ?_;intro Nx aB Gx aF
 refine(gV _).mono ?_
 rintro d _ ⟨rfl,rfl⟩
 refine tq (dG f5 hH) ?_;intro Nx aB Gx aF
 refine(X2 _).mono ?_
 rintro d _ ⟨rfl,rfl⟩
 refine tq hH ?_;intro Nx aB Gx aF
 refine(kQ _).mono ?_
 rintro d _ ⟨rfl,rfl⟩
 refine tq trivial ?_;intro Nx aB Gx aF
 refine(heq _).mono ?_
 rintro d _ ⟨rfl,rfl⟩
 refine tq trivial ?_;intro Nx aB Gx aF
 refine rt aD aT ?_
 exact⟨_,aG _⟩
theorem GD (x0:X) (v0:Value) (x1:X) (v1:Value) (w:World) (o0:DT.ok (DT.struct [DT.string,DT.slice 1 16 (DT.string),DT.slice 2 16 (DT.array 2 (DT.int .i64)),DT.slice 5 56 (DT.struct [DT.int .i64,DT.bool,DT.int .i64,DT.int .i64,DT.slice 1 8 (DT.int .i64)]),DT.slice 2 24 (DT.struct [DT.string,DT.int .i64]),DT.int .i64,DT.slice 7 128 (DT.struct [DT.slice 11 136 (DT.struct [DT.int .i64,DT.struct [DT.int .i64,DT.slice 2 16 (DT.struct [DT.int .i64,DT.int .i64])],DT.struct [DT.int .i64,DT.int .i64,DT.int .i64,DT.bool,DT.struct [DT.int .i64,DT.slice 2 16 (DT.struct [DT.int .i64,DT.int .i64])],DT.slice 4 48 (DT.struct [DT.int .i64,DT.struct [DT.int .i64,DT.slice 2 16 (DT.struct [DT.int .i64,DT.int .i64])],DT.int .i64])],DT.int .i64]),DT.struct [DT.int .i64,DT.slice 1 8 (DT.int .i64),DT.slice 4 48 (DT.struct [DT.int .i64,DT.struct [DT.int .i64,DT.slice 2 16 (DT.struct [DT.int .i64,DT.int .i64])],DT.int .i64]),DT.struct [DT.int .i64,DT.slice 2 16 (DT.struct [DT.int .i64,DT.int .i64])],DT.string]])]) x0) (i0:D.is w aC.none.others x0.d v0) (o1:DT.ok (DT.bool) x1) (i1:D.is w aC.none.others x1.d v1) (hG:DW w aC.none):
  Calls prog 4 #[v0,v1] w fun e w'=>e=.returned (.bool true)/\Below w.heap.size w w':=by
 obtain⟨a,ha,YF⟩:=J2 o0
 obtain⟨r,rfl⟩:=aLT o1
 rw[ha] at i0
 exact KI (aOr a r YF) ⟨_,_,rfl,i0,_,_,rfl,i1,rfl⟩ hG
end Go.Proofs.YtfiipaodjpiooaaGreatDoor


/- Lemmas and contracts of functions, several texts in one. -/
import Derived.WalkKit
set_option maxRecDepth 100000
set_option maxHeartbeats 4000000
set_option linter.all false
namespace Go.Proofs.YtffgfafbffdgaaaGreatDoor
def Z (x:BitVec 32):BitVec 32:=(x>>>1) ^^^ (if x.getLsbD 0 then 0xedb88320#32 else 0#32)
def Zn:Nat->BitVec 32->BitVec 32
 |0,x=>x
 |n+1,x=>Z (Zn n x)
def Ve (c:UInt8):BitVec 32:=BitVec.ofNat 32 c.toNat
def yT (s:BitVec 32) (l:List UInt8):BitVec 32:=l.foldl (λs c=>Zn 8 (s ^^^ Ve c)) s
def Kq (s:BitVec 32) (l:List UInt8):BitVec 32:= ~~~ yT (~~~ s) l
theorem Yu (x:BitVec 32):x.getLsbD 0=decide (x.toNat % 2=1):=by simp [BitVec.getLsbD,Nat.testBit_zero]
theorem V6 (x:BitVec 32) (h:¬x.toNat % 2=1):(Z x).toNat=x.toNat / 2:=by
 unfold Z;rw[Yu,decide_eq_false h];simp [Nat.shiftRight_eq_div_pow]
theorem aCq (x:BitVec 32):(x>>>1).toNat=x.toNat / 2:=by simp [Nat.shiftRight_eq_div_pow]
theorem Ko (s:BitVec 32) (l:List UInt8) (c:UInt8):yT s (l++[c])=Zn 8 (yT s l ^^^ Ve c):=by simp [yT]
theorem YI (a b:BitVec 32):Z (a ^^^ b)=Z a ^^^ Z b:=by
 apply BitVec.eq_of_getLsbD_eq;intro i hi;simp only[Z,BitVec.getLsbD_xor,BitVec.getLsbD_ushiftRight];cases a.getLsbD 0 <;> cases b.getLsbD 0 <;> simp <;> (try cases a.getLsbD (1+i) <;> cases b.getLsbD (1+i) <;> cases (3988292384#32).getLsbD i <;> rfl)
theorem V7 (n:Nat) (a b:BitVec 32):Zn n (a ^^^ b)=Zn n a ^^^ Zn n b:=by
 induction n with
 |zero=>rfl
 |succ n ih=>simp [Zn,ih,YI]
theorem aC3 (n:Nat) (x:BitVec 32):Zn n (Z x)=Z (Zn n x):=by
 induction n with
 |zero=>rfl
 |succ n ih=>simp [Zn,ih]
theorem RN (k:Nat):∀y:Nat,y * 2 ^ k<4294967296->(Zn k (BitVec.ofNat 32 (y * 2 ^ k))).toNat=y:=by
 induction k with
 |zero=>intro y h;simp [Zn];omega
 |succ k ih=>
  intro y h
  have h2:y * 2 ^ (k+1)=y * 2 ^ k * 2:=by rw[Nat.pow_succ,Nat.mul_assoc]
  have e:Z (BitVec.ofNat 32 (y * 2 ^ (k+1)))=BitVec.ofNat 32 (y * 2 ^ k):=by
   apply BitVec.eq_of_toNat_eq;rw[V6]
   ·simp only[BitVec.toNat_ofNat];omega
   ·simp only[BitVec.toNat_ofNat];omega
  have:Zn (k+1) (BitVec.ofNat 32 (y * 2 ^ (k+1)))=Zn k (BitVec.ofNat 32 (y * 2 ^ k)):=by rw[<-e,aC3];rfl
  rw[this]
  exact ih y (by omega)
theorem Kc (x:BitVec 32):Zn 8 (BitVec.ofNat 32 (x.toNat % 256)) ^^^ (x>>>8)=Zn 8 x:=by
 have hx:=x.isLt;have aET:x=BitVec.ofNat 32 (x.toNat % 256) ^^^ BitVec.ofNat 32 (x.toNat / 256 * 2 ^ 8):=by
  apply BitVec.eq_of_getLsbD_eq;intro i hi;rw[BitVec.getLsbD_xor];simp only[BitVec.getLsbD_ofNat,hi,decide_true,Bool.true_and];rw[show(256:Nat)=2 ^ 8 by rfl,Nat.testBit_mod_two_pow,Nat.testBit_mul_two_pow,Nat.testBit_div_two_pow];rw[BitVec.getLsbD];by_cases h8:i<8
  ·simp [h8,show ¬8<=i by omega]
  ·simp [h8,show 8<=i by omega,show i - 8+8=i by omega]
 have aIg:Zn 8 (BitVec.ofNat 32 (x.toNat / 256 * 2 ^ 8))=x>>>8:=by
  apply BitVec.eq_of_toNat_eq;rw[RN 8 (x.toNat / 256) (by omega)];simp [Nat.shiftRight_eq_div_pow]
 conv=>rhs;rw[aET,V7,aIg]
def le1 (i:Nat) (x:BitVec 32):UInt8:=UInt8.ofNat (x.toNat / 256 ^ i % 256)
def MV:Nat->BitVec 32->List UInt8
 |0,_=>[]
 |n+1,x=>MV n x++[le1 n x]
theorem He (n:Nat) (x:BitVec 32):(MV n x).length=n:=by
 induction n with
 |zero=>rfl
 |succ n ih=>simp [MV,ih]
def dW (l:List UInt8):List UInt8:=l++MV 4 (Kq 0#32 l)
theorem fM (l:List UInt8):(dW l).length=l.length+4:=by simp [dW,He]
def qV (l:List UInt8):Bool:=decide (4<=l.length)&&decide (dW (l.take (l.length - 4))=l)
end Go.Proofs.YtffgfafbffdgaaaGreatDoor


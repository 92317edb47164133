/- A part of the proof of what is stated of the erasing of a mirror. -/
import Derived.Test.YtgfdbddglhblbaaGreatQak
import Derived.Lib.Split
import Derived.Lib.Bytealg
import Derived.Test.YtgfdbddglhblbaaGreatQaj
import Derived.Test.YtgfdbddglhblbaaGreatProg
import Derived.Lib.ItoaLen
set_option maxHeartbeats 64000000
namespace Go.Proofs.YtgfdbddglhblbaaGreat
open Go.Eng
structure Qu where
 cap:Int
 dat:List UInt8
def Qu.ok (q:Qu):Bool:=decide (0≤q.cap)&&decide (q.cap≤1000000)&&decide ((q.dat.length:Int)≤q.cap)
def Qu.room (q:Qu):Nat:=if q.ok then(q.cap-(q.dat.length:Int)).toNat else 0
def oi (n:Int):Qu:=⟨min (max n 0) 1000000,[]⟩
def Qu.fits (q:Qu)(b:List UInt8):Nat:=min b.length q.room
def Qu.put (q:Qu)(b:List UInt8):Qu:=⟨q.cap,q.dat++b.take (q.fits b)⟩
def Qu.fst (q:Qu)(n:Int):Nat:=if q.ok then(min (max n 0) (q.dat.length:Int)).toNat else 0
def Qu.cut (q:Qu)(n:Int):Qu:=⟨q.cap,q.dat.drop (q.fst n)⟩
theorem wU (n:Int):(oi n).ok=true:=by unfold Qu.ok oi;simp only[Nf,Bool.and_eq_true,decide_eq_true_eq];omega
theorem Qu.ok_iff (q:Qu):q.ok=true↔0≤q.cap∧q.cap≤1000000∧(q.dat.length:Int)≤q.cap:=by unfold Qu.ok;simp only[Bool.and_eq_true,decide_eq_true_eq,and_assoc]
theorem Qu.room_le (q:Qu):(q.room:Int)≤1000000:=by
 unfold Qu.room;split;·rename_i h;have:=q.ok_iff.1 h;omega
 ·omega
theorem Qu.put_ok {q:Qu}(h:q.ok=true)(b:List UInt8):(q.put b).ok=true:=by have h1:=q.ok_iff.1 h;rw[Qu.ok_iff];unfold Qu.put Qu.fits Qu.room;rw[if_pos h];simp only[Na,Nj];omega
structure cH where
 id:Int
 cls:Int
 inn:Qu
 out:Qu
 bud:Int
 ended:Bool
 closing:Bool
def bG (id:Int):Int:=if 0<id∧id<100000 then 1 else if 100000<id∧id<200000 then 2 else if 200000<id∧id<300000 then 3 else if 1000000<id∧id<2000000 then 4 else if 2000000<id∧id<3000000 then 5 else if 3000000<id∧id≤3900000 then 6 else 0
def rx (id i o:Int):cH:=⟨id,bG id,oi i,oi o,0,false,false⟩
def cH.offer (p:cH)(b:List UInt8):cH×Nat:=if p.ended||p.closing then(p,0) else({p with inn:=p.inn.put b},p.inn.fits b)
def cH.eat (p:cH)(n:Int):cH:={p with inn:=p.inn.cut n}
def bN (p:cH):List D:=[.i .i64 p.id,.i .i64 p.cls,.i .i64 p.inn.cap,.sl 1 (aD p.inn.dat),.i .i64 p.out.cap,.sl 1 (aD p.out.dat),.i .i64 p.bud,.b p.ended,.b p.closing]
def vX (q:Qu):D:=.agg [.i .i64 q.cap,.sl 1 (aD q.dat)]
def ee (p:cH):D:=.agg (bN p)
def zD:List UInt8:=[13,10]
def oU:List UInt8:=[13,10,13,10]
end Go.Proofs.YtgfdbddglhblbaaGreat
namespace Go.Proofs.YtgfdbddglhblbaaGreat
open Go.Eng
attribute [local irreducible] aO
set_option maxRecDepth 100000
theorem HG (c:UInt8):ay (CG G) 196 [.i .u8 (c.toNat:Int)] [.b (JC c)]:=by
 refine mD 9 Tryz.func196 ?_;refine ae (fun h=>?_) (fun h=>?_);·(first|exact congrArg (fun x=>[D.b x]) (Eq.symm (decide_eq_true (by omega)))|exact congrArg (fun x=>[D.b x]) (Eq.symm (decide_eq_false (by omega))))
 ·refine ae (fun h=>?_) (fun h=>?_);·(first|exact congrArg (fun x=>[D.b x]) (Eq.symm (decide_eq_true (by omega)))|exact congrArg (fun x=>[D.b x]) (Eq.symm (decide_eq_false (by omega))))
  ·(first|exact congrArg (fun x=>[D.b x]) (Eq.symm (decide_eq_true (by omega)))|exact congrArg (fun x=>[D.b x]) (Eq.symm (decide_eq_false (by omega))))
theorem vQ (c:UInt8):ay (CG G) 69 [.i .u8 (c.toNat:Int)] [.b (decide (48≤c.toNat∧c.toNat≤57))]:=by
 refine mD 9 Tryz.func69 ?_;repeat'(refine ae (fun _=>?_) (fun _=>?_))
 all_goals (skip)
 all_goals (first|exact congrArg (fun x=>[D.b x]) (Eq.symm (decide_eq_true (by omega)))|exact congrArg (fun x=>[D.b x]) (Eq.symm (decide_eq_false (by omega))))
theorem td (l:List UInt8)(hl:l.length≤9223372036854775807):ay (CG G) 157 [.s l] [.s (dA l)]:=by
 refine mD 30 Tryz.func157 ?_;apply bd (fun _:Unit=>True) (fun _=>⟨[(0,.d (.s (gU l)))],[],1⟩)
 ·apply aA (fun x:List UInt8=>gU x=gU l∧x.length≤l.length) (fun x=>⟨[(0,.d (.s x))],[],1⟩) (fun x=>x.length) l ⟨rfl,Nat.le_refl _⟩ [];·exact aF
  rintro x ⟨hx,hxl⟩;refine ad ?_;refine ae (fun h=>?_) (fun h=>?_)
  ·have h0:0<x.length:=by omega
   refine ao 0 rfl (x:=x[0]) (by simp[h0]) ?_;refine bp (HG _) (fun hs=>?_) (fun hs=>?_);·refine bnd 1 rfl (by omega) ?_;apply aG (x.drop 1) [] ⟨by rw[wJ h0 hs];exact hx,by simp;omega⟩ (by simp;omega);exact aF
   ·apply aC () [] trivial;rw[←hx,yi h0 hs];exact aF
  ·obtain rfl:x=[]:=List.eq_nil_of_length_eq_zero (by omega);apply aC () [] trivial;rw[←hx];exact aF
 rintro⟨⟩ _;have hll:=rj l;apply bd (fun _:Unit=>True) (fun _=>⟨[(0,.d (.s (dA l)))],[],1⟩)
 ·apply aA (fun x:List UInt8=>iC x=dA l∧x.length≤l.length) (fun x=>⟨[(0,.d (.s x))],[],1⟩) (fun x=>x.length) (gU l) ⟨rfl,hll⟩ [];·exact aF
  rintro x ⟨hx,hxl⟩;refine ad ?_;refine ae (fun h=>?_) (fun h=>?_)
  ·have h0:0<x.length:=by omega
   refine ar ⟨by omega,by omega⟩ (ao (x.length-1) (by omega) (x:=x[x.length-1]'(by omega)) (by simp) ?_);refine bp (HG _) (fun hs=>?_) (fun hs=>?_);·refine ar ⟨by omega,by omega⟩ (bnd (x.length-1) (by omega) (by omega) ?_);apply aG (x.take (x.length-1)) [] ⟨by rw[xv h0 hs];exact hx,by simp;omega⟩ (by simp;omega);exact aF
   ·apply aC () [] trivial;rw[←hx,yB h0 hs];exact aF
  ·obtain rfl:x=[]:=List.eq_nil_of_length_eq_zero (by omega);apply aC () [] trivial;rw[←hx];exact aF
 rintro⟨⟩ _;rfl
theorem has1 (l:List UInt8)(c:UInt8)(hl:l.length≤9223372036854775807):ay (CG G) 70 [.s l,.i .u8 (c.toNat:Int)] [.b (decide (c∈l))]:=by
 refine ay.mk (n:=17) Tryz.func70 rfl rfl rfl (Nat.le_of_ble_eq_true rfl) (ad ?_);apply aA (fun i:Nat=>i≤l.length∧c∉l.take i) (fun i=>⟨[(0,.d (.s l)),(1,.d (.i .u8 (c.toNat:Int))),(5,dI (i:Int))],[],1⟩) (fun i=>l.length-i) 0 ⟨Nat.zero_le _,by simp⟩ [];·exact aF
 rintro i ⟨hi,hn⟩;refine ad ?_;refine ae (fun h=>?_) (fun h=>?_)
 ·have hi':i<l.length:=by omega
  refine ad (ao i rfl (x:=l[i]) (by simp[hi']) ?_);refine ae (fun h2=>?_) (fun h2=>?_);·have:l[i]=c:=UInt8.toNat.inj (by omega);exact congrArg (fun x=>[D.b x]) (Eq.symm (decide_eq_true (by rw[←this];exact Nr hi')))
  ·refine aq ?_;have hn':c∉l.take (i+1):=by rw[Nh hi',Np];simp only[Nx,not_or];exact⟨hn,fun e=>h2 (by rw[e])⟩
   apply aG (i+1) [] ⟨by omega,hn'⟩ (by omega);exact aF
 ·rw[Nt (by omega)] at hn;exact congrArg (fun x=>[D.b x]) (Eq.symm (decide_eq_false hn))
theorem F8 (l:List UInt8)(hl:l.length≤9223372036854775807):ay (CG G) 158 [.s l] [.b (nD l)]:=by
 refine ay.mk (n:=26) Tryz.func158 rfl rfl rfl (Nat.le_of_ble_eq_true rfl) (ad ?_);apply aA (fun i:Nat=>i≤l.length∧(l.take i).all oh=true) (fun i=>⟨[(0,.d (.s l)),(3,dI (i:Int))],[],1⟩) (fun i=>l.length-i) 0 ⟨Nat.zero_le _,by simp⟩ [];·exact aF
 rintro i ⟨hi,hn⟩;refine ad ?_;refine ae (fun h=>?_) (fun h=>?_)
 ·have hi':i<l.length:=by omega
  have no:∀(_:oh l[i]=false),[D.b false]=[D.b (nD l)]:=fun hv=>congrArg (fun x=>[D.b x]) (Eq.symm (by unfold nD;rw[iJ hi' hv]));refine ad ?_;repeat'(first|refine ao i rfl (x:=l[i]) (by simp[hi']) ?_|refine ae (fun _=>?_) (fun _=>?_))
  all_goals (skip)
  all_goals first
   |exact no (by unfold oh;exact decide_eq_false (by omega))|(refine aq ?_;apply aG (i+1) [] ⟨by omega,iI hi' hn (by unfold oh;exact decide_eq_true (by omega))⟩ (by omega);((repeat' constructor)<;>(first|refine aI ?_|rfl)<;>first|exact oT|skip))
 ·have ha:=kY (by omega) hn;exact congrArg (fun x=>[D.b x]) (Eq.symm (by unfold nD;rw[ha]))
theorem Mp (l:List UInt8)(hl:l.length≤9223372036854775807):ay (CG G) 197 [.s l] [.b (qj l)]:=by
 refine mD 11 Tryz.func197 ?_;refine bp (F8 l hl) (fun h=>?_) (fun h=>?_)
 ·refine ah (td l (by omega)) ?_;refine ae (fun h'=>?_) (fun h'=>?_);·exact congrArg (fun x=>[D.b x]) (Eq.symm (by unfold qj;rw[h];simpa using h'))
  ·exact congrArg (fun x=>[D.b x]) (Eq.symm (by unfold qj;rw[h];simpa using h'))
 ·exact congrArg (fun x=>[D.b x]) (Eq.symm (by unfold qj;rw[h];rfl))
theorem n9 (l:List UInt8)(hl:l.length≤9223372036854775807):ay (CG G) 52 [.s l] [.b (eX l)]:=by
 refine ay.mk (n:=39) Tryz.func52 rfl rfl rfl (Nat.le_of_ble_eq_true rfl) (ad ?_);apply aA (fun i:Nat=>i≤l.length∧(l.take i).all s9=true) (fun i=>⟨[(0,.d (.s l)),(3,dI (i:Int))],[],1⟩) (fun i=>l.length-i) 0 ⟨Nat.zero_le _,by simp⟩ [];·exact aF
 rintro i ⟨hi,hn⟩;refine ad ?_;refine ae (fun h=>?_) (fun h=>?_)
 ·have hi':i<l.length:=by omega
  refine ad (ao i rfl (x:=l[i]) (by simp[hi']) ?_);have yes:∀(_:s9 l[i]=true),(l.take (i+1)).all s9=true:=fun hv=>iI hi' hn hv;have d1:=vQ l[i];have s1:=has1 Ko l[i] (by decide);repeat'(first|refine ae (fun _=>?_) (fun _=>?_)|refine bp d1 (fun hd=>?_) (fun hd=>?_)|refine bp s1 (fun hs=>?_) (fun hs=>?_))
  all_goals (skip)
  all_goals first|(refine aq ?_;apply aG (i+1) [] ⟨by omega,yes (by unfold s9 Lu;first|(rw[decide_eq_true (by omega)];rfl);|(simp only[decide_eq_true_eq] at hd;rw[decide_eq_true (by omega)];rfl);|(rw[hs];simp))⟩ (by omega);((repeat' constructor)<;>(first|refine aI ?_|rfl)<;>first|exact oT|skip));|exact congrArg (fun x=>[D.b x]) (Eq.symm (by simp only[decide_eq_false_iff_not] at hd;unfold eX;rw[iJ hi' (by unfold s9 Lu;rw[hs,decide_eq_false (by omega)];rfl)];rfl))
 ·have ha:=kY (by omega) hn;refine ae (fun h=>?_) (fun h=>?_);·exact congrArg (fun x=>[D.b x]) (Eq.symm (by unfold eX;rw[ha];simpa using h))
  ·exact congrArg (fun x=>[D.b x]) (Eq.symm (by unfold eX;rw[ha];simpa using h))
theorem zQ (f:bB)(h1:f.1.length≤9223372036854775807)(h2:f.2.length≤9223372036854775807):ay (CG G) 159 [aL f] [.b (hZ f)]:=by
 refine mD 11 Tryz.func159 ?_;refine bp (n9 _ h1) (fun h=>?_) (fun h=>?_)
 ·refine bp (Mp _ h2) (fun h'=>?_) (fun h'=>?_);·simp only[hZ,h,h'];rfl
  ·simp only[hZ,h,h'];rfl
 ·simp only[hZ,h];rfl
theorem B9 (l:List UInt8)(hl:l.length≤9223372036854775807):ay (CG G) 241 [.s l] [aL (dM l).1,.i .i64 (dM l).2]:=by
 refine ay.mk (n:=30) Tryz.func241 rfl rfl rfl (Nat.le_of_ble_eq_true rfl) (ad ?_);apply aA (fun i:Nat=>i≤l.length∧58∉l.take i) (fun i=>⟨[(0,.d (.s l)),(2,.op 16 0 0),(4,dI (i:Int))],[(16,some (.box [.d (.s []),.d (.s [])]))],2⟩) (fun i=>l.length-i) 0 ⟨Nat.zero_le _,by simp⟩ [(16,_)];·exact aF
 rintro i ⟨hi,hn⟩;refine ad ?_;refine ae (fun h=>?_) (fun h=>?_)
 ·have hi':i<l.length:=by omega
  refine ad (ao i rfl (x:=l[i]) (by simp[hi']) ?_);refine ae (fun h2=>?_) (fun h2=>?_)
  ·have h58:l[i]?=some 58:=by rw[No hi'];exact congrArg some (UInt8.toNat.inj (show l[i].toNat=58 by omega))
   have hc:cz 58 l=(l.take i,l.drop (i+1),true):=by unfold cz;rw[uF h58 hn]
   have ht:=fM (l.drop (i+1));simp only[Nz] at ht;refine bnd i rfl (by omega) (ar ⟨by omega,by omega⟩ (bnd (i+1) rfl (by omega) (ah (td _ (by simp;omega)) ?_)));(refine dk ?_;refine ad ?_);refine bp (zQ (l.take i,dA (l.drop (i+1))) (by simp;omega) (by simp only;omega)) (fun h=>?_) (fun h=>?_);·unfold dM;rw[hc,if_pos ⟨rfl,h⟩];rfl
   ·unfold dM;rw[hc,if_neg (fun e=>by rw[e.2] at h;cases h)];rfl
  ·refine aq ?_;have hn':58∉l.take (i+1):=by rw[Nh hi',Np];simp only[Nx,not_or];exact⟨hn,fun e=>h2 (by rw[←e];rfl)⟩
   apply aG (i+1) [(16,_)] ⟨by omega,hn'⟩ (by omega);exact aF
 ·rw[Nt (by omega)] at hn;unfold dM cz;rw[pP.2 hn];rfl
theorem rP (l:List UInt8)(c:UInt8)(hl:l.length≤4294967295):ay (CG G) 202 [.s l,.i .u8 (c.toNat:Int)] [bP (bm c l)]:=by
 refine ay.mk (n:=35) Tryz.func202 rfl rfl rfl (Nat.le_of_ble_eq_true rfl) (ad ?_);apply aA (fun x:Nat×Nat×List (List UInt8)=>x.2.2.length≤x.1∧x.2.1≤x.1∧((x.1≤l.length∧c∉(l.take x.1).drop x.2.1∧x.2.2++bm c (l.drop x.2.1)=bm c l)∨(x.1=l.length+1∧x.2.2=bm c l)))
  (fun x=>⟨[(0,.d (.s l)),(1,.d (.i .u8 (c.toNat:Int))),(5,.os 16),(6,dI (x.2.1:Int)),(7,dI (x.1:Int))],[(16,some (.buf 1 (x.2.2.map .s)))],2⟩) (fun x=>l.length+1-x.1) (0,0,[]) ⟨by simp,by simp,.inl ⟨by simp,by simp,by simp⟩⟩ [(16,_)];·exact aF
 rintro⟨i,k,out⟩ ⟨ho,hk,hx⟩;simp only at ho hk hx;refine ad ?_;refine ae (fun h=>?_) (fun h=>?_)
 ·obtain⟨hi,hn,hs⟩:i≤l.length∧c∉(l.take i).drop k∧out++bm c (l.drop k)=bm c l:=by
   rcases hx with hx|⟨hx,_⟩;·exact hx
   ·omega
  have seg:∀(q:List UInt8),l.drop k=(l.take i).drop k++q→l=l.take i++q:=fun q hq=>by
   conv=>lhs;rw[←NB k l,hq,←List.append_assoc]
   congr 1;have:=NB k (l.take i);rw[List.take_take,Nat.min_eq_left hk] at this;exact this
  have hd:l.drop k=(l.take i).drop k++l.drop i:=by conv=>lhs;rw[←NB i l,List.drop_append_of_le_length (by simp;omega)]
  refine ad ?_;refine ae (fun h1=>?_) (fun h1=>?_);·refine bnd i rfl hi (bnd k rfl hk (aB (by simp;omega) (ar ⟨by omega,by omega⟩ (ar ⟨by omega,by omega⟩ ?_))));have he:l.drop i=[]:=List.drop_eq_nil_of_le (by omega);rw[he,List.append_nil] at hd;rw[hd,oj hn] at hs;apply aG (i+1,i+1,out++[(l.take i).drop k]) [(16,_)] ⟨by simp;omega,by simp,.inr ⟨by simp only;omega,hs⟩⟩ (by simp only;omega);exact aF
  ·have hi':i<l.length:=by omega
   refine ao i rfl (x:=l[i]) (by simp[hi']) ?_;refine ae (fun h2=>?_) (fun h2=>?_);·have hc:l[i]=c:=UInt8.toNat.inj (by omega);refine bnd i rfl hi (bnd k rfl hk (aB (by simp;omega) (ar ⟨by omega,by omega⟩ (ar ⟨by omega,by omega⟩ ?_))));rw[Ny hi',hc] at hd;rw[hd,qq hn] at hs;apply aG (i+1,i+1,out++[(l.take i).drop k]) [(16,_)] ⟨by simp;omega,by simp,.inl ⟨by simp only;omega,by simp,by simpa using hs⟩⟩ (by simp only;omega);exact aF
   ·refine aq ?_;have hn':c∉(l.take (i+1)).drop k:=by rw[Nh hi',List.drop_append_of_le_length (by simp;omega),Np];simp only[Nx,not_or];exact⟨hn,fun e=>h2 (by rw[e])⟩
    apply aG (i+1,k,out) [(16,_)] ⟨by simp only;omega,by simp only;omega,.inl ⟨by simp only;omega,hn',hs⟩⟩ (by simp only;omega);exact aF
 ·have:out=bm c l:=by
   rcases hx with⟨hx,_⟩|⟨_,hx⟩;·omega
   ·exact hx
  rw[this];rfl
def NQ (c:UInt8):UInt8:=if 65≤c.toNat∧c.toNat≤90 then UInt8.ofNat (c.toNat+32) else c
def bY (l:List UInt8):List UInt8:=l.map NQ
def mK (s:List UInt8)(i:Nat):List UInt8:=(s.take i).map NQ++s.drop i
theorem HS (s:List UInt8)(i:Nat):(mK s i).length=s.length:=by simp[mK];omega
theorem pE {s:List UInt8}{i:Nat}(h:i<s.length):(aD (mK s i))[i]?=some (.i .u8 ((s[i]).toNat:Int)):=by
 have h1:((s.take i).map NQ).length=i:=by simp;omega
 unfold mK aD;rw[Ng,List.getElem?_append_right (by simp;omega),List.getElem?_map,List.getElem?_drop];simp[Nat.min_eq_left (Nat.le_of_lt h),h]
theorem DA {s:List UInt8}{i:Nat}(h:i<s.length):mK s (i+1)=(mK s i).set i (NQ s[i]):=by
 have h1:((s.take i).map NQ).length=i:=by simp;omega
 unfold mK;rw[Nh h,Ng,List.set_append_right _ _ (by omega),h1,Nat.sub_self,show s.drop i=s[i]::s.drop (i+1) from Ny h];simp only[Nw,List.map_nil,List.append_assoc,List.singleton_append,List.set_cons_zero]
theorem tW {s:List UInt8}{i:Nat}(h:i<s.length)(hc:¬(65≤(s[i]).toNat∧(s[i]).toNat≤90)):mK s (i+1)=mK s i:=by unfold mK;rw[Nh h,Ng,show s.drop i=s[i]::s.drop (i+1) from Ny h];simp[NQ,hc]
theorem G7 (l:List UInt8)(i:Nat)(c:UInt8):(aD l).set i (.i .u8 (c.toNat:Int))=aD (l.set i c):=by simp[aD,List.map_set]
theorem K3 {c:UInt8}(h:65≤c.toNat∧c.toNat≤90):((NQ c).toNat:Int)=(c.toNat:Int)+32:=by unfold NQ;rw[if_pos h,UInt8.toNat_ofNat'];omega
theorem LC (s:List UInt8)(hl:s.length≤140737488355328):ay (CG G) 193 [.s s] [.s (bY s)]:=by
 refine ay.mk (n:=35) Tryz.func193 rfl rfl rfl (Nat.le_of_ble_eq_true rfl) (ad ?_);apply aA (fun i:Nat=>i≤s.length) (fun i=>⟨[(3,.os 16),(4,dI (i:Int))],[(16,some (.buf 1 (aD (mK s i))))],2⟩) (fun i=>s.length-i) 0 (Nat.zero_le _) [(16,_)];·exact aF
 ·intro i hi;have hlen:(aD (mK s i)).length=s.length:=by rw[aK,HS]
  refine ad ?_;refine ae (fun h1=>?_) (fun h1=>?_)
  ·rw[hlen] at h1;have hi':i<s.length:=by omega
   have hb:=s[i].toNat_lt;refine ad (bh i rfl (by omega) (az (pE hi') ?_));refine ae (fun h2=>?_) (fun h2=>?_)
   ·refine bh i rfl (by omega) (az (pE hi') ?_);refine ae (fun h3=>?_) (fun h3=>?_);·refine bh i rfl (by omega) (az (pE hi') (ar8 ⟨by omega,by omega⟩ (bh i rfl (by omega) (ax (pE hi') (ar ⟨by omega,by omega⟩ ?_)))));apply aG (i+1) [(16,_)] (by omega) (by omega);((repeat' constructor)<;>(first|refine aI ?_|rfl)<;>first|exact oT|skip);all_goals (rw[DA hi',←G7,K3 (by omega)])
    ·refine aq ?_;apply aG (i+1) [(16,_)] (by omega) (by omega);((repeat' constructor)<;>(first|refine aI ?_|rfl)<;>first|exact oT|skip);all_goals rw[tW hi' (by omega)]
   ·refine aq ?_;apply aG (i+1) [(16,_)] (by omega) (by omega);((repeat' constructor)<;>(first|refine aI ?_|rfl)<;>first|exact oT|skip);all_goals rw[tW hi' (by omega)]
  ·rw[hlen] at h1;obtain rfl:i=s.length:=by omega
   have e:mK s s.length=bY s:=by simp[mK,bY]
   rw[e];refine cy (bY s) rfl ?_;rfl
theorem wv (a b:List UInt8)(h1:a.length≤140737488355328)(h2:b.length≤140737488355328):ay (CG G) 172 [.s a,.s b] [.b (decide (bY a=bY b))]:=by refine ay.mk (n:=10) Tryz.func172 rfl rfl rfl (Nat.le_of_ble_eq_true rfl) (ah (LC a h1) (ah (LC b h2) (Gh ?_)));rfl
def cv (n:List UInt8)(f:bB):Bool:=decide (bY f.1=bY n)
def aM (n:List UInt8)(l:List bB):List (List UInt8):=(l.filter (cv n)).map (·.2)
theorem zw (n:List UInt8)(l:List bB)(f:bB):aM n (l++[f])=if cv n f then aM n l++[f.2] else aM n l:=by
 unfold aM;rw[List.filter_append];by_cases h:cv n f;·simp[h,List.filter]
 ·simp[h,List.filter]
theorem oQ (l:List bB)(n:List UInt8)(hl:l.length≤68719476736)(hn:n.length≤140737488355328)(hf:∀f,f∈l→f.1.length≤140737488355328):ay (CG G) 174 [.sl 2 (l.map aL),.s n] [bP (aM n l)]:=by
 have hlen:(l.map aL).length=l.length:=by simp
 refine ay.mk (n:=29) Tryz.func174 rfl rfl rfl (Nat.le_of_ble_eq_true rfl) (ad ?_);apply aA (fun i:Nat=>i≤l.length) (fun i=>⟨[(0,.d (.sl 2 (l.map aL))),(1,.d (.s n)),(5,.os 16),(6,dI (i:Int))],[(16,some (.buf 1 ((aM n (l.take i)).map .s)))],2⟩) (fun i=>l.length-i) 0 (Nat.zero_le _) [(16,_)];·exact aF
 ·intro i hi;refine ad ?_;refine ae (fun h1=>?_) (fun h1=>?_)
  ·have hi':i<l.length:=by omega
   have hs:aM n (l.take (i+1))=if cv n l[i] then aM n (l.take i)++[l[i].2] else aM n (l.take i):=by rw[Nh hi',zw]
   have hg:(l.map aL)[i]?=some (.agg [.s l[i].1,.s l[i].2]):=by simp[hi',aL]
   have hb:(aM n (l.take i)).length≤i:=by unfold aM;rw[Nl];exact Nat.le_trans (NC _ _) (by simp;omega)
   refine ad (ao i rfl hg ?_);refine bp (wv l[i].1 n (hf _ (Nr hi')) hn) (fun hq=>?_) (fun hq=>?_);·rw[if_pos (show cv n l[i]=true from hq)] at hs;refine ao i rfl hg (aB (by simp;omega) (ar ⟨by omega,by omega⟩ ?_));apply aG (i+1) [(16,_)] (by omega) (by omega);((repeat' constructor)<;>(first|refine aI ?_|rfl)<;>first|exact oT|skip);all_goals (rw[hs];simp)
   ·rw[if_neg (by show¬cv n l[i]=true;unfold cv;rw[hq];decide)] at hs;refine aq ?_;apply aG (i+1) [(16,_)] (by omega) (by omega);((repeat' constructor)<;>(first|refine aI ?_|rfl)<;>first|exact oT|skip);all_goals rw[hs]
  ·obtain rfl:i=l.length:=by omega
   rw[Nt (Nat.le_refl _)];rfl
def iy (ns:List (List UInt8))(f:bB):Bool:=ns.any fun n=>cv n f
theorem bt {l:List (List UInt8)}{i:Nat}(h:i<l.length):(l.map D.s)[i]?=some (.s l[i]):=by simp[h]
def ga (ns:List (List UInt8))(l:List bB):List bB:=l.filter fun f=>!iy ns f
theorem xK (ns:List (List UInt8))(l:List bB)(f:bB):ga ns (l++[f])=if iy ns f then ga ns l else ga ns l++[f]:=by unfold ga;rw[List.filter_append];by_cases h:iy ns f<;>simp[h,List.filter]
theorem m9 (ns:List (List UInt8))(l:List bB):(ga ns l).length≤l.length:=NC _ _
theorem gq {l:List bB}{i:Nat}(h:i<l.length):(l.map aL)[i]?=some (.agg [.s l[i].1,.s l[i].2]):=by simp[h,aL]
theorem fW {α:Type}{a b:α}(h:a=b):a=b:=h
def ea (ps:List (List UInt8)):List (List UInt8):=(ps.map dA).filter fun x=>x !=[]
def elF (s:List UInt8):List (List UInt8):=ea (bm 44 s)
def cJ (l:List (List UInt8)):List (List UInt8):=l.flatMap elF
def aX (l:List (List UInt8)):Nat:=(l.map fun s=>s.length+1).sum
theorem q7 (ps:List (List UInt8))(x:List UInt8):ea (ps++[x])=if dA x=[] then ea ps else ea ps++[dA x]:=by unfold ea;rw[Ng,List.filter_append];by_cases h:dA x=[]<;>simp[h]
theorem nP (ps:List (List UInt8)):(ea ps).length≤ps.length:=by unfold ea;exact Nat.le_trans (NC _ _) (by simp)
theorem ur (l:List (List UInt8))(x:List UInt8):cJ (l++[x])=cJ l++elF x:=by simp[cJ]
theorem ID (s:List UInt8):(elF s).length≤s.length+1:=by have h1:=nP (bm 44 s);have h2:=fQ 44 s;have h3:s.count 44≤s.length:=List.count_le_length;unfold elF;omega
theorem m0 (l:List (List UInt8)):(cJ l).length≤aX l:=by induction l with|nil=>simp[cJ];|cons x r ih=>have:=ID x;simp only[cJ,List.flatMap_cons,Na,aX,Nw,List.sum_cons] at ih⊢;omega
theorem nQ {l:List (List UInt8)}{i:Nat}(h:i<l.length):aX (l.take i)+(l[i].length+1)≤aX l:=by
 have h1:aX l=aX (l.take i)+aX (l.drop i):=by
  unfold aX;conv=>lhs;rw[←NB i l]
  rw[Ng,List.sum_append]
 have h2:aX (l.drop i)=(l[i].length+1)+aX (l.drop (i+1)):=by rw[Ny h];rfl
 omega
end Go.Proofs.YtgfdbddglhblbaaGreat
namespace Go.Proofs.YtgfdbddglhblbaaGreat
open Go.Eng
attribute [local irreducible] aO ay
def iT (m:Int):List Int→Int→Int|[],s=>s|n::l,s=>iT m l (s+min (max n 0) (m-s))
def add25s (most:Int)(l:List Int):Nat×Int→AS|(i,s)=>⟨[(0,dI most),(1,.d (ft l)),(5,dI s),(8,.d (ft l)),(9,dI l.length),(10,dI i)],[],1⟩
def MN (most:Int)(l:List Int):Nat×Int→Prop|(i,s)=>i≤l.length∧0≤s∧s≤max most 0∧iT (max most 0) (l.drop i) s=iT (max most 0) l 0
theorem t5 (m:Int)(l:List Int):iT m l m=m:=by induction l with|nil=>rfl;|cons n l ih=>simp only[iT];rw[show m+min (max n 0) (m-m)=m by omega];exact ih
def M7 (most:Int)(l:List Int):Nat×Int→AS|(i,s)=>⟨[(0,dI most),(1,.d (ft l)),(5,dI s),(6,dI i)],[],1⟩
theorem Hl (most:Int)(l:List Int)(h:fT most)(hl:l.length≤9223372036854775807):ay (CG G) 107 [.i .i64 most,ft l] [.i .i64 (iT (max most 0) l 0)]:=by
 have hm:=h.2;refine ay.mk (n:=31) Tryz.func107 rfl rfl rfl (Nat.le_of_ble_eq_true rfl) (ad ?_);refine ae (fun h1=>?_) (fun h1=>?_);·refine congrArg (fun x=>[D.i .i64 x]) ?_;rw[show max most 0=0 by omega,t5]
 refine ad ?_;refine aA (MN most l) (M7 most l) (fun y=>l.length-y.1) (0,0) ⟨Nat.zero_le _,Int.le_refl _,by omega,rfl⟩ [] ?_ ?_
 ·repeat' constructor
  all_goals refine aI ?_
  all_goals (first|with_reducible rfl|simp)
 rintro⟨i,s⟩ ⟨hi,h0,hs,hf⟩;have hlen:(l.map (D.i .i64)).length=l.length:=by simp
 refine ad ?_;refine ae (fun h2=>?_) (fun h2=>?_)
 ·refine ad ?_;have hi':i<l.length:=by omega
  have hf':=hf;rw[uD 0 hi'] at hf';refine ao i rfl (gC hi') (ad (ar ⟨by omega,by omega⟩ ?_));refine ae (fun h3=>?_) (fun h3=>?_);·refine congrArg (fun x=>[D.i .i64 x]) ?_;simp only[iT] at hf';rw[←hf',show s+min (max (l.getD i 0) 0) (max most 0-s)=most by omega,show max most 0=most by omega,t5]
  ·refine ar ⟨by omega,by omega⟩ (ar ⟨by omega,by omega⟩ (aG (i+1,s+min (max (l.getD i 0) 0) (max most 0-s)) [] (by exact⟨by omega,by omega,by omega,hf'⟩) (by show l.length-(i+1)<l.length-i;omega) ?_));repeat' constructor
   all_goals refine aI ?_
   all_goals (first|with_reducible rfl|(congr 1;omega)|simp)
 ·refine congrArg (fun x=>[D.i .i64 x]) ?_;rw[←hf,List.drop_eq_nil_of_le (by omega)];rfl
end Go.Proofs.YtgfdbddglhblbaaGreat
namespace Go.Proofs.YtgfdbddglhblbaaGreat
open Go.Eng
attribute [local irreducible] aO ay
def dg (c:Int):Int:=if 48≤c∧c≤57 then c-48 else if 97≤c∧c≤102 then c-87 else if 65≤c∧c≤70 then c-55 else 16
theorem Kc (c:Int):0≤dg c∧dg c≤16:=by
 unfold dg;repeat' split
 all_goals omega
theorem J0 (c:Int):ay (CG G) 69 [.i .u8 c] [.b (decide (48≤c∧c≤57))]:=by
 refine mD 9 Tryz.func69 ?_;repeat'(first|refine ad ?_|refine ae (fun _=>?_) (fun _=>?_))
 all_goals refine congrArg (fun x=>[D.b x]) ?_
 all_goals simp
 all_goals omega
theorem A1 (c b:Int)(h:0≤c∧c≤255)(hb:2≤b∧b≤16):ay (CG G) 246 [.i .u8 c,.i .i64 b] [.i .i64 (if b≤dg c then-1 else dg c)]:=by
 refine mD 38 Tryz.func246 ?_;refine bd (fun _:Unit=>True) (fun _=>⟨[(0,.d (.i .u8 c)),(1,dI b),(5,dI (if dg c=16 then-1 else dg c))],[],1⟩) ?_ ?_
 ·refine ah (J0 c) ?_;by_cases h0:48≤c∧c≤57
  ·rw[decide_eq_true h0];repeat'(first|refine ad ?_|refine ae (fun _=>?_) (fun _=>?_)|refine ar8 ⟨by omega,by omega⟩ ?_|refine aq ?_)
   refine aC () [] trivial ?_;repeat' constructor
   all_goals refine aI ?_
   all_goals first|with_reducible rfl|skip
   congr 1;unfold dg;repeat' split
   all_goals omega
  ·rw[decide_eq_false h0];repeat'(first|refine ad ?_|refine ae (fun _=>?_) (fun _=>?_)|refine ar8 ⟨by omega,by omega⟩ ?_|refine aq ?_)
   all_goals refine aC () [] trivial ?_
   all_goals repeat' constructor
   all_goals refine aI ?_
   all_goals first|with_reducible rfl|skip
   all_goals congr 1;unfold dg;repeat' split
   all_goals omega
 ·intro _ _;have hd:=Kc c;repeat'(first|refine ad ?_|refine ae (fun _=>?_) (fun _=>?_))
  all_goals refine congrArg (fun x=>[D.i .i64 x]) ?_
  all_goals split
  all_goals (try split at*)
  all_goals omega
end Go.Proofs.YtgfdbddglhblbaaGreat
namespace Go.Proofs.YtgfdbddglhblbaaGreat
open Go.Eng
attribute [local irreducible] aO ay
def dc (c:UInt8):Int:=dg (c.toNat:Int)
theorem Hj (c:UInt8):0≤dc c∧dc c≤16:=Kc _
theorem B4 (c:UInt8):0≤(c.toNat:Int)∧(c.toNat:Int)≤255:=by have:=c.toNat_lt;omega
def bad (base:Int)(s:List UInt8):Prop:=∃c,c∈s∧base≤dc c
def acc (base most:Int):List UInt8→Int→Option Int|[],n=>some n|c::l,n=>if most<dc c∨(most-dc c).tdiv base<n then none else acc base most l (n*base+dc c)
def Ex (r:Option Int):Int×Int:=match r with|none=>(0,3)|some n=>(n,0)
noncomputable def bV (base most:Int)(s:List UInt8):Int×Int:=open Classical in if bad base s∨s=[] then(0,2) else Ex (acc base most s 0)
theorem jg {base most:Int}{s:List UInt8}(h:bad base s∨s=[]):bV base most s=(0,2):=by unfold bV;rw[if_pos h]
theorem lq {base most:Int}{s:List UInt8}(h:¬bad base s)(h1:s≠[]):bV base most s=Ex (acc base most s 0):=by
 unfold bV;rw[if_neg];rintro(h2|h2);·exact h h2
 ·exact h1 h2
def kw (r:Int×Int):List D:=[.i .i64 r.1,.i .i64 r.2]
theorem rB {base most:Int}{c:UInt8}{l:List UInt8}{n:Int}(h:most<dc c∨(most-dc c).tdiv base<n):acc base most (c::l) n=none:=by simp only[acc];rw[if_pos h]
theorem w9 {base most:Int}{c:UInt8}{l:List UInt8}{n:Int}(h1:¬most<dc c)(h:¬(most-dc c).tdiv base<n):acc base most (c::l) n=acc base most l (n*base+dc c):=by simp only[acc];rw[if_neg (by omega)]
theorem AP {base a n:Int}(hb:2≤base)(ha:0≤a)(h:¬a.tdiv base<n):n*base≤a:=by rw[Int.tdiv_eq_ediv_of_nonneg ha] at h;exact(Int.le_ediv_iff_mul_le (by omega)).1 (by omega)
theorem Bv {base a:Int}(hb:2≤base)(ha:0≤a):0≤a.tdiv base∧a.tdiv base≤a:=by rw[Int.tdiv_eq_ediv_of_nonneg ha];exact⟨Int.ediv_nonneg ha (by omega),Int.ediv_le_self _ ha⟩
def p55b (s:List UInt8)(base most:Int):Nat×Int→AS|(i,n)=>⟨[(0,.d (.s s)),(1,dI base),(2,dI most),(9,dI n),(27,dI s.length),(28,dI i)],[],1⟩
def pia (s:List UInt8)(base:Int)(i:Nat):Prop:=i≤s.length∧(bad base (s.drop i)↔bad base s)
def pib (s:List UInt8)(base most:Int):Nat×Int→Prop|(i,n)=>i≤s.length∧0≤n∧acc base most (s.drop i) n=acc base most s 0
theorem Fa {base:Int}{c:UInt8}{l:List UInt8}:bad base (c::l)↔base≤dc c∨bad base l:=by
 unfold bad;constructor
 ·rintro⟨x,hx,hb⟩;rcases List.mem_cons.1 hx with rfl|hx;·exact .inl hb
  ·exact .inr ⟨x,hx,hb⟩
 ·rintro(h|⟨x,hx,hb⟩);·exact⟨c,List.mem_cons_self,h⟩
  ·exact⟨x,Nv _ hx,hb⟩
theorem JM {base:Int}:¬bad base []:=by rintro⟨x,hx,_⟩;cases hx
end Go.Proofs.YtgfdbddglhblbaaGreat
namespace Go.Proofs.YtgfdbddglhblbaaGreat
open Go.Eng
attribute [local irreducible] aO ay
def p56a (s:List UInt8)(base most:Int)(i:Nat):AS:=⟨[(0,.d (.s s)),(2,dI base),(1,dI most),(8,dI i)],[],1⟩
def p56b (s:List UInt8)(base most:Int):Nat×Int→AS|(i,n)=>⟨[(0,.d (.s s)),(2,dI base),(1,dI most),(9,dI n),(10,dI i)],[],1⟩
theorem BZ (s:List UInt8)(base most:Int)(hb:2≤base∧base≤16)(hm:fT most)(hs:s.length≤9223372036854775807):ay (CG G) 239 [.s s,.i .i64 most,.i .i64 base] (kw (bV base most s)):=by
 have hmm:=hm.2;refine ay.mk (n:=55) Tryz.func239 rfl rfl rfl (Nat.le_of_ble_eq_true rfl) (ad ?_);refine ae (fun h1=>?_) (fun h1=>?_);·show kw (0,2)=kw (bV base most s);rw[jg (.inr h1)]
 refine bd (fun _:Unit=>¬bad base s) (fun _=>⟨[(0,.d (.s s)),(2,dI base),(1,dI most)],[],1⟩) ?_ ?_
 ·refine aA (pia s base) (p56a s base most) (fun i=>s.length-i) 0 ⟨Nat.zero_le _,Iff.rfl⟩ [] ?_ ?_;·exact aF
  rintro i ⟨hi,hf⟩;refine ad ?_;refine ae (fun h1=>?_) (fun h1=>?_)
  ·refine ad ?_;have hi':i<s.length:=by omega
   rw[uD 0 hi',Fa] at hf;refine ao i rfl (nc 0 hi') (ah (A1 _ base (B4 _) hb) ?_);have hd:=Hj (s.getD i 0);refine ae (fun h2=>?_) (fun h2=>?_)
   ·show kw (0,2)=kw (bV base most s);have:base≤dc (s.getD i 0):=by unfold dc at*;split at h2<;>omega
    rw[jg (.inl (hf.1 (.inl this)))]
   ·have:¬base≤dc (s.getD i 0):=by intro h3;have h4:base≤dg ((s.getD i 0).toNat:Int):=h3;rw[if_pos h4] at h2;omega
    refine aq ?_;refine aG (i+1) [] ⟨by omega,?_⟩ (by omega) ?_;·rw[←hf];exact⟨.inr,fun h=>h.resolve_left this⟩
    ·exact aF
  ·refine aC () [] ?_ ?_;·rw[List.drop_eq_nil_of_le (by omega)] at hf;exact fun h=>JM (hf.2 h)
   ·exact aF
 rintro _ hnb;rw[lq hnb h1];refine ad ?_;refine aA (fun y=>pib s base most y) (p56b s base most) (fun y=>s.length-y.1) (0,0) ⟨Nat.zero_le _,Int.le_refl _,rfl⟩ [] ?_ ?_;·exact aF
 rintro⟨i,n⟩ ⟨hi,h0,hf⟩;refine ad ?_;refine ae (fun h2=>?_) (fun h2=>?_)
 ·refine ad ?_;have hi':i<s.length:=by omega
  rw[uD 0 hi'] at hf;have hd:=Hj (s.getD i 0);have hdb:¬base≤dg ((s.getD i 0).toNat:Int):=fun h=>hnb ⟨s.getD i 0,Ni (nc 0 hi'),h⟩;refine ao i rfl (nc 0 hi') (ah (A1 _ base (B4 _) hb) ?_);rw[if_neg hdb];refine ad ?_;refine ae (fun h3=>?_) (fun h3=>?_);·show kw (0,3)=kw _;rw[←hf,rB (.inl h3)];rfl
  have h3':¬most<dc (s.getD i 0):=h3;have hq:=Bv hb.1 (a:=most-dc (s.getD i 0)) (by omega);refine ar (e:=most-dc (s.getD i 0)) ⟨by omega,by omega⟩ (eV (by omega) (ar (e:=(most-dc (s.getD i 0)).tdiv base) ⟨by omega,by omega⟩ ?_));refine ae (fun h4=>?_) (fun h4=>?_);·show kw (0,3)=kw _;rw[←hf,rB (.inr h4)];rfl
  have hmul:=AP hb.1 (by omega) h4;have hmul0:0≤n*base:=Int.mul_nonneg h0 (by omega);refine ar (e:=n*base) ⟨by omega,by omega⟩ (ar (e:=n*base+dc (s.getD i 0)) ⟨by omega,by omega⟩ (ar (e:=(i:Int)+1) ⟨by omega,by omega⟩ ?_));refine aG (i+1,n*base+dc (s.getD i 0)) [] ⟨by omega,by omega,?_⟩ (by show s.length-(i+1)<s.length-i;omega) ?_;·rw[←hf,w9 h3' h4]
  ·exact aF
 ·show kw (n,0)=kw _;rw[←hf,List.drop_eq_nil_of_le (by omega)];rfl
theorem ju (s:List UInt8)(most:Int)(hm:fT most)(hs:s.length≤9223372036854775807):ay (CG G) 218 [.s s,.i .i64 most] (kw (bV 10 most s)):=by refine ay.mk (n:=11) Tryz.func218 rfl rfl rfl (Nat.le_of_ble_eq_true rfl) (ah (BZ s 10 most (by omega) hm hs) ?_);exact rfl
theorem zZ (s:List UInt8)(most:Int)(hm:fT most)(hs:s.length≤9223372036854775807):ay (CG G) 243 [.s s,.i .i64 most] (kw (bV 16 most s)):=by refine ay.mk (n:=11) Tryz.func243 rfl rfl rfl (Nat.le_of_ble_eq_true rfl) (ah (BZ s 16 most (by omega) hm hs) ?_);exact rfl
end Go.Proofs.YtgfdbddglhblbaaGreat
namespace Go.Proofs.YtgfdbddglhblbaaGreat
open Go.Eng
def MT:List UInt8:=[72,84,84,80,47,49,46,48]
def MU:List UInt8:=[72,84,84,80,47,49,46,49]
def sR (s:List UInt8):Int:=if s=MT then 0 else if s=MU then 1 else-1
structure iZ where
 st:Int
 rs:List UInt8
 mi:Int
 fs:List bB
 body:List UInt8
def iZ.zero:iZ:=⟨0,[],0,[],[]⟩
noncomputable def jI (s:List UInt8):iZ×Int:=if s.length<12∨sR (s.take 8)<0∨s.getD 8 0≠32∨(12<s.length∧s.getD 12 0≠32) then(.zero,2)else if(bV 10 599 ((s.drop 9).take 3)).2≠0∨(bV 10 599 ((s.drop 9).take 3)).1<100∨nD (s.drop 13)=false then(.zero,2)else(⟨(bV 10 599 ((s.drop 9).take 3)).1,s.drop 13,sR (s.take 8),[],[]⟩,0)
def iB:List (List UInt8)→List bB→List bB×Int|[],o=>(o,0)|x::r,o=>if(dM x).2=0 then iB r (o++[(dM x).1]) else([],(dM x).2)
def dZ (l:List (List UInt8)):List bB×Int:=if 64<l.length then([],3) else iB l []
structure IX where
 kd:Int
 len:Int
def bU (a:iZ):List D:=[.i .i64 a.st,.s a.rs,.i .i64 a.mi,.sl 2 (a.fs.map aL),.sl 1 (aD a.body)]
def eF (a:iZ):D:=.agg (bU a)
def y6 (f:IX):D:=.agg [.i .i64 f.kd,.i .i64 f.len]
end Go.Proofs.YtgfdbddglhblbaaGreat
namespace Go.Proofs.YtgfdbddglhblbaaGreat
open Go.Eng
attribute [local irreducible] aO
def kA (d:Nat):UInt8:=if d<10 then UInt8.ofNat (48+d) else UInt8.ofNat (87+d)
def gg (b u:Nat):List UInt8:=if _h:u<b∨b<2 then[kA u] else gg b (u/b)++[kA (u%b)]
 termination_by u
 decreasing_by exact Nat.div_lt_self (by omega) (by omega)
theorem dQ {b u:Nat}(h:u<b):gg b u=[kA u]:=by rw[gg,dif_pos (.inl h)]
theorem fg {b u:Nat}(hb:2≤b)(h:¬u<b):gg b u=gg b (u/b)++[kA (u%b)]:=by rw[gg,dif_neg (by omega)]
def aY (b:Nat)(n:Int):List UInt8:=if n<0 then[] else gg b n.toNat
theorem Ic:∀r:Fin 16,(((ByteArray.mk #[48,49,50,51,52,53,54,55,56,57,97,98,99,100,101,102]).data.toList.take (r.val+1)).drop r.val)=[kA r.val]:=by decide+kernel
theorem yW {r:Nat}(h:r<16):(((ByteArray.mk #[48,49,50,51,52,53,54,55,56,57,97,98,99,100,101,102]).data.toList.take (r+1)).drop r)=[kA r]:=Ic ⟨r,h⟩
def b54i (n0:Nat)(b:Nat):Nat×List UInt8→Prop|(n,l)=>gg b n0=gg b n++l∧l.length+n≤n0∧(n=0→l=[])
def b54s (b:Nat):Nat×List UInt8→AS|(n,l)=>⟨[(0,dI (n:Int)),(1,dI (b:Int)),(5,.d (.s l))],[],1⟩
theorem Lf (n b:Nat)(hn:n≤9223372036854775807)(hb:2≤b∧b≤16):ay (CG G) 123 [.i .i64 (n:Int),.i .i64 (b:Int)] [.s (gg b n)]:=by
 refine ay.mk (n:=24) Tryz.func123 rfl rfl rfl (Nat.le_of_ble_eq_true rfl) (ad (ai (by omega) ?_));refine aA (b54i n b) (b54s b) (fun y=>y.1) (n,[]) ⟨by simp,by simp,fun _=>rfl⟩ [] ?_ ?_;·exact aF
 rintro⟨m,l⟩ ⟨h1,h2,h3⟩;have hr:m%b<b:=Nat.mod_lt _ (by omega);refine eV (by omega) (eV (by omega) (ar (e:=((m%b:Nat):Int)+1) ⟨by omega,by omega⟩ ?_));refine bnd (m%b+1) rfl ?_ ?_;·show m%b+1≤16;omega
 refine bnd (m%b) rfl (by omega) ?_;have hx:=yW (r:=m%b) (by omega);have hl:[kA (m%b)].length=1:=rfl;have hll:l.length+1≤9223372036854775807:=by
  rcases Nat.eq_zero_or_pos m with h|h;·rw[h3 h];decide
  ·omega
 have hq:0≤((m/b:Nat):Int)∧((m/b:Nat):Int)≤9223372036854775807:=by have:=Nat.div_le_self m b;generalize m/b=q at*;omega
 refine bg (Nat.le_trans (Nat.add_le_add_right (Nat.le_of_eq (congrArg List.length hx)) _) (by omega)) (And.intro (dY (by kernel_rfl)) (eV (by omega) (ar (e:=((m/b:Nat):Int)) ⟨Int.le_trans (by decide) hq.1,hq.2⟩ ?_)));refine ae (fun h4=>?_) (fun h4=>?_)
 ·refine congrArg (fun x=>[D.s x]) ?_;have h4':m/b=0:=by omega
  have hlt:m<b:=by
   rcases Nat.lt_or_ge m b with h|h;·exact h
   ·have:=Nat.div_pos h (by omega);omega
  rw[h1,dQ hlt];refine(congrArg (·++l) hx).trans ?_;rw[Nat.mod_eq_of_lt hlt]
 ·have hge:¬m<b:=fun h=>h4 (by rw[Nat.div_eq_of_lt h];rfl);have hdm:m/b<m:=Nat.div_lt_self (by omega) (by omega);refine aG (m/b,kA (m%b)::l) [] ⟨?_,?_,?_⟩ hdm ?_;·rw[h1,fg (by omega) hge];simp
  ·simp only[Nb];omega
  ·intro h0;rw[h0] at h4;exact absurd rfl h4
  ·((repeat' constructor)<;>(first|refine aI ?_|rfl)<;>first|exact oT|skip);exact congrArg (fun x=>D.s (x++l)) hx
end Go.Proofs.YtgfdbddglhblbaaGreat
namespace Go.Proofs.YtgfdbddglhblbaaGreat
open Go.Eng
attribute [local irreducible] aO
set_option maxRecDepth 100000
theorem Bc (n:Int)(b:Nat)(hb:2≤b∧b≤16)(h:fT n):ay (CG G) 123 [.i .i64 n,.i .i64 (b:Int)] [.s (aY b n)]:=by
 by_cases h1:n<0;·refine ay.mk (n:=24) Tryz.func123 rfl rfl rfl (Nat.le_of_ble_eq_true rfl) (ad (aj h1 ?_));refine congrArg (fun x=>[D.s x]) ?_;unfold aY;rw[if_pos h1]
 ·obtain⟨u,rfl⟩:∃u:Nat,n=u:=⟨n.toNat,by omega⟩;have:=h.2;have:=Lf u b (by omega) hb;unfold aY;rw[if_neg h1];exact this
theorem gw (n:Int)(h:fT n):ay (CG G) 94 [.i .i64 n] [.s (aY 10 n)]:=by refine ay.mk (n:=5) Tryz.func94 rfl rfl rfl (Nat.le_of_ble_eq_true rfl) (ah (Bc n 10 (by omega) h) ?_);exact rfl
theorem KK (n:Int)(h:fT n):ay (CG G) 122 [.i .i64 n] [.s (aY 16 n)]:=by refine ay.mk (n:=5) Tryz.func122 rfl rfl rfl (Nat.le_of_ble_eq_true rfl) (ah (Bc n 16 (by omega) h) ?_);exact rfl
end Go.Proofs.YtgfdbddglhblbaaGreat
namespace Go.Proofs.YtgfdbddglhblbaaGreat
open Go.Eng
attribute [local irreducible] aO
theorem yT:∀r:Fin 16,dc (kA r.val)=(r.val:Int):=by decide+kernel
theorem zO {r:Nat}(h:r<16):dc (kA r)=(r:Int):=yT ⟨r,h⟩
theorem y7 (b most:Int)(l r:List UInt8)(m:Int):acc b most (l++r) m=(acc b most l m).bind fun x=>acc b most r x:=by induction l generalizing m with|nil=>rfl;|cons c l ih=>
 simp only[List.cons_append,acc];split;·rfl
 ·exact ih _
theorem xc (b:Nat)(hb:2≤b∧b≤16)(most:Int)(hm:0≤most)(u:Nat):acc b most (gg b u) 0=if(u:Int)≤most then some (u:Int) else none:=by
 have one:∀(r:Nat)(q:Int),r<b→0≤q→q≤most→acc b most [kA r] q=if q*b+r≤most then some (q*b+r) else none:=by
  intro r q hr hq hqm;have hd:=zO (r:=r) (by omega);simp only[acc,hd];by_cases h1:most<r;·have:0≤q*b:=Int.mul_nonneg hq (by omega);rw[if_pos (.inl h1),if_neg (by omega)]
  ·have ht:(most-r).tdiv b=(most-r)/b:=Int.tdiv_eq_ediv_of_nonneg (by omega);have hle:q≤(most-r)/b↔q*b≤most-r:=Int.le_ediv_iff_mul_le (by omega);rw[ht];by_cases h2:q*b+r≤most
   ·rw[if_pos h2,if_neg];rintro(h|h);·exact h1 h
    ·have:=hle.2 (by omega);omega
   ·rw[if_neg h2,if_pos];right;rcases Int.lt_or_le ((most-r)/b) q with h|h;·exact h
    ·have:=hle.1 h;omega
 induction u using Nat.strongRecOn with|_ u ih=>
  by_cases h:u<b;·rw[dQ h,one u 0 h (Int.le_refl _) hm];simp
  ·rw[fg hb.1 h,y7,ih (u/b) (Nat.div_lt_self (by omega) (by omega))];have hu:(u:Int)=(u/b:Nat)*b+(u%b:Nat):=by have:=Nat.div_add_mod u b;rw[Nat.mul_comm] at this;have:=congrArg (Nat.cast (R:=Int)) this;rw[←this];simp
   have hq0:0≤((u/b:Nat):Int):=Int.natCast_nonneg _;by_cases hq:((u/b:Nat):Int)≤most;·rw[if_pos hq];show acc b most [kA (u%b)] ((u/b:Nat):Int)=_;rw[one (u%b) _ (Nat.mod_lt _ (by omega)) hq0 hq,←hu]
   ·rw[if_neg hq];have:((u/b:Nat):Int)≤u:=by have:=Nat.div_le_self u b;omega
    rw[if_neg (by omega)];rfl
theorem A0 (b:Nat)(hb:2≤b∧b≤16)(u:Nat):(∀c,c∈gg b u→dc c<b)∧gg b u≠[]:=by induction u using Nat.strongRecOn with|_ u ih=>
 by_cases h:u<b;·rw[dQ h];refine⟨fun c hc=>?_,by simp⟩;rw[Nx.1 hc,zO (by omega)];omega
 ·rw[fg hb.1 h];have hr:=Nat.mod_lt u (show b>0 by omega);refine⟨fun c hc=>?_,by simp⟩;rcases Np.1 hc with hc|hc;·exact(ih (u/b) (Nat.div_lt_self (by omega) (by omega))).1 c hc
  ·rw[Nx.1 hc,zO (by omega)];omega
theorem zt (b:Nat)(hb:2≤b∧b≤16)(most:Int)(hm:0≤most)(u:Nat):bV b most (gg b u)=if(u:Int)≤most then((u:Int),0) else(0,3):=by obtain⟨h1,h2⟩:=A0 b hb u;rw[lq (by rintro⟨c,hc,hd⟩;have:=h1 c hc;omega) h2,xc b hb most hm u];split<;>rfl
theorem we (b:Nat)(hb:2≤b∧b≤16)(most:Int)(hm:0≤most)(u:Nat):bV b most (48::48::gg b u)=if(u:Int)≤most then((u:Int),0) else(0,3):=by
 obtain⟨h1,h2⟩:=A0 b hb u;have h48:dc 48=0:=by decide+kernel
 rw[lq (by
 rintro⟨c,hc,hd⟩;rcases List.mem_cons.1 hc with rfl|hc;·omega
 ·rcases List.mem_cons.1 hc with rfl|hc;·omega
  ·have:=h1 c hc;omega) (by simp)];have hz:∀l,acc b most (48::l) 0=acc b most l 0:=by intro l;simp only[acc,h48];have:0≤(most-0).tdiv b:=(Bv (by omega) (by omega)).1;rw[if_neg (by omega)];simp
 rw[hz,hz,xc b hb most hm u];split<;>rfl
def pos:List Int→Int|[]=>0|n::l=>max n 0+pos l
theorem G8 (b:Nat)(hb:2≤b)(u:Nat):(gg b u).length≤2+u/2:=by induction u using Nat.strongRecOn with|_ u ih=>
 by_cases h:u<b;·rw[dQ h];simp only[Nb,Nf];omega
 ·rw[fg hb h];have:=ih (u/b) (Nat.div_lt_self (by omega) (by omega));have h2:u/b≤u/2:=Nat.div_le_div_left hb (by omega);simp only[Na,Nb,Nf];omega
theorem two (b:Nat)(hb:b=10∨b=16)(x m:Int)(hx:0≤x)(hm:0≤m):bV b m (aY b x)=(if x≤m then(x,0) else(0,3))∧bV b m (48::48::aY b x)=(if x≤m then(x,0) else(0,3)):=by obtain⟨u,rfl⟩:∃u:Nat,x=u:=⟨x.toNat,by omega⟩;unfold aY;rw[if_neg (by omega)];exact⟨zt b (by omega) m hm u,we b (by omega) m hm u⟩
theorem fB {l:List UInt8}{i:Nat}(h:i<l.length):(aD l)[i]?=some (.i .u8 ((l.getD i 0).toNat:Int)):=by simp[aD,h]
theorem am (l:List UInt8)(c:UInt8):aD l++[.i .u8 (c.toNat:Int)]=aD (l++[c]):=by simp[aD]
theorem aK (l:List UInt8):(aD l).length=l.length:=by simp[aD]
end Go.Proofs.YtgfdbddglhblbaaGreat
namespace Go.Proofs.YtgfdbddglhblbaaGreat
open Go.Eng
attribute [local irreducible] aO
set_option maxRecDepth 100000
theorem vq {β:Type}(bs:List (List β))(i:Nat):(bs.take i).flatten.length≤bs.flatten.length:=by
 conv=>rhs;rw[←NB i bs,List.flatten_append,Na]
 omega
def fj (n:Int):List UInt8:=if n<0 then 45::gg 10 n.natAbs else gg 10 n.toNat
theorem HI (u:Nat):(-(u:Int)).tmod 10=-((u%10:Nat):Int):=by rw[Int.neg_tmod];rfl
theorem EN (u:Nat):(-(u:Int)).tdiv 10=-((u/10:Nat):Int):=by rw[Int.neg_tdiv];rfl
theorem tU (b u:Nat):aY b (u:Int)=gg b u:=by unfold aY;rw[if_neg (by omega)];rfl
theorem Ht {n:Int}(h:¬n<0):fj n=aY 10 n:=by unfold fj aY;rw[if_neg h,if_neg h]
theorem G0 {u:Nat}(h:1≤u):fj (-(u:Int))=45::gg 10 u:=by unfold fj;rw[if_pos (by omega)];simp
theorem kg (n:Int)(h:fT n):ay (CG G) 234 [.i .i64 n] [.s (fj n)]:=by
 have hn:=h.1;refine ay.mk (n:=23) Tryz.func234 rfl rfl rfl (Nat.le_of_ble_eq_true rfl) (ad ?_);refine ae (fun h1=>?_) (fun h1=>?_);·refine ah (gw n h) ?_;rw[Ht (by omega)];exact rfl
 ·obtain⟨u,rfl,hu⟩:∃u:Nat,n=-(u:Int)∧1≤u:=⟨n.natAbs,by omega,by omega⟩;have e1:=HI u;have e2:=EN u;have hr:u%10<10:=Nat.mod_lt _ (by decide);rw[G0 hu];refine eV (by decide) ?_;refine bW ((u%10:Nat):Int) ?_ ?_;·rw[e1];exact(gJ (by omega) (by omega)).trans (by omega)
  refine ah (gw ((u%10:Nat):Int) ⟨by omega,by omega⟩) ?_;rw[tU,dQ hr];refine ad ?_;refine ae (fun h2=>?_) (fun h2=>?_)
  ·refine bg (by simp only[Nb,Nf];omega) ?_;have:u<10:=by omega
   rw[dQ this,Nat.mod_eq_of_lt this];exact rfl
  ·refine eV (by decide) ?_;refine bW (-((u/10:Nat):Int)) ?_ ?_;·rw[e2];exact gJ (by omega) (by omega)
   refine bW ((u/10:Nat):Int) ?_ ?_;·exact(gJ (by omega) (by omega)).trans (by omega)
   refine ah (gw ((u/10:Nat):Int) ⟨by omega,by omega⟩) ?_;rw[tU];have hl:=G8 10 (by omega) (u/10);refine bg (by simp only[Nb,Nf];omega) (bg (by simp only[Na,Nb,Nf];omega) ?_);rw[fg (u:=u) (by omega) (by omega)];exact rfl
def quo (c:UInt8):List UInt8:=if c=34∨c=92 then[92,c] else if 32≤c.toNat∧c.toNat≤126 then[c] else[92,117,48,48,kA (c.toNat/16),kA (c.toNat%16)]
def hx (c:UInt8):List UInt8:=[kA (c.toNat/16),kA (c.toNat%16)]
def nI (l:List UInt8):List UInt8:=(l.map hx).flatten
theorem qe (l:List UInt8):(nI l).length=2*l.length:=by induction l with|nil=>rfl;|cons c l ih=>
 have:nI (c::l)=hx c++nI l:=by simp[nI]
 rw[this,Na,ih];simp only[hx,Nb,Nf];omega
theorem Cw (l:List UInt8)(c:UInt8):nI (l++[c])=nI l++hx c:=by simp[nI]
theorem t9 {l:List UInt8}{i:Nat}(h:i<l.length):l.take (i+1)=l.take i++[l.getD i 0]:=by rw[List.take_add_one,No h];simp[h]
def f85s (l:List UInt8)(i:Nat):AS:=⟨[(0,.d (.sl 1 (aD l))),(3,.d (.s (nI (l.take i)))),(4,dI (i:Int))],[],1⟩
set_option maxRecDepth 100000 in theorem Er (l:List UInt8)(h:l.length≤1099511627776):ay (CG G) 247 [.sl 1 (aD l)] [.s (nI l)]:=by
 refine ay.mk (n:=39) Tryz.func247 rfl rfl rfl (Nat.le_of_ble_eq_true rfl) (ad ?_);refine aA (fun i=>i≤l.length) (f85s l) (fun i=>l.length-i) 0 (Nat.zero_le _) [] ?_ ?_;·exact aF
 intro i hi;have hlen:=aK l;refine ad ?_;refine ae (fun h1=>?_) (fun h1=>?_)
 ·refine ad ?_;have hi':i<l.length:=by omega
  have hc:=B4 (l.getD i 0);have hq:(l.getD i 0).toNat/16<16:=by omega
  have hr:(l.getD i 0).toNat%16<16:=Nat.mod_lt _ (by decide);have htd:((l.getD i 0).toNat:Int).tdiv 16=(((l.getD i 0).toNat/16:Nat):Int):=rfl;have htm:((l.getD i 0).toNat:Int).tmod 16=(((l.getD i 0).toNat%16:Nat):Int):=rfl;have x1:=yW hq;have x2:=yW hr;have hT:(nI (l.take i)).length=2*i:=by rw[qe,Nj];omega
  refine ao i rfl (fB hi') (eV (by decide) (bW (((l.getD i 0).toNat/16:Nat):Int) (u5 (by omega) (by omega)) (ao i rfl (fB hi') (eV (by decide) (bW (((l.getD i 0).toNat/16:Nat):Int) (u5 (by omega) (by omega)) (ar8 ⟨by omega,by omega⟩ (bnd ((l.getD i 0).toNat/16+1) (by omega) (by show _≤16;omega) (bnd ((l.getD i 0).toNat/16) rfl (by omega) (bg (Nat.le_trans (Nat.add_le_add_left (Nat.le_of_eq (congrArg List.length x1)) _) (by rw[hT];simp only[Nb,Nf];omega)) (ao i rfl (fB hi') (eV (by decide) ?_)))))))))));refine ao i rfl (fB hi') (eV (by decide) (ar8 ⟨by omega,by omega⟩ (bnd ((l.getD i 0).toNat%16+1) (by omega) (by show _≤16;omega) (bnd ((l.getD i 0).toNat%16) rfl (by omega) (bg (Nat.le_trans (Nat.add_le_add (Nat.le_of_eq ((Na).trans (congrArg (fun x=>_+List.length x) x1))) (Nat.le_of_eq (congrArg List.length x2))) (by rw[hT];simp only[Nb,Nf];omega)) (And.intro (dY (by kernel_rfl)) (ar ⟨by omega,by omega⟩ (aG (i+1) [] (by omega) (by omega) ?_))))))));((repeat' constructor)<;>(first|refine aI ?_|rfl)<;>first|exact oT|skip);rw[t9 hi',Cw];refine congrArg D.s ?_;exact(congrArg (fun x=>(nI (l.take i)++x)++_) x1).trans ((congrArg (fun x=>(nI (l.take i)++[kA ((l.getD i 0).toNat/16)])++x) x2).trans (List.append_assoc _ _ _))
 ·refine congrArg (fun x=>[D.s x]) ?_;rw[Nt (by omega)]
theorem BG {c:UInt8}(h:(c.toNat:Int)=34∨(c.toNat:Int)=92):quo c=[92,c]:=by
 unfold quo;rw[if_pos];rcases h with h|h;·exact .inl (UInt8.toNat_inj.1 (by show c.toNat=34;omega))
 ·exact .inr (UInt8.toNat_inj.1 (by show c.toNat=92;omega))
theorem Je {c:UInt8}(h1:¬(c.toNat:Int)=34)(h2:¬(c.toNat:Int)=92):¬(c=34∨c=92):=by
 rintro(rfl|rfl);·exact h1 rfl
 ·exact h2 rfl
set_option maxRecDepth 100000 in theorem GV (c:UInt8):ay (CG G) 244 [.i .u8 (c.toNat:Int)] [.s (quo c)]:=by
 refine mD 28 Tryz.func244 ?_;have hc:=B4 c;refine ad ?_;refine ae (fun h1=>?_) (fun h1=>?_);·refine cy [92,c] rfl ?_;rw[BG (.inl h1)];exact rfl
 ·refine ae (fun h2=>?_) (fun h2=>?_);·refine cy [92,c] rfl ?_;rw[BG (.inr h2)];exact rfl
  ·have hn:=Je h1 h2;refine ad ?_;have tail:∀h:¬(32≤c.toNat∧c.toNat≤126),quo c=[92,117,48,48]++nI [c]:=by intro h;unfold quo;rw[if_neg hn,if_neg h];rfl
   refine ae (fun h3=>?_) (fun h3=>?_)
   ·refine ae (fun h4=>?_) (fun h4=>?_);·refine cy [c] rfl ?_;unfold quo;rw[if_neg hn,if_pos (by omega)];exact rfl
    ·rw[tail (by omega)];refine cy [92] rfl (bg (by simp) (ah (Er [c] (by simp)) (bg (by simp[qe]) (And.intro (dY (by kernel_rfl)) ?_))));exact rfl
   ·rw[tail (by omega)];refine cy [92] rfl (bg (by simp) (ah (Er [c] (by simp)) (bg (by simp[qe]) (And.intro (dY (by kernel_rfl)) ?_))));exact rfl
def qb (s:List UInt8):List UInt8:=(s.map quo).flatten
def eS (s:List UInt8):List UInt8:=(34::qb s)++[34]
theorem Ct (l:List UInt8)(c:UInt8):qb (l++[c])=qb l++quo c:=by simp[qb]
theorem AW (c:UInt8):(quo c).length≤6:=by
 unfold quo;split;·simp
 ·split<;>simp
theorem mt (l:List UInt8):(qb l).length≤6*l.length:=by induction l with|nil=>simp[qb];|cons c l ih=>
 have:qb (c::l)=quo c++qb l:=by simp[qb]
 have:=AW c;simp only[*,Na,Nb];omega
def f37s (s:List UInt8)(i:Nat):AS:=⟨[(0,.d (.s s)),(3,.d (.s (34::qb (s.take i)))),(4,dI (i:Int))],[],1⟩
theorem vN (s:List UInt8)(h:s.length≤1099511627776):ay (CG G) 232 [.s s] [.s (eS s)]:=by
 refine ay.mk (n:=23) Tryz.func232 rfl rfl rfl (Nat.le_of_ble_eq_true rfl) (cy [34] rfl (ad ?_));refine aA (fun i=>i≤s.length) (f37s s) (fun i=>s.length-i) 0 (Nat.zero_le _) [] ?_ ?_;·exact aF
 intro i hi;refine ad ?_;refine ae (fun h1=>?_) (fun h1=>?_)
 ·refine ad ?_;have hi':i<s.length:=by omega
  have hl:=mt (s.take i);have hq:=AW (s.getD i 0);have ht:(s.take i).length=i:=by rw[Nj];omega
  refine ao i rfl (nc 0 hi') (ah (GV _) (bg (by simp only[Nb];omega) (ar ⟨by omega,by omega⟩ (aG (i+1) [] (by omega) (by omega) ?_))));((repeat' constructor)<;>(first|refine aI ?_|rfl)<;>first|exact oT|skip);refine congrArg D.s ?_;rw[t9 hi',Ct];rfl
 ·refine cy [34] rfl ?_;have hl:=mt s;rw[Nt (by omega)];refine bg (by simp only[Nb,Nf];omega) ?_;exact rfl
theorem N2 (x n:Int)(hn:1≤n∧n≤4611686018427387904):∃r:Nat,(r:Int)<n∧ay (CG G) 8 [.i .i64 x,.i .i64 n] [.i .i64 (r:Int)]:=by have h1:-n<x.tmod n:=Int.lt_tmod_of_pos x (by omega);have h2:x.tmod n<n:=Int.tmod_lt_of_pos x (by omega);have h3:0≤(x.tmod n+n).tmod n:=Int.tmod_nonneg _ (by omega);have h4:(x.tmod n+n).tmod n<n:=Int.tmod_lt_of_pos _ (by omega);refine⟨((x.tmod n+n).tmod n).toNat,by omega,?_⟩;rw[Int.toNat_of_nonneg h3];refine mD 12 Tryz.func8 ?_;refine eV (by omega) ?_;refine aq ?_;refine eV (by omega) ?_;exact rfl
end Go.Proofs.YtgfdbddglhblbaaGreat

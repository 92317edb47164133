/- A part of the proof of what is stated of the erasing of a mirror. -/
import Derived.Laws.Externs
import Derived.Test.YtgfdbddglhblbaaGreatQar
import Derived.Test.YtgfdbddglhblbaaGreatQap
set_option maxHeartbeats 64000000
namespace Go.Proofs.YtgfdbddglhblbaaGreat
open Go.Eng
attribute [local irreducible] aO
set_option maxRecDepth 100000
def eB (l:List dJ):List UInt8:=(l.map np).flatten
theorem An (l:List dJ)(i:Nat)(h:i<l.length):eB (l.take (i+1))=eB (l.take i)++np l[i]:=by unfold eB;rw[Nh h,Ng,List.flatten_append];simp only[Nw,List.map_nil,List.flatten_cons,List.flatten_nil,List.append_nil]
theorem Ed (l:List dJ)(i:Nat):(eB (l.take i)).length≤(eB l).length:=by
 have:eB l=eB (l.take i)++eB (l.drop i):=by unfold eB;rw[←List.flatten_append,←Ng,NB]
 rw[this,Na];omega
structure FP (x:dJ):Prop where
 h1:fT x.ser
 h2:fT x.exc
 h3:fT x.rea
 n1:(fj x.ser).length≤32
 n2:(fj x.exc).length≤32
 n3:(fj x.rea).length≤32
 hf:x.fl.length≤1048576
 hl:∀y,y∈x.fl→y.length≤1048576
 hj:(bF (eT x) [32]).length≤137438953472
def t47s (cap ser:Int)(l:List dJ)(i:Nat):AS:=⟨[(1,.op 16 0 0),(3,.d (.s (eB (l.take i)))),(4,dI (i:Int))],[(16,some (.box [dI cap,dI ser,.d (o6 l)]))],2⟩
theorem Md (cap ser:Int)(l:List dJ)(hl:l.length≤68719476736)(hr:∀x,x∈l→FP x)(ht:(eB l).length≤68719476736):ay (CG G) 214 [lz cap ser l] [.s (eB l)]:=by
 have hlen:(l.map NH).length=l.length:=by simp
 refine ay.mk (n:=21) Tryz.func214 rfl rfl rfl (Nat.le_of_ble_eq_true rfl) (ad ?_);apply aA (fun i=>i≤l.length) (t47s cap ser l) (fun i=>l.length-i) 0 (Nat.zero_le _) [(16,_)];·exact aF
 intro i hi;refine ad ?_;refine ae (fun h=>?_) (fun h=>?_)
 ·have hi':i<l.length:=by omega
  have hx:=hr _ (Nr hi');have hs:=An l i hi';have hs2:=Ed l (i+1);rw[hs,Na] at hs2;refine ad (ao i rfl (x:=NH l[i]) (by simp[hi']) (ah (My l[i] hx.h1 hx.h2 hx.h3 hx.hf hx.hj hx.n1 hx.n2 hx.n3) (bg (by omega) (ar ⟨by omega,by omega⟩ ?_))));apply aG (i+1) [(16,_)] (by omega) (by omega);simp only[t47s,hs];exact aF
 ·obtain rfl:i=l.length:=by omega
  rw[Nt (Nat.le_refl _)];rfl
def kSer:List UInt8:=[115,101,114,105,97,108]
def kExc:List UInt8:=[101,120,99,104,97,110,103,101]
def kRea:List UInt8:=[114,101,97,115,111,110]
def kSta:List UInt8:=[115,116,97,116,117,115]
def kFie:List UInt8:=[102,105,101,108,100,115]
def LM (b:Bool):List UInt8:=if b then[116,114,117,101] else[102,97,108,115,101]
def oO (x:dJ):List (List UInt8×List UInt8):=[(kSer,fj x.ser),(kExc,fj x.exc),(kRea,fj x.rea)]
def lB (x:dJ):List (List UInt8×List UInt8):=oO x++if x.rea=1 then[(kSta,LM x.st),(wz,LM x.bo),(kFie,CK (x.fl.map eS))] else[]
def sL (x:dJ):List UInt8:=uU (lB x)
def pV (l:List dJ):List UInt8:=CK (l.map sL)++[10]
structure JsOk (x:dJ):Prop where
 hq:(bF (x.fl.map eS) [44]).length≤68719476736
 hp:∀p,p∈lB x→p.1.length≤1099511627∧p.2.length≤140737488355328
 ho:(bF ((lB x).map jS) [44]).length≤68719476736
def j49s (cap ser:Int)(l:List dJ)(i:Nat):AS:=⟨[(1,.op 16 0 0),(3,.os 17),(4,dI (i:Int))],[(16,some (.box [dI cap,dI ser,.d (o6 l)])),(17,some (.buf 1 (((l.take i).map sL).map .s)))],2⟩
def MA (cap ser:Int)(l:List dJ)(i:Nat)(x:dJ):AS:=⟨[(1,.op 16 0 0),(3,.os 17),(4,dI (i:Int)),(6,.os 18)],[(16,some (.box [dI cap,dI ser,.d (o6 l)])),(17,some (.buf 1 (((l.take i).map sL).map .s))),(18,some (.buf 2 ((lB x).map rl)))],2⟩
def n49s (cap ser:Int)(l:List dJ)(i:Nat)(x:dJ)(k:Nat):AS:=⟨[(1,.op 16 0 0),(3,.os 17),(4,dI (i:Int)),(5,.op 20 0 0),(6,.os 18),(7,.os 19),(8,dI (k:Int))],[(16,some (.box [dI cap,dI ser,.d (o6 l)])),(17,some (.buf 1 (((l.take i).map sL).map .s))),(18,some (.buf 2 ((oO x).map rl))),(19,some (.buf 1 (((x.fl.take k).map eS).map .s))),(20,some (.box (x.cells.map .d)))],2⟩
theorem MY (cap ser:Int)(l:List dJ)(hl:l.length<68719476736)(hr:∀x,x∈l→FP x∧JsOk x)(ht:(bF (l.map sL) [44]).length≤68719476736):ay (CG G) 215 [lz cap ser l] [.s (pV l)]:=by
 have hlen:(l.map NH).length=l.length:=by simp
 refine ay.mk (n:=79) Tryz.func215 rfl rfl rfl (Nat.le_of_ble_eq_true rfl) (ad ?_);apply aA (fun i=>i≤l.length) (j49s cap ser l) (fun i=>l.length-i) 0 (Nat.zero_le _) [(16,_),(17,_)];·exact aF
 intro i hi;refine ad ?_;refine ae (fun h=>?_) (fun h=>?_)
 ·have hi':i<l.length:=by omega
  obtain⟨hx,hj⟩:=hr _ (Nr hi');have hg:(l.map NH)[i]?=some (NH l[i]):=by simp[hi']
  generalize hxe:l[i]=x at hx hj hg;have hxl:(x.fl.map D.s).length=x.fl.length:=by simp
  refine ad (ao i rfl hg (ah (kg _ hx.h1) (ah (kg _ hx.h2) (ah (kg _ hx.h3) ?_))));refine dk ?_;apply bd (fun _:Unit=>True) (fun _=>MA cap ser l i x)
  ·refine ae (fun hq=>?_) (fun hq=>?_)
   ·refine ad ?_;apply aA (fun k=>k≤x.fl.length) (n49s cap ser l i x) (fun k=>x.fl.length-k) 0 (Nat.zero_le _) [(16,_),(17,_),(18,_),(19,_),(20,_)];·exact aF
    intro k hk;have hfl:=hx.hf;refine ad ?_;refine ae (fun h'=>?_) (fun h'=>?_)
    ·have hk':k<x.fl.length:=by omega
     have hy:=hx.hl _ (Nr hk');refine ad (ao k rfl (x:=.s x.fl[k]) (by simp[hk']) (ah (vN x.fl[k] (by omega)) (aB (by simp;omega) (ar ⟨by omega,by omega⟩ ?_))));apply aG (k+1) [(16,_),(17,_),(18,_),(19,_),(20,_)] (by omega) (by omega);((repeat' constructor)<;>(first|refine aI ?_|rfl)<;>first|exact oT|skip);rw[Nh hk',Ng,Ng];rfl
    ·obtain rfl:k=x.fl.length:=by omega
     refine ah (B1 x.st) (ah (B1 x.bo) ?_);rw[Nt (Nat.le_refl _)];refine ah (KI (x.fl.map eS) (by simp;omega) (by have:=hj.hq;omega)) (aB (by simp[oO]) ?_);refine dk ?_;apply aC () [(16,_),(17,_),(18,_)] trivial;simp only[MA,lB,if_pos hq,oO];exact aF
   ·apply aC () [(16,_),(17,_),(18,_)] trivial;simp only[MA,lB,if_neg hq,oO,List.append_nil];exact aF
  rintro⟨⟩ _;refine ah (Ka (lB x) (by unfold lB oO;split<;>simp) hj.hp (by have:=hj.ho;omega)) ?_;refine aB (by simp;omega) (ar ⟨by omega,by omega⟩ ?_);apply aG (i+1) [(16,_),(17,_)] (by omega) (by omega);((repeat' constructor)<;>(first|refine aI ?_|rfl)<;>first|exact oT|skip);rw[Nh hi',Ng,Ng,hxe];rfl
 ·obtain rfl:i=l.length:=by omega
  rw[Nt (Nat.le_refl _)];refine ah (KI (l.map sL) (by simp;omega) (by omega)) ?_;refine bg (by show(([91]++bF (l.map sL) [44])++[93]).length+1≤_;simp only[Na,Nb,Nf];omega) ?_;rfl
def eH:List UInt8:=[47,114,101,112,111,114,116,115]
def j5:List UInt8:=[47,114,101,112,111,114,116,115,46,106,115,111,110]
def yz:List UInt8:=[110,111,116,32,102,111,117,110,100,10]
def xQ:List UInt8:=[109,101,116,104,111,100,32,110,111,116,32,97,108,108,111,119,101,100,10]
theorem ne32 {c:UInt8}(h:¬(c.toNat:Int)=32):c≠32:=fun e=>h (by rw[e];rfl)
theorem eq32 {c:UInt8}(h:(c.toNat:Int)=32):c=32:=UInt8.toNat_inj.1 (by have e:((32:UInt8).toNat:Int)=32:=rfl;omega)
theorem statR (s:List UInt8)(hs:s.length≤1000000000):ay (CG G) 222 [.s s] [eF (jI s).1,.i .i64 (jI s).2]:=by
 have m1:=HO (s.take 8);have p1:=ju ((s.drop 9).take 3) 599 ⟨by decide,by decide⟩ (by simp;omega);have v1:=F8 (s.drop 13) (by simp;omega);have v0:=F8 [] (by simp);have hv0:nD []=true:=rfl;unfold jI;unfold eF bU kw at*;have e1:(s.take 12).drop 9=(s.drop 9).take 3:=by rw[List.drop_take]
 refine ay.mk (n:=62) Tryz.func222 rfl rfl rfl (Nat.le_of_ble_eq_true rfl) (ad ?_);refine ae (fun a1=>?_) (fun a1=>?_)
 ·rw[if_pos (.inl (by omega))];repeat'(first|refine ad ?_|refine dk ?_|refine ae (fun _=>?_) (fun _=>?_)|refine aq ?_)
  rfl
 ·refine bnd 8 rfl (by omega) (ah m1 ?_);refine ae (fun a2=>?_) (fun a2=>?_)
  ·rw[if_pos (.inr (.inl a2))];repeat'(first|refine ad ?_|refine dk ?_|refine ae (fun _=>?_) (fun _=>?_)|refine aq ?_)
   rfl
  ·refine ao 8 rfl (nc 0 (by omega)) ?_;refine ae (fun a3=>?_) (fun a3=>?_)
   ·rw[if_pos (.inr (.inr (.inl (ne32 a3))))];repeat'(first|refine ad ?_|refine dk ?_|refine ae (fun _=>?_) (fun _=>?_)|refine aq ?_)
    rfl
   ·have a3:=eq32 (Nq.1 a3);have rest:¬(12<s.length∧s.getD 12 0≠32)→∀(Kn:AS→Prop),True:=fun _ _=>trivial;by_cases a4:12<s.length
    ·refine aj (by omega) (ao 12 rfl (nc 0 (by omega)) ?_);refine ae (fun a5=>?_) (fun a5=>?_)
     ·rw[if_pos (.inr (.inr (.inr ⟨a4,ne32 a5⟩)))];repeat'(first|refine ad ?_|refine dk ?_|refine ae (fun _=>?_) (fun _=>?_)|refine aq ?_)
      rfl
     ·have a5:=eq32 (Nq.1 a5);rw[if_neg (by rintro(h|h|h|h);omega;omega;exact h a3;exact h.2 a5)];refine bnd 12 rfl (by omega) (bnd 9 rfl (by first|(simp;done)|(simp;omega)) ?_);rw[e1];refine ah p1 (ad ?_);refine ae (fun a6=>?_) (fun a6=>?_)
      ·rw[if_pos (.inl a6)];repeat'(first|refine ad ?_|refine dk ?_|refine ae (fun _=>?_) (fun _=>?_)|refine aq ?_)
       rfl
      ·refine ae (fun a7=>?_) (fun a7=>?_)
       ·rw[if_pos (.inr (.inl a7))];repeat'(first|refine ad ?_|refine dk ?_|refine ae (fun _=>?_) (fun _=>?_)|refine aq ?_)
        rfl
       ·refine bnd 8 rfl (by omega) (ah m1 (ad (aj (by omega) (bnd 13 rfl (by omega) (ad ?_)))));refine bp v1 (fun b1=>?_) (fun b1=>?_)
        ·rw[if_neg (by rintro(h|h|h);exact a6 h;exact a7 h;rw[b1] at h;cases h)];repeat'(first|refine ad ?_|refine dk ?_|refine ae (fun _=>?_) (fun _=>?_)|refine aq ?_)
         rfl
        ·rw[if_pos (.inr (.inr b1))];repeat'(first|refine ad ?_|refine dk ?_|refine ae (fun _=>?_) (fun _=>?_)|refine aq ?_)
         rfl
    ·refine ai (by omega) ?_;rw[if_neg (by rintro(h|h|h|h);omega;omega;exact h a3;exact a4 h.1)];have e13:s.drop 13=[]:=List.drop_eq_nil_iff.2 (by omega);refine bnd 12 rfl (by omega) (bnd 9 rfl (by first|(simp;done)|(simp;omega)) ?_);rw[e1];refine ah p1 (ad ?_);refine ae (fun a6=>?_) (fun a6=>?_)
     ·rw[if_pos (.inl a6)];repeat'(first|refine ad ?_|refine dk ?_|refine ae (fun _=>?_) (fun _=>?_)|refine aq ?_)
      rfl
     ·refine ae (fun a7=>?_) (fun a7=>?_)
      ·rw[if_pos (.inr (.inl a7))];repeat'(first|refine ad ?_|refine dk ?_|refine ae (fun _=>?_) (fun _=>?_)|refine aq ?_)
       rfl
      ·rw[hv0] at v0;refine bnd 8 rfl (by omega) (ah m1 (ad (ai (by omega) (ad (ah v0 ?_)))));rw[e13,if_neg (by rintro(h|h|h);exact a6 h;exact a7 h;rw[hv0] at h;cases h)];repeat'(first|refine ad ?_|refine dk ?_|refine ae (fun _=>?_) (fun _=>?_)|refine aq ?_)
       rfl
def iM:List UInt8:=[99,111,110,116,101,110,116,45,108,101,110,103,116,104]
def nh:List UInt8:=[116,114,97,110,115,102,101,114,45,101,110,99,111,100,105,110,103]
def Mx:List UInt8:=[99,104,117,110,107,101,100]
def xO:List UInt8:=[99,111,110,110,101,99,116,105,111,110]
def Fz:List UInt8:=[99,108,111,115,101]
def LB:List UInt8:=[107,101,101,112,45,97,108,105,118,101]
theorem hasR (l:List bB)(n:List UInt8)(h:br l≤1000000000)(hn:n.length≤1000000000):ay (CG G) 242 [.sl 2 (l.map aL),.s n] [.b (decide (aM n l≠[]))]:=by
 have hz:=dE l;have c1:=oQ l n (by omega) (by omega) (fun f hf=>by have:=eu hf;omega);unfold bP at c1;refine ay.mk (n:=10) Tryz.func242 rfl rfl rfl (Nat.le_of_ble_eq_true rfl) (ah c1 ?_);have e:((aM n l).map D.s).length=(aM n l).length:=by simp
 refine ae (fun g=>?_) (fun g=>?_)
 ·have hne:aM n l≠[]:=by intro h;rw[h] at g;simp at g
  repeat'(first|refine ad ?_|refine dk ?_|refine ae (fun _=>?_) (fun _=>?_)|refine aq ?_)
  rw[decide_eq_true hne];rfl
 ·repeat'(first|refine ad ?_|refine dk ?_|refine ae (fun _=>?_) (fun _=>?_)|refine aq ?_)
  rw[decide_eq_false (by rw[Nq];exact List.eq_nil_of_length_eq_zero (by omega))];rfl
theorem Aa (l:List bB)(n:List UInt8)(h:br l≤1000000000)(hn:n.length≤1000000000):ay (CG G) 143 [.sl 2 (l.map aL),.s n] [bP (cJ (aM n l))]:=by have hz:=dE l;have:=cK (cv n) l;exact xo l n (by omega) (fun f hf=>by have:=eu hf;omega) (by omega) (by unfold aM;omega)
noncomputable def eC (mi:Int)(fs:List bB)(none:Int):IX×Int:=if aM nh fs≠[] then(if mi=0∨aM iM fs≠[]∨(cJ (aM nh fs)).length≠1∨bY ((cJ (aM nh fs)).headD [])≠bY Mx then(⟨0,0⟩,5) else(⟨3,0⟩,0))else match aM iM fs with|[]=>(⟨none,0⟩,0)|x::r=>if r≠[]∨(bV 10 1000000000 x).2=2 then(⟨0,0⟩,5) else if(bV 10 1000000000 x).2≠0 then(⟨0,0⟩,(bV 10 1000000000 x).2) else(⟨2,(bV 10 1000000000 x).1⟩,0)
theorem frmR (mi:Int)(fs:List bB)(none:Int)(h:br fs≤1000000000):ay (CG G) 224 [.i .i64 mi,.sl 2 (fs.map aL),.i .i64 none] [y6 (eC mi fs none).1,.i .i64 (eC mi fs none).2]:=by
 have hz:=dE fs;have c1:=oQ fs iM (by omega) (by decide) (fun f hf=>by have:=eu hf;omega);have c2:=hasR fs nh h (by decide);have c3:=Aa fs nh h (by decide);have hlv:=cK (cv iM) fs;have hel:∀x,x∈cJ (aM nh fs)→x.length≤1000000000:=fun x hx=>by have:=nk hx;have:=cK (cv nh) fs;unfold aM at*;omega
 unfold eC;have hvm:∀x,x∈aM iM fs→x.length≤1000000000:=fun x hx=>by have:=gT hx;unfold aM at*;omega
 generalize aM iM fs=lv at*;generalize cJ (aM nh fs)=te at*;generalize aM nh fs=tv at*;unfold bP y6 at*;have e1:(lv.map D.s).length=lv.length:=by simp
 have e2:(te.map D.s).length=te.length:=by simp
 by_cases ht:tv=[];·rw[decide_eq_false (by simpa using ht)] at c2;rw[if_neg (by simpa using ht)];cases lv with
  |nil=>
   refine ay.mk (n:=65) Tryz.func224 rfl rfl rfl (Nat.le_of_ble_eq_true rfl) (ah c1 (ad (ah c2 (ad (aj rfl ?_)))));repeat'(first|refine ad ?_|refine dk ?_|refine ae (fun _=>?_) (fun _=>?_)|refine aq ?_)
   rfl;|cons x r=>
   have p1:=ju x 1000000000 ⟨by decide,by decide⟩ (by have:=hvm x (by simp);omega);unfold kw at p1;have e3:(D.s x::r.map D.s).length=r.length+1:=by simp
   refine ay.mk (n:=65) Tryz.func224 rfl rfl rfl (Nat.le_of_ble_eq_true rfl) (ah c1 (ad (ah c2 (ad (ai (by rw[Nw];omega) (ao 0 rfl rfl (ah p1 (ad ?_))))))));refine ae (fun g1=>?_) (fun g1=>?_)
   ·rw[Nw] at g1;have hr:r≠[]:=by rintro rfl;simp at g1
    simp only;rw[if_pos (.inl hr)];repeat'(first|refine ad ?_|refine dk ?_|refine ae (fun _=>?_) (fun _=>?_)|refine aq ?_)
    rfl
   ·rw[Nw] at g1;obtain rfl:r=[]:=List.eq_nil_of_length_eq_zero (by omega);refine ae (fun g2=>?_) (fun g2=>?_)
    ·simp only;rw[if_pos (.inr g2)];repeat'(first|refine ad ?_|refine dk ?_|refine ae (fun _=>?_) (fun _=>?_)|refine aq ?_)
     rfl
    ·refine ad ?_;simp only;rw[if_neg (by rintro(h|h);exact h rfl;exact g2 h)];refine ae (fun g3=>?_) (fun g3=>?_)
     ·rw[if_pos g3];repeat'(first|refine ad ?_|refine dk ?_|refine ae (fun _=>?_) (fun _=>?_)|refine aq ?_)
      rfl
     ·rw[if_neg g3];repeat'(first|refine ad ?_|refine dk ?_|refine ae (fun _=>?_) (fun _=>?_)|refine aq ?_)
      rfl
 ·rw[decide_eq_true (by simpa using ht)] at c2;rw[if_pos (by simpa using ht)];refine ay.mk (n:=65) Tryz.func224 rfl rfl rfl (Nat.le_of_ble_eq_true rfl) (ah c1 (ad (ah c2 (ah c3 (ad ?_)))));refine ae (fun g1=>?_) (fun g1=>?_)
  ·rw[if_pos (.inl g1)];repeat'(first|refine ad ?_|refine dk ?_|refine ae (fun _=>?_) (fun _=>?_)|refine aq ?_)
   rfl
  ·refine ae (fun g2=>?_) (fun g2=>?_)
   ·rw[if_pos (.inr (.inl (by rintro rfl;simp at g2)))];repeat'(first|refine ad ?_|refine dk ?_|refine ae (fun _=>?_) (fun _=>?_)|refine aq ?_)
    rfl
   ·obtain rfl:lv=[]:=List.eq_nil_of_length_eq_zero (by omega);refine ae (fun g3=>?_) (fun g3=>?_)
    ·rw[if_pos (.inr (.inr (.inl (by omega))))];repeat'(first|refine ad ?_|refine dk ?_|refine ae (fun _=>?_) (fun _=>?_)|refine aq ?_)
     rfl
    ·match te,(by omega:te.length=1) with
     |[x],_=>
      have f1:=wv x Mx (by have:=hel x (by simp);omega) (by decide);refine ao 0 rfl rfl ?_;by_cases g4:bY x=bY Mx
      ·rw[decide_eq_true g4] at f1;refine ah f1 ?_;rw[if_neg (by rintro(h|h|h|h);exact g1 h;exact h rfl;exact h rfl;exact h g4)];repeat'(first|refine ad ?_|refine dk ?_|refine ae (fun _=>?_) (fun _=>?_)|refine aq ?_)
       rfl
      ·rw[decide_eq_false g4] at f1;refine ah f1 ?_;rw[if_pos (.inr (.inr (.inr g4)))];repeat'(first|refine ad ?_|refine dk ?_|refine ae (fun _=>?_) (fun _=>?_)|refine aq ?_)
       rfl
theorem L6 (r:eL)(h:br r.fs≤1000000000):ay (CG G) 186 [gu r] [y6 (eC r.mi r.fs 1).1,.i .i64 (eC r.mi r.fs 1).2]:=by
 have c1:=frmR r.mi r.fs 1 h;unfold gu dF y6 at*;refine mD 11 Tryz.func186 ?_;repeat'(first|refine ad ?_|refine dk ?_|refine ah (c1) ?_|refine ae (fun _=>?_) (fun _=>?_)|refine aq ?_)
 rfl
noncomputable def gY (m:List UInt8)(a:iZ):IX×Int:=if m=cO∨(100≤a.st∧a.st≤199)∨a.st=204∨a.st=304 then(⟨1,0⟩,0) else eC a.mi a.fs 4
theorem K4 (m:List UInt8)(a:iZ)(h:br a.fs≤1000000000):ay (CG G) 184 [.s m,eF a] [y6 (gY m a).1,.i .i64 (gY m a).2]:=by
 have c1:=frmR a.mi a.fs 4 h;unfold gY;unfold eF bU y6 at*;refine ay.mk (n:=36) Tryz.func184 rfl rfl rfl (Nat.le_of_ble_eq_true rfl) (ad ?_);refine ae (fun g1=>?_) (fun g1=>?_)
 ·have g1:m=cO:=g1;rw[if_pos (.inl g1)];repeat'(first|refine ad ?_|refine dk ?_|refine ae (fun _=>?_) (fun _=>?_)|refine aq ?_)
  rfl
 ·have g1:m≠cO:=g1;refine ae (fun g2=>?_) (fun g2=>?_)
  ·refine ae (fun g3=>?_) (fun g3=>?_)
   ·rw[if_pos (.inr (.inl ⟨by omega,by omega⟩))];repeat'(first|refine ad ?_|refine dk ?_|refine ae (fun _=>?_) (fun _=>?_)|refine aq ?_)
    rfl
   ·refine ae (fun g4=>?_) (fun g4=>?_)
    ·rw[if_pos (.inr (.inr (.inl g4)))];repeat'(first|refine ad ?_|refine dk ?_|refine ae (fun _=>?_) (fun _=>?_)|refine aq ?_)
     rfl
    ·refine ae (fun g5=>?_) (fun g5=>?_)
     ·rw[if_pos (.inr (.inr (.inr g5)))];repeat'(first|refine ad ?_|refine dk ?_|refine ae (fun _=>?_) (fun _=>?_)|refine aq ?_)
      rfl
     ·rw[if_neg (by rintro(h|h|h|h);exact g1 h;omega;exact g4 h;exact g5 h)];repeat'(first|refine ad ?_|refine dk ?_|refine ah (c1) ?_|refine ae (fun _=>?_) (fun _=>?_)|refine aq ?_)
      rfl
  ·refine ae (fun g4=>?_) (fun g4=>?_);·omega
   ·refine ae (fun g5=>?_) (fun g5=>?_);·omega
    ·rw[if_neg (by rintro(h|h|h|h);exact g1 h;omega;exact g4 h;exact g5 h)];repeat'(first|refine ad ?_|refine dk ?_|refine ah (c1) ?_|refine ae (fun _=>?_) (fun _=>?_)|refine aq ?_)
     rfl
def MP (s:List UInt8)(l:List (List UInt8)):Bool:=iy l (s,[])
def xU (mi:Int)(fs:List bB):Bool:=!MP Fz (cJ (aM xO fs))&&(decide (mi=1)||MP LB (cJ (aM xO fs)))
theorem KD (mi:Int)(fs:List bB)(h:br fs≤1000000000):ay (CG G) 139 [.i .i64 mi,.sl 2 (fs.map aL)] [.b (xU mi fs)]:=by
 have c3:=Aa fs xO h (by decide);have hs:=cK (cv xO) fs;have hel:∀x,x∈cJ (aM xO fs)→x.length≤140737488355328:=fun x hx=>by have:=nk hx;unfold aM at*;omega
 have hln:(cJ (aM xO fs)).length≤9223372036854775806:=by have:=m0 (aM xO fs);unfold aM at*;omega
 unfold xU MP;generalize cJ (aM xO fs)=x at*;have f1:=iN x (Fz,[]) hln hel (by show Fz.length≤_;decide);have f2:=iN x (LB,[]) hln hel (by show LB.length≤_;decide);unfold bP at*;refine ay.mk (n:=16) Tryz.func139 rfl rfl rfl (Nat.le_of_ble_eq_true rfl) (ah c3 (ad ?_));refine bp f1 (fun b1=>?_) (fun b1=>?_)
 ·repeat'(first|refine ad ?_|refine dk ?_|refine ae (fun _=>?_) (fun _=>?_)|refine aq ?_)
  rw[b1];rfl
 ·rw[b1];refine ae (fun g1=>?_) (fun g1=>?_)
  ·repeat'(first|refine ad ?_|refine dk ?_|refine ae (fun _=>?_) (fun _=>?_)|refine aq ?_)
   rw[decide_eq_true g1];rfl
  ·repeat'(first|refine ad ?_|refine dk ?_|refine ah (f2) ?_|refine ae (fun _=>?_) (fun _=>?_)|refine aq ?_)
   rw[decide_eq_false g1];rfl
def q8 (b:List UInt8):Nat→Nat→Int|0,_=>-1|n+1,i=>if(b.drop (i-4)).take 4=oU then(i:Int) else q8 b n (i+1)
def n7 (b:List UInt8):Int:=q8 b (b.length-3) 4
theorem qp (b:List UInt8):∀(n i:Nat),4≤i→i+n≤b.length+1→q8 b n i=-1∨∃k:Nat,q8 b n i=(k:Int)∧4≤k∧k≤b.length∧(b.drop (k-4)).take 4=oU
 |0,i,_,_=>.inl rfl|n+1,i,h4,h=>by
  rw[q8];split;·rename_i hc;exact .inr ⟨i,rfl,h4,by omega,hc⟩
  ·exact qp b n (i+1) (by omega) (by omega)
theorem t7 (b:List UInt8):n7 b=-1∨∃k:Nat,n7 b=(k:Int)∧4≤k∧k≤b.length∧(b.drop (k-4)).take 4=oU:=by
 by_cases h:b.length<4;·left;unfold n7;rw[show b.length-3=0 by omega];rfl
 ·exact qp b _ 4 (by omega) (by omega)
theorem endR (b:List UInt8)(hb:b.length≤1000000000):ay (CG G) 220 [.sl 1 (aD b)] [.i .i64 (n7 b)]:=by
 have hl:=aK b;refine ay.mk (n:=18) Tryz.func220 rfl rfl rfl (Nat.le_of_ble_eq_true rfl) (ad ?_);apply aA (fun i:Nat=>4≤i∧(i≤b.length+1∨i=4)∧q8 b (b.length+1-i) i=n7 b) (fun i=>⟨[(0,.d (.sl 1 (aD b))),(3,dI (i:Int))],[],2⟩) (fun i=>b.length+1-i) 4 ⟨by omega,.inr rfl,by unfold n7;rw[show b.length+1-4=b.length-3 by omega]⟩ [];·exact aF
 ·rintro i ⟨h4,hi,hh⟩;refine ad ?_;refine ae (fun h1=>?_) (fun h1=>?_)
  ·have hi':i≤b.length:=by omega
   rw[show b.length+1-i=(b.length-i)+1 by omega,q8] at hh;have e:((aD b).take i).drop (i-4)=aD ((b.drop (i-4)).take 4):=by rw[dT,fO,List.drop_take,show i-(i-4)=4 by omega]
   refine ad (ar ⟨by omega,by omega⟩ (bnd i rfl (by omega) (bnd (i-4) (by omega) (by first|(simp;done)|(simp;omega)) ?_)));rw[e];refine cy _ rfl ?_;refine ae (fun h2=>?_) (fun h2=>?_)
   ·have h2:(b.drop (i-4)).take 4=oU:=h2;rw[if_pos h2] at hh;repeat'(first|refine ad ?_|refine dk ?_|refine ae (fun _=>?_) (fun _=>?_)|refine aq ?_)
    rw[←hh];rfl
   ·have h2:(b.drop (i-4)).take 4≠oU:=h2;rw[if_neg h2] at hh;repeat'(first|refine ad ?_|refine dk ?_|refine ae (fun _=>?_) (fun _=>?_)|refine aq ?_)
    apply aG (i+1) [] ⟨by omega,by omega,by rw[show b.length+1-(i+1)=b.length-i by omega];exact hh⟩ (by omega);exact aF
  ·rw[show b.length+1-i=0 by omega] at hh;repeat'(first|refine ad ?_|refine dk ?_|refine ae (fun _=>?_) (fun _=>?_)|refine aq ?_)
   rw[←hh];rfl
def eI (b:List UInt8)(most:Int):Int×Int:=if 0≤n7 b∧n7 b≤most then(n7 b,0) else if most≤(b.length:Int) then(0,3) else(0,4)
theorem endMR (b:List UInt8)(most:Int)(hb:b.length≤1000000000):ay (CG G) 182 [.sl 1 (aD b),.i .i64 most] [.i .i64 (eI b most).1,.i .i64 (eI b most).2]:=by
 have hl:=aK b;have c1:=endR b hb;unfold eI;generalize n7 b=e at*;refine ay.mk (n:=21) Tryz.func182 rfl rfl rfl (Nat.le_of_ble_eq_true rfl) (ah c1 (ad ?_));refine ae (fun h1=>?_) (fun h1=>?_)
 ·refine ae (fun h2=>?_) (fun h2=>?_)
  ·rw[if_pos ⟨h1,h2⟩];repeat'(first|refine ad ?_|refine dk ?_|refine ae (fun _=>?_) (fun _=>?_)|refine aq ?_)
   rfl
  ·rw[if_neg (fun h=>h2 h.2)];refine ad ?_;refine ae (fun h3=>?_) (fun h3=>?_)
   ·rw[if_pos (by omega)];repeat'(first|refine ad ?_|refine dk ?_|refine ae (fun _=>?_) (fun _=>?_)|refine aq ?_)
    rfl
   ·rw[if_neg (by omega)];repeat'(first|refine ad ?_|refine dk ?_|refine ae (fun _=>?_) (fun _=>?_)|refine aq ?_)
    rfl
 ·rw[if_neg (fun h=>h1 h.1)];refine ad ?_;refine ae (fun h3=>?_) (fun h3=>?_)
  ·rw[if_pos (by omega)];repeat'(first|refine ad ?_|refine dk ?_|refine ae (fun _=>?_) (fun _=>?_)|refine aq ?_)
   rfl
  ·rw[if_neg (by omega)];repeat'(first|refine ad ?_|refine dk ?_|refine ae (fun _=>?_) (fun _=>?_)|refine aq ?_)
   rfl
def ow (b:List UInt8)(i:Nat):Prop:=(b.getD i 0=13∧(i+1=b.length∨b.getD (i+1) 0≠10))∨(b.getD i 0=10∧(i=0∨b.getD (i-1) 0≠13))
instance (b:List UInt8)(i:Nat):Decidable (ow b i):=by unfold ow;infer_instance
def sD (b:List UInt8):Nat→Nat→Nat→List (List UInt8)→Option (List (List UInt8))|0,_,_,out=>some out|n+1,i,fr,out=>if ow b i then none else if b.getD i 0=10 then sD b n (i+1) (i+1) (out++[(b.drop fr).take (i-1-fr)]) else sD b n (i+1) fr out
structure nr (b:List UInt8)(i fr:Nat)(out:List (List UInt8)):Prop where
 le:fr≤i∧i≤b.length
 at10:fr=0∨b.getD (fr-1) 0=10
 cnt:out.length=(b.take i).count 10
 sum:aX out≤fr
theorem sj {b:List UInt8}{i:Nat}(hi:i<b.length):(b.take (i+1)).count 10=(b.take i).count 10+if b.getD i 0=10 then 1 else 0:=by rw[tp hi,List.count_append,List.count_singleton,show b.getD i 0=b[i] by simp[hi]];simp
theorem De (l:List (List UInt8))(x:List UInt8):aX (l++[x])=aX l+(x.length+1):=by simp[aX]
theorem nr.hit {b:List UInt8}{i fr:Nat}{out:List (List UInt8)}(h:nr b i fr out)(hi:i<b.length)(hb:¬ow b i)(h10:b.getD i 0=10):0<i∧fr≤i-1∧nr b (i+1) (i+1) (out++[(b.drop fr).take (i-1-fr)]):=by
 have hi0:i≠0:=fun e=>hb (.inr ⟨h10,.inl e⟩);have hp:b.getD (i-1) 0=13:=Nq.1 fun e=>hb (.inr ⟨h10,.inr e⟩);have hfr:fr≤i-1:=by
  rcases h.at10 with h0|h0;·omega
  ·by_cases e:fr=i;·rw[e,hp] at h0;exact absurd h0 (by decide)
   ·have:=h.le;omega
 refine⟨by omega,hfr,⟨⟨Nat.le_refl _,by omega⟩,.inr h10,?_,?_⟩⟩;·rw[sj hi,if_pos h10,Na,h.cnt];rfl
 ·have:=h.sum;rw[De,Nj,Nz];omega
theorem nr.miss {b:List UInt8}{i fr:Nat}{out:List (List UInt8)}(h:nr b i fr out)(hi:i<b.length)(h10:b.getD i 0≠10):nr b (i+1) fr out:=by refine⟨⟨by have:=h.le;omega,by omega⟩,h.at10,?_,h.sum⟩;rw[sj hi,if_neg h10,h.cnt];rfl
theorem rD (b:List UInt8):∀(n i fr:Nat)(out out':List (List UInt8)),i+n=b.length→nr b i fr out→sD b n i fr out=some out'→∃fr',nr b b.length fr' out'
 |0,i,fr,out,out',hn,h,e=>by
  rw[sD] at e;cases e;obtain rfl:i=b.length:=by omega
  exact⟨fr,h⟩;|n+1,i,fr,out,out',hn,h,e=>by
  rw[sD] at e;split at e;·cases e
  ·rename_i hb;split at e;·rename_i h10;exact rD b n _ _ _ _ (by omega) (h.hit (by omega) hb h10).2.2 e
   ·rename_i h10;exact rD b n _ _ _ _ (by omega) (h.miss (by omega) h10) e
theorem um {b:List UInt8}(h:n7 b=(b.length:Int)):2≤b.count 10:=by
 rcases t7 b with h1|⟨k,h1,h2,h3,h4⟩;·omega
 ·obtain rfl:k=b.length:=by omega
  have e:b=b.take (b.length-4)++oU:=by
   have h5:b.drop (b.length-4)=oU:=by rw[←h4];exact(Nt (by rw[Nz];omega)).symm
   conv=>lhs;rw[←NB (b.length-4) b,h5]
  rw[e,List.count_append];have:oU.count 10=2:=by decide
  omega
noncomputable def bq (b:List UInt8):List (List UInt8)×Int:=if b.length<4∨n7 b≠(b.length:Int) then([],2) else match sD b b.length 0 0 [] with|none=>([],2)|some out=>(out.take (out.length-1),0)
theorem xZ {b:List UInt8}{l:List (List UInt8)}(h:bq b=(l,0)):1≤l.length∧aX l≤b.length:=by
 unfold bq at h;split at h;·cases h
 ·rename_i h1;split at h;·cases h
  ·rename_i out ho;simp only[Prod.mk.injEq,and_true] at h;subst h;obtain⟨fr,hi⟩:=rD b b.length 0 0 [] out (by omega) ⟨⟨Nat.le_refl _,Nat.zero_le _⟩,.inl rfl,by simp,by simp[aX]⟩ ho;have h2:=um (b:=b) (by omega);have h3:=hi.cnt;rw[ND] at h3;have h4:∀(l:List (List UInt8))(n:Nat),aX (l.take n)≤aX l:=by intro l;induction l with|nil=>simp;|cons x r ih=>intro n;cases n with|zero=>simp[aX];|succ n=>have:=ih n;simp only[List.take_succ_cons,aX,Nw,List.sum_cons] at*;omega
   have h5:=h4 out (out.length-1);have h6:=hi.sum;have h7:=hi.le;refine⟨?_,by omega⟩;rw[Nj];omega
theorem vT {b:List UInt8}{i:Nat}(h:i<b.length):(aD b)[i]?=some (.i .u8 ((b.getD i 0).toNat:Int)):=by rw[mY h,show b.getD i 0=b[i] by simp[h]]
theorem uR {a:UInt8}{n:Nat}(h:(a.toNat:Int)=(n:Int))(hn:n<256):a=UInt8.ofNat n:=UInt8.toNat_inj.1 (by rw[UInt8.toNat_ofNat_of_lt' hn];omega)
theorem GO (b:List UInt8)(hb:b.length≤1000000000):ay (CG G) 221 [.sl 1 (aD b)] [bP (bq b).1,.i .i64 (bq b).2]:=by
 have hl:=aK b;have c1:=endR b hb;unfold bq bP;refine ay.mk (n:=83) Tryz.func221 rfl rfl rfl (Nat.le_of_ble_eq_true rfl) (ad ?_);refine ae (fun a1=>?_) (fun a1=>?_)
 ·rw[if_pos (.inl (by omega))];repeat'(first|refine ad ?_|refine dk ?_|refine ae (fun _=>?_) (fun _=>?_)|refine aq ?_)
  rfl
 ·refine ah c1 ?_;refine ae (fun a2=>?_) (fun a2=>?_)
  ·rw[if_pos (.inr (by omega))];repeat'(first|refine ad ?_|refine dk ?_|refine ae (fun _=>?_) (fun _=>?_)|refine aq ?_)
   rfl
  ·have he:n7 b=(b.length:Int):=by omega
   have h2:=um he;rw[if_neg (by omega)];refine ad ?_;apply aA (fun x:Nat×Nat×List (List UInt8)=>nr b x.1 x.2.1 x.2.2∧sD b (b.length-x.1) x.1 x.2.1 x.2.2=sD b b.length 0 0 []) (fun x=>⟨[(0,.d (.sl 1 (aD b))),(4,.os 17),(5,dI (x.2.1:Int)),(6,dI (x.1:Int))],[(17,some (.buf 1 (x.2.2.map D.s)))],2⟩) (fun x=>b.length-x.1) (0,0,[]) ⟨⟨⟨Nat.le_refl _,Nat.zero_le _⟩,.inl rfl,by simp,by simp[aX]⟩,rfl⟩ [(17,_)];·exact aF
   ·rintro⟨i,fr,out⟩ ⟨hi,hh⟩;simp only at hi hh;have hle:=hi.le;have hol:=kI out;have hos:=hi.sum;refine ad ?_;refine ae (fun h1=>?_) (fun h1=>?_)
    ·have hi':i<b.length:=by omega
     rw[show b.length-i=(b.length-(i+1))+1 by omega,sD] at hh;have gi:=vT hi';have ar1:(i:Int)+1=((i+1:Nat):Int):=by omega
     have go10:¬ow b i→b.getD i 0=10→∃e1 e2:Int,True:=fun _ _=>⟨0,0,trivial⟩;refine ad (ad (ao i rfl gi ?_));refine ae (fun g1=>?_) (fun g1=>?_)
     ·have g1:b.getD i 0=13:=uR (n:=13) g1 (by decide);refine aq ?_;refine ae (fun g2=>?_) (fun g2=>?_)
      ·rw[if_pos (.inl ⟨g1,.inl (by omega)⟩)] at hh;rw[←hh];repeat'(first|refine ad ?_|refine dk ?_|refine ae (fun _=>?_) (fun _=>?_)|refine aq ?_)
       rfl
      ·have hi1:i+1<b.length:=by omega
       refine ar ⟨by omega,by omega⟩ (ao (i+1) (by omega) (vT hi1) ?_);refine ae (fun g3=>?_) (fun g3=>?_)
       ·rw[if_pos (.inl ⟨g1,.inr (fun e=>g3 (by rw[e];rfl))⟩)] at hh;rw[←hh];repeat'(first|refine ad ?_|refine dk ?_|refine ae (fun _=>?_) (fun _=>?_)|refine aq ?_)
        rfl
       ·have g3:b.getD (i+1) 0=10:=uR (n:=10) (Nq.1 g3) (by decide);have nb:¬ow b i:=by
         rintro(⟨_,h|h⟩|⟨h,_⟩);·omega
         ·exact h g3
         ·rw[g1] at h;exact absurd h (by decide)
        have n10:b.getD i 0≠10:=by rw[g1];decide
        rw[if_neg nb,if_neg n10] at hh;refine ao i rfl gi (ai (by rw[g1];decide) (ao i rfl gi (ai (by rw[g1];decide) ?_)));repeat'(first|refine ad ?_|refine dk ?_|refine ae (fun _=>?_) (fun _=>?_)|refine aq ?_)
        apply aG (i+1,fr,out) [(17,_)] ⟨hi.miss hi' n10,hh⟩ (show b.length-(i+1)<b.length-i by omega);exact aF
     ·have n13:b.getD i 0≠13:=fun e=>g1 (by rw[e];rfl);refine ao i rfl gi ?_;refine ae (fun g2=>?_) (fun g2=>?_)
      ·have g2:b.getD i 0=10:=uR (n:=10) g2 (by decide);refine ae (fun g3=>?_) (fun g3=>?_)
       ·rw[if_pos (.inr ⟨g2,.inl (by omega)⟩)] at hh;rw[←hh];repeat'(first|refine ad ?_|refine dk ?_|refine ae (fun _=>?_) (fun _=>?_)|refine aq ?_)
        rfl
       ·refine ar ⟨by omega,by omega⟩ (ao (i-1) (by omega) (vT (by omega)) ?_);refine ae (fun g4=>?_) (fun g4=>?_)
        ·rw[if_pos (.inr ⟨g2,.inr (fun e=>g4 (by rw[e];rfl))⟩)] at hh;rw[←hh];repeat'(first|refine ad ?_|refine dk ?_|refine ae (fun _=>?_) (fun _=>?_)|refine aq ?_)
         rfl
        ·have g4:b.getD (i-1) 0=13:=uR (n:=13) (Nq.1 g4) (by decide);have nb:¬ow b i:=by
          rintro(⟨h,_⟩|⟨_,h|h⟩);·exact n13 h
          ·omega
          ·exact h g4
         rw[if_neg nb,if_pos g2] at hh;obtain⟨hi0,hf,hnx⟩:=hi.hit hi' nb g2;have e:((aD b).take (i-1)).drop fr=aD ((b.drop fr).take (i-1-fr)):=by rw[dT,fO,List.drop_take]
         refine ao i rfl gi (aj (by rw[g2];rfl) (ar ⟨by omega,by omega⟩ (bnd (i-1) (by omega) (by omega) (bnd fr rfl (by first|(simp;done)|(simp;omega)|omega) ?_))));rw[e];refine cy _ rfl (aB (by simp;omega) ?_);repeat'(first|refine ad ?_|refine dk ?_|refine ae (fun _=>?_) (fun _=>?_)|refine aq ?_)
         apply aG (i+1,i+1,out++[(b.drop fr).take (i-1-fr)]) [(17,_)] ⟨hnx,hh⟩ (show b.length-(i+1)<b.length-i by omega);exact aF
      ·have n10:b.getD i 0≠10:=fun e=>g2 (by rw[e];rfl);have nb:¬ow b i:=by
        rintro(⟨h,_⟩|⟨h,_⟩);·exact n13 h
        ·exact n10 h
       rw[if_neg nb,if_neg n10] at hh;refine ao i rfl gi (ai g2 ?_);repeat'(first|refine ad ?_|refine dk ?_|refine ae (fun _=>?_) (fun _=>?_)|refine aq ?_)
       apply aG (i+1,fr,out) [(17,_)] ⟨hi.miss hi' n10,hh⟩ (show b.length-(i+1)<b.length-i by omega);exact aF
    ·obtain rfl:i=b.length:=by omega
     rw[show b.length-b.length=0 by omega,sD] at hh;rw[←hh];have hcn:=hi.cnt;rw[ND] at hcn;have hml:(List.map D.s ((b.length,fr,out):Nat×Nat×List (List UInt8)).2.2).length=out.length:=by simp
     refine ar ⟨by omega,by omega⟩ (bnd (out.length-1) (by omega) (by omega) (Dl ?_));repeat'(first|refine ad ?_|refine dk ?_|refine ae (fun _=>?_) (fun _=>?_)|refine aq ?_)
     refine aN ?_;rw[←List.map_take]
theorem Ea (c:UInt8)(l:List UInt8):(cz c l).1.length+(cz c l).2.1.length≤l.length:=by
 unfold cz;split;·simp only[Nj,Nz];omega
 ·simp
theorem yw (x:List UInt8):(dM x).1.1.length+(dM x).1.2.length≤x.length:=by
 have h1:=Ea 58 x;have h2:=fM (cz 58 x).2.1;unfold dM;split;·simp only;omega
 ·simp
theorem FW (l:List bB)(f:bB):br (l++[f])=br l+(f.1.length+f.2.length+1):=by simp[br]
theorem oH:∀(l:List (List UInt8))(o:List bB),br (iB l o).1≤br o+aX l∧(iB l o).1.length≤o.length+l.length
 |[],o=>by simp[iB,aX];|x::r,o=>by
  have h1:=yw x;have e:aX (x::r)=x.length+1+aX r:=by simp[aX]
  rw[iB];split;·have h2:=oH r (o++[(dM x).1]);rw[FW] at h2;rw[e];simp only[Na,Nb,Nf] at*;omega
  ·simp[br]
theorem hY (l:List (List UInt8)):br (dZ l).1≤aX l∧(dZ l).1.length≤64:=by
 have h:=oH l [];unfold dZ;split;·simp[br]
 ·have e:br []=0:=rfl;rw[e] at h;simp only[Nf] at h;omega
theorem oR (l:List (List UInt8))(h:aX l≤1000000000):ay (CG G) 223 [bP l] [.sl 2 ((dZ l).1.map aL),.i .i64 (dZ l).2]:=by
 have hl:(l.map D.s).length=l.length:=by simp
 unfold dZ bP;refine ay.mk (n:=33) Tryz.func223 rfl rfl rfl (Nat.le_of_ble_eq_true rfl) (ad ?_);refine ae (fun a1=>?_) (fun a1=>?_)
 ·rw[if_pos (by omega)];repeat'(first|refine ad ?_|refine dk ?_|refine ae (fun _=>?_) (fun _=>?_)|refine aq ?_)
  rfl
 ·rw[if_neg (by omega)];refine ad ?_;apply aA (fun x:Nat×List bB=>x.1≤l.length∧x.2.length=x.1∧iB (l.drop x.1) x.2=iB l []) (fun x=>⟨[(0,.d (.sl 1 (l.map .s))),(4,.os 17),(5,dI (x.1:Int))],[(17,some (.buf 2 (x.2.map aL)))],2⟩) (fun x=>l.length-x.1) (0,[]) ⟨Nat.zero_le _,rfl,rfl⟩ [(17,_)];·exact aF
  ·rintro⟨i,out⟩ ⟨hi,ho,hh⟩;simp only at hi ho hh;refine ad ?_;refine ae (fun h1=>?_) (fun h1=>?_)
   ·have hi':i<l.length:=by simp only at h1;omega
    have hm:=gT (Nr hi');have c1:=B9 l[i] (by omega);rw[Ny hi',iB] at hh;unfold aL at c1;generalize (dM l[i]).1=f at*;generalize (dM l[i]).2=e at*;refine ad (ao i rfl (bt hi') (ah c1 (ad ?_)));refine ae (fun g=>?_) (fun g=>?_)
    ·rw[if_neg g] at hh;rw[←hh];repeat'(first|refine ad ?_|refine dk ?_|refine ae (fun _=>?_) (fun _=>?_)|refine aq ?_)
     rfl
    ·rw[if_pos (Nq.1 g)] at hh;refine aB (by simp;omega) ?_;repeat'(first|refine ad ?_|refine dk ?_|refine ae (fun _=>?_) (fun _=>?_)|refine aq ?_)
     apply aG (i+1,out++[f]) [(17,_)] ⟨by show i+1≤_;omega,by simp[ho],hh⟩ (show l.length-(i+1)<l.length-i by omega);((repeat' constructor)<;>(first|refine aI ?_|rfl)<;>first|exact oT|skip);all_goals simp[aL]
   ·obtain rfl:i=l.length:=by simp only at h1;omega
    rw[List.drop_length,iB] at hh;rw[←hh];repeat'(first|refine ad ?_|refine dk ?_|refine ae (fun _=>?_) (fun _=>?_)|refine aq ?_)
    rfl
def Ce:List UInt8:=[104,111,115,116]
noncomputable def fA (b:List UInt8):eL×Int:=if(bq b).2≠0 then(.zero,(bq b).2)else if(df ((bq b).1.headD [])).2≠0 then(.zero,(df ((bq b).1.headD [])).2)else if(dZ ((bq b).1.drop 1)).2≠0 then(.zero,(dZ ((bq b).1.drop 1)).2)else if 1<(aM Ce (dZ ((bq b).1.drop 1)).1).length∨((aM Ce (dZ ((bq b).1.drop 1)).1).length=0∧(df ((bq b).1.headD [])).1.mi=1) then(.zero,2)else({(df ((bq b).1.headD [])).1 with fs:=(dZ ((bq b).1.drop 1)).1},0)
theorem ep {b:List UInt8}(h:(bq b).2=0):1≤(bq b).1.length∧aX (bq b).1≤b.length:=xZ (by rw[←h])
theorem ld (l:List (List UInt8))(n:Nat):aX (l.drop n)≤aX l:=by induction l generalizing n with|nil=>simp;|cons x r ih=>cases n with|zero=>simp;|succ n=>have:=ih n;simp only[List.drop_succ_cons,aX,Nw,List.sum_cons] at*;omega
theorem Da (b:List UInt8)(hb:b.length≤1000000000):ay (CG G) 185 [.sl 1 (aD b)] [gu (fA b).1,.i .i64 (fA b).2]:=by
 have c1:=GO b hb;have hp:=@ep b;unfold fA;generalize (bq b).2=e at*;generalize (bq b).1=l at*;unfold gu dF bP at*;refine ay.mk (n:=56) Tryz.func185 rfl rfl rfl (Nat.le_of_ble_eq_true rfl) (ah c1 (ad ?_));refine ae (fun a1=>?_) (fun a1=>?_)
 ·rw[if_pos a1];repeat'(first|refine ad ?_|refine dk ?_|refine ae (fun _=>?_) (fun _=>?_)|refine aq ?_)
  rfl
 ·have a1:e=0:=Nq.1 a1;obtain⟨h1,h2⟩:=hp a1;rw[if_neg (by rw[a1];decide)];cases l with|nil=>simp at h1;|cons x r=>
   have e2:aX (x::r)=x.length+1+aX r:=by simp[aX]
   have c2:=Gt x (by omega);have c3:=oR r (by omega);have h3:=hY r;have h4:=dE (dZ r).1;have c4:=oQ (dZ r).1 Ce (by omega) (by decide) (fun f hf=>by have:=eu hf;omega);simp only[List.headD_cons,List.drop_one,List.tail_cons];generalize (dZ r).2=e3 at*;generalize (dZ r).1=fs at*;generalize (df x).2=e4 at*;generalize (df x).1=q at*;unfold gu dF bP at*;have hvl:((aM Ce fs).map D.s).length=(aM Ce fs).length:=by simp
   generalize aM Ce fs=vs at*;refine ao 0 rfl rfl (ah c2 (ad ?_));refine ae (fun a2=>?_) (fun a2=>?_)
   ·rw[if_pos a2];repeat'(first|refine ad ?_|refine dk ?_|refine ae (fun _=>?_) (fun _=>?_)|refine aq ?_)
    rfl
   ·rw[if_neg a2];refine bnd 1 rfl (by simp) (ah c3 (ad ?_));refine ae (fun a3=>?_) (fun a3=>?_)
    ·rw[if_pos a3];repeat'(first|refine ad ?_|refine dk ?_|refine ae (fun _=>?_) (fun _=>?_)|refine aq ?_)
     rfl
    ·rw[if_neg a3];refine ah c4 (ad ?_);refine ae (fun a4=>?_) (fun a4=>?_)
     ·rw[if_pos (.inl (by omega))];repeat'(first|refine ad ?_|refine dk ?_|refine ae (fun _=>?_) (fun _=>?_)|refine aq ?_)
      rfl
     ·refine ae (fun a5=>?_) (fun a5=>?_)
      ·refine ae (fun a6=>?_) (fun a6=>?_)
       ·rw[if_pos (.inr ⟨by omega,a6⟩)];repeat'(first|refine ad ?_|refine dk ?_|refine ae (fun _=>?_) (fun _=>?_)|refine aq ?_)
        rfl
       ·rw[if_neg (by rintro(h|h);omega;exact a6 h.2)];repeat'(first|refine ad ?_|refine dk ?_|refine ae (fun _=>?_) (fun _=>?_)|refine aq ?_)
        rfl
      ·rw[if_neg (by omega)];repeat'(first|refine ad ?_|refine dk ?_|refine ae (fun _=>?_) (fun _=>?_)|refine aq ?_)
       rfl
noncomputable def gc (b:List UInt8):iZ×Int:=if(bq b).2≠0 then(.zero,(bq b).2)else if(jI ((bq b).1.headD [])).2≠0 then(.zero,(jI ((bq b).1.headD [])).2)else if(dZ ((bq b).1.drop 1)).2≠0 then(.zero,(dZ ((bq b).1.drop 1)).2)else({(jI ((bq b).1.headD [])).1 with fs:=(dZ ((bq b).1.drop 1)).1},0)
theorem Dt (b:List UInt8)(hb:b.length≤1000000000):ay (CG G) 183 [.sl 1 (aD b)] [eF (gc b).1,.i .i64 (gc b).2]:=by
 have c1:=GO b hb;have hp:=@ep b;unfold gc;generalize (bq b).2=e at*;generalize (bq b).1=l at*;unfold eF bU bP at*;refine ay.mk (n:=39) Tryz.func183 rfl rfl rfl (Nat.le_of_ble_eq_true rfl) (ah c1 (ad ?_));refine ae (fun a1=>?_) (fun a1=>?_)
 ·rw[if_pos a1];repeat'(first|refine ad ?_|refine dk ?_|refine ae (fun _=>?_) (fun _=>?_)|refine aq ?_)
  rfl
 ·have a1:e=0:=Nq.1 a1;obtain⟨h1,h2⟩:=hp a1;rw[if_neg (by rw[a1];decide)];cases l with|nil=>simp at h1;|cons x r=>
   have e2:aX (x::r)=x.length+1+aX r:=by simp[aX]
   have c2:=statR x (by omega);have c3:=oR r (by omega);simp only[List.headD_cons,List.drop_one,List.tail_cons];generalize (dZ r).2=e3 at*;generalize (dZ r).1=fs at*;generalize (jI x).2=e4 at*;generalize (jI x).1=q at*;unfold eF bU bP at*;refine ao 0 rfl rfl (ah c2 (ad ?_));refine ae (fun a2=>?_) (fun a2=>?_)
   ·rw[if_pos a2];repeat'(first|refine ad ?_|refine dk ?_|refine ae (fun _=>?_) (fun _=>?_)|refine aq ?_)
    rfl
   ·rw[if_neg a2];refine bnd 1 rfl (by simp) (ah c3 (ad ?_));refine ae (fun a3=>?_) (fun a3=>?_)
    ·rw[if_pos a3];repeat'(first|refine ad ?_|refine dk ?_|refine ae (fun _=>?_) (fun _=>?_)|refine aq ?_)
     rfl
    ·rw[if_neg a3];repeat'(first|refine ad ?_|refine dk ?_|refine ae (fun _=>?_) (fun _=>?_)|refine aq ?_)
     rfl
def gO (r:eL):List UInt8:=if eU r=[]∨r.fs.all hZ=false then[] else eU r++zD++qJ r.fs++zD
theorem ic (r:eL):(eU r).length≤r.m.length+r.t.length+40:=by
 unfold eU;split;·simp
 ·have:=bv (n:=r.mi) (by omega);simp only[Na,Nb,Nf];omega
theorem l6 (r:eL):(gO r).length≤r.m.length+r.t.length+4*br r.fs+44:=by
 have h1:=ic r;have h2:=mq r.fs;unfold gO;split;·simp
 ·simp only[Na,zD,Nb,Nf];omega
theorem Bd (r:eL)(h1:r.m.length≤100000000)(h2:r.t.length≤100000000)(h3:br r.fs≤100000000):aH (CG G) 96 [.d (gu r)] [] [.os 16] [(16,some (.buf 1 (aD (gO r))))]:=by
 have c1:=yd r (by omega) (by omega);have c2:=sX r.fs (by omega);have c3:=Bk r.fs (by omega);have l1:=ic r;have l2:=mq r.fs;unfold gO;generalize eU r=s at*;generalize qJ r.fs=fm at*;unfold gu dF at*;refine aH.mk (n:=22) Tryz.func96 rfl rfl rfl (Nat.le_of_ble_eq_true rfl) rfl (ah c1 (ad ?_));refine ae (fun a1=>?_) (fun a1=>?_)
 ·rw[if_pos (.inl a1)];repeat'(first|refine ad ?_|refine dk ?_|refine ae (fun _=>?_) (fun _=>?_)|refine aq ?_)
  apply aw [(16,_)];exact aF
 ·refine bp c2 (fun b1=>?_) (fun b1=>?_)
  ·rw[if_neg (by rintro(h|h);exact a1 h;rw[b1] at h;cases h)];repeat'(first|refine ad ?_|refine dk ?_|refine ah (c3) ?_|refine bg (by simp;omega) ?_|refine ae (fun _=>?_) (fun _=>?_)|refine aq ?_)
   apply aw [(16,_)];exact aF
  ·rw[if_pos (.inr b1)];repeat'(first|refine ad ?_|refine dk ?_|refine ae (fun _=>?_) (fun _=>?_)|refine aq ?_)
   apply aw [(16,_)];exact aF
def ji (a:iZ):List UInt8:=if jo a=[]∨a.fs.all hZ=false then[] else jo a++zD++qJ a.fs++zD
theorem oY (a:iZ):(jo a).length≤a.rs.length+60:=by
 unfold jo;split;·simp
 ·have:=bv (n:=a.mi) (by omega);have:=bv (n:=a.st) (by omega);simp only[Na,Nb,Nf];omega
theorem jm (a:iZ):(ji a).length≤a.rs.length+4*br a.fs+64:=by
 have h1:=oY a;have h2:=mq a.fs;unfold ji;split;·simp
 ·simp only[Na,zD,Nb,Nf];omega
theorem vz (a:iZ)(h1:a.rs.length≤100000000)(h3:br a.fs≤100000000):aH (CG G) 95 [.d (eF a)] [] [.os 16] [(16,some (.buf 1 (aD (ji a))))]:=by
 have c1:=Hp a (by omega);have c2:=sX a.fs (by omega);have c3:=Bk a.fs (by omega);have l1:=oY a;have l2:=mq a.fs;unfold ji;generalize jo a=s at*;generalize qJ a.fs=fm at*;unfold eF bU at*;refine aH.mk (n:=22) Tryz.func95 rfl rfl rfl (Nat.le_of_ble_eq_true rfl) rfl (ah c1 (ad ?_));refine ae (fun a1=>?_) (fun a1=>?_)
 ·rw[if_pos (.inl a1)];repeat'(first|refine ad ?_|refine dk ?_|refine ae (fun _=>?_) (fun _=>?_)|refine aq ?_)
  apply aw [(16,_)];exact aF
 ·refine bp c2 (fun b1=>?_) (fun b1=>?_)
  ·rw[if_neg (by rintro(h|h);exact a1 h;rw[b1] at h;cases h)];repeat'(first|refine ad ?_|refine dk ?_|refine ah (c3) ?_|refine bg (by simp;omega) ?_|refine ae (fun _=>?_) (fun _=>?_)|refine aq ?_)
   apply aw [(16,_)];exact aF
  ·rw[if_pos (.inr b1)];repeat'(first|refine ad ?_|refine dk ?_|refine ae (fun _=>?_) (fun _=>?_)|refine aq ?_)
   apply aw [(16,_)];exact aF
structure kc where
 ph:Int
 lf:Int
 tr:Int
 ln:List UInt8
def sJ (c:kc):D:=.agg [.i .i64 c.ph,.i .i64 c.lf,.i .i64 c.tr,.sl 1 (aD c.ln)]
structure kc.Ok (c:kc):Prop where
 ph:c.ph=0∨c.ph=1∨c.ph=2∨c.ph=3∨c.ph=4
 tr0:c.ph≠3→c.ph≠4→c.tr=0
 tr:0≤c.tr∧c.tr≤1024
 lf0:c.ph≠1→c.lf=0
 lf:0≤c.lf∧c.lf≤1000000000
 lf1:c.ph=1→0<c.lf
 ln:c.ln.length≤129
 lr:c.ln.getLast?≠some 13→c.ln.length≤128
noncomputable def rg (c:kc)(l:List UInt8):kc×Int:=if(bV 16 1000000000 (cz 59 l).1).2=2∨nD (cz 59 l).2.1=false then(c,2)else if(bV 16 1000000000 (cz 59 l).1).2≠0 then(c,(bV 16 1000000000 (cz 59 l).1).2)else if(bV 16 1000000000 (cz 59 l).1).1=0 then({c with ph:=3,tr:=0},0)else({c with ph:=1,lf:=(bV 16 1000000000 (cz 59 l).1).1},0)
noncomputable def dK (c:kc)(l:List UInt8):kc×Int:=if c.ph=0 then rg c l else if c.ph=2 then(if l=[] then({c with ph:=0},0) else(c,2))else if l=[] then({c with ph:=4},0) else if(dM l).2=0 then(c,0) else(c,2)
def NG (c:kc):kc:=if c.ph=3 then{c with tr:=c.tr+1} else c
noncomputable def fc (c:kc)(x:UInt8):kc×Int:=if c.ph=3∧1024<c.tr+1 then(NG c,3)else if c.ln.getLast?=some 13 then(if x=10 then dK {NG c with ln:=[]} c.ln.dropLast else(NG c,2))else if x=10 then(NG c,2)else if 128<c.ln.length+1∧x≠13 then({NG c with ln:=c.ln++[x]},3) else({NG c with ln:=c.ln++[x]},0)
theorem Gn (c:UInt8)(l:List UInt8):(cz c l).1.length≤l.length∧(cz c l).2.1.length≤l.length:=by unfold cz;split<;>simp;omega
theorem Ju {l:List UInt8}(h:0<l.length):l.getLast?=some (l[l.length-1]'(by omega)):=by rw[List.getLast?_eq_getElem?,No]
def kc.zero:kc:=⟨0,0,0,[]⟩
structure qg where
 c:kc
 out:List UInt8
 n:Nat
 e:Int
def mZ (c:kc):kc:={c with lf:=c.lf-1,ph:=if c.lf-1=0 then 2 else c.ph}
noncomputable def fu (room:Int):kc→List UInt8→List UInt8→Nat→qg|c,out,[],i=>⟨c,out,i,0⟩|c,out,x::r,i=>if c.ph=4∨c.ph=1∧room≤out.length then⟨c,out,i,0⟩else if c.ph=1 then fu room (mZ c) (out++[x]) r (i+1)else if(fc c x).2≠0 then⟨.zero,[],0,(fc c x).2⟩ else fu room (fc c x).1 out r (i+1)
def qg.ds (r:qg):List D:=[sJ r.c,.sl 1 (aD r.out),.i .i64 (r.n:Int),.i .i64 r.e]
theorem Cb {base most:Int}(hb:2≤base):∀{l:List UInt8}{n m:Int},0≤n→n≤most→acc base most l n=some m→0≤m∧m≤most
 |[],n,m,h0,h1,h=>by simp only[acc,Option.some.injEq] at h;subst h;exact⟨h0,h1⟩;|c::l,n,m,h0,h1,h=>by
  by_cases hc:most<dc c∨(most-dc c).tdiv base<n;·rw[rB hc] at h;cases h
  ·have hd:=Hj c;rw[w9 (fun e=>hc (.inl e)) (fun e=>hc (.inr e))] at h;have:=AP hb (by omega) (fun e=>hc (.inr e));refine Cb hb ?_ (by omega) h;have:=Int.mul_nonneg h0 (show 0≤base by omega);omega
theorem tI {base most:Int}(hb:2≤base)(hm:0≤most)(l:List UInt8):0≤(bV base most l).1∧(bV base most l).1≤most:=by
 by_cases h:bad base l∨l=[];·rw[jg h];exact⟨Int.le_refl _,hm⟩
 ·rw[lq (fun e=>h (.inl e)) (fun e=>h (.inr e))];cases ha:acc base most l 0 with|none=>exact⟨Int.le_refl _,hm⟩;|some m=>exact Cb hb (Int.le_refl _) hm ha
theorem wa {c:kc}(hc:c.Ok)(h1:¬(c.ph=3∧1024<c.tr+1)):(NG c).Ok:=by
 unfold NG;split;·rename_i h3;obtain⟨a1,a2,a3,a4,a5,a6,a7,a8⟩:=hc;exact⟨a1,fun e=>absurd h3 e,⟨by show 0≤c.tr+1;omega,by show c.tr+1≤1024;omega⟩,a4,a5,a6,a7,a8⟩
 ·exact hc
theorem E6 {c:kc}{l:List UInt8}(hc:c.Ok)(h1:c.ph≠1):(dK c l).1.Ok∧((dK c l).2=0→(dK c l).1.ph≠1∨(dK c l).1.ln=c.ln):=by
 obtain⟨a1,a2,a3,a4,a5,a6,a7,a8⟩:=hc;have hp:=tI (base:=16) (most:=1000000000) (by decide) (by decide) (cz 59 l).1;have A:∀e:Int,((c,e):kc×Int).1.Ok∧(((c,e):kc×Int).2=0→((c,e):kc×Int).1.ph≠1∨((c,e):kc×Int).1.ln=c.ln):=fun e=>⟨⟨a1,a2,a3,a4,a5,a6,a7,a8⟩,fun _=>.inr rfl⟩;have l0:=a4 h1;unfold dK rg;split
 ·rename_i h0;have t0:c.tr=0:=a2 (by omega) (by omega);split;·exact A _
  ·split;·exact A _
   ·split;·exact⟨⟨.inr (.inr (.inr (.inl rfl))),fun e=>absurd rfl e,⟨show (0:Int)≤0 by decide,show(0:Int)≤1024 by decide⟩,fun _=>l0,a5,fun e=>absurd e (show¬(3:Int)=1 by decide),a7,a8⟩,fun _=>.inr rfl⟩
    ·exact⟨⟨.inr (.inl rfl),fun _ _=>t0,a3,fun e=>absurd rfl e,⟨hp.1,hp.2⟩,fun _=>by show 0<(bV 16 1000000000 (cz 59 l).1).1;omega,a7,a8⟩,fun _=>.inr rfl⟩
 ·split
  ·rename_i h2;have t0:c.tr=0:=a2 (by omega) (by omega);split;·exact⟨⟨.inl rfl,fun _ _=>t0,a3,fun _=>l0,a5,fun e=>absurd e (show¬(0:Int)=1 by decide),a7,a8⟩,fun _=>.inr rfl⟩
   ·exact A _
  ·split;·exact⟨⟨.inr (.inr (.inr (.inr rfl))),fun _ e=>absurd rfl e,a3,fun _=>l0,a5,fun e=>absurd e (show¬(4:Int)=1 by decide),a7,a8⟩,fun _=>.inr rfl⟩
   ·split;·exact A _
    ·exact A _
theorem xV {c:kc}{x:UInt8}(hc:c.Ok)(h1:c.ph≠1)(he:(fc c x).2=0):(fc c x).1.Ok:=by
 by_cases hb:c.ph=3∧1024<c.tr+1;·unfold fc at he;rw[if_pos hb] at he;cases he
 have hB:=wa hc hb;have hph:(NG c).ph=c.ph:=by unfold NG;split<;>rfl
 have hln:(NG c).ln=c.ln:=by unfold NG;split<;>rfl
 unfold fc at he⊢;rw[if_neg hb] at he⊢;split at he
 ·rename_i h2;rw[if_pos h2];split at he;·rename_i h3;rw[if_pos h3];obtain⟨a1,a2,a3,a4,a5,a6,a7,a8⟩:=hB;exact(E6 (c:={NG c with ln:=[]}) ⟨a1,a2,a3,a4,a5,a6,by simp,by simp⟩ (by rw[←hph] at h1;exact h1)).1
  ·cases he
 ·rename_i h2;rw[if_neg h2];split at he;·cases he
  ·rename_i h3;rw[if_neg h3];split at he;·cases he
   ·rename_i h4;rw[if_neg h4];obtain⟨a1,a2,a3,a4,a5,a6,a7,a8⟩:=hB;have:=hc.lr h2;refine⟨a1,a2,a3,a4,a5,a6,?_,fun hl=>?_⟩;·show(c.ln++[x]).length≤129;rw[Na];simp only[NA];omega
    ·have hx:x≠13:=fun e=>hl (by show(c.ln++[x]).getLast?=some 13;rw[e];simp);show(c.ln++[x]).length≤128;rw[Na];simp only[NA];rcases Nat.lt_or_ge 128 (c.ln.length+1) with h|h;·exact absurd ⟨h,hx⟩ h4
     ·exact h
theorem xl {c:kc}(hc:c.Ok)(h1:c.ph=1):(mZ c).Ok:=by
 obtain⟨a1,a2,a3,a4,a5,a6,a7,a8⟩:=hc;have:=a6 h1;have ht:c.tr=0:=a2 (by omega) (by omega);unfold mZ;split;·rename_i h;exact⟨by simp,fun _ _=>ht,a3,fun _=>h,⟨by show 0≤c.lf-1;omega,by show c.lf-1≤_;omega⟩,by simp,a7,a8⟩
 ·rename_i h;exact⟨a1,a2,a3,fun e=>absurd h1 e,⟨by show 0≤c.lf-1;omega,by show c.lf-1≤_;omega⟩,fun _=>by show 0<c.lf-1;omega,a7,a8⟩
end Go.Proofs.YtgfdbddglhblbaaGreat

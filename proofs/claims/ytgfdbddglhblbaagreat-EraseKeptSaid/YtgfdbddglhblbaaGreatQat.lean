/- A part of the proof of what is stated of the erasing of a mirror. -/
import Derived.Test.YtgfdbddglhblbaaGreatQas
import Derived.Test.YtgfdbddglhblbaaGreatQap
import Derived.Test.YtgfdbddglhblbaaGreatQaq
set_option maxHeartbeats 64000000
namespace Go.Proofs.YtgfdbddglhblbaaGreat
open Go.Eng
attribute [local irreducible] aO
set_option maxRecDepth 100000
theorem sc (c:UInt8):∀l:List UInt8,∃t,bm c l=(cz c l).1::t
 |[]=>⟨[],rfl⟩|x::r=>by
  obtain⟨t,ht⟩:=sc c r;simp only[bm];by_cases h:x=c;·refine⟨bm c r,?_⟩;rw[if_pos h];simp[cz,gy,h]
  ·rw[if_neg h,ht];refine⟨t,?_⟩;simp only[cz,gy,if_neg h];cases gy c r with|none=>rfl;|some i=>rfl
theorem MJ {c:UInt8}(h:dc c<16):oh c=true:=by
 unfold oh;apply decide_eq_true;unfold dc dg at h;have:=c.toNat_lt;repeat' split at h
 all_goals omega
theorem Gw {l:List UInt8}(h:(bV 16 1000000000 (cz 59 l).1).2≠2):nD l=nD (cz 59 l).2.1:=by
 have hd:(cz 59 l).1.all oh=true:=by
  by_cases hb:bad 16 (cz 59 l).1∨(cz 59 l).1=[];·rw[jg hb] at h;exact absurd rfl h
  ·rw[List.all_eq_true];intro c hc;refine MJ ?_;have h5:¬bad 16 (cz 59 l).1:=fun e=>hb (.inl e);unfold bad at h5;rcases Int.lt_or_le (dc c) 16 with h6|h6;·exact h6
   ·exact absurd ⟨c,hc,h6⟩ h5
 unfold cz at hd⊢;cases hi:gy 59 l with|none=>simp only[hi] at hd;simp only[nD,hd];rfl;|some i=>
  simp only[hi] at hd;have:=vP (sU hi).2.1;conv=>lhs;rw[this]
  simp only[nD,List.all_append,List.all_cons,hd];rfl
theorem stepR (c:kc)(x:UInt8)(hc:c.Ok)(h1:c.ph≠1)(h4:c.ph≠4):ay (CG G) 226 [sJ c,.i .u8 (x.toNat:Int)] [sJ (fc c x).1,.i .i64 (fc c x).2]:=by
 have hln:=hc.ln;have htr:=hc.tr;refine mD 120 Tryz.func226 ?_;apply bd (fun _:Unit=>¬(c.ph=3∧1024<c.tr+1)) (fun _=>⟨[(1,.d (.i .u8 (x.toNat:Int))),(2,.op 16 0 0),(4,.op 17 0 0)],[(16,some (.box [dI ((NG c).ph),dI ((NG c).lf),dI ((NG c).tr),.d (.sl 1 (aD c.ln))])),(17,some (.box [dI 0,dI 0,dI 0,.nl 1]))],2⟩)
 ·refine ae (fun h3=>?_) (fun h3=>?_)
  ·have hb:NG c={c with tr:=c.tr+1}:=by unfold NG;rw[if_pos h3]
   refine aq ?_;refine ae (fun h5=>?_) (fun h5=>?_)
   ·have:fc c x=(NG c,3):=by unfold fc;rw[if_pos ⟨h3,by omega⟩]
    rw[this,hb];rfl
   ·apply aC () [(16,_),(17,_)] (fun e=>h5 (by omega));rw[hb];exact aF
  ·have hb:NG c=c:=by unfold NG;rw[if_neg h3]
   apply aC () [(16,_),(17,_)] (fun e=>h3 e.1);rw[hb];exact aF
 rintro⟨⟩ hno;have hlnl:(aD c.ln).length=c.ln.length:=by simp[aD]
 have hbk:=wa hc hno;generalize hcb:NG c=cb at hbk⊢;have hph:cb.ph=c.ph:=by rw[←hcb];unfold NG;split<;>rfl
 have hst:fc c x=if c.ln.getLast?=some 13 then(if x=10 then dK {cb with ln:=[]} c.ln.dropLast else(cb,2))else if x=10 then(cb,2)else if 128<c.ln.length+1∧x≠13 then({cb with ln:=c.ln++[x]},3) else({cb with ln:=c.ln++[x]},0):=by unfold fc;rw[if_neg hno,hcb]
 have hcl:cb.ln=c.ln:=by rw[←hcb];unfold NG;split<;>rfl
 have app:c.ln.getLast?≠some 13→x≠10→fc c x=if 128<c.ln.length+1∧x≠13 then({cb with ln:=c.ln++[x]},3) else({cb with ln:=c.ln++[x]},0):=fun g1 g2=>by rw[hst,if_neg g1,if_neg g2]
 have x10:(x.toNat:Int)=10↔x=10:=⟨fun e=>UInt8.toNat.inj (show x.toNat=10 by omega),fun e=>by rw[e];rfl⟩;have x13:(x.toNat:Int)=13↔x=13:=⟨fun e=>UInt8.toNat.inj (show x.toNat=13 by omega),fun e=>by rw[e];rfl⟩;have fin:sJ {cb with ln:=c.ln++[x]}=.agg [.i .i64 cb.ph,.i .i64 cb.lf,.i .i64 cb.tr,.sl 1 (aD c.ln++[.i .u8 (x.toNat:Int)])]:=by have:=cU c.ln [x];unfold sJ;rw[←this];rfl
 have cbD:sJ cb=.agg [.i .i64 cb.ph,.i .i64 cb.lf,.i .i64 cb.tr,.sl 1 (aD c.ln)]:=by unfold sJ;rw[hcl]
 apply bd (fun _:Unit=>c.ln.getLast?=some 13) (fun _=>⟨[(1,.d (.i .u8 (x.toNat:Int))),(2,.op 16 0 0),(4,.op 17 0 0),(6,dI (c.ln.length:Int))],[(16,some (.box [dI cb.ph,dI cb.lf,dI cb.tr,.d (.sl 1 (aD c.ln))])),(17,some (.box [dI 0,dI 0,dI 0,.nl 1]))],2⟩)
 ·refine ae (fun h5=>?_) (fun h5=>?_)
  ·rw[hlnl] at h5;have hnil:c.ln=[]:=List.eq_nil_of_length_eq_zero (by omega);have g1:c.ln.getLast?≠some 13:=by rw[hnil];simp
   refine ad ?_;refine ae (fun h7=>?_) (fun h7=>?_);·rw[hst,if_neg g1,if_pos (x10.1 h7)];exact congrArg (fun y=>[y,D.i .i64 2]) cbD.symm
   ·have g2:x≠10:=fun e=>h7 (x10.2 e);rw[app g1 g2];refine aB (by simp[aD];omega) (aB (by simp[aD];omega) (ad ?_));refine ae (fun h8=>?_) (fun h8=>?_)
    ·simp only[Na,NA,List.nil_append,hlnl] at h8;refine ae (fun h9=>?_) (fun h9=>?_);·rw[if_pos ⟨by omega,fun e=>h9 (x13.2 e)⟩];exact congrArg (fun y=>[y,D.i .i64 3]) fin.symm
     ·rw[if_neg (fun e=>e.2 (x13.1 (by simpa using h9)))];exact congrArg (fun y=>[y,D.i .i64 0]) fin.symm
    ·simp only[Na,NA,List.nil_append,hlnl] at h8;rw[if_neg (fun e=>h8 (by omega))];exact congrArg (fun y=>[y,D.i .i64 0]) fin.symm
  ·rw[hlnl] at h5;have h0:0<c.ln.length:=by omega
   refine ar ⟨by rw[hlnl];omega,by rw[hlnl];omega⟩ ?_;refine ao (c.ln.length-1) (by rw[hlnl];omega) (mY (by omega)) ?_;have hl13:c.ln.getLast?=some 13↔((c.ln[c.ln.length-1]'(by omega)).toNat:Int)=13:=by rw[Ju h0];exact⟨fun e=>by rw[Option.some.inj e];rfl,fun e=>congrArg some (UInt8.toNat.inj (show _=13 by omega))⟩
   refine ae (fun h6=>?_) (fun h6=>?_)
   ·have g1:c.ln.getLast?≠some 13:=fun e=>h6 (hl13.1 e);refine ad ?_;refine ae (fun h7=>?_) (fun h7=>?_);·rw[hst,if_neg g1,if_pos (x10.1 h7)];exact congrArg (fun y=>[y,D.i .i64 2]) cbD.symm
    ·have g2:x≠10:=fun e=>h7 (x10.2 e);rw[app g1 g2];refine aB (by simp[aD];omega) (aB (by simp[aD];omega) (ad ?_));refine ae (fun h8=>?_) (fun h8=>?_)
     ·simp only[Na,NA,List.nil_append,hlnl] at h8;refine ae (fun h9=>?_) (fun h9=>?_);·rw[if_pos ⟨by omega,fun e=>h9 (x13.2 e)⟩];exact congrArg (fun y=>[y,D.i .i64 3]) fin.symm
      ·rw[if_neg (fun e=>e.2 (x13.1 (by simpa using h9)))];exact congrArg (fun y=>[y,D.i .i64 0]) fin.symm
     ·simp only[Na,NA,List.nil_append,hlnl] at h8;rw[if_neg (fun e=>h8 (by omega))];exact congrArg (fun y=>[y,D.i .i64 0]) fin.symm
   ·apply aC () [(16,_),(17,_)] (hl13.2 (by simpa using h6));exact aF
 rintro⟨⟩ g1;have h0:0<c.ln.length:=by
  rcases Nat.eq_zero_or_pos c.ln.length with h|h;·rw[List.eq_nil_of_length_eq_zero h] at g1;cases g1
  ·exact h
 refine ad ?_;refine ae (fun h7=>?_) (fun h7=>?_);·rw[hst,if_pos g1,if_neg (fun e=>h7 (x10.2 e))];exact congrArg (fun y=>[y,D.i .i64 2]) cbD.symm
 ·have hl:fc c x=dK {cb with ln:=[]} c.ln.dropLast:=by rw[hst,if_pos g1,if_pos (x10.1 (by simpa using h7))]
  rw[hl];have hdl:c.ln.dropLast.length≤128:=by simp;omega
  refine ar ⟨by omega,by omega⟩ (bnd (c.ln.length-1) (by omega) (by rw[hlnl];omega) (cy c.ln.dropLast (by simp[aD,List.dropLast_eq_take]) ?_));generalize c.ln.dropLast=line at hdl⊢;have c1:cb.ph≠1:=by rw[hph];exact h1
  have c4:cb.ph≠4:=by rw[hph];exact h4
  have l0:=hbk.lf0 c1;have lnn:(dK {cb with ln:=[]} line).1.ln=[]:=by
   unfold dK rg;repeat' split
   all_goals rfl
  apply bd (fun _:Unit=>(dK {cb with ln:=[]} line).2=0) (fun _=>⟨[(2,.op 16 0 0),(4,.op 17 0 0)],[(16,some (.box [dI ((dK {cb with ln:=[]} line).1.ph),dI ((dK {cb with ln:=[]} line).1.lf),dI ((dK {cb with ln:=[]} line).1.tr),.nl 1])),(17,some (.box [dI 0,dI 0,dI 0,.nl 1]))],2⟩)
  ·refine ae (fun k0=>?_) (fun k0=>?_)
   ·have hS:dK {cb with ln:=[]} line=rg {cb with ln:=[]} line:=by unfold dK;rw[if_pos k0]
    rw[hS];have t0:=hbk.tr0 (by omega) c4;refine ah (rP line 59 (by omega)) ?_;obtain⟨t,ht⟩:=sc 59 line;rw[ht];refine ao 0 rfl rfl ?_;have hcl:=Gn 59 line;have hp:=zZ (cz 59 line).1 1000000000 ⟨by omega,by omega⟩ (by omega);have hv:=Gw (l:=line);unfold rg;generalize hq:bV 16 1000000000 (cz 59 line).1=q at hp hv⊢;obtain⟨n,e⟩:=q;simp only at hv⊢;refine ah hp (ad ?_);refine ae (fun k1=>?_) (fun k1=>?_);·rw[if_pos (.inl k1)];rfl
    ·refine bp (F8 line (by omega)) (fun k2=>?_) (fun k2=>?_)
     ·rw[hv k1] at k2;rw[if_neg (by rw[k2];simp;exact k1)];refine ad ?_;refine ae (fun k3=>?_) (fun k3=>?_);·rw[if_pos k3];rfl
      ·rw[if_neg k3];refine ae (fun k4=>?_) (fun k4=>?_);·rw[if_pos k4];apply aC () [(16,_),(17,_)] (by rfl);simp only[l0,t0];exact aF
       ·rw[if_neg k4];apply aC () [(16,_),(17,_)] (by rfl);exact aF
     ·rw[hv k1] at k2;rw[if_pos (.inr k2)];rfl
   ·refine ae (fun k2=>?_) (fun k2=>?_)
    ·refine ad ?_;refine ae (fun k3=>?_) (fun k3=>?_)
     ·have:dK {cb with ln:=[]} line=({cb with ln:=[]},2):=by unfold dK;rw[if_neg k0,if_pos k2,if_neg k3]
      rw[this];rfl
     ·have:dK {cb with ln:=[]} line=({cb with ln:=[],ph:=0},0):=by unfold dK;rw[if_neg k0,if_pos k2,if_pos (by simpa using k3)]
      rw[this];apply aC () [(16,_),(17,_)] (by rfl);exact aF
    ·refine ae (fun k3=>?_) (fun k3=>?_)
     ·refine ah (B9 line (by omega)) ?_;refine ae (fun k5=>?_) (fun k5=>?_)
      ·have:dK {cb with ln:=[]} line=({cb with ln:=[],ph:=4},0):=by unfold dK;rw[if_neg k0,if_neg k2,if_pos k5]
       rw[this];apply aC () [(16,_),(17,_)] (by rfl);exact aF
      ·refine ae (fun k6=>?_) (fun k6=>?_)
       ·have:dK {cb with ln:=[]} line=({cb with ln:=[]},2):=by unfold dK;rw[if_neg k0,if_neg k2,if_neg k5,if_neg k6]
        rw[this];rfl
       ·have:dK {cb with ln:=[]} line=({cb with ln:=[]},0):=by unfold dK;rw[if_neg k0,if_neg k2,if_neg k5,if_pos (by simpa using k6)]
        rw[this];apply aC () [(16,_),(17,_)] (by rfl);exact aF
     ·exfalso;have:=hc.ph;omega
  rintro⟨⟩ he;rw[he];unfold sJ;rw[lnn];rfl
theorem Cv {room:Int}{c:kc}{out l:List UInt8}{i:Nat}(h:l.length≤i):fu room c out (l.drop i) i=⟨c,out,i,0⟩:=by rw[List.drop_eq_nil_of_le h];rfl
theorem ER {room:Int}{c:kc}{out l:List UInt8}{i:Nat}(h:i<l.length):fu room c out (l.drop i) i=if c.ph=4∨c.ph=1∧room≤out.length then⟨c,out,i,0⟩else if c.ph=1 then fu room (mZ c) (out++[l[i]]) (l.drop (i+1)) (i+1)else if(fc c l[i]).2≠0 then⟨.zero,[],0,(fc c l[i]).2⟩ else fu room (fc c l[i]).1 out (l.drop (i+1)) (i+1):=by rw[Ny h];rfl
structure FdS where
 i:Nat
 c:kc
 out:List UInt8
structure FdS.Inv (room:Int)(b:List UInt8)(c:kc)(x:FdS):Prop where
 hi:x.i≤b.length
 ok:x.c.Ok
 ho:x.out.length≤x.i
 eq:fu room x.c x.out (b.drop x.i) x.i=fu room c [] b 0
 rm:(x.out.length:Int)≤max room 0
def fdR (room:Int)(b:List UInt8):FdS→AS|⟨i,c,out⟩=>⟨[(1,.d (.sl 1 (aD b))),(2,dI room),(3,.op 17 0 0),(6,.op 18 0 0),(10,.os 19),(11,dI (i:Int))],[(17,some (.box [dI c.ph,dI c.lf,dI c.tr,.d (.sl 1 (aD c.ln))])),(18,some (.box [dI 0,dI 0,dI 0,.nl 1])),(19,some (.buf 1 (aD out)))],2⟩
theorem feedR (c:kc)(b:List UInt8)(room:Int)(hc:c.Ok)(hb:b.length≤4294967295)(_h1:fT room):ay (CG G) 187 [sJ c,.sl 1 (aD b),.i .i64 room] (fu room c [] b 0).ds:=by
 have hbl:=aK b;refine ay.mk (n:=71) Tryz.func187 rfl rfl rfl (Nat.le_of_ble_eq_true rfl) (ad ?_);apply aA (FdS.Inv room b c) (fdR room b) (fun x=>b.length-x.i) ⟨0,c,[]⟩ ⟨by simp,hc,by simp,rfl,by simp only[Nf];omega⟩ [(17,_),(18,_),(19,_)];·exact aF
 rintro⟨i,d,out⟩ ⟨hi,hd,ho,he,hrm⟩;simp only at hi hd ho he hrm;have hol:=aK out;refine ad ?_;refine ae (fun h=>?_) (fun h=>?_)
 ·rw[hbl] at h;have hi':i<b.length:=by omega
  have hf:=ER (room:=room) (c:=d) (out:=out) hi';rw[he] at hf;refine ad (ad ?_);refine ae (fun h4=>?_) (fun h4=>?_);·rw[hf,if_pos (.inl h4)];rfl
  ·refine ae (fun h1=>?_) (fun h1=>?_)
   ·refine ae (fun h2=>?_) (fun h2=>?_);·rw[hol] at h2;rw[hf,if_pos (.inr ⟨h1,h2⟩)];rfl
    ·rw[hol] at h2;rw[if_neg (fun e=>e.elim h4 fun e=>h2 e.2),if_pos h1] at hf;refine ad (aj h1 ?_);have hl1:=hd.lf1 h1;have hl2:=hd.lf;refine ao i rfl (mY hi') (aB (by simp[aD];omega) (ar ⟨by omega,by omega⟩ (ad ?_)));have hdk:=xl hd h1;have hrm':((out++[b[i]]).length:Int)≤max room 0:=by simp;omega
     refine ae (fun h5=>?_) (fun h5=>?_);·refine aq ?_;apply aG ⟨i+1,mZ d,out++[b[i]]⟩ [(17,_),(18,_),(19,_)] ⟨by simp only;omega,hdk,by simp;omega,hf.symm,hrm'⟩ (by simp only;omega);simp only[fdR,mZ,if_pos h5];((repeat' constructor)<;>(first|refine aI ?_|rfl)<;>first|exact oT|skip);all_goals exact cU out [b[i]]
     ·refine aq ?_;apply aG ⟨i+1,mZ d,out++[b[i]]⟩ [(17,_),(18,_),(19,_)] ⟨by simp only;omega,hdk,by simp;omega,hf.symm,hrm'⟩ (by simp only;omega);simp only[fdR,mZ,if_neg h5];((repeat' constructor)<;>(first|refine aI ?_|rfl)<;>first|exact oT|skip);all_goals exact cU out [b[i]]
   ·rw[if_neg (fun e=>e.elim h4 fun e=>h1 e.1),if_neg h1] at hf;refine ad (ai h1 (ao i rfl (mY hi') ?_));have hs:=stepR d b[i] hd h1 h4;refine ah hs ?_;(refine dk ?_;skip);refine ae (fun h5=>?_) (fun h5=>?_);·rw[hf,if_pos h5];rfl
    ·refine aq ?_;rw[if_neg h5] at hf;apply aG ⟨i+1,(fc d b[i]).1,out⟩ [(17,_),(18,_),(19,_)] ⟨by simp only;omega,xV hd h1 (by simpa using h5),by simp only;omega,hf.symm,hrm⟩ (by simp only;omega);exact aF
 ·rw[hbl] at h;rw[←he,Cv (by omega)];obtain rfl:i=b.length:=by omega
  rw[←hbl];rfl
structure DecR where
 out:List UInt8
 n:Nat
 e:Int
def DecR.ds (r:DecR):List D:=[.sl 1 (aD r.out),.i .i64 (r.n:Int),.i .i64 r.e]
theorem pG:kc.zero.Ok:=⟨.inl rfl,fun _ _=>rfl,by decide,fun _=>rfl,by decide,fun h=>absurd h (by decide),by decide,fun _=>by decide⟩
noncomputable def dR (b:List UInt8):List UInt8:=if b=[] then[] else aY 16 (b.length:Int)++[13,10]++b++[13,10]
noncomputable def rJ (ps:List (List UInt8)):List UInt8:=(ps.map dR).flatten++[48,13,10,13,10]
def DO (ps:List (List UInt8)):D:=.sl 1 (ps.map fun b=>.sl 1 (aD b))
theorem encR (ps:List (List UInt8))(h:(rJ ps).length≤4294967295)(hb:ps.length≤4294967295):ay (CG G) 93 [DO ps] [.sl 1 (aD (rJ ps))]:=by
 refine mD 36 Tryz.func93 ?_;unfold DO;refine ad ?_;apply aA (fun i:Nat=>i≤ps.length) (fun i=>⟨[(0,.d (.sl 1 (ps.map fun b=>.sl 1 (aD b)))),(3,.d (.s ((ps.take i).map dR).flatten)),(4,dI (i:Int))],[],2⟩) (fun i=>ps.length-i) 0 (by omega) [];·exact aF
 ·intro i hi;refine ad ?_;refine ae (fun hlt=>?_) (fun hlt=>?_)
  ·have hlt:i<ps.length:=by simpa using hlt
   have hf:((ps.take (i+1)).map dR).flatten=((ps.take i).map dR).flatten++dR ps[i]:=by rw[Nh hlt];simp only[Ng,List.flatten_append,Nw,List.map_nil,List.flatten_cons,List.flatten_nil,List.append_nil]
   have hl:=aK ps[i];have hle:((ps.take (i+1)).map dR).flatten.length≤(rJ ps).length:=by unfold rJ;rw[Na];have:=vq (ps.map dR) (i+1);rw[←List.map_take] at this;omega
   rw[hf,Na] at hle;refine ad (ao i rfl (x:=.sl 1 (aD ps[i])) (by simp[hlt]) ?_);refine ae (fun h0=>?_) (fun h0=>?_)
   ·have hne:ps[i]≠[]:=fun e=>by rw[e] at h0;simp[aD] at h0
    have he:dR ps[i]=aY 16 (ps[i].length:Int)++[13,10]++ps[i]++[13,10]:=by unfold dR;rw[if_neg hne]
    rw[he] at hle;simp only[Na] at hle;have hx:ay (CG G) 122 [.i .i64 ((aD ps[i]).length:Int)] [.s (aY 16 (ps[i].length:Int))]:=by rw[hl];exact KK _ ⟨by omega,by omega⟩
    refine ao i rfl (x:=.sl 1 (aD ps[i])) (by simp[hlt]) (ah hx ?_);simp only[Nb,Nf] at hle;refine bg (by omega) (bg (by simp only[Na,Nb,Nf];omega) (ao i rfl (x:=.sl 1 (aD ps[i])) (by simp[hlt]) (cy ps[i] rfl (bg (by simp only[Na,Nb,Nf];omega) (bg (by simp only[Na,Nb,Nf];omega) ?_)))));(refine dk ?_;skip);refine aq ?_;apply aG (i+1) [] (by omega) (by omega);rw[hf,he];((repeat' constructor)<;>(first|refine aI ?_|rfl)<;>first|exact oT|skip);all_goals simp only[List.append_assoc]
   ·have he:ps[i]=[]:=by cases hc:ps[i] with|nil=>rfl;|cons x l=>rw[hc] at h0;simp[aD] at h0
    refine aq ?_;apply aG (i+1) [] (by omega) (by omega);rw[hf,he];((repeat' constructor)<;>(first|refine aI ?_|rfl)<;>first|exact oT|skip);all_goals simp[dR]
  ·have:i=ps.length:=by have:¬i<ps.length:=(by simpa using hlt);omega
   subst this;rw[ND];unfold rJ at h;simp only[Na,Nb,Nf] at h;refine bg (by simp only[Nb,Nf];omega) ?_;rfl
structure dm where
 rep:Bool
 meth:List UInt8
 ph:Int
 rq:eL
 an:iZ
 fm:IX
 lf:Int
 sz:Int
 ck:kc
def IX.zero:IX:=⟨0,0⟩
def dm.zero:dm:=⟨false,[],0,.zero,.zero,.zero,0,0,.zero⟩
def bZ (r:dm):List D:=[.b r.rep,.s r.meth,.i .i64 r.ph,.s r.rq.m,.s r.rq.t,.i .i64 r.rq.mi,.sl 2 (r.rq.fs.map aL),.b r.rq.fr,.sl 1 (aD r.rq.body),.i .i64 r.an.st,.s r.an.rs,.i .i64 r.an.mi,.sl 2 (r.an.fs.map aL),.sl 1 (aD r.an.body),.i .i64 r.fm.kd,.i .i64 r.fm.len,.i .i64 r.lf,.i .i64 r.sz,.i .i64 r.ck.ph,.i .i64 r.ck.lf,.i .i64 r.ck.tr,.sl 1 (aD r.ck.ln)]
def gr (r:dm):D:=.agg (bZ r)
structure jQ where
 r:dm
 k:Int
 dat:List UInt8
 n:Int
 e:Int
def jQ.ds (x:jQ):List D:=[gr x.r,.agg [.i .i64 x.k,.sl 1 (aD x.dat)],.i .i64 x.n,.i .i64 x.e]
def jQ.bad (e:Int):jQ:=⟨.zero,0,[],0,e⟩
def HX (e:Int):Int:=if e=3 then 9 else e
def xY (a:iZ)(e:Int):Int:=if e=0∧a.st=101 then 2 else e
def inter (a:iZ)(e:Int):Prop:=xY a e=0∧100≤a.st∧a.st≤199
instance (a:iZ)(e:Int):Decidable (inter a e):=by unfold inter;infer_instance
noncomputable def dO (r:dm)(h:List UInt8):dm×IX×Int:=if r.rep then(let a:=(gc h).1;let e:=xY a (gc h).2
 if e=0 then({r with an:=a},(gY r.meth a).1,HX (gY r.meth a).2) else({r with an:=a},.zero,e))else(let q:=(fA h).1
 if(fA h).2=0 then({r with rq:={q with fr:=decide ((eC q.mi q.fs 1).1.kd≠1)}},(eC q.mi q.fs 1).1,HX (eC q.mi q.fs 1).2) else({r with rq:={q with fr:=true}},.zero,(fA h).2))
def iF (f:IX)(body e:Int):Int:=if e=0∧f.kd=2∧body<f.len then 9 else e
def qT (n:Int)(x:dm)(f:IX)(e:Int):jQ:=if e≠0 then .bad e else⟨{x with fm:=f,lf:=f.len,sz:=0,ck:=.zero,ph:=1},1,[],n,0⟩
noncomputable def kQ (r:dm)(b:List UInt8)(most body:Int):jQ:=if(eI b most).2=4 then⟨r,0,[],0,0⟩else if(eI b most).2≠0 then .bad (eI b most).2 else if r.rep=true∧inter (gc (b.take (eI b most).1.toNat)).1 (gc (b.take (eI b most).1.toNat)).2 then⟨r,4,[],(eI b most).1,0⟩else qT (eI b most).1 (dO r (b.take (eI b most).1.toNat)).1 (dO r (b.take (eI b most).1.toNat)).2.1 (iF (dO r (b.take (eI b most).1.toNat)).2.1 body (dO r (b.take (eI b most).1.toNat)).2.2)
theorem md (b:List UInt8)(most:Int)(h:(eI b most).2=0):∃n:Nat,(eI b most).1=(n:Int)∧4≤n∧n≤b.length:=by
 unfold eI at*;split at h
 ·rename_i h1;rw[if_pos h1];rcases t7 b with h2|⟨k,h2,h3,h4,_⟩;·omega
  ·exact⟨k,h2,h3,h4⟩
 ·split at h<;>cases h
structure dm.Sm (r:dm):Prop where
 rq:br r.rq.fs≤10000000
 an:br r.an.fs≤10000000
theorem Et (b:List UInt8):br (gc b).1.fs≤b.length:=by
 unfold gc;split;·exact Nat.zero_le _
 ·rename_i h1;have h1:=ep (Nq.1 h1);split;·exact Nat.zero_le _
  ·split;·exact Nat.zero_le _
   ·have h2:=hY ((bq b).1.drop 1);have h3:=ld (bq b).1 1;show br (dZ ((bq b).1.drop 1)).1≤_;omega
theorem HJ (b:List UInt8):br (fA b).1.fs≤b.length:=by
 unfold fA;split;·exact Nat.zero_le _
 ·rename_i h1;have h1:=ep (Nq.1 h1);split;·exact Nat.zero_le _
  ·split;·exact Nat.zero_le _
   ·split;·exact Nat.zero_le _
    ·have h2:=hY ((bq b).1.drop 1);have h3:=ld (bq b).1 1;show br (dZ ((bq b).1.drop 1)).1≤_;omega
theorem ME (r:dm)(b:List UInt8)(most body:Int)(hb:b.length≤1000000):ay (CG G) 150 [gr r,.sl 1 (aD b),.i .i64 most,.i .i64 body] (kQ r b most body).ds:=by
 have hbl:=aK b;have c1:=endMR b most (by omega);have hp:=md b most;unfold kQ;generalize eI b most=h at*;obtain⟨h,he⟩:=h;simp only at*;unfold jQ.ds;by_cases a1:he=4
 ·subst a1;rw[if_pos rfl];unfold gr bZ at*;refine ay.mk (n:=130) Tryz.func150 rfl rfl rfl (Nat.le_of_ble_eq_true rfl) (ah c1 (ad (aj rfl ?_)));repeat'(first|refine ad ?_|refine dk ?_|refine ae (fun _=>?_) (fun _=>?_)|refine aq ?_)
  rfl
 ·rw[if_neg a1];by_cases a2:he=0
  ·subst a2;rw[if_neg (by decide)];obtain⟨n,hn,hn4,hnl⟩:=hp rfl;subst hn;rw[Int.toNat_natCast];generalize hhd:b.take n=hd at*;have hdl:hd.length=n:=by rw[←hhd,Nj];omega
   have c2:=Dt hd (by omega);have c3:=Da hd (by omega);have z2:=Et hd;have z3:=HJ hd;have c4:=L6 (fA hd).1 (by omega);have c5:=K4 r.meth (gc hd).1 (by omega);have hx:∀t,r.rep=t→dO r hd=if t then(if xY (gc hd).1 (gc hd).2=0 then({r with an:=(gc hd).1},(gY r.meth (gc hd).1).1,HX (gY r.meth (gc hd).1).2) else({r with an:=(gc hd).1},.zero,xY (gc hd).1 (gc hd).2))else(if(fA hd).2=0 then({r with rq:={(fA hd).1 with fr:=decide ((eC (fA hd).1.mi (fA hd).1.fs 1).1.kd≠1)}},(eC (fA hd).1.mi (fA hd).1.fs 1).1,HX (eC (fA hd).1.mi (fA hd).1.fs 1).2) else({r with rq:={(fA hd).1 with fr:=true}},.zero,(fA hd).2)):=by intro t ht;unfold dO;rw[ht]
   generalize hfx:dO r hd=fx at*;generalize (fA hd).2=e0 at*;generalize (fA hd).1=q at*;generalize eC q.mi q.fs 1=g1 at*;generalize (gc hd).2=e2 at*;generalize (gc hd).1=an at*;generalize gY r.meth an=g2 at*;obtain⟨f1,e1⟩:=g1;obtain⟨f2,e3⟩:=g2;simp only at hx c4 c5;unfold gr bZ gu dF eF bU y6 at*;have hbt:(aD b).take n=aD hd:=by rw[dT,hhd]
   refine ay.mk (n:=130) Tryz.func150 rfl rfl rfl (Nat.le_of_ble_eq_true rfl) (ah c1 (ad (ai a1 (ad (ai (by simp) ?_)))));apply bd (fun _:Unit=>¬(r.rep=true∧inter an e2)) (fun _=>⟨[(3,dI body),(8,.op 17 0 0),(9,.op 18 0 0),(12,dI (n:Int)),(13,dI fx.2.2),(14,.op 19 0 0),(15,.op 20 0 0)],[(17,some (.box [.d (.b dm.zero.rep),.d (.s dm.zero.meth),dI dm.zero.ph,.d (.s dm.zero.rq.m),.d (.s dm.zero.rq.t),dI dm.zero.rq.mi,.d (.sl 2 (dm.zero.rq.fs.map aL)),.d (.b dm.zero.rq.fr),.d (.sl 1 (aD dm.zero.rq.body)),dI dm.zero.an.st,.d (.s dm.zero.an.rs),dI dm.zero.an.mi,.d (.sl 2 (dm.zero.an.fs.map aL)),.d (.sl 1 (aD dm.zero.an.body)),dI dm.zero.fm.kd,dI dm.zero.fm.len,dI dm.zero.lf,dI dm.zero.sz,dI dm.zero.ck.ph,dI dm.zero.ck.lf,dI dm.zero.ck.tr,.d (.sl 1 (aD dm.zero.ck.ln))])),(18,some (.box [dI 0,.d (.sl 1 [])])),(19,some (.box [.d (.b fx.1.rep),.d (.s fx.1.meth),dI fx.1.ph,.d (.s fx.1.rq.m),.d (.s fx.1.rq.t),dI fx.1.rq.mi,.d (.sl 2 (fx.1.rq.fs.map aL)),.d (.b fx.1.rq.fr),.d (.sl 1 (aD fx.1.rq.body)),dI fx.1.an.st,.d (.s fx.1.an.rs),dI fx.1.an.mi,.d (.sl 2 (fx.1.an.fs.map aL)),.d (.sl 1 (aD fx.1.an.body)),dI fx.1.fm.kd,dI fx.1.fm.len,dI fx.1.lf,dI fx.1.sz,dI fx.1.ck.ph,dI fx.1.ck.lf,dI fx.1.ck.tr,.d (.sl 1 (aD fx.1.ck.ln))])),(20,some (.box [dI fx.2.1.kd,dI fx.2.1.len]))],2⟩)
   ·refine gG (fun hrep=>?_) (fun hrep=>?_)
    ·have hx:=hx true hrep;rw[if_pos rfl] at hx;refine bnd n rfl (by omega) ?_;rw[hbt];refine ah c2 (ad ?_);refine ae (fun h1=>?_) (fun h1=>?_)
     ·refine ae (fun h2=>?_) (fun h2=>?_);·have e9:xY an e2=2:=if_pos ⟨h1,h2⟩;rw[e9,if_neg (by decide)] at hx;subst hx;refine ad (ai (by decide) (ai (by decide) ?_));apply aC () [(17,_),(18,_),(19,_),(20,_)] (fun h=>by have h:=h.2.1;rw[e9] at h;cases h);exact aF
      ·have e9:xY an e2=0:=by unfold xY;rw[if_neg (fun h=>h2 h.2)];exact h1
       rw[e9,if_pos rfl] at hx;subst hx;refine ad (aj h1 ?_);have last:¬(100≤an.st∧an.st≤199)→¬(r.rep=true∧inter an e2):=fun h h'=>h h'.2.2;refine ae (fun h3=>?_) (fun h3=>?_)
       ·refine ae (fun h4=>?_) (fun h4=>?_)
        ·rw[if_pos ⟨hrep,⟨e9,by omega,by omega⟩⟩];repeat'(first|refine ad ?_|refine dk ?_|refine ae (fun _=>?_) (fun _=>?_)|refine aq ?_)
         rfl
        ·have hni:=last (by omega);refine aj h1 (ah c5 ?_);refine ae (fun h5=>?_) (fun h5=>?_);·have e8:HX e3=9:=if_pos h5;apply aC () [(17,_),(18,_),(19,_),(20,_)] hni;simp only[e8];exact aF
         ·have e8:HX e3=e3:=if_neg h5;apply aC () [(17,_),(18,_),(19,_),(20,_)] hni;simp only[e8];exact aF
       ·have hni:=last (by omega);refine aj h1 (ah c5 ?_);refine ae (fun h5=>?_) (fun h5=>?_);·have e8:HX e3=9:=if_pos h5;apply aC () [(17,_),(18,_),(19,_),(20,_)] hni;simp only[e8];exact aF
        ·have e8:HX e3=e3:=if_neg h5;apply aC () [(17,_),(18,_),(19,_),(20,_)] hni;simp only[e8];exact aF
     ·have e9:xY an e2=e2:=if_neg (fun h=>h1 h.1);rw[e9,if_neg h1] at hx;subst hx;refine ad (ai h1 (ai h1 ?_));apply aC () [(17,_),(18,_),(19,_),(20,_)] (fun h=>by have h:=h.2.1;rw[e9] at h;exact h1 h);exact aF
    ·have hx:=hx false hrep;rw[if_neg (by decide)] at hx;have hni:¬(r.rep=true∧inter an e2):=by rw[hrep];simp
     refine bnd n rfl (by omega) ?_;rw[hbt];refine ah c3 (ad ?_);refine ae (fun h1=>?_) (fun h1=>?_)
     ·rw[if_pos h1] at hx;subst hx;refine ah c4 ?_;refine ae (fun h2=>?_) (fun h2=>?_);·have e9:HX e1=9:=if_pos h2;refine ae (fun h3=>?_) (fun h3=>?_);all_goals apply aC () [(17,_),(18,_),(19,_),(20,_)] hni;simp only[e9,h3,ne_eq,not_false_iff,decide_true,decide_false];exact aF
      ·have e9:HX e1=e1:=if_neg h2;refine ae (fun h3=>?_) (fun h3=>?_);all_goals apply aC () [(17,_),(18,_),(19,_),(20,_)] hni;simp only[e9,h3,ne_eq,not_false_iff,decide_true,decide_false];exact aF
     ·rw[if_neg h1] at hx;subst hx;refine aj (by decide) ?_;apply aC () [(17,_),(18,_),(19,_),(20,_)] hni;exact aF
   ·intro _ hni;rw[if_neg hni];obtain⟨X,F,E⟩:=fx;simp only;have fin0:iF F body E=9∨iF F body E=E:=by unfold iF;split<;>simp
    clear hx hfx;by_cases k1:E=0∧F.kd=2∧body<F.len
    ·have e9:iF F body E=9:=if_pos k1;rw[e9];refine ad (aj k1.1 (aj k1.2.1 (aj k1.2.2 (ad (aj (by decide) ?_)))));repeat'(first|refine ad ?_|refine dk ?_|refine ae (fun _=>?_) (fun _=>?_)|refine aq ?_)
     rfl
    ·have e9:iF F body E=E:=if_neg k1;rw[e9];refine ad ?_;refine ae (fun h1=>?_) (fun h1=>?_)
     ·subst h1;refine ae (fun h2=>?_) (fun h2=>?_)
      ·refine ai (fun h=>k1 ⟨rfl,h2,h⟩) (ad (ai (by decide) ?_));repeat'(first|refine ad ?_|refine dk ?_|refine ae (fun _=>?_) (fun _=>?_)|refine aq ?_)
       rfl
      ·refine ad (ai (by decide) ?_);repeat'(first|refine ad ?_|refine dk ?_|refine ae (fun _=>?_) (fun _=>?_)|refine aq ?_)
       rfl
     ·refine ad (aj h1 ?_);have e8:qT (n:Int) X F E=.bad E:=if_pos h1;rw[e8];repeat'(first|refine ad ?_|refine dk ?_|refine ae (fun _=>?_) (fun _=>?_)|refine aq ?_)
      rfl
  ·rw[if_pos a2];unfold jQ.bad gr bZ at*;refine ay.mk (n:=130) Tryz.func150 rfl rfl rfl (Nat.le_of_ble_eq_true rfl) (ah c1 (ad (ai a1 (ad (aj a2 ?_)))));repeat'(first|refine ad ?_|refine dk ?_|refine ae (fun _=>?_) (fun _=>?_)|refine aq ?_)
   rfl
structure LJ (room:Int)(c:kc)(out b:List UInt8)(i:Nat)(r:qg):Prop where
 ok:r.c.Ok
 n:r.n≤i+b.length
 len:r.out.length≤out.length+b.length
 room:(r.out.length:Int)≤max room (out.length:Int)grow:r.e=0→i+r.out.length≤r.n+out.length
theorem pj (room:Int):∀(b:List UInt8)(c:kc)(out:List UInt8)(i:Nat),c.Ok→LJ room c out b i (fu room c out b i)
 |[],_,out,i,h=>⟨h,Nat.le_refl _,Nat.le_refl _,by show(out.length:Int)≤_;omega,fun _=>by show i+out.length≤i+out.length;omega⟩|x::r,c,out,i,h=>by
  unfold fu;split;·exact⟨h,by simp only;omega,by simp only;omega,by simp only;omega,fun _=>by simp only;omega⟩
  ·rename_i h0;split;·rename_i h1;obtain⟨a1,a2,a3,a4,a5⟩:=pj room r (mZ c) (out++[x]) (i+1) (xl h h1);simp only[Na,Nb,Nf] at*;exact⟨a1,by simp only[Nb];omega,by simp only[Nb];omega,by omega,fun he=>by have:=a5 he;omega⟩
   ·rename_i h1;split;·exact⟨pG,by simp,by simp,by simp only[Nf];omega,fun he=>by rename_i h2;exact absurd he h2⟩
    ·rename_i h2;obtain⟨a1,a2,a3,a4,a5⟩:=pj room r (fc c x).1 out (i+1) (xV h h1 (by simpa using h2));exact⟨a1,by simp only[Nb];omega,by simp only[Nb];omega,a4,fun he=>by have:=a5 he;omega⟩
structure dm.In (r:dm):Prop where
 lf:0≤r.lf∧r.lf≤1000000000
 sz:0≤r.sz∧r.sz≤1000000000
 ck:r.ck.Ok
def gR (r:dm)(b:List UInt8)(room:Int):Int:=min (min r.lf room) (b.length:Int)
def fU (r:dm)(b:List UInt8)(body room:Int):Int:=min (min room (b.length:Int)) (body+1-r.sz)
def jp (r:dm)(f:qg)(body:Int):Int:=if f.e=0∧body<r.sz+(f.out.length:Int) then 9 else f.e
def nF (r:dm)(f:qg)(e:Int):jQ:=if e≠0 then .bad e else if 0<f.out.length then⟨{r with ck:=f.c,sz:=r.sz+(f.out.length:Int)},2,f.out,f.n,0⟩else if f.c.ph=4 then⟨{r with ck:=f.c,sz:=r.sz+(f.out.length:Int),ph:=2},3,[],f.n,0⟩else⟨{r with ck:=f.c,sz:=r.sz+(f.out.length:Int)},0,[],f.n,0⟩
noncomputable def ov (r:dm)(b:List UInt8)(body room:Int):jQ:=if r.fm.kd=1∨r.fm.kd=2 then(if r.fm.kd=1∨r.lf=0 then⟨{r with ph:=2},3,[],0,0⟩else if gR r b room=0 then⟨r,0,[],0,0⟩else⟨{r with lf:=r.lf-gR r b room,sz:=r.sz+gR r b room},2,b.take (gR r b room).toNat,gR r b room,0⟩)else if r.fm.kd=3 then nF r (fu (min room (body+1-r.sz)) r.ck [] b 0) (jp r (fu (min room (body+1-r.sz)) r.ck [] b 0) body)else if fU r b body room≤0 then⟨r,0,[],0,0⟩else if body<r.sz+fU r b body room then .bad 9 else⟨{r with sz:=r.sz+fU r b body room},2,b.take (fU r b body room).toNat,fU r b body room,0⟩
theorem moreR (r:dm)(b:List UInt8)(body room:Int)(hb:b.length≤1000000)(hr:r.In)(h1:0≤body∧body≤1000000000)(h2:0≤room∧room≤1000000000):ay (CG G) 151 [gr r,.sl 1 (aD b),.i .i64 body,.i .i64 room] (ov r b body room).ds:=by
 have hbl:=aK b;have hlf:=hr.lf;have hsz:=hr.sz;have c1:=feedR r.ck b (min room (body+1-r.sz)) hr.ck (by omega) ⟨by omega,by omega⟩;unfold ov;generalize hf:fu (min room (body+1-r.sz)) r.ck [] b 0=f at*;have hfo:f.out.length≤b.length:=by rw[←hf];have:=(pj (min room (body+1-r.sz)) b r.ck [] 0 hr.ck).len;simpa using this
 unfold qg.ds sJ at c1;unfold jQ.ds gr bZ;by_cases k1:r.fm.kd=1∨r.fm.kd=2
 ·rw[if_pos k1];by_cases k2:r.fm.kd=1∨r.lf=0
  ·rw[if_pos k2];refine ay.mk (n:=153) Tryz.func151 rfl rfl rfl (Nat.le_of_ble_eq_true rfl) (ad (ad ?_));refine ae (fun g1=>?_) (fun g1=>?_)
   ·refine ad (aj g1 ?_);repeat'(first|refine ad ?_|refine dk ?_|refine ae (fun _=>?_) (fun _=>?_)|refine aq ?_)
    rfl
   ·refine aj (by omega) (ad (ai g1 (aj (by omega) ?_)));repeat'(first|refine ad ?_|refine dk ?_|refine ae (fun _=>?_) (fun _=>?_)|refine aq ?_)
    rfl
  ·rw[if_neg k2];have hk:min (min r.lf room) ((aD b).length:Int)=gR r b room:=by rw[hbl];rfl
   have hk0:0≤gR r b room:=by unfold gR;omega
   have hkl:gR r b room≤(b.length:Int):=by unfold gR;omega
   have hkf:gR r b room≤r.lf:=by unfold gR;omega
   generalize gR r b room=k at*;obtain⟨m,rfl⟩:∃m:Nat,k=(m:Int):=⟨k.toNat,by omega⟩;refine ay.mk (n:=153) Tryz.func151 rfl rfl rfl (Nat.le_of_ble_eq_true rfl) (ad (ad (ai (by omega) (aj (by omega) (ad (ai (by omega) (ai (by omega) (ad ?_))))))));refine ae (fun g1=>?_) (fun g1=>?_)
   ·rw[if_pos (by omega)];repeat'(first|refine ad ?_|refine dk ?_|refine ae (fun _=>?_) (fun _=>?_)|refine aq ?_)
    rfl
   ·rw[if_neg (by omega)];refine ar ⟨by omega,by omega⟩ (ar ⟨by omega,by omega⟩ (bnd m hk (by omega) ?_));repeat'(first|refine ad ?_|refine dk ?_|refine ae (fun _=>?_) (fun _=>?_)|refine aq ?_)
    refine aN ?_;rw[hk,dT,Int.toNat_natCast]
 ·rw[if_neg k1];by_cases k3:r.fm.kd=3
  ·rw[if_pos k3];have hfl:=aK f.out;have fin:∀E:Int,jp r f body=E→True:=fun _ _=>trivial;refine ay.mk (n:=153) Tryz.func151 rfl rfl rfl (Nat.le_of_ble_eq_true rfl) (ad (ad (ai (by omega) (ai (by omega) (aj k3 (ar ⟨by omega,by omega⟩ (ar ⟨by omega,by omega⟩ (ah c1 ?_))))))));by_cases k4:f.e=0∧body<r.sz+(f.out.length:Int)
   ·have e9:jp r f body=9:=if_pos k4;rw[e9];refine ad (aj k4.1 (ar ⟨by omega,by omega⟩ (aj (by rw[hfl];exact k4.2) (ad (aj (by decide) ?_)))));repeat'(first|refine ad ?_|refine dk ?_|refine ae (fun _=>?_) (fun _=>?_)|refine aq ?_)
    rfl
   ·have e9:jp r f body=f.e:=if_neg k4;rw[e9];refine ad ?_;refine ae (fun g1=>?_) (fun g1=>?_)
    ·have e8:nF r f f.e=if 0<f.out.length then⟨{r with ck:=f.c,sz:=r.sz+(f.out.length:Int)},2,f.out,f.n,0⟩else if f.c.ph=4 then⟨{r with ck:=f.c,sz:=r.sz+(f.out.length:Int),ph:=2},3,[],f.n,0⟩else⟨{r with ck:=f.c,sz:=r.sz+(f.out.length:Int)},0,[],f.n,0⟩:=if_neg (by omega);rw[e8];refine ar ⟨by omega,by omega⟩ (ai (by rw[hfl];omega) (ad (ai (by omega) (ar ⟨by omega,by omega⟩ (ad ?_)))));refine ae (fun g2=>?_) (fun g2=>?_)
     ·rw[if_pos (by omega)];repeat'(first|refine ad ?_|refine dk ?_|refine ae (fun _=>?_) (fun _=>?_)|refine aq ?_)
      refine aN ?_;rw[hfl]
     ·rw[if_neg (by omega)];have h0:f.out=[]:=List.eq_nil_of_length_eq_zero (by omega);refine ad ?_;refine ae (fun g3=>?_) (fun g3=>?_)
      ·rw[if_pos g3];repeat'(first|refine ad ?_|refine dk ?_|refine ae (fun _=>?_) (fun _=>?_)|refine aq ?_)
       refine aN ?_;rw[hfl];rfl
      ·rw[if_neg g3];repeat'(first|refine ad ?_|refine dk ?_|refine ae (fun _=>?_) (fun _=>?_)|refine aq ?_)
       refine aN ?_;rw[hfl];rfl
    ·have e8:nF r f f.e=.bad f.e:=if_pos g1;rw[e8];refine ad (aj g1 ?_);repeat'(first|refine ad ?_|refine dk ?_|refine ae (fun _=>?_) (fun _=>?_)|refine aq ?_)
     rfl
  ·rw[if_neg k3];have hk:min (min room ((aD b).length:Int)) (body+1-r.sz)=fU r b body room:=by rw[hbl];rfl
   have hkl:fU r b body room≤(b.length:Int):=by unfold fU;omega
   generalize fU r b body room=k at*;refine ay.mk (n:=153) Tryz.func151 rfl rfl rfl (Nat.le_of_ble_eq_true rfl) (ad (ad (ai (by omega) (ai (by omega) (ai k3 (ar ⟨by omega,by omega⟩ (ar ⟨by omega,by omega⟩ (ad ?_))))))));refine ae (fun g1=>?_) (fun g1=>?_)
   ·rw[if_pos (by omega)];repeat'(first|refine ad ?_|refine dk ?_|refine ae (fun _=>?_) (fun _=>?_)|refine aq ?_)
    rfl
   ·obtain⟨m,rfl⟩:∃m:Nat,k=(m:Int):=⟨k.toNat,by omega⟩;rw[if_neg (by omega)];refine ad (ar ⟨by omega,by omega⟩ ?_);refine ae (fun g2=>?_) (fun g2=>?_)
    ·rw[if_pos (by omega)];repeat'(first|refine ad ?_|refine dk ?_|refine ae (fun _=>?_) (fun _=>?_)|refine aq ?_)
     rfl
    ·rw[if_neg (by omega)];refine ar ⟨by omega,by omega⟩ (bnd m hk (by omega) ?_);repeat'(first|refine ad ?_|refine dk ?_|refine ae (fun _=>?_) (fun _=>?_)|refine aq ?_)
     refine aN ?_;rw[hk,dT,Int.toNat_natCast]
noncomputable def dH (r:dm)(b:List UInt8)(most body room:Int):jQ:=if r.ph=0 then kQ r b most body else if r.ph=1 then ov r b body (max room 0) else⟨r,0,[],0,0⟩
theorem EX (r:dm)(b:List UInt8)(most body room:Int)(hb:b.length≤1000000)(hr:r.In)(h1:0≤body∧body≤1000000000)(h2:room≤1000000000):ay (CG G) 116 [gr r,.sl 1 (aD b),.i .i64 most,.i .i64 body,.i .i64 room] (dH r b most body room).ds:=by
 have c1:=ME r b most body hb;have c2:=moreR r b body (max room 0) hb hr h1 (by omega);unfold dH;by_cases k1:r.ph=0
 ·rw[if_pos k1];unfold jQ.ds gr bZ at*;refine ay.mk (n:=42) Tryz.func116 rfl rfl rfl (Nat.le_of_ble_eq_true rfl) (ad (aj k1 ?_));repeat'(first|refine ad ?_|refine dk ?_|refine ah (c1) ?_|refine ae (fun _=>?_) (fun _=>?_)|refine aq ?_)
  rfl
 ·rw[if_neg k1];by_cases k2:r.ph=1
  ·rw[if_pos k2];unfold jQ.ds gr bZ at*;refine ay.mk (n:=42) Tryz.func116 rfl rfl rfl (Nat.le_of_ble_eq_true rfl) (ad (ai k1 (aj k2 ?_)));repeat'(first|refine ad ?_|refine dk ?_|refine ah (c2) ?_|refine ae (fun _=>?_) (fun _=>?_)|refine aq ?_)
   rfl
  ·rw[if_neg k2];unfold jQ.ds gr bZ at*;refine ay.mk (n:=42) Tryz.func116 rfl rfl rfl (Nat.le_of_ble_eq_true rfl) (ad (ai k1 (ai k2 ?_)));repeat'(first|refine ad ?_|refine dk ?_|refine ae (fun _=>?_) (fun _=>?_)|refine aq ?_)
   rfl
def ze (r:dm):Bool:=decide (r.ph=2∨r.ph=1∧r.fm.kd=4)
theorem BX (r:dm):ay (CG G) 120 [gr r] [.b (ze r)]:=by
 unfold gr bZ ze;refine mD 17 Tryz.func120 ?_;repeat'(first|refine ad ?_|refine dk ?_|refine ae (fun _=>?_) (fun _=>?_)|refine aq ?_)
 all_goals (first|exact congrArg (fun x=>[D.b x]) (Eq.symm (decide_eq_true (by omega)))|exact congrArg (fun x=>[D.b x]) (Eq.symm (decide_eq_false (by omega))))
def rL (m:List UInt8):dm:={dm.zero with rep:=true,meth:=m}
theorem tn (m:List UInt8):ay (CG G) 205 [.s m] [gr (rL m)]:=by
 unfold gr bZ;refine mD 5 Tryz.func205 ?_;repeat'(first|refine ad ?_|refine dk ?_|refine ae (fun _=>?_) (fun _=>?_)|refine aq ?_)
 rfl
def mB (r:eL):List UInt8:=if gO r=[] then[] else gO r++r.body
def gB (a:iZ):List UInt8:=if ji a=[] then[] else ji a++a.body
theorem EZ (r:eL):(mB r).length≤r.m.length+r.t.length+4*br r.fs+44+r.body.length:=by
 have:=l6 r;unfold mB;split;·simp
 ·simp only[Na];omega
theorem pO (a:iZ):(gB a).length≤a.rs.length+4*br a.fs+64+a.body.length:=by
 have:=jm a;unfold gB;split;·simp
 ·simp only[Na];omega
theorem wl (r:eL)(h1:r.m.length≤100000000)(h2:r.t.length≤100000000)(h3:br r.fs≤100000000)(h4:r.body.length≤100000000):ay (CG G) 206 [gu r] [.sl 1 (aD (mB r))]:=by
 have c1:=Bd r h1 h2 h3;have l1:=l6 r;have hb:=aK r.body;unfold mB;generalize gO r=h at*;have hl:=aK h;unfold gu dF at*;refine mD 13 Tryz.func206 ?_;refine aT (ak [] c1 ?_ ?_);·exact aF
 refine ad ?_;refine ae (fun g1=>?_) (fun g1=>?_)
 ·rw[if_pos (List.eq_nil_of_length_eq_zero (by omega))];repeat'(first|refine ad ?_|refine dk ?_|refine ae (fun _=>?_) (fun _=>?_)|refine aq ?_)
  rfl
 ·rw[if_neg (by rintro rfl;exact g1 rfl)];refine aB (by omega) ?_;repeat'(first|refine ad ?_|refine dk ?_|refine ae (fun _=>?_) (fun _=>?_)|refine aq ?_)
  refine aN ?_;rw[cU]
theorem zz (a:iZ)(h1:a.rs.length≤100000000)(h3:br a.fs≤100000000)(h4:a.body.length≤900000000):ay (CG G) 98 [eF a] [.sl 1 (aD (gB a))]:=by
 have c1:=vz a h1 h3;have l1:=jm a;have hb:=aK a.body;unfold gB;generalize ji a=h at*;have hl:=aK h;unfold eF bU at*;refine mD 13 Tryz.func98 ?_;refine aT (ak [] c1 ?_ ?_);·exact aF
 refine ad ?_;refine ae (fun g1=>?_) (fun g1=>?_)
 ·rw[if_pos (List.eq_nil_of_length_eq_zero (by omega))];repeat'(first|refine ad ?_|refine dk ?_|refine ae (fun _=>?_) (fun _=>?_)|refine aq ?_)
  rfl
 ·rw[if_neg (by rintro rfl;exact g1 rfl)];refine aB (by omega) ?_;repeat'(first|refine ad ?_|refine dk ?_|refine ae (fun _=>?_) (fun _=>?_)|refine aq ?_)
  refine aN ?_;rw[cU]
theorem pL (p:Pl):gk p=true↔(1≤p.ws.length∧p.ws.length≤8)∧rh p.ws p.ws.length=true∧(1≤p.ms∧p.ms≤1000000)∧(0≤p.nu∧p.nu≤1000000)∧(1≤p.de∧p.de≤1000000)∧(1≤p.ho∧p.ho≤100)∧(1≤p.wi∧p.wi≤1000000):=by simp only[gk,wOk,Bool.and_eq_true,decide_eq_true_eq,and_assoc]
def kS (p:Pl):List (Nat×Option aS):=[(16,some (.box [.d (.sl 1 (p.ws.map (.i .i64))),dI p.ms,dI p.nu,dI p.de,dI p.ho,dI p.wi]))]
theorem vg (p:Pl)(hl:p.ws.length≤9223372036854775806):ay (CG G) 51 [sr p] [.i .i64 (if gk p then 0 else 8)]:=by
 have hlen:(p.ws.map (D.i .i64)).length=p.ws.length:=by simp
 have hk:=pL p;generalize hpk:gk p=k at hk;refine mD 109 Tryz.func51 ?_;unfold sr;repeat'(refine ae (fun _=>?_) (fun _=>?_))
 ·rename_i c1 c2 c3 c4 c5 c6 c7 c8 c9 c10 c11 c12;refine ad ?_;apply aA (fun x:Nat×Bool=>x.1≤p.ws.length∧rh p.ws x.1=x.2) (fun x=>⟨[(1,.op 16 0 0),(3,.d (.b x.2)),(4,dI (x.1:Int))],kS p,2⟩) (fun x=>p.ws.length-x.1) (0,true) ⟨Nat.zero_le _,rfl⟩ [(16,_)];·simp only[kS];exact aF
  ·rintro⟨i,b⟩ ⟨hi,ha⟩;simp only at hi ha;simp only[kS];refine ad ?_;refine ae (fun h1=>?_) (fun h1=>?_)
   ·have hi':i<p.ws.length:=by omega
    have hs:=lg p.ws i;refine ad ?_;cases b;·(refine dk ?_;skip);refine aq ?_;apply aG (i+1,false) [(16,_)] ⟨by simp only;omega,by simp only;rw[hs,ha];rfl⟩ (by simp only;omega);exact aF
    ·refine ao i rfl (gC hi') ?_;refine ae (fun h2=>?_) (fun h2=>?_)
     ·refine ao i rfl (gC hi') ?_;refine ae (fun h3=>?_) (fun h3=>?_)
      ·refine ae (fun h4=>?_) (fun h4=>?_)
       ·(refine dk ?_;skip);refine aq ?_;have hf:Ca p.ws i=true:=by unfold Ca;exact decide_eq_true (by omega)
        apply aG (i+1,true) [(16,_)] ⟨by simp only;omega,by simp only;rw[hs,ha,hf];rfl⟩ (by simp only;omega);exact aF
       ·refine ao i rfl (gC hi') (ar ⟨by omega,by omega⟩ (ao (i-1) (by omega) (gC (i:=i-1) (by omega)) ?_));refine ae (fun h5=>?_) (fun h5=>?_)
        ·(refine dk ?_;skip);refine aq ?_;have hf:Ca p.ws i=true:=by unfold Ca;exact decide_eq_true (by omega)
         apply aG (i+1,true) [(16,_)] ⟨by simp only;omega,by simp only;rw[hs,ha,hf];rfl⟩ (by simp only;omega);exact aF
        ·(refine dk ?_;skip);refine aq ?_;have hf:Ca p.ws i=false:=by unfold Ca;exact decide_eq_false (by omega)
         apply aG (i+1,false) [(16,_)] ⟨by simp only;omega,by simp only;rw[hs,ha,hf];rfl⟩ (by simp only;omega);exact aF
      ·(refine dk ?_;skip);refine aq ?_;have hf:Ca p.ws i=false:=by unfold Ca;exact decide_eq_false (by omega)
       apply aG (i+1,false) [(16,_)] ⟨by simp only;omega,by simp only;rw[hs,ha,hf];rfl⟩ (by simp only;omega);exact aF
     ·(refine dk ?_;skip);refine aq ?_;have hf:Ca p.ws i=false:=by unfold Ca;exact decide_eq_false (by omega)
      apply aG (i+1,false) [(16,_)] ⟨by simp only;omega,by simp only;rw[hs,ha,hf];rfl⟩ (by simp only;omega);exact aF
   ·obtain rfl:i=p.ws.length:=by omega
    have hkb:k=b:=by
     rw[Bool.eq_iff_iff,hk,ha];constructor;·intro h;exact h.2.1
     ·intro h;exact⟨by omega,h,by omega,by omega,by omega,by omega,by omega⟩
    subst hkb;cases k;all_goals (repeat refine ad ?_;rfl)
 all_goals
  obtain rfl:k=false:=by rw[Bool.eq_false_iff];intro h;have h:=hk.1 h;omega
  repeat refine ad ?_
  apply aA (fun i:Nat=>i≤p.ws.length) (fun i=>⟨[(1,.op 16 0 0),(3,.d (.b false)),(4,dI (i:Int))],kS p,2⟩) (fun i=>p.ws.length-i) 0 (Nat.zero_le _) [(16,_)];·simp only[kS];exact aF
  ·intro i hi;simp only[kS];repeat refine ad ?_
   refine ae (fun h1=>?_) (fun h1=>?_)
   ·repeat refine ad ?_
    (refine dk ?_;skip);refine aq ?_;apply aG (i+1) [(16,_)] (by omega) (by omega);exact aF
   ·repeat refine ad ?_
    rfl
def nt (p:Pl)(st:Int):Int:=if gk p=true∧0≤st∧st<(p.ws.length:Int) then p.ws.getD st.toNat 0 else 0
theorem J2 (p:Pl)(st:Int)(hl:p.ws.length≤9223372036854775806):ay (CG G) 201 [sr p,.i .i64 st] [.i .i64 (nt p st)]:=by
 have hv:=vg p hl;have hlen:(p.ws.map (D.i .i64)).length=p.ws.length:=by simp
 unfold nt;generalize gk p=k at*;unfold sr at*;refine ay.mk (n:=24) Tryz.func201 rfl rfl rfl (Nat.le_of_ble_eq_true rfl) (ad (ah hv ?_));cases k;·refine aj (by decide) ?_;rfl
 ·refine ai (by decide) ?_;refine ae (fun h1=>?_) (fun h1=>?_);·refine aN ?_;rw[if_neg (by rintro⟨_,h⟩;omega)]
  ·refine ae (fun h2=>?_) (fun h2=>?_);·rw[hlen] at h2;refine aN ?_;rw[if_neg (by rintro⟨_,h⟩;omega)]
   ·rw[hlen] at h2;refine ao st.toNat (by omega) (gC (by omega)) (aN ?_);rw[if_pos ⟨rfl,by omega,by omega⟩]
structure Ro where
 st:Int
 sg:Int
 he:Int
 tt:Int
 er:Int
 ag:Int
def oW (r:Ro):D:=.agg [.i .i64 r.st,.i .i64 r.sg,.i .i64 r.he,.i .i64 r.tt,.i .i64 r.er,.i .i64 r.ag]
def qU (st:Int):Ro:=⟨st,0,0,0,0,0⟩
def iq (tt er ag len:Int):(Int×Int×Int)×Bool:=if len≤max ag 0+1 then((0,0,0),true) else((tt,er,max ag 0+1),false)
def sI (w:Int×Int×Int):D:=.agg [.i .i64 w.1,.i .i64 w.2.1,.i .i64 w.2.2]
theorem GU (tt er ag len:Int)(ha:ag≤1000000000000):ay (CG G) 102 [sI (tt,er,ag),.i .i64 len] [sI (iq tt er ag len).1,.b (iq tt er ag len).2]:=by
 unfold sI;simp only;refine ay.mk (n:=27) Tryz.func102 rfl rfl rfl (Nat.le_of_ble_eq_true rfl) (ad ?_);refine ae (fun h1=>?_) (fun h1=>?_);·refine aN ?_;rw[show iq tt er ag len=((0,0,0),true) from if_pos (by omega)]
 ·refine aq ?_;refine ae (fun h2=>?_) (fun h2=>?_);·refine aN ?_;rw[show iq tt er ag len=((0,0,0),true) from if_pos (by omega)]
  ·refine ar ⟨by omega,by omega⟩ (aN ?_);rw[show iq tt er ag len=((tt,er,max ag 0+1),false) from if_neg (by omega)]
def mN (n k:Int):Int:=iT 1000000000 [n,k] 0
theorem add_zero (n:Int):iT 1000000000 [n] 0=mN n 0:=by unfold mN;simp only[iT];omega
theorem pw (n k:Int):0≤mN n k∧mN n k≤1000000000:=by unfold mN;simp only[iT];omega
theorem ay1 (n k:Int):ay (CG G) 107 [.i .i64 1000000000,.sl 1 [.i .i64 n,.i .i64 k]] [.i .i64 (mN n k)]:=Hl 1000000000 [n,k] ⟨by decide,by decide⟩ (by simp)
theorem ay0 (n:Int):ay (CG G) 107 [.i .i64 1000000000,.sl 1 [.i .i64 n]] [.i .i64 (mN n 0)]:=by have:=Hl 1000000000 [n] ⟨by decide,by decide⟩ (by simp);rw[show max (1000000000:Int) 0=1000000000 by decide,add_zero] at this;exact this
theorem EU (n:Int):ay (CG G) 181 [.i .i64 n] [.i .i64 (mN n 1)]:=by refine ay.mk (n:=6) Tryz.func181 rfl rfl rfl (Nat.le_of_ble_eq_true rfl) (ah (ay1 n 1) ?_);rfl
def b01 (b:Bool):Int:=if b then 1 else 0
theorem C7 (tt er ag:Int)(b:Bool):ay (CG G) 149 [sI (tt,er,ag),.b b] [sI (mN tt 1,mN er (b01 b),ag)]:=by
 unfold sI;simp only;refine ay.mk (n:=20) Tryz.func149 rfl rfl rfl (Nat.le_of_ble_eq_true rfl) (ah (EU _) (ad ?_));cases b;·refine ah (ay0 _) ?_;rfl
 ·refine ah (EU _) ?_;rfl
theorem mulb {a b A B:Int}(h1:0≤a∧a≤A)(h2:0≤b∧b≤B):0≤a*b∧a*b≤A*B:=⟨Int.mul_nonneg h1.1 h2.1,Int.mul_le_mul h1.2 h2.2 h2.1 (by omega)⟩
def AR (n:Int):Bool:=decide (0≤n∧n≤1000000000)
def uv (p:Pl)(tt er:Int):Int:=if(gk p&&AR tt&&AR er)=true then(if tt<p.ms then 1 else if p.nu*tt<er*p.de then 3 else 2) else 0
theorem zn (p:Pl)(tt er ag:Int)(hl:p.ws.length≤9223372036854775806):ay (CG G) 103 [sr p,sI (tt,er,ag)] [.i .i64 (uv p tt er)]:=by
 have hv:=vg p hl;have hk:=pL p;have e1:AR tt=decide (0≤tt∧tt≤1000000000):=rfl;have e2:AR er=decide (0≤er∧er≤1000000000):=rfl;unfold uv;rw[e1,e2];generalize gk p=k at*;unfold sr sI at*;simp only at*;refine ay.mk (n:=44) Tryz.func103 rfl rfl rfl (Nat.le_of_ble_eq_true rfl) (ad (ah hv ?_));cases k;·refine aj (by decide) ?_;rfl
 ·obtain⟨k1,k2,k3,k4,k5,k6,k7⟩:=hk.1 rfl;refine ai (by decide) ?_;refine ae (fun h1=>?_) (fun h1=>?_);·rw[show decide (0≤tt∧tt≤1000000000)=false from decide_eq_false (by omega)];rfl
  refine ae (fun h2=>?_) (fun h2=>?_);·rw[show decide (0≤tt∧tt≤1000000000)=false from decide_eq_false (by omega)];rfl
  refine ae (fun h3=>?_) (fun h3=>?_);·rw[show decide (0≤er∧er≤1000000000)=false from decide_eq_false (by omega),Bool.and_false];rfl
  refine ae (fun h4=>?_) (fun h4=>?_);·rw[show decide (0≤er∧er≤1000000000)=false from decide_eq_false (by omega),Bool.and_false];rfl
  rw[show decide (0≤tt∧tt≤1000000000)=true from decide_eq_true (by omega),show decide (0≤er∧er≤1000000000)=true from decide_eq_true (by omega)];have m1:=mulb (a:=er) (A:=1000000000) (by omega) (b:=p.de) (B:=1000000) (by omega);have m2:=mulb (a:=p.nu) (A:=1000000) (by omega) (b:=tt) (B:=1000000000) (by omega);refine ad ?_;refine ae (fun h5=>?_) (fun h5=>?_);·refine aN ?_;rw[if_pos (show(true&&true&&true)=true from rfl),if_pos h5]
  ·refine ad (ar ⟨by omega,by omega⟩ (ar ⟨by omega,by omega⟩ ?_));refine ae (fun h6=>?_) (fun h6=>?_);·refine aN ?_;rw[if_pos (show(true&&true&&true)=true from rfl),if_neg h5,if_pos h6]
   ·refine aN ?_;rw[if_pos (show(true&&true&&true)=true from rfl),if_neg h5,if_neg h6]
end Go.Proofs.YtgfdbddglhblbaaGreat

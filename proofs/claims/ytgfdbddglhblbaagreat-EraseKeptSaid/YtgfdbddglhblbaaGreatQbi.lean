/- A part of the proof of what is stated of the erasing of a mirror. -/
import Derived.Test.YtgfdbddglhblbaaGreatQbh
import Derived.Test.YtgfdbddglhblbaaGreatQaj
set_option maxHeartbeats 64000000
namespace Go.Proofs.YtgfdbddglhblbaaGreat
open Go.Eng
attribute [local irreducible] aO
set_option maxRecDepth 100000
def wh:bB:=([72,111,115,116],[104])
def K7:bB:=([69,120,112,101,99,116],[49,48,48,45,99,111,110,116,105,110,117,101])
def Be (s:List UInt8):bB:=([67,111,111,107,105,101],[99,111,104,111,114,116,61]++s)
theorem I9:∀x,x∈KB→x.length≤10:=by decide
theorem IJ:∀x,x∈KY→x.length≤10:=by decide
theorem GH (l:List Int)(i:Nat)(hi:i≤l.length)(hl:l.length≤1000000):∃(q:eL)(i':Nat),wN q∧i'≤l.length∧aH (CG G) 65 [.op 0 0 0] (aE l i) [.d (gu q)] (aE l i'):=by
 have z:br []=0:=rfl;obtain⟨m,i1,hm,g1,c1⟩:=ofE l i KB hi hl (by decide);obtain⟨t,i2,ht,g2,c2⟩:=ofE l i1 KY g1 hl (by decide);obtain⟨r3,i3,h3,g3,c3⟩:=bR l i2 6 g2 hl (by omega);obtain⟨mi,hmi⟩:∃mi:Int,((r3:Int)=0∧mi=0)∨(¬(r3:Int)=0∧mi=1):=by
  by_cases h:(r3:Int)=0;·exact⟨0,.inl ⟨h,rfl⟩⟩
  ·exact⟨1,.inr ⟨h,rfl⟩⟩
 obtain⟨fs,i4,f1,f2,g4,c4⟩:=Kv l i3 3 g3 hl (by omega);obtain⟨r5,i5,h5,g5,c5⟩:=bR l i4 2 g4 hl (by omega);obtain⟨s,iD,hs,gI,cD⟩:=idE l i5 g5 hl;obtain⟨i6,fs2,g6,f3,f4,hsel⟩:∃(i6:Nat)(fs2:List bB),i6≤l.length∧br fs2≤600∧fs2.length≤10∧(((r5:Int)=0∧i6=iD∧fs2=fs++[wh]++[Be s])∨(¬(r5:Int)=0∧i6=i5∧fs2=fs++[wh])):=by
  have e1:br [wh]=6:=rfl;have e2:br [Be s]=s.length+14:=by rw[ez];simp[Be];omega
  by_cases h:(r5:Int)=0
  ·refine⟨iD,_,gI,?_,?_,.inl ⟨h,rfl,rfl⟩⟩;·rw[b7,b7];omega
   ·simp;omega
  ·refine⟨i5,_,g5,?_,?_,.inr ⟨h,rfl,rfl⟩⟩;·rw[b7];omega
   ·simp;omega
 obtain⟨r7,i7,h7,g7,c7⟩:=bR l i6 5 g6 hl (by omega);obtain⟨fs3,f5,f6,hse3⟩:∃fs3:List bB,br fs3≤700∧fs3.length≤20∧(((r7:Int)=0∧fs3=fs2++[K7])∨(¬(r7:Int)=0∧fs3=fs2)):=by
  have e1:br [K7]=19:=rfl;by_cases h:(r7:Int)=0
  ·refine⟨_,?_,?_,.inl ⟨h,rfl⟩⟩;·rw[b7];omega
   ·simp;omega
  ·exact⟨_,by omega,by omega,.inr ⟨h,rfl⟩⟩
 obtain⟨r8,i8,h8,g8,c8⟩:=bR l i7 4 g7 hl (by omega);obtain⟨b,i9,hb,g9,c9⟩:=y8 l i8 30 g8 hl (by omega);obtain⟨q,iE,hq,gE,hsel4⟩:∃(q:eL)(iE:Nat),wN q∧iE≤l.length∧(((r8:Int)=0∧q=⟨m,t,mi,fs3,true,b⟩∧iE=i9)∨(¬(r8:Int)=0∧(r8:Int)=1∧mi=1∧q=⟨m,t,mi,fs3,true,b⟩∧iE=i9)∨(¬(r8:Int)=0∧(r8:Int)=1∧¬mi=1∧q=⟨m,t,mi,fs3,false,[]⟩∧iE=i8)∨(¬(r8:Int)=0∧¬(r8:Int)=1∧q=⟨m,t,mi,fs3,false,[]⟩∧iE=i8)):=by
  have hml:=I9 m hm;have htl:=IJ t ht;have hmi2:mi=0∨mi=1:=hmi.elim (fun h=>.inl h.2) (fun h=>.inr h.2);have a1:wN ⟨m,t,mi,fs3,true,b⟩:=⟨hml,htl,by show br fs3≤1000;omega,by show fs3.length≤100;omega,hmi2,hb⟩;have a2:wN ⟨m,t,mi,fs3,false,[]⟩:=⟨hml,htl,by show br fs3≤1000;omega,by show fs3.length≤100;omega,hmi2,Nat.zero_le _⟩;by_cases k0:(r8:Int)=0;·exact⟨_,i9,a1,g9,.inl ⟨k0,rfl,rfl⟩⟩
  ·by_cases k1:(r8:Int)=1
   ·by_cases k2:mi=1;·exact⟨_,i9,a1,g9,.inr (.inl ⟨k0,k1,k2,rfl,rfl⟩)⟩
    ·exact⟨_,i8,a2,g8,.inr (.inr (.inl ⟨k0,k1,k2,rfl,rfl⟩))⟩
   ·exact⟨_,i8,a2,g8,.inr (.inr (.inr ⟨k0,k1,rfl,rfl⟩))⟩
 refine⟨q,iE,hq,gE,?_⟩;have hfl:(fs.map aL).length≤3:=by rw[Nl];exact f2
 have hfl2:(fs2.map aL).length≤10:=by rw[Nl];exact f4
 unfold bP at c1 c2;refine mH 63 Tryz.func65 ?_;refine ak [(0,0)] (c1) ?_ ?_;·(try simp only[aE]);exact aF
 refine ak [(0,0)] (c2) ?_ ?_;·(try simp only[aE]);exact aF
 apply bd (fun _:Unit=>True) (fun _=>⟨[(0,.op 0 0 0),(2,.op 17 0 0),(3,.op 18 0 0)],(17,some (.box [.d (.s eL.zero.m),.d (.s eL.zero.t),dI eL.zero.mi,.d (.sl 2 (eL.zero.fs.map aL)),.d (.b eL.zero.fr),.d (.sl 1 (aD eL.zero.body))]))::(18,some (.box [.d (.s m),.d (.s t),dI mi,.d (.sl 2 []),.d (.b false),.d (.sl 1 [])]))::aE l i3,2⟩)
 ·rcases hmi with⟨k,rfl⟩|⟨k,rfl⟩
  ·refine ak [(0,0)] (c3) ?_ ?_;·(try simp only[aE]);exact aF
   refine aj k ?_;apply aC () [(17,_),(18,_)] trivial;try simp only[aE]
   exact aF
  ·refine ak [(0,0)] (c3) ?_ ?_;·(try simp only[aE]);exact aF
   refine ai k ?_;apply aC () [(17,_),(18,_)] trivial;try simp only[aE]
   exact aF
 ·rintro _ _;refine ak [(0,0)] (c4) ?_ ?_;·(try simp only[aE]);exact aF
  refine aB (by simp only[Nb,Nf];omega) ?_;apply bd (fun _:Unit=>True) (fun _=>⟨[(0,.op 0 0 0),(2,.op 17 0 0),(3,.op 18 0 0)],(17,some (.box [.d (.s eL.zero.m),.d (.s eL.zero.t),dI eL.zero.mi,.d (.sl 2 (eL.zero.fs.map aL)),.d (.b eL.zero.fr),.d (.sl 1 (aD eL.zero.body))]))::(18,some (.box [.d (.s m),.d (.s t),dI mi,.os 19,.d (.b false),.d (.sl 1 [])]))::(19,some (.buf 2 (fs2.map aL)))::aE l i6,2⟩)
  ·rcases hsel with⟨k,rfl,rfl⟩|⟨k,rfl,rfl⟩
   ·refine ak [(0,0)] (c5) ?_ ?_;·(try simp only[aE]);exact aF
    refine aj k ?_;refine ak [(0,0)] (cD) ?_ ?_;·(try simp only[aE]);exact aF
    refine bg (by have:s.length≤256:=hs;simp;omega) (aB (by(try simp);omega) (dk ?_));apply aC () [(17,_),(18,_),(19,_)] trivial;try simp only[aE]
    ((repeat' constructor)<;>(first|refine aI ?_|rfl)<;>first|exact oT|skip);all_goals simp[aL,wh,Be]
   ·refine ak [(0,0)] (c5) ?_ ?_;·(try simp only[aE]);exact aF
    refine ai k ?_;apply aC () [(17,_),(18,_),(19,_)] trivial;try simp only[aE]
    ((repeat' constructor)<;>(first|refine aI ?_|rfl)<;>first|exact oT|skip);all_goals simp[aL,wh]
  ·rintro _ _;apply bd (fun _:Unit=>True) (fun _=>⟨[(0,.op 0 0 0),(2,.op 17 0 0),(3,.op 18 0 0)],(17,some (.box [.d (.s eL.zero.m),.d (.s eL.zero.t),dI eL.zero.mi,.d (.sl 2 (eL.zero.fs.map aL)),.d (.b eL.zero.fr),.d (.sl 1 (aD eL.zero.body))]))::(18,some (.box [.d (.s m),.d (.s t),dI mi,.os 19,.d (.b false),.d (.sl 1 [])]))::(19,some (.buf 2 (fs3.map aL)))::aE l i7,2⟩)
   ·rcases hse3 with⟨k,rfl⟩|⟨k,rfl⟩
    ·refine ak [(0,0)] (c7) ?_ ?_;·(try simp only[aE]);exact aF
     refine aj k (aB (by simp only[Nb,Nf];omega) ?_);apply aC () [(17,_),(18,_),(19,_)] trivial;try simp only[aE]
     ((repeat' constructor)<;>(first|refine aI ?_|rfl)<;>first|exact oT|skip);all_goals simp[aL,K7]
    ·refine ak [(0,0)] (c7) ?_ ?_;·(try simp only[aE]);exact aF
     refine ai k ?_;apply aC () [(17,_),(18,_),(19,_)] trivial;try simp only[aE]
     exact aF
   ·rintro _ _;refine ad ?_;refine ak [(0,0)] (c8) ?_ ?_;·(try simp only[aE]);exact aF
    rcases hsel4 with⟨k,rfl,rfl⟩|⟨k,k1,k2,rfl,rfl⟩|⟨k,k1,k2,rfl,rfl⟩|⟨k,k1,rfl,rfl⟩
    ·refine aj k ?_;refine ak [(0,0)] (c9) ?_ ?_;·(try simp only[aE]);exact aF
     apply aw [];try simp only[aE]
     exact aF
    ·refine ai k (aj k1 (aj k2 ?_));refine ak [(0,0)] (c9) ?_ ?_;·(try simp only[aE]);exact aF
     apply aw [];try simp only[aE]
     exact aF
    ·refine ai k (aj k1 (ai k2 ?_));apply aw [];try simp only[aE]
     exact aF
    ·refine ai k (ai k1 ?_);apply aw [];try simp only[aE]
     exact aF
theorem E7 (u:Nat)(h:u≤1000000000):(gg 16 u).length≤128:=by
 have:∀(k u:Nat),u<16^(k+1)→(gg 16 u).length≤k+1:=by intro k;induction k with|zero=>intro u hu;rw[dQ (by simpa using hu)];simp;|succ k ih=>
  intro u hu;by_cases h:u<16;·rw[dQ h];simp
  ·rw[fg (by decide) h];have:=ih (u/16) (by rw[Nat.div_lt_iff_lt_mul (by decide)];rw[Nat.pow_succ] at hu;exact hu);simp;omega
 exact Nat.le_trans (this 7 u (by omega)) (by decide)
theorem l5 (b:List UInt8)(h:b.length≤300):(dR b).length≤440:=by
 unfold dR;split;·simp
 ·have h1:=E7 b.length (by omega);have h2:aY 16 (b.length:Int)=gg 16 b.length:=by unfold aY;rw[if_neg (by omega),Int.toNat_natCast]
  rw[h2];simp only[Na,Nb,Nf];omega
theorem J6 (a:List UInt8)(h:a.length≤300):(rJ [a]).length≤445:=by have h1:=l5 a h;unfold rJ;simp only[Nw,List.map_nil,List.flatten_cons,List.flatten_nil,Na,Nb,Nf];omega
theorem B6 (a b:List UInt8)(h:a.length≤300)(h2:b.length≤300):(rJ [a,b]).length≤885:=by have h1:=l5 a h;have h3:=l5 b h2;unfold rJ;simp only[Nw,List.map_nil,List.flatten_cons,List.flatten_nil,Na,Nb,Nf];omega
def AE (n:Nat):bB:=([67,111,110,116,101,110,116,45,76,101,110,103,116,104],aY 10 (n:Int))
def KT:bB:=([84,114,97,110,115,102,101,114,45,69,110,99,111,100,105,110,103],[99,104,117,110,107,101,100])
theorem HQ (n:Nat)(h:n≤1000000):br [AE n]≤100:=by have:=bv (n:=(n:Int)) (by omega);rw[ez];simp[AE];omega
theorem wireE (q:eL)(h:wN q)(ck:Bool):∃b:List UInt8,b.length≤20000∧aH (CG G) 64 [.d (gu q),.d (.b ck)] [] [.os 16] [(16,some (.buf 1 (aD b)))]:=by
 obtain⟨hm,ht,hf,hfn,hmi,hb⟩:=h;obtain⟨m,t,mi,fs,fr,body⟩:=q;simp only at hm ht hf hfn hmi hb;have hfl:(fs.map aL).length≤100:=by rw[Nl];exact hfn
 have hbl:=aK body;have hlf:=HQ body.length (by omega);have htf:br [KT]≤100:=by decide
 have cL:=gw (body.length:Int) ⟨by omega,by omega⟩;have cE:=encR [body.take (body.length/2),body.drop (body.length/2)] (by have:=B6 (body.take (body.length/2)) (body.drop (body.length/2)) (by simp;omega) (by simp;omega);omega) (by simp);have hel:=B6 (body.take (body.length/2)) (body.drop (body.length/2)) (by simp;omega) (by simp;omega);obtain⟨fs2,b2,f1,f2,hsel⟩:∃(fs2:List bB)(b2:List UInt8),br fs2≤1200∧b2.length≤1000∧((fr=true∧ck=true∧mi=1∧fs2=fs++[KT]∧b2=rJ [body.take (body.length/2),body.drop (body.length/2)])∨(fr=true∧(ck=false∨mi=0)∧fs2=fs++[AE body.length]∧b2=body)∨(fr=false∧fs2=fs∧b2=body)):=by
  cases fr;·exact⟨_,_,by omega,by omega,.inr (.inr ⟨rfl,rfl,rfl⟩)⟩
  ·cases ck;·exact⟨_,_,by rw[b7];omega,by omega,.inr (.inl ⟨rfl,.inl rfl,rfl,rfl⟩)⟩
   ·rcases hmi with rfl|rfl;·exact⟨_,_,by rw[b7];omega,by omega,.inr (.inl ⟨rfl,.inr rfl,rfl,rfl⟩)⟩
    ·exact⟨_,_,by rw[b7];omega,by omega,.inl ⟨rfl,rfl,rfl,rfl,rfl⟩⟩
 have c3:=Bd ⟨m,t,mi,fs2,fr,body⟩ (by simp only;omega) (by simp only;omega) (by simp only;omega);have l3:=l6 ⟨m,t,mi,fs2,fr,body⟩;simp only at l3;have hb2:=aK b2;have htd:(((aD body).length:Nat):Int).tdiv 2=((body.length/2:Nat):Int):=by rw[hbl];exact(Int.ofNat_tdiv _ 2).symm
 refine⟨gO ⟨m,t,mi,fs2,fr,body⟩++b2,by rw[Na];omega,?_⟩;generalize gO ⟨m,t,mi,fs2,fr,body⟩=z at c3 l3⊢;unfold gu dF at c3⊢;dsimp only at c3⊢;unfold DO at cE;simp only[Nw,List.map_nil,←dT,←fO] at cE;refine aH.mk (n:=54) Tryz.func64 rfl rfl rfl (Nat.le_of_ble_eq_true rfl) rfl (aB (by simp;omega) ?_);apply bd (fun _:Unit=>True) (fun _=>⟨[(2,.op 17 0 0),(5,.d (.sl 1 (aD b2))),(6,.os 18)],[(17,some (.box [.d (.s m),.d (.s t),dI mi,.d (.sl 2 (fs.map aL)),.d (.b fr),.d (.sl 1 (aD body))])),(18,some (.buf 2 (fs2.map aL)))],3⟩)
 ·rcases hsel with⟨rfl,rfl,rfl,rfl,rfl⟩|⟨rfl,h4,rfl,rfl⟩|⟨rfl,rfl,rfl⟩;·refine aj rfl (aB (by simp;omega) (eV (by decide) (ar ⟨by omega,by omega⟩ (bnd (body.length/2) htd (by omega) (bnd (body.length/2) htd (by omega) (ah cE (And.intro (dY (by kernel_rfl)) ?_)))))));apply aC () [(17,_),(18,_)] trivial;((repeat' constructor)<;>(first|refine aI ?_|rfl)<;>first|exact oT|skip);all_goals simp[aL,KT]
  ·rw[←hbl] at cL;cases ck;·refine ah cL (aB (by simp;omega) ?_);apply aC () [(17,_),(18,_)] trivial;((repeat' constructor)<;>(first|refine aI ?_|rfl)<;>first|exact oT|skip);all_goals simp[aL,AE,hbl]
   ·obtain rfl:mi=0:=by simpa using h4
    refine ai (by show¬(0:Int)=1;omega) (ah cL (aB (by simp;omega) ?_));apply aC () [(17,_),(18,_)] trivial;((repeat' constructor)<;>(first|refine aI ?_|rfl)<;>first|exact oT|skip);all_goals simp[aL,AE,hbl]
  ·apply aC () [(17,_),(18,_)] trivial;exact aF
 ·rintro _ _;refine aT (ak [] c3 ?_ ?_);·exact aF
  have hz:=aK z;refine aB (by(try simp);omega) ?_;apply aw [(16,_)];((repeat' constructor)<;>(first|refine aI ?_|rfl)<;>first|exact oT|skip);all_goals exact cU z b2
def rsns:List (List UInt8):=[[79,75],[],[97,32,98]]
def FF:List Int:=[200,200,200,404,500,503,204,304]
def EQ:List UInt8:=[72,84,84,80,47,49,46,49,32,50,120,48,32,110,111,13,10,13,10]
def KM:List UInt8:=[72,84,84,80,47,49,46,49,32,49,48,48,32,67,111,110,116,105,110,117,101,13,10,13,10]
def cl1:bB:=([67,111,110,116,101,110,116,45,76,101,110,103,116,104],[49])
def cl2:bB:=([67,111,110,116,101,110,116,45,76,101,110,103,116,104],[50])
theorem Gs:∀x,x∈rsns→x.length≤10:=by decide
theorem JT (l:List Int)(i:Nat)(hi:i≤l.length)(hl:l.length≤1000000):∃(b:List UInt8)(i':Nat),b.length≤20000∧i'≤l.length∧aH (CG G) 62 [.op 0 0 0] (aE l i) [.os 16] ((16,some (.buf 1 (aD b)))::aE l i'):=by
 obtain⟨r1,i1,h1,g1,c1⟩:=bR l i 8 hi hl (by omega);obtain⟨st,hst⟩:∃st:Int,(FF.map (D.i .i64))[r1]?=some (.i .i64 st):=by
  have:r1<FF.length:=by show r1<8;omega
  exact⟨FF[r1],by simp[this]⟩
 obtain⟨rs,i2,h2,g2,c2⟩:=ofE l i1 rsns g1 hl (by decide);obtain⟨fs,i3,f1,f2,g3,c3⟩:=Kv l i2 2 g2 hl (by omega);obtain⟨r4,i4,h4,g4,c4⟩:=bR l i3 8 g3 hl (by omega);obtain⟨mi,hmi⟩:∃mi:Int,((r4:Int)=0∧mi=0)∨(¬(r4:Int)=0∧mi=1):=by
  by_cases h:(r4:Int)=0;·exact⟨0,.inl ⟨h,rfl⟩⟩
  ·exact⟨1,.inr ⟨h,rfl⟩⟩
 obtain⟨b,i5,hb,g5,c5⟩:=y8 l i4 40 g4 hl (by omega);obtain⟨r6,i6,h6,g6,c6⟩:=bR l i5 12 g5 hl (by omega);have hfl:(fs.map aL).length≤2:=by rw[Nl];exact f2
 have hlf:=HQ b.length (by omega);have htf:br [KT]≤100:=by decide
 have hcf:br [cl1,cl2]≤100:=by decide
 have hef:KM.length≤100:=by decide
 have hbl:=aK b;have cL:=gw (b.length:Int) ⟨by omega,by omega⟩;have hel:=J6 b (by omega);have cE:=encR [b] (by omega) (by simp);obtain⟨fs2,b2,ef,e1,e2,e3,hsel⟩:∃(fs2:List bB)(b2 ef:List UInt8),br fs2≤1000∧b2.length≤1000∧ef.length≤100∧((r6:Int)=0∨((r6:Int)=1∧ef=KM∧fs2=fs∧b2=b)∨((r6:Int)=2∧ef=[]∧fs2=fs++[cl1,cl2]∧b2=b)∨((r6:Int)=6∧ef=[]∧fs2=fs∧b2=b)∨(6<(r6:Int)∧ef=[]∧fs2=fs++[AE b.length]∧b2=b)∨(((r6:Int)=3∨(r6:Int)=4∨(r6:Int)=5)∧ef=[]∧fs2=fs++[KT]∧b2=rJ [b])):=by
  by_cases k0:(r6:Int)=0;·exact⟨fs,b,[],by omega,by omega,by simp,.inl k0⟩
  ·by_cases k1:(r6:Int)=1;·exact⟨_,_,_,by omega,by omega,hef,.inr (.inl ⟨k1,rfl,rfl,rfl⟩)⟩
   ·by_cases k2:(r6:Int)=2;·exact⟨_,_,_,by rw[b7];omega,by omega,by simp,.inr (.inr (.inl ⟨k2,rfl,rfl,rfl⟩))⟩
    ·by_cases k6:(r6:Int)=6;·exact⟨_,_,_,by omega,by omega,by simp,.inr (.inr (.inr (.inl ⟨k6,rfl,rfl,rfl⟩)))⟩
     ·by_cases k7:6<(r6:Int);·exact⟨_,_,_,by rw[b7];omega,by omega,by simp,.inr (.inr (.inr (.inr (.inl ⟨k7,rfl,rfl,rfl⟩))))⟩
      ·exact⟨_,_,_,by rw[b7];omega,by omega,by simp,.inr (.inr (.inr (.inr (.inr ⟨by omega,rfl,rfl,rfl⟩))))⟩
 have c7:=vz ⟨st,rs,mi,fs2,[]⟩ (by have:=Gs rs h2;simp only;omega) (by simp only;omega);have l7:=jm ⟨st,rs,mi,fs2,[]⟩;have l8:=Gs rs h2;simp only at l7;generalize ji ⟨st,rs,mi,fs2,[]⟩=z at c7 l7;unfold eF bU at c7;dsimp only at c7;obtain⟨out,ho,hout⟩:∃out:List UInt8,out.length≤20000∧(((r6:Int)=0∧out=EQ)∨(¬(r6:Int)=0∧out=ef++z++b2)):=by
  by_cases k0:(r6:Int)=0;·exact⟨EQ,by decide,.inl ⟨k0,rfl⟩⟩
  ·exact⟨_,by simp only[Na];omega,.inr ⟨k0,rfl⟩⟩
 refine⟨out,i6,ho,g6,?_⟩;unfold bP at c2;unfold DO at cE;simp only[Nw,List.map_nil] at cE;refine mH 72 Tryz.func62 ?_;refine ak [(0,0)] (c1) ?_ ?_;·(try simp only[aE]);exact aF
 refine bh r1 rfl (by show r1<8;omega) (az hst ?_);refine ak [(0,0)] (c2) ?_ ?_;·(try simp only[aE]);exact aF
 refine ak [(0,0)] (c3) ?_ ?_;·(try simp only[aE]);exact aF
 refine dk ?_;apply bd (fun _:Unit=>True) (fun _=>⟨[(0,.op 0 0 0),(3,.op 17 0 0)],(17,some (.box [dI st,.d (.s rs),dI mi,.os 18,.d (.sl 1 [])]))::(18,some (.buf 2 (fs.map aL)))::aE l i4,2⟩)
 ·rcases hmi with⟨k,rfl⟩|⟨k,rfl⟩
  ·refine ak [(0,0)] (c4) ?_ ?_;·(try simp only[aE]);exact aF
   refine aj k ?_;apply aC () [(17,_),(18,_)] trivial;try simp only[aE]
   exact aF
  ·refine ak [(0,0)] (c4) ?_ ?_;·(try simp only[aE]);exact aF
   refine ai k ?_;apply aC () [(17,_),(18,_)] trivial;try simp only[aE]
   exact aF
 ·rintro _ _;refine ak [(0,0)] (c5) ?_ ?_;·(try simp only[aE]);exact aF
  apply bd (fun _:Unit=>¬(r6:Int)=0) (fun _=>⟨[(0,.op 0 0 0),(3,.op 17 0 0),(4,.d (.sl 1 (aD b2))),(5,.os 19)],(17,some (.box [dI st,.d (.s rs),dI mi,.os 18,.d (.sl 1 [])]))::(18,some (.buf 2 (fs2.map aL)))::(19,some (.buf 1 (aD ef)))::aE l i6,2⟩)
  ·rcases hsel with k|k|k|k|k|k
   ·obtain rfl:out=EQ:=by rcases hout with h|h;exact h.2;exact absurd k h.1
    refine ak [(0,0)] (c6) ?_ ?_;·(try simp only[aE]);exact aF
    refine aj k ?_;apply aw [(16,_)];try simp only[aE]
    ((repeat' constructor)<;>(first|refine aI ?_|rfl)<;>first|exact oT|skip);all_goals rfl
   ·obtain⟨k,rfl,rfl,rfl⟩:=k;refine ak [(0,0)] (c6) ?_ ?_;·(try simp only[aE]);exact aF
    refine ai (by omega) (aj (by omega) ?_);apply aC () [(17,_),(18,_),(19,_)] (by omega);try simp only[aE]
    ((repeat' constructor)<;>(first|refine aI ?_|rfl)<;>first|exact oT|skip);all_goals rfl
   ·obtain⟨k,rfl,rfl,rfl⟩:=k;refine ak [(0,0)] (c6) ?_ ?_;·(try simp only[aE]);exact aF
    refine ai (by omega) (ai (by omega) (aj (by omega) (aB (by simp;omega) ?_)));apply aC () [(17,_),(18,_),(19,_)] (by omega);try simp only[aE]
    ((repeat' constructor)<;>(first|refine aI ?_|rfl)<;>first|exact oT|skip);all_goals simp[aL,cl1,cl2]
   ·obtain⟨k,rfl,rfl,rfl⟩:=k;refine ak [(0,0)] (c6) ?_ ?_;·(try simp only[aE]);exact aF
    refine ai (by omega) (ai (by omega) (ai (by omega) (ad (ai (by omega) (ai (by omega) (ai (by omega) (aj (by omega) ?_)))))));apply aC () [(17,_),(18,_),(19,_)] (by omega);try simp only[aE]
    exact aF
   ·obtain⟨k,rfl,rfl,rfl⟩:=k;rw[←hbl] at cL;refine ak [(0,0)] (c6) ?_ ?_;·(try simp only[aE]);exact aF
    refine ai (by omega) (ai (by omega) (ai (by omega) (ad (ai (by omega) (ai (by omega) (ai (by omega) (ai (by omega) (ah (cL) (aB (by simp;omega) (dk ?_))))))))));apply aC () [(17,_),(18,_),(19,_)] (by omega);try simp only[aE]
    ((repeat' constructor)<;>(first|refine aI ?_|rfl)<;>first|exact oT|skip);all_goals simp[aL,AE,hbl]
   ·obtain⟨k,rfl,rfl,rfl⟩:=k;rcases k with k|k|k
    ·refine ak [(0,0)] (c6) ?_ ?_;·(try simp only[aE]);exact aF
     refine ai (by omega) (ai (by omega) (ai (by omega) (ad (aj (by omega) (aB (by simp;omega) (ah (cE) ?_))))));apply aC () [(17,_),(18,_),(19,_)] (by omega);try simp only[aE]
     ((repeat' constructor)<;>(first|refine aI ?_|rfl)<;>first|exact oT|skip);all_goals simp[aL,KT]
    ·refine ak [(0,0)] (c6) ?_ ?_;·(try simp only[aE]);exact aF
     refine ai (by omega) (ai (by omega) (ai (by omega) (ad (ai (by omega) (aj (by omega) (aB (by simp;omega) (ah (cE) ?_)))))));apply aC () [(17,_),(18,_),(19,_)] (by omega);try simp only[aE]
     ((repeat' constructor)<;>(first|refine aI ?_|rfl)<;>first|exact oT|skip);all_goals simp[aL,KT]
    ·refine ak [(0,0)] (c6) ?_ ?_;·(try simp only[aE]);exact aF
     refine ai (by omega) (ai (by omega) (ai (by omega) (ad (ai (by omega) (ai (by omega) (aj (by omega) (aB (by simp;omega) (ah (cE) ?_))))))));apply aC () [(17,_),(18,_),(19,_)] (by omega);try simp only[aE]
     ((repeat' constructor)<;>(first|refine aI ?_|rfl)<;>first|exact oT|skip);all_goals simp[aL,KT]
  ·rintro _ h0;obtain rfl:out=ef++z++b2:=by rcases hout with h|h;exact absurd h.1 h0;exact h.2
   have q1:=aK z;have q2:=aK b2;have q3:=aK ef;refine aT (ak [] (c7) ?_ ?_);·exact aF
   refine aB (by(try simp);omega) (aB (by(try simp);omega) ?_);apply aw [(16,_)];try simp only[aE]
   ((repeat' constructor)<;>(first|refine aI ?_|rfl)<;>first|exact oT|skip);all_goals simp[aD]
def Nn (l:List bC):Prop:=∀a,a∈l→0≤a.n
theorem Nn.nil:Nn []:=fun a h=>by cases h
theorem Nn.one {a:bC}(h:0≤a.n):Nn [a]:=fun b hb=>by rw[Nx.1 hb];exact h
theorem Nn.app {l m:List bC}(h1:Nn l)(h2:Nn m):Nn (l++m):=fun a h=>(Np.1 h).elim (h1 a) (h2 a)
theorem pk {l:List bC}(h:Nn l)(id:Int)(b:List UInt8):Nn (oq l id b):=by
 unfold oq;split;·exact h
 ·split;·next i _=>
   intro a ha;rcases List.mem_or_eq_of_mem_set ha with ha|rfl;·exact h a ha
   ·show 0≤(l.getD i _).n;rw[List.getD_eq_getElem?_getD];cases hg:l[i]? with|none=>exact Int.le_refl _;|some x=>exact h x (Ni hg)
  ·exact h.app (Nn.one (Int.le_refl _))
theorem ia (j:cX)(g:Bool):Nn (dS j g):=by unfold dS;split;exact Nn.nil;exact Nn.one (Int.le_refl _)
theorem nn_rf (s:bz)(id:Int):Nn (E0 s id).2:=by unfold E0;split;exact Nn.nil;split;exact Nn.nil;exact ia _ _
theorem nn_gn (s:bz)(id:Int):Nn (ES s id).2:=by unfold ES;split;exact Nn.nil;exact ia _ _
theorem nn_bg (s:bz)(id n:Int):Nn (CZ s id n).2:=by
 unfold CZ;split;·exact Nn.nil
 ·split;·show Nn (if _ then _ else _);split;exact Nn.nil;exact Nn.one (Int.le_refl _)
  ·exact Nn.nil
theorem Ki (s:bz)(k:Nat)(j:cX)(ign:List (List UInt8)):Nn (yU s k j ign).2:=ia _ _
theorem nn_nd (s:bz)(c:bk)(id:Int):Nn (EK s c id).2:=by
 unfold EK;split;·exact Nn.nil
 ·split;·exact Nn.nil
  ·split;·exact Ki _ _ _ _
   ·exact ia _ _
theorem nn_pr (s:bz)(e:Int)(sn:Sn)(b:Bool):Nn (yH s e sn b).2:=by
 unfold yH;split;·exact Nn.nil
 ·split;·exact ia _ _
  ·exact Nn.nil
theorem vM (lim:Int):∀(n k:Nat)(s:bz)(out:List bC),Nn out→Nn (mn lim n k s out).2
 |0,_,_,_,h=>h|n+1,k,s,out,h=>by
  unfold mn;split;·exact vM lim n _ _ _ h
  ·exact vM lim n _ _ _ (h.app (ia _ _))
theorem nn_bn (s:bz)(c:bk)(exc now:Int)(m rq:List UInt8):Nn (CI s c exc now m rq).2:=by
 unfold CI;split;·exact Nn.nil
 ·split;·exact Nn.nil
  ·exact Nn.one (Int.le_refl _)
theorem A5 (s:bz)(c:bk)(k:Nat)(l:List bC)(h:Nn l):∀(n:Nat)(j:cX),Nn (o7 s c k l n j).2
 |0,_=>h|n+1,j=>by
  unfold o7;split;·exact h.app (ia _ _)
  ·split;·exact h.app (Ki _ _ _ _)
   ·split;·exact h
    ·exact A5 s c k l h n _
theorem nn_dt (s:bz)(c:bk)(id:Int)(b:List UInt8):Nn (F0 s c id b).2:=by
 unfold F0;split;·exact Nn.nil
 ·split;·exact A5 _ _ _ _ (Nn.one (Int.natCast_nonneg _)) _ _
  ·exact Nn.nil
theorem nn_mr (s:bz)(c:bk)(e:Ev):Nn (sk s c e).2:=by
 unfold sk;repeat' split
 ·exact Nn.nil
 ·exact nn_rf _ _
 ·exact nn_dt _ _ _ _
 ·exact nn_nd _ _ _
 ·exact nn_bg _ _ _
 ·exact nn_gn _ _
 ·exact Nn.nil
def Wd.N (w:Wd):Prop:=Nn w.out
theorem Wd.N.put {w:Wd}(h:w.N)(id:Int)(b:List UInt8):(w.put id b).N:=by
 unfold Wd.put;split;·exact h
 ·split;·exact pk h _ _
  ·exact h
theorem Wd.N.setC {w:Wd}(h:w.N)(k:Nat)(c:Cl):(w.setC k c).N:=h
theorem Wd.N.setU {w:Wd}(h:w.N)(k:Nat)(c:Up):(w.setU k c).N:=h
theorem Wd.N.over {w:Wd}(h:w.N)(k:Nat):(w.over k).N:=h
theorem Wd.N.stop {w:Wd}(h:w.N)(k:Nat):(w.stop k).N:=h
theorem Wd.N.cc {w:Wd}(h:w.N)(rc:Int)(b:Bool):(w.cc rc b).N:=by unfold Wd.cc;split<;>exact h
theorem Wd.N.prim {w:Wd}(h:w.N)(e:Int)(sn:Sn)(b:Bool):(w.prim e sn b).N:=by
 unfold Wd.prim;split;·exact h
 ·exact Nn.app h (nn_pr _ _ _ _)
theorem Ku (q:Bool)(id:Int):Nn (if q then[] else[⟨4,id,0,0,[]⟩]):=by split;exact Nn.nil;exact Nn.one (Int.le_refl _)
theorem Wd.N.hang {w:Wd}(h:w.N)(id:Int)(q:Bool):(w.hang id q).N:=by
 unfold Wd.hang;split;·exact h
 ·exact Nn.app h (Ku _ _)
theorem Wd.N.drop {w:Wd}(h:w.N)(id:Int)(q:Bool):(w.drop id q).N:=by
 unfold Wd.drop;split;·exact h
 ·exact Nn.app h (Ku _ _)
theorem Wd.N.refuse {w:Wd}(h:w.N)(k:Nat)(id e:Int):(w.refuse k id e).N:=Wd.N.put (w:=w.setC k _) h _ _
theorem Wd.N.fail {w:Wd}(h:w.N)(k:Nat)(id st:Int):(w.fail k id st).N:=by
 unfold Wd.fail;split;·exact(h.cc _ _).prim _ _ _
 ·exact((h.cc _ _).prim _ _ _).put _ _
theorem Wd.N.lose {w:Wd}(h:w.N)(k:Nat)(id st:Int):(w.lose k id st).N:=(h.drop _ _).fail _ _ _
theorem Wd.N.rel {w:Wd}(h:w.N)(j:Nat)(id:Int):(w.rel j id).N:=by unfold Wd.rel;split<;>exact h
theorem Wd.N.complete {w:Wd}(h:w.N)(k j:Nat)(id:Int):(w.complete k j id).N:=by
 have h1:(w.cm1 (w.cl k).ex id).N:=by unfold Wd.cm1;split;exact h.put _ _;exact h
 have h3:((w.cm1 (w.cl k).ex id).cm3 (w.cl k).ex).N:=(h1.cc _ _).prim _ _ _;have h4:(((w.cm1 (w.cl k).ex id).cm3 (w.cl k).ex).cm4 (w.cl k).ex j).N:=by unfold Wd.cm4;split;exact h3.rel _ _;exact h3.drop _ _
 exact h4.over k
theorem Wd.N.setPool {w:Wd}(h:w.N)(rc:Int)(p:Go.Proofs.YtgfdbddglhblbaaGreat.Po):(w.setPool rc p).N:=by unfold Wd.setPool;split<;>exact h
theorem Wd.N.forward {w:Wd}(h:w.N)(k j:Nat)(id:Int):(w.forward k j id).N:=by
 unfold Wd.forward;split;·exact(h.put _ _).over _
 ·next p to fresh _=>
 have h1:(w.fw1 (w.cl k).ex.rc p to fresh).N:=by
  unfold Wd.fw1;split;·exact Nn.app (Wd.N.setPool h _ _) (Nn.one (Int.le_refl _))
  ·exact Wd.N.setPool h _ _
 have h3:(((w.fw1 (w.cl k).ex.rc p to fresh).fw2 k to fresh).fw3 (w.cl k).ex j id to).N:=pk h1 _ _;unfold Wd.fw4;split;·exact Nn.app h3 (nn_bn _ _ _ _ _ _)
 ·exact h3
theorem Wd.N.say {w:Wd}(h:w.N)(id:Int)(b m:List UInt8)(cl:Bool):(w.say id b m cl).N:=by
 unfold Wd.say;split;·exact h.put _ _
 ·exact(h.put _ _).put _ _
theorem Wd.N.answer {w:Wd}(h:w.N)(k:Nat)(id:Int)(a:FZ):(w.answer k id a).N:=h.say _ _ _ _
theorem Wd.N.dispatch {w:Wd}(h:w.N)(k:Nat)(id:Int):(w.dispatch k id).N:=by
 unfold Wd.dispatch;split;·exact h.forward _ _ _
 ·split;·exact Wd.N.answer (w:=w.setRo (w.aAns k).ro) h _ _ _
  ·exact h.answer _ _ _
theorem Wd.N.rqH {w:Wd}(h:w.N)(k:Nat)(q:eL):(w.rqH k q).N:=by unfold Wd.rqH;split<;>exact h
theorem Wd.N.request {w:Wd}(h:w.N)(k:Nat)(id:Int):(w.request k id).1.N:=by
 unfold Wd.request;repeat' split
 ·exact h.refuse _ _ _
 ·show Wd.N (Wd.rqC _ _ _);unfold Wd.rqC;split;·exact(Wd.N.rqH (w:=w.setC k _) h _ _).put _ _
  ·exact Wd.N.rqH (w:=w.setC k _) h _ _
 ·exact h
 ·exact Wd.N.dispatch (w:=w.setC k _) h _ _
 ·exact h
 ·exact h
 ·exact h
theorem Wd.N.reply {w:Wd}(h:w.N)(k j:Nat)(id:Int):(w.reply k j id).1.N:=by
 unfold Wd.reply;repeat' split
 ·exact h.lose _ _ _
 ·show Wd.N (Wd.rpHead _ _ _ _);unfold Wd.rpHead;split;·exact h
  ·exact Wd.N.put (w:=(w.setU j _).setC k _) h _ _
 ·show Wd.N (Wd.rpData _ _ _ _);unfold Wd.rpData;split;·exact h
  ·exact Wd.N.put (w:=(w.setU j _).setC k _) h _ _
 ·exact Wd.N.complete (w:=w.setU j _) h _ _ _
 ·unfold Wd.rpNone;repeat' split
  ·exact h
  ·exact h
  ·exact Wd.N.complete (w:=w.setU j _) h _ _ _
  ·exact Wd.N.lose (w:=w.setU j _) h _ _ _
 ·exact h
theorem u6:∀(n:Nat)(w:Wd)(id:Int),w.N→(jG n w id).N
 |0,_,_,h=>h|n+1,w,id,h=>by
  unfold jG;split;·exact h
  ·repeat' split
   ·exact h.hang _ _
   ·exact h
   ·exact h
   ·exact u6 n _ _ (h.request _ _)
   ·exact h.request _ _
   ·exact h
   ·exact u6 n _ _ (h.reply _ _ _)
   ·exact h.reply _ _ _
theorem Wd.N.go {w:Wd}(h:w.N)(id:Int):(w.go id).N:=u6 _ _ _ h
theorem Wd.N.accepted {w:Wd}(h:w.N)(e:Ev):(w.accepted e).N:=by
 unfold Wd.accepted;split;·exact h
 ·next k _=>
 repeat' split
 ·exact Wd.N.go (w:=w.acData k _ _) (Nn.app h (Nn.one (Int.natCast_nonneg _))) _
 ·exact Wd.N.go (w:=w.acEnd k) h _
 ·exact Wd.N.go (w:=w.acBud k _ _) (pk h _ _) _
 ·refine Wd.N.hang (w:=w.abandon k) ?_ _ _;unfold Wd.abandon;split;·exact(h.drop _ _).prim _ _ _
  ·exact h
 ·exact h
theorem Wd.N.svOn {w:Wd}(h:w.N)(j:Nat)(id n:Int):(w.svOn j id n).N:=by
 unfold Wd.svOn;repeat' split
 ·exact h.go _
 ·exact h.drop _ _
 ·exact h
theorem Wd.N.svGone {w:Wd}(h:w.N)(j:Nat)(id:Int):(w.svGone j id).N:=by
 unfold Wd.svGone;split;·exact((h.drop _ _).fail _ _ _).go _
 ·exact h.drop _ _
theorem Wd.N.server {w:Wd}(h:w.N)(e:Ev):(w.server e).N:=by
 unfold Wd.server;split;·exact h
 ·next j _=>
 repeat' split
 ·exact h
 ·exact h
 ·exact h
 ·exact h.svGone _ _
 ·exact Wd.N.svOn (w:=w.svData j _ _) (Nn.app h (Nn.one (Int.natCast_nonneg _))) _ _ _
 ·exact h
 ·exact Wd.N.svOn (w:=w.svEnd j) h _ _ _
 ·exact h
 ·exact pk h _ _
 ·exact h
 ·exact h
theorem Wd.N.deadline {w:Wd}(h:w.N)(id:Int):(w.deadline id).N:=by
 unfold Wd.deadline;split;·exact h
 ·next k _=>
 repeat' split
 ·exact Wd.N.go (w:=w.dl1 k id) (((h.put _ _).over _).stop _) _
 ·exact h
 ·exact(h.lose _ _ _).hang _ _
 ·exact(h.lose _ _ _).go _
 ·exact h
 ·exact h.hang _ _
 ·exact h
theorem wV:∀(l:List Int)(w:Wd),w.N→(hQ l w).N|[],_,h=>h|_::l,_,h=>wV l _ (h.deadline _)
theorem Wd.N.tick {w:Wd}(h:w.N):w.tick.N:=Nn.app (wV _ w.nowUp h) (vM _ _ _ _ _ Nn.nil)
theorem Wd.N.accept {w:Wd}(h:w.N)(id:Int):(w.accept id).N:=by
 unfold Wd.accept;repeat' split
 ·exact h
 ·exact h
 ·exact Nn.app h (Nn.one (Int.le_refl _))
 ·exact h
theorem FS (w:Wd)(h:w.N)(e:Ev):(kE w e).N:=by
 unfold kE;repeat' split
 ·exact h.tick
 ·exact h
 ·exact h.accept _
 ·exact h.accepted _
 ·exact h.server _
 ·exact Nn.app h (nn_mr _ _ _)
 ·exact h
theorem IW {l:List bC}{a:bC}(h:Nn l)(ha:0≤a.n):Nn (rN l a):=by
 intro x hx;unfold rN at hx;rcases Np.1 hx with hx|hx
 ·rcases Np.1 hx with hx|hx;·exact h x (List.mem_of_mem_take hx)
  ·rw[Nx.1 hx];exact ha
 ·exact h x (List.mem_of_mem_drop hx)
theorem BO:∀(l o:List bC),Nn l→Nn o→Nn (l.foldl rN o)|[],_,_,h=>h|a::l,o,h1,h2=>BO l _ (fun x hx=>h1 x (by simp[hx])) (IW h2 (h1 a (by simp)))
theorem E4 (p:aU)(e:Ev):Nn (hH p e):=BO _ _ (FS ⟨p,[]⟩ Nn.nil e) Nn.nil
abbrev fk:=Int×List UInt8
def NP (x:fk):D:=.agg [.i .i64 x.1,.sl 1 (aD x.2)]
abbrev qH (c:bk)(p:aU)(nx:Int)(a b:Nat):aS:=.box [dI c.maxHead,dI c.maxBody,dI c.maxReply,dI c.cin,dI c.cout,dI c.clients,dI c.admins,dI c.listeners,dI c.stable,dI c.canary,dI c.shadow,dI c.tee,dI c.idle,dI c.reqd,dI c.shadd,dI c.reports,.d (.sl 1 (c.plan.ws.map (.i .i64))),dI c.plan.ms,dI c.plan.nu,dI c.plan.de,dI c.plan.ho,dI c.plan.wi,.d (.s c.salt),.d (.s c.cookie),.d (.b c.mirror),.d (.sl 1 (c.ignore.map .s)),dI p.cfg.maxHead,dI p.cfg.maxBody,dI p.cfg.maxReply,dI p.cfg.cin,dI p.cfg.cout,dI p.cfg.clients,dI p.cfg.admins,dI p.cfg.listeners,dI p.cfg.stable,dI p.cfg.canary,dI p.cfg.shadow,dI p.cfg.tee,dI p.cfg.idle,dI p.cfg.reqd,dI p.cfg.shadd,dI p.cfg.reports,.d (.sl 1 (p.cfg.plan.ws.map (.i .i64))),dI p.cfg.plan.ms,dI p.cfg.plan.nu,dI p.cfg.plan.de,dI p.cfg.plan.ho,dI p.cfg.plan.wi,.d (.s p.cfg.salt),.d (.s p.cfg.cookie),.d (.b p.cfg.mirror),.d (.sl 1 (p.cfg.ignore.map .s)),dI p.now,dI p.draw,dI p.ser,dI p.ro.st,dI p.ro.sg,dI p.ro.he,dI p.ro.tt,dI p.ro.er,dI p.ro.ag,.d (.sl 65 (p.cls.map dU)),.d (.sl 33 (p.ups.map fo)),dI p.sta.ba,dI p.sta.qu,dI p.sta.se,.d (.sl 1 (p.sta.id.map (.i .i64))),.d (.sl 1 (p.sta.bu.map (.i .i64))),dI p.can.ba,dI p.can.qu,dI p.can.se,.d (.sl 1 (p.can.id.map (.i .i64))),.d (.sl 1 (p.can.bu.map (.i .i64))),dI p.sh.pool.ba,dI p.sh.pool.qu,dI p.sh.pool.se,.d (.sl 1 (p.sh.pool.id.map (.i .i64))),.d (.sl 1 (p.sh.pool.bu.map (.i .i64))),.d (.sl 55 (p.sh.jobs.map bI)),dI p.sh.rep.cap,dI p.sh.rep.ser,.d (.sl 6 (p.sh.rep.l.map NH)),.os a,.os b,dI nx]
abbrev pT (st:List fk):Option aS:=some (.buf 2 (st.map NP))
abbrev qG (ev:List Ev):Option aS:=some (.buf 4 (ev.map bH))
abbrev Kz (c:bk)(p:aU)(ev:List Ev)(st:List fk)(nx:Int):List (Nat×Option aS):=[(0,some (qH c p nx 3 2)),(2,pT st),(3,qG ev)]
abbrev sOut (c:bk)(p:aU)(ev:List Ev)(st:List fk)(nx:Int):List (Nat×Option aS):=[(0,some (qH c p nx 3 16)),(3,qG ev),(16,pT st)]
theorem rv {l:List fk}{i:Nat}(h:i<l.length):(l.map NP)[i]?=some (NP l[i]):=by simp[h]
def Id (l:List fk)(id:Int):Option Nat:=l.findIdx? fun c=>decide (c.1=id)
def qo (l:List fk)(id:Int):List UInt8:=match Id l id with|none=>[]|some i=>(l.getD i (0,[])).2
def lN (l:List fk)(id:Int)(b:List UInt8):List fk:=match Id l id with|none=>l++[(id,b)]|some i=>l.set i ((l.getD i (0,[])).1,(l.getD i (0,[])).2++b)
def yF (l:List fk)(id n:Int):List fk:=l.map fun x=>if x.1=id then(x.1,x.2.drop n.toNat) else x
theorem Ky (c:bk)(p:aU)(ev:List Ev)(st:List fk)(nx id:Int)(hl:st.length≤100000000000):aH (CG G) 61 [.op 0 0 0,dI id] (Kz c p ev st nx) [.d (.sl 1 (aD (qo st id)))] (Kz c p ev st nx):=by
 have hml:(st.map NP).length=st.length:=by simp
 unfold qo Id;refine aH.mk (n:=33) Tryz.func61 rfl rfl rfl (Nat.le_of_ble_eq_true rfl) rfl (ad ?_);apply aA (fun i:Nat=>i≤st.length∧∀(j:Nat)(h:j<st.length),j<i→st[j].1≠id) (fun i=>⟨[(0,.op 0 0 0),(1,dI id),(5,dI (i:Int))],Kz c p ev st nx,2⟩) (fun i=>st.length-i) 0 ⟨Nat.zero_le _,fun j _ hj=>by omega⟩ [];·exact aF
 ·rintro i ⟨hi,hn⟩;refine ad ?_;refine ae (fun h1=>?_) (fun h1=>?_)
  ·have hi':i<st.length:=by omega
   refine ad (bh i rfl (by omega) (az (rv hi') ?_));refine ae (fun h2=>?_) (fun h2=>?_)
   ·rw[mv (f:=fun c:fk=>c.1) hi' h2 hn];refine bh i rfl (by omega) (az (rv hi') ?_);repeat'(first|refine ad ?_|refine dk ?_|refine ae (fun _=>?_) (fun _=>?_)|refine aq ?_)
    apply aw [];((repeat' constructor)<;>(first|refine aI ?_|rfl)<;>first|exact oT|skip);all_goals simp[hi']
   ·repeat'(first|refine ad ?_|refine dk ?_|refine ae (fun _=>?_) (fun _=>?_)|refine aq ?_)
    apply aG (i+1) [] ⟨by omega,fun j h hj=>by
     by_cases hji:j<i;·exact hn j h hji
     ·obtain rfl:j=i:=by omega
      exact h2⟩ (by omega);exact aF
  ·rw[mG (f:=fun c:fk=>c.1) fun j hj=>hn j hj (by omega)];repeat'(first|refine ad ?_|refine dk ?_|refine ae (fun _=>?_) (fun _=>?_)|refine aq ?_)
   apply aw [];exact aF
theorem JG (c:bk)(p:aU)(ev:List Ev)(st:List fk)(nx id:Int)(b:List UInt8)(hl:st.length≤60000000000)(hb:b.length≤1000000)(hd:∀x,x∈st→x.2.length≤1000000000):aH (CG G) 46 [.op 0 0 0,dI id,.d (.sl 1 (aD b))] (Kz c p ev st nx) [] (sOut c p ev (lN st id b) nx):=by
 have hml:(st.map NP).length=st.length:=by simp
 have hbl:=aK b;unfold lN Id;refine aH.mk (n:=57) Tryz.func46 rfl rfl rfl (Nat.le_of_ble_eq_true rfl) rfl (ad ?_);apply aA (fun i:Nat=>i≤st.length∧∀(j:Nat)(h:j<st.length),j<i→st[j].1≠id) (fun i=>⟨[(0,.op 0 0 0),(1,dI id),(2,.d (.sl 1 (aD b))),(6,dI (i:Int))],Kz c p ev st nx,2⟩) (fun i=>st.length-i) 0 ⟨Nat.zero_le _,fun j _ hj=>by omega⟩ [];·exact aF
 ·rintro i ⟨hi,hn⟩;refine ad ?_;refine ae (fun h1=>?_) (fun h1=>?_)
  ·have hi':i<st.length:=by omega
   have hdi:=hd _ (Nr hi');refine ad (bh i rfl (by omega) (az (rv hi') ?_));refine ae (fun h2=>?_) (fun h2=>?_)
   ·rw[mv (f:=fun c:fk=>c.1) hi' h2 hn];have hgd:st.getD i (0,[])=st[i]:=by simp[hi']
    simp only[hgd];refine bh i rfl (by omega) (az (rv hi') (aB (by simp[aK];omega) (aB (by simp[aK];omega) (bh i rfl (by omega) (ax (rv hi') ?_)))));repeat'(first|refine ad ?_|refine dk ?_|refine ae (fun _=>?_) (fun _=>?_)|refine aq ?_)
    apply aw [(16,_)];((repeat' constructor)<;>(first|refine aI ?_|rfl)<;>first|exact oT|skip);all_goals simp[List.map_set,NP,cU]
   ·repeat'(first|refine ad ?_|refine dk ?_|refine ae (fun _=>?_) (fun _=>?_)|refine aq ?_)
    apply aG (i+1) [] ⟨by omega,fun j h hj=>by
     by_cases hji:j<i;·exact hn j h hji
     ·obtain rfl:j=i:=by omega
      exact h2⟩ (by omega);exact aF
  ·rw[mG (f:=fun c:fk=>c.1) fun j hj=>hn j hj (by omega)];refine aB (by simp;omega) ?_;repeat'(first|refine ad ?_|refine dk ?_|refine ae (fun _=>?_) (fun _=>?_)|refine aq ?_)
   apply aw [(16,_)];((repeat' constructor)<;>(first|refine aI ?_|rfl)<;>first|exact oT|skip);all_goals simp[NP]
def Jg (id n:Int)(x:fk):fk:=if x.1=id then(x.1,x.2.drop n.toNat) else x
theorem LA (l:List fk)(f:fk→fk)(i:Nat)(h:i<l.length):((l.take i).map f++l.drop i).set i (f l[i])=(l.take (i+1)).map f++l.drop (i+1):=by
 rw[Nh h];rw[Ng,List.set_append_right _ _ (by simp;omega)];have:i-((l.take i).map f).length=0:=by simp;omega
 rw[this,Ny h,List.set_cons_zero];simp only[Nw,List.map_nil,List.append_assoc,List.cons_append,List.nil_append]
theorem Jw (l:List fk)(f:fk→fk)(i:Nat)(h:i<l.length)(e:f l[i]=l[i]):(l.take i).map f++l.drop i=(l.take (i+1)).map f++l.drop (i+1):=by rw[Nh h,Ng,List.append_assoc];congr 1;rw[Ny h];simp only[Nw,List.map_nil,e,List.cons_append,List.nil_append]
theorem IP (b:List UInt8)(n:Nat):(aD b).drop (min n (aD b).length)=aD (b.drop n):=by
 rw[aK,fO];congr 1;by_cases h:n≤b.length;·rw[Nat.min_eq_left h]
 ·rw[Nat.min_eq_right (by omega),List.drop_length,List.drop_eq_nil_of_le (by omega)]
theorem tookR (c:bk)(p:aU)(ev:List Ev)(st:List fk)(nx id n:Int)(hl:st.length≤100000000000)(hn:0≤n):aH (CG G) 63 [.op 0 0 0,dI id,dI n] (Kz c p ev st nx) [] (Kz c p ev (yF st id n) nx):=by
 have hml:(st.map NP).length=st.length:=by simp
 refine mH 53 Tryz.func63 ?_;apply aA (fun i:Nat=>i≤st.length) (fun i=>⟨[(0,.op 0 0 0),(1,dI id),(2,dI n),(6,dI (i:Int))],Kz c p ev ((st.take i).map (Jg id n)++st.drop i) nx,2⟩) (fun i=>st.length-i) 0 (Nat.zero_le _) [];·exact aF
 ·rintro i hi;have hml2:(((st.take i).map (Jg id n)++st.drop i).map NP).length=st.length:=by simp;omega
  refine ad ?_;refine ae (fun h1=>?_) (fun h1=>?_)
  ·have hi':i<st.length:=by omega
   have hg:(((st.take i).map (Jg id n)++st.drop i).map NP)[i]?=some (NP st[i]):=by rw[List.getElem?_map,List.getElem?_append_right (by simp;omega)];simp[hi',Nat.min_eq_left (Nat.le_of_lt hi')]
   have hmid:=LA st (Jg id n) i hi';have hel:=aK st[i].2;have hmn:min n (((aD st[i].2).length:Nat):Int)=((min n.toNat (aD st[i].2).length:Nat):Int):=by omega
   refine ad (bh i rfl (by omega) (az hg ?_));refine ae (fun h2=>?_) (fun h2=>?_)
   ·have e:Jg id n st[i]=(st[i].1,st[i].2.drop n.toNat):=by unfold Jg;rw[if_pos h2]
    rw[e] at hmid;refine bh i rfl (by omega) (az hg (bh i rfl (by omega) (az hg (bnd (min n.toNat (aD st[i].2).length) hmn (by omega) (bh i rfl (by omega) (ax hg ?_))))));repeat'(first|refine ad ?_|refine dk ?_|refine ae (fun _=>?_) (fun _=>?_)|refine aq ?_)
    apply aG (i+1) [] (by omega) (by omega);((repeat' constructor)<;>(first|refine aI ?_|rfl)<;>first|exact oT|skip);all_goals (rw[←hmid,List.map_set,IP];rfl)
   ·have e:Jg id n st[i]=st[i]:=by unfold Jg;rw[if_neg h2]
    repeat'(first|refine ad ?_|refine dk ?_|refine ae (fun _=>?_) (fun _=>?_)|refine aq ?_)
    apply aG (i+1) [] (by omega) (by omega);((repeat' constructor)<;>(first|refine aI ?_|rfl)<;>first|exact oT|skip);all_goals rw[Jw st (Jg id n) i hi' e]
  ·obtain rfl:i=st.length:=by omega
   repeat'(first|refine ad ?_|refine dk ?_|refine ae (fun _=>?_) (fun _=>?_)|refine aq ?_)
   apply aw [];((repeat' constructor)<;>(first|refine aI ?_|rfl)<;>first|exact oT|skip);all_goals (rw[ND,List.drop_length,List.append_nil];rfl)
abbrev wn (l:List Int)(i:Nat):Option aS:=some (.box [.d (ft l),dI (i:Int)])
abbrev eR (c:bk)(p:aU)(ev:List Ev)(st:List fk)(nx:Int)(l:List Int)(i:Nat):List (Nat×Option aS):=[(0,some (qH c p nx 3 2)),(1,wn l i),(2,pT st),(3,qG ev)]
abbrev mU (c:bk)(p:aU)(ev:List Ev)(st:List fk)(nx:Int)(l:List Int)(i:Nat):List (Nat×Option aS):=[(0,some (qH c p nx 17 16)),(1,wn l i),(16,pT st),(17,qG ev)]
theorem LP {S:Type}(Inv:Nat→S→Prop)(R:Nat→S→S→Prop)(s0:S)(h0:Inv 0 s0)(hs:∀k s,Inv k s→∃s',Inv (k+1) s'∧R k s s'):∃f:Nat→S,f 0=s0∧∀k,Inv k (f k)∧R k (f k) (f (k+1)):=by let g:(k:Nat)→{s:S//Inv k s}:=fun k=>Nat.rec ⟨s0,h0⟩ (fun k s=>⟨(hs k s.1 s.2).choose,(hs k s.1 s.2).choose_spec.1⟩) k;exact⟨fun k=>(g k).1,rfl,fun k=>⟨(g k).2,(hs k (g k).1 (g k).2).choose_spec.2⟩⟩
def Ln (st:List fk)(a:bC):Prop:=a.kind=3∧(bG a.conn=4∨bG a.conn=5∨bG a.conn=6)∧qo st a.conn=[]
def km (st:List fk)(a:bC):List fk:=if a.kind=1 then yF st a.conn a.n else st
structure oE (st:List fk)(n b:Nat):Prop where
 n:st.length≤n
 b:∀x,x∈st→x.2.length≤b
theorem oE.up {st:List fk}{n b n' b':Nat}(h:oE st n b)(h1:n≤n')(h2:b≤b'):oE st n' b':=⟨by have:=h.n;omega,fun x hx=>by have:=h.b x hx;omega⟩
theorem oE.took {st:List fk}{n b:Nat}(h:oE st n b)(id k:Int):oE (yF st id k) n b:=by
 refine⟨by unfold yF;rw[Nl];exact h.n,fun x hx=>?_⟩;obtain⟨y,hy,rfl⟩:=List.mem_map.1 hx;have:=h.b y hy;split;·show(y.2.drop _).length≤_;rw[Nz];omega
 ·exact this
theorem oE.say {st:List fk}{n b:Nat}(h:oE st n b)(id:Int)(d:List UInt8):oE (lN st id d) (n+1) (b+d.length):=by
 unfold lN;split
 ·refine⟨by rw[Na];have:=h.n;simp;omega,fun x hx=>?_⟩;rcases Np.1 hx with hx|hx;·have:=h.b x hx;omega
  ·rw[Nx.1 hx];show d.length≤_;omega
 ·next i _=>
  refine⟨by rw[List.length_set];have:=h.n;omega,fun x hx=>?_⟩;rcases List.mem_or_eq_of_mem_set hx with hx|rfl;·have:=h.b x hx;omega
  ·show((st.getD i (0,[])).2++d).length≤_;rw[Na,List.getD_eq_getElem?_getD];cases hg:st[i]? with|none=>show 0+d.length≤_;omega;|some y=>have:=h.b y (Ni hg);show y.2.length+_≤_;omega
theorem oE.sayN {st:List fk}{n b:Nat}(h:oE st n b)(id:Int)(d:List UInt8)(h0:qo st id=[])(hd:d.length≤b):oE (lN st id d) (n+1) b:=by
 unfold qo at h0;unfold lN;split
 ·refine⟨by rw[Na];have:=h.n;simp;omega,fun x hx=>?_⟩;rcases Np.1 hx with hx|hx;·exact h.b x hx
  ·rw[Nx.1 hx];exact hd
 ·next i hi=>
  rw[hi] at h0;refine⟨by rw[List.length_set];have:=h.n;omega,fun x hx=>?_⟩;rcases List.mem_or_eq_of_mem_set hx with hx|rfl;·exact h.b x hx
  ·show((st.getD i (0,[])).2++d).length≤_;simp only at h0;rw[h0];exact hd
theorem doE (c:bk)(p:aU)(ev:List Ev)(st:List fk)(nx:Int)(l:List Int)(i:Nat)(e:Ev){t n b:Nat}(h:p.I c t)(hM:jK c)(ht:t≤99)(hev:ev.length≤100)(hn:fT e.n)(hb:e.b.length≤1000000)(hs:oE st n b)(hnn:n≤50000000000)(hbb:20000≤b∧b≤100000000)(hi:i≤l.length)(hl:l.length≤1000000):∃(st':List fk)(i':Nat),oE st' (n+900000000) b∧i'≤l.length∧aH (CG G) 45 [.op 0 0 0,.op 1 0 0,.d (bH e)] (eR c p ev st nx l i) [] (mU c (b8 p e) (ev++[e]) st' nx l i'):=by
 have c0:=Gb p e h hM ht hn hb;have hA:=E4 p e;have hAl:(hH p e).length≤900000000:=by unfold hH;rw[rZ];exact(pD h hM ht e hn).b.ol
 generalize b8 p e=p' at c0⊢;generalize hH p e=acts at c0 hA hAl;obtain⟨f,f0,hf⟩:=LP (S:=List fk×Nat) (fun k s=>k≤acts.length→oE s.1 (n+k) b∧s.2≤l.length)
  (fun k s s'=>∀hk:k<acts.length,∃st1,s'.1=km st1 acts[k]∧oE st1 (n+k+1) b∧((Ln s.1 acts[k]∧∃d:List UInt8,d.length≤20000∧st1=lN s.1 acts[k].conn d∧aH (CG G) 62 [.op 0 0 0] (aE l s.2) [.os 16] ((16,some (.buf 1 (aD d)))::aE l s'.2))∨(¬Ln s.1 acts[k]∧st1=s.1∧s'.2=s.2))) (st,i) (fun _=>⟨hs,hi⟩) (by
  rintro k ⟨s,j⟩ hI;by_cases hk:k<acts.length
  ·obtain⟨h1,h2⟩:=hI (by omega);simp only at h1 h2;by_cases ha:Ln s acts[k]
   ·obtain⟨d,j',d1,d2,d3⟩:=JT l j h2 hl;have b1:=h1.sayN acts[k].conn d ha.2.2 (by omega);refine⟨(km (lN s acts[k].conn d) acts[k],j'),fun _=>⟨?_,d2⟩,fun _=>⟨_,rfl,b1,.inl ⟨ha,d,d1,rfl,d3⟩⟩⟩;show oE (km _ _) _ _;unfold km;split;·exact b1.took _ _
    ·exact b1
   ·refine⟨(km s acts[k],j),fun _=>⟨?_,h2⟩,fun _=>⟨_,rfl,h1.up (by omega) (by omega),.inr ⟨ha,rfl,rfl⟩⟩⟩;show oE (km _ _) _ _;unfold km;split;·exact(h1.took _ _).up (by omega) (by omega)
    ·exact h1.up (by omega) (by omega)
  ·exact⟨(s,j),fun hh=>absurd hh (by omega),fun hh=>absurd hh hk⟩);have hfin:=(hf acts.length).1 (Nat.le_refl _);refine⟨(f acts.length).1,(f acts.length).2,hfin.1.up (by omega) (by omega),hfin.2,?_⟩;have hel:(ev.map bH).length=ev.length:=by simp
 have hal:(acts.map bn).length=acts.length:=by simp
 unfold dw bf bH bS at c0;unfold bH;refine mH 101 Tryz.func45 ?_;repeat'(first|refine ad ?_|refine dk ?_|refine ah (c0) ?_|refine aB (by(try simp);omega) ?_|refine ae (fun _=>?_) (fun _=>?_)|refine aq ?_)
 apply aA (fun k:Nat=>k≤acts.length) (fun k=>⟨[(0,.op 0 0 0),(1,.op 1 0 0),(7,.d (.sl 5 (acts.map bn))),(8,dI (k:Int))],[(0,some (qH c p' nx 18 17)),(1,wn l (f k).2),(17,pT (f k).1),(18,qG (ev++[e]))],2⟩) (fun k=>acts.length-k) 0 (Nat.zero_le _) [(17,2),(18,_)];·((repeat' constructor)<;>(first|refine aI ?_|rfl)<;>first|exact oT|skip);all_goals (first|(rw[f0];done)|simp[bH])
 ·rintro k hk;obtain⟨hI,hR⟩:=hf k;obtain⟨hB,hj⟩:=hI hk;refine ad ?_;refine ae (fun h1=>?_) (fun h1=>?_)
  ·have hk':k<acts.length:=by omega
   obtain⟨st1,h2,hB1,hsel⟩:=hR hk';have hbl:=hB.b;have hsn:=hB.n;have hs1:=hB1.n;have cC:=qt acts[k].conn;have cL:=Ky c p' (ev++[e]) (f k).1 nx acts[k].conn (by omega);have cT:=tookR c p' (ev++[e]) st1 nx acts[k].conn acts[k].n (by omega);generalize f k=s at*;rcases hF:f (k+1) with⟨s',j'⟩;simp only[hF] at h2 hsel;obtain⟨s,j⟩:=s;simp only at*;subst h2;repeat'(first|refine ad ?_|refine dk ?_|refine ae (fun _=>?_) (fun _=>?_)|refine aq ?_)
   refine ao k rfl (bX hk') (ah cC ?_);apply bd (fun _:Unit=>True) (fun _=>⟨[(0,.op 0 0 0),(1,.op 1 0 0),(7,.d (.sl 5 (acts.map bn))),(8,dI (k:Int))],[(0,some (qH c p' nx 18 17)),(1,wn l j'),(17,pT st1),(18,qG (ev++[e]))],2⟩)
   ·rcases hsel with⟨⟨a1,a2,a3⟩,d,d1,rfl,d3⟩|⟨ha,rfl,rfl⟩
    ·have cS:=JG c p' (ev++[e]) s nx acts[k].conn d (by omega) (by omega) (fun x hx=>by have:=hbl x hx;omega);rw[a3] at cL;rcases a2 with q|q|q
     ·refine ao k rfl (bX hk') (aj a1 (aj q (ao k rfl (bX hk') ?_)));apply ak [(0,_),(2,_),(3,_)] cL;·exact aF
      refine aj rfl (ao k rfl (bX hk') ?_);refine ak [(0,1)] d3 ?_ ?_;·(try simp only[aE]);exact aF
      repeat'(first|refine ad ?_|refine dk ?_|refine ae (fun _=>?_) (fun _=>?_)|refine aq ?_)
      apply ak [(0,_),(2,_),(3,_)] cS;·exact aF
      repeat'(first|refine ad ?_|refine dk ?_|refine ae (fun _=>?_) (fun _=>?_)|refine aq ?_)
      apply aC () [(17,_),(18,_)] trivial;exact aF
     ·refine ao k rfl (bX hk') (aj a1 (ai (by omega) (aj q (ao k rfl (bX hk') ?_))));apply ak [(0,_),(2,_),(3,_)] cL;·exact aF
      refine aj rfl (ao k rfl (bX hk') ?_);refine ak [(0,1)] d3 ?_ ?_;·(try simp only[aE]);exact aF
      repeat'(first|refine ad ?_|refine dk ?_|refine ae (fun _=>?_) (fun _=>?_)|refine aq ?_)
      apply ak [(0,_),(2,_),(3,_)] cS;·exact aF
      repeat'(first|refine ad ?_|refine dk ?_|refine ae (fun _=>?_) (fun _=>?_)|refine aq ?_)
      apply aC () [(17,_),(18,_)] trivial;exact aF
     ·refine ao k rfl (bX hk') (aj a1 (ai (by omega) (ai (by omega) (aj q (ao k rfl (bX hk') ?_)))));apply ak [(0,_),(2,_),(3,_)] cL;·exact aF
      refine aj rfl (ao k rfl (bX hk') ?_);refine ak [(0,1)] d3 ?_ ?_;·(try simp only[aE]);exact aF
      repeat'(first|refine ad ?_|refine dk ?_|refine ae (fun _=>?_) (fun _=>?_)|refine aq ?_)
      apply ak [(0,_),(2,_),(3,_)] cS;·exact aF
      repeat'(first|refine ad ?_|refine dk ?_|refine ae (fun _=>?_) (fun _=>?_)|refine aq ?_)
      apply aC () [(17,_),(18,_)] trivial;exact aF
    ·by_cases a1:acts[k].kind=3
     ·by_cases q4:bG acts[k].conn=4∨bG acts[k].conn=5∨bG acts[k].conn=6
      ·have h0:¬(((aD (qo st1 acts[k].conn)).length:Nat):Int)=0:=by intro hz;exact ha ⟨a1,q4,by rw[aK] at hz;exact List.eq_nil_of_length_eq_zero (by omega)⟩
       rcases q4 with q|q|q
       ·refine ao k rfl (bX hk') (aj a1 (aj q (ao k rfl (bX hk') ?_)));apply ak [(0,_),(2,_),(3,_)] cL;·exact aF
        refine ai h0 ?_;apply aC () [(17,_),(18,_)] trivial;exact aF
       ·refine ao k rfl (bX hk') (aj a1 (ai (by omega) (aj q (ao k rfl (bX hk') ?_))));apply ak [(0,_),(2,_),(3,_)] cL;·exact aF
        refine ai h0 ?_;apply aC () [(17,_),(18,_)] trivial;exact aF
       ·refine ao k rfl (bX hk') (aj a1 (ai (by omega) (ai (by omega) (aj q (ao k rfl (bX hk') ?_)))));apply ak [(0,_),(2,_),(3,_)] cL;·exact aF
        refine ai h0 ?_;apply aC () [(17,_),(18,_)] trivial;exact aF
      ·refine ao k rfl (bX hk') (aj a1 (ai (by omega) (ai (by omega) (ai (by omega) ?_))));apply aC () [(17,_),(18,_)] trivial;exact aF
     ·refine ao k rfl (bX hk') (ai a1 ?_);apply aC () [(17,_),(18,_)] trivial;exact aF
   ·rintro _ _;by_cases a1:acts[k].kind=1
    ·have hT:km st1 acts[k]=yF st1 acts[k].conn acts[k].n:=by unfold km;rw[if_pos a1]
     replace cT:=cT (hA _ (Nr hk'));refine ao k rfl (bX hk') (aj a1 (ao k rfl (bX hk') (ao k rfl (bX hk') ?_)));apply ak [(0,_),(2,_),(3,_)] cT;·exact aF
     repeat'(first|refine ad ?_|refine dk ?_|refine ae (fun _=>?_) (fun _=>?_)|refine aq ?_)
     apply aG (k+1) [(17,_),(18,_)] (by omega) (by omega);((repeat' constructor)<;>(first|refine aI ?_|rfl)<;>first|exact oT|skip);all_goals (first|(rw[hF];done)|rw[hF,hT])
    ·have hT:km st1 acts[k]=st1:=by unfold km;rw[if_neg a1]
     refine ao k rfl (bX hk') (ai a1 ?_);repeat'(first|refine ad ?_|refine dk ?_|refine ae (fun _=>?_) (fun _=>?_)|refine aq ?_)
     apply aG (k+1) [(17,_),(18,_)] (by omega) (by omega);((repeat' constructor)<;>(first|refine aI ?_|rfl)<;>first|exact oT|skip);all_goals (first|(rw[hF];done)|rw[hF,hT])
  ·obtain rfl:k=acts.length:=by omega
   repeat'(first|refine ad ?_|refine dk ?_|refine ae (fun _=>?_) (fun _=>?_)|refine aq ?_)
   apply aw [(16,_),(17,_)];exact aF
end Go.Proofs.YtgfdbddglhblbaaGreat

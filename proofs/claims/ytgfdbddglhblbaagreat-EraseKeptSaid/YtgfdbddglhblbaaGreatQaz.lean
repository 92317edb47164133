/- A part of the proof of what is stated of the erasing of a mirror. -/
import Derived.Test.YtgfdbddglhblbaaGreatQay
set_option maxHeartbeats 64000000
namespace Go.Proofs.YtgfdbddglhblbaaGreat
open Go.Eng
attribute [local irreducible] aO
set_option maxRecDepth 100000
theorem Wd.S.setC {w:Wd}(h:w.S)(k:Nat){c:Cl}(hc:c.Gd):(w.setC k c).S:=by
 refine⟨h.cfg,h.now,h.draw,h.ser,h.ro,h.pl,?_,h.ul,?_,h.ug,h.sta,h.can,h.sh⟩;·show(w.p.cls.set k c).length≤_;rw[List.length_set];exact h.cl
 ·intro x hx;rcases List.mem_or_eq_of_mem_set hx with hx|rfl;·exact h.cg x hx
  ·exact hc
theorem Wd.S.setU {w:Wd}(h:w.S)(k:Nat){c:Up}(hc:c.Gd):(w.setU k c).S:=by
 refine⟨h.cfg,h.now,h.draw,h.ser,h.ro,h.pl,h.cl,?_,h.cg,?_,h.sta,h.can,h.sh⟩;·show(w.p.ups.set k c).length≤_;rw[List.length_set];exact h.ul
 ·intro x hx;rcases List.mem_or_eq_of_mem_set hx with hx|rfl;·exact h.ug x hx
  ·exact hc
theorem dl.zero_gd:dl.zero.Gd:=by constructor<;>decide
theorem tN (st:Int)(m:List UInt8)(e:Bool):(j8 st m e).rs.length≤40∧br (j8 st m e).fs≤400∧(j8 st m e).body.length≤50:=by
 have h:=kC st;refine⟨h,?_,?_⟩
 ·show br (sF eE (du st++[10])++f8 e)≤400;have h1:br (f8 e)≤16:=by cases e<;>decide
  have h2:eE.length≤40:=by decide
  have h3:AF.length≤20:=by decide
  have h4:zc.length≤20:=by decide
  have h5:=bv (n:=((du st++[10]).length:Int)) (by simp;omega);have h0:br []=0:=rfl;rw[b7];unfold sF;simp only[dj,h0];omega
 ·show(if m=cO then[] else du st++[10]).length≤50;split;·simp
  ·simp;omega
def bD (st:Int)(m:List UInt8)(e:Bool):List UInt8:=gB (j8 st m e)
theorem iY (st:Int)(m:List UInt8)(e:Bool):(bD st m e).length≤2000:=by obtain⟨h1,h2,h3⟩:=tN st m e;have:=pO (j8 st m e);unfold bD;omega
theorem qs (st:Int)(m:List UInt8)(e:Bool):ay (CG G) 98 [eF (j8 st m e)] [.sl 1 (aD (bD st m e))]:=by obtain⟨h1,h2,h3⟩:=tN st m e;exact zz _ (by omega) (by omega) (by omega)
theorem kh (w:Wd)(k:Nat)(c:Cl)(h:c.po.id=(w.cl k).po.id)(id:Int):bM (w.setC k c).p.cls id=bM w.p.cls id:=by
 show bM (w.p.cls.set k c) id=_;unfold bM;have e:∀l:List Cl,l.findIdx? (fun c=>decide (c.po.id=id))=(l.map fun c=>c.po.id).findIdx? (fun i=>decide (i=id)):=by intro l;rw[List.findIdx?_map];rfl
 rw[e,e];congr 1;rw[List.map_set];by_cases hk:k<w.p.cls.length
 ·have:c.po.id=(w.p.cls.map fun c=>c.po.id)[k]'(by simpa using hk):=by rw[h];unfold Wd.cl;simp[hk]
  rw[this,List.set_getElem_self]
 ·rw[List.set_eq_of_length_le (by simp;omega)]
theorem Wd.cl_setC (w:Wd){k:Nat}(hk:k<w.p.cls.length)(c:Cl):(w.setC k c).cl k=c:=by show(w.p.cls.set k c).getD k .zero=c;simp[hk]
def Cl.shut (c:Cl):Cl:=⟨{c.po with closing:=true},c.rd,c.last,.zero⟩
theorem Cl.Gd.shut {c:Cl}(h:c.Gd):c.shut.Gd:=⟨⟨h.po.inn,h.po.icap,h.po.out,h.po.bud⟩,h.rd,dl.zero_gd,h.rd.sz.1,h.last⟩
def Wd.refuse (w:Wd)(k:Nat)(id e:Int):Wd:=(w.setC k (w.cl k).shut).put id (bD (jO e (w.cl k).rd.ph) (w.cl k).ex.rq.m true)
theorem IV (w:Wd)(k:Nat)(id e:Int){n:Nat}(hs:w.S)(hw:w.B n)(hk:bM w.p.cls id=some k):aH (CG G) 138 [.op 0 0 0,dI id,dI e] (lP w) [] (NR (w.refuse k id e)):=by
 have c1:=dt w.p id hs.cl;rw[hk,bj] at c1;obtain⟨hlt,hid⟩:=aR hk;have hg:=w.get_cl hlt;have hcg:=hs.cg _ (w.cl_mem hlt);have c2:=FO e (w.cl k).rd.ph;have c3:=ku (jO e (w.cl k).rd.ph) (w.cl k).ex.rq.m true;have c4:=qs (jO e (w.cl k).rd.ph) (w.cl k).ex.rq.m true;have hpl:=iY (jO e (w.cl k).rd.ph) (w.cl k).ex.rq.m true;have c5:=sO (w.setC k (w.cl k).shut) id (bD (jO e (w.cl k).rd.ph) (w.cl k).ex.rq.m true) (hs.setC k hcg.shut) (hw.setC hlt (Int.le_refl _)) (by omega);unfold Wd.refuse;generalize bD (jO e (w.cl k).rd.ph) (w.cl k).ex.rq.m true=pb at*;generalize j8 (jO e (w.cl k).rd.ph) (w.cl k).ex.rq.m true=pf at*;generalize jO e (w.cl k).rd.ph=rf at*;unfold dw bf eF bU at*;refine mH 49 Tryz.func138 ?_;repeat'(first|refine ad ?_|refine dk ?_|refine ah (c1) ?_|refine ah (c2) ?_|refine ah (c3) ?_|refine ah (c4) ?_|refine bh k rfl (by simpa using hlt) ?_|refine ax (au (by simpa using hlt)) ?_|refine ax hg ?_|refine az (au (by simpa using hlt)) ?_|refine az hg ?_|refine ae (fun _=>?_) (fun _=>?_)|refine aq ?_)
 apply ak [(0,_),(1,_),(2,_),(3,_)] c5;·exact be
 ·repeat'(first|refine ad ?_|refine dk ?_|refine ae (fun _=>?_) (fun _=>?_)|refine aq ?_)
  apply aw [(16,_)];exact be
def Wd.obs (w:Wd)(b:Bool):Wd:=⟨{w.p with ro:=wy w.p.ro b},w.out⟩
theorem GN {n:Int}{len:Nat}{r:Ro}(h:eo n len r)(b:Bool):eo n len (wy r b):=by
 obtain⟨g1,g2,g3,g4,g5,g6⟩:=h;unfold wy;split;·exact⟨g1,g2,g3,pw _ _,pw _ _,g6⟩
 ·exact⟨g1,g2,g3,g4,g5,g6⟩
theorem Wd.S.obs {w:Wd}(h:w.S)(b:Bool):(w.obs b).S:=⟨h.cfg,h.now,h.draw,h.ser,GN h.ro b,h.pl,h.cl,h.ul,h.cg,h.ug,h.sta,h.can,h.sh⟩
theorem Wd.B.obs {w:Wd}{n:Nat}(h:w.B n)(b:Bool):(w.obs b).B n:=⟨h.lim,h.ol,h.ph⟩
theorem Wd.S.out {w:Wd}(h:w.S)(l:List bC):Wd.S ⟨w.p,l⟩:=⟨h.cfg,h.now,h.draw,h.ser,h.ro,h.pl,h.cl,h.ul,h.cg,h.ug,h.sta,h.can,h.sh⟩
theorem FC {p:cH}(h:p.Q)(b:List UInt8)(he:(p.put b).e=0):(p.put b).p.Q:=by
 have hb:=vA p b he h.bud.1;have hbud:=h.bud;have ho:=p.out.ok_iff.1 h.out;unfold cH.put at*;split at he;·simp at he
 ·rename_i hr;rw[if_neg hr] at hb⊢;unfold cH.room Qu.room at hr;rw[if_pos h.out] at hr;refine⟨h.inn,h.icap,?_,?_⟩;·simp only[cH.flush];rw[Qu.ok_iff];simp only[cH.fl,Nz,Na] at*;omega
  ·simp only[cH.flush,cH.fl,Na];omega
theorem Wd.S.putC {w:Wd}(h:w.S){k:Nat}(hk:k<w.p.cls.length)(id:Int)(b:List UInt8)(he:((w.cl k).po.put b).e=0):(w.putC k id b).S:=by have hg:=h.cg _ (w.cl_mem hk);have:=h.setC k (c:={w.cl k with po:=((w.cl k).po.put b).p}) ⟨FC hg.po b he,hg.rd,hg.ex,hg.body,hg.last⟩;exact this.out _
theorem Wd.S.put {w:Wd}(h:w.S)(id:Int)(b:List UInt8):(w.put id b).S:=by unfold Wd.put;cases hk:bM w.p.cls id with|none=>exact h;|some k=>
 show Wd.S (if _ then _ else _);split;·rename_i he;exact h.putC (aR hk).1 id b he
 ·exact h
theorem Wd.B.put {w:Wd}{n:Nat}(hs:w.S)(h:w.B n)(hl:n<10000000000)(id:Int)(b:List UInt8):(w.put id b).B (n+1):=by have up:w.B (n+1):=⟨by omega,by have:=h.ol;omega,h.ph⟩;unfold Wd.put;cases hk:bM w.p.cls id with|none=>exact up;|some k=>
 show Wd.B (if _ then _ else _) _;have hlt:=(aR hk).1;split
 ·rename_i he;have hg:=hs.cg _ (w.cl_mem hlt);have hb:=vA _ _ he hg.po.bud.1;refine Wd.B.send hl h.ol ?_;have key:∀(c:Cl)(s:Nat),c.po.bud.toNat+s=(w.cl k).po.bud.toNat→(w.setC k c).phi+s≤60000000000:=by intro c s hc;have h1:=w.bc_setC hlt c;have e1:(w.setC k c).bo=w.bo:=rfl;have e2:(w.setC k c).bu=w.bu:=rfl;have h2:=h.ph;unfold Wd.phi at*;omega
  exact key _ _ hb.1
 ·exact up
theorem Wd.S.prim {w:Wd}(h:w.S)(ser:Int){sn:Sn}(hsn:sn.Gd)(cm:Bool):(w.prim ser sn cm).S:=by
 unfold Wd.prim;split;·exact h
 ·exact⟨h.cfg,h.now,h.draw,h.ser,h.ro,h.pl,h.cl,h.ul,h.cg,h.ug,h.sta,h.can,prF_v h.sh ser hsn cm⟩
theorem yD {l:List bC}(h:∀a,a∈l→a.b=[]):(l.map fun a=>a.b.length).sum=0:=by induction l with|nil=>rfl;|cons a l ih=>simp[h a (by simp),ih fun b hb=>h b (by simp[hb])]
theorem Wd.B.quiet {w:Wd}{n k:Nat}(h:w.B n)(hl:n+k≤10000000000){p:aU}{l:List bC}(hc:p.cls=w.p.cls)(hu:p.ups=w.p.ups)(hk:l.length≤k)(hb:∀a,a∈l→a.b=[]):Wd.B ⟨p,w.out++l⟩ (n+k):=by
 refine⟨hl,?_,?_⟩;·have:=h.ol;simp only[Na];omega
 ·have h2:=h.ph;have h0:=yD hb;unfold Wd.phi Wd.bo Wd.bc Wd.bu at*;simp only[Ng,List.sum_append,hc,hu];omega
theorem Wd.B.up {w:Wd}{n m:Nat}(h:w.B n)(hm:n≤m)(hl:m≤10000000000):w.B m:=⟨hl,Nat.le_trans h.ol hm,h.ph⟩
theorem Wd.B.prim {w:Wd}{n:Nat}(h:w.B n)(hl:n<10000000000)(ser:Int)(sn:Sn)(cm:Bool):(w.prim ser sn cm).B (n+1):=by
 unfold Wd.prim;split;·exact h.up (by omega) hl
 ·exact h.quiet hl rfl rfl (zr _ _ _ _).1 (zr _ _ _ _).2
theorem Cl.Gd.over {c:Cl}(h:c.Gd){now:Int}(hn:0≤now∧now≤1000000000):(c.over now).Gd:=⟨⟨h.po.inn,h.po.icap,h.po.out,h.po.bud⟩,dm.zero_g,dl.zero_gd,by show((0:Nat):Int)≤0;omega,hn⟩
theorem Wd.S.over {w:Wd}(h:w.S){k:Nat}(hk:k<w.p.cls.length):(w.over k).S:=h.setC k ((h.cg _ (w.cl_mem hk)).over ⟨h.now.1,by have:=h.now.2;omega⟩)
theorem Wd.B.over {w:Wd}{n k:Nat}(h:w.B n)(hk:k<w.p.cls.length):(w.over k).B n:=h.setC hk (Int.le_refl _)
theorem jw (w:Wd)(id i:Int)(b:List UInt8):bM (w.put id b).p.cls i=bM w.p.cls i:=by unfold Wd.put;cases hk:bM w.p.cls id with|none=>rfl;|some k=>
 show bM (if _ then _ else _:Wd).p.cls i=_;split
 ·rename_i he;refine kh w k {w.cl k with po:=((w.cl k).po.put b).p} ?_ i;unfold cH.put at*;split at he;·simp at he
  ·rename_i h;simp only[if_neg h,cH.flush]
 ·rfl
theorem xX (w:Wd)(ser:Int)(sn:Sn)(cm:Bool)(i:Int):bM (w.prim ser sn cm).p.cls i=bM w.p.cls i:=by unfold Wd.prim;split<;>rfl
def Wd.cc (w:Wd)(rc:Int)(b:Bool):Wd:=if rc=5 then w.obs b else w
theorem Wd.S.cc {w:Wd}(h:w.S)(rc:Int)(b:Bool):(w.cc rc b).S:=by unfold Wd.cc;split;exact h.obs b;exact h
theorem Wd.B.cc {w:Wd}{n:Nat}(h:w.B n)(rc:Int)(b:Bool):(w.cc rc b).B n:=by unfold Wd.cc;split;exact h.obs b;exact h
theorem FA (w:Wd)(rc:Int)(b:Bool)(i:Int):bM (w.cc rc b).p.cls i=bM w.p.cls i:=by unfold Wd.cc;split<;>rfl
theorem Sn.zero_gd:Sn.zero.Gd:=⟨by decide,by decide⟩
theorem xm (w:Wd)(k:Nat)(i:Int):bM (w.over k).p.cls i=bM w.p.cls i:=kh w k ((w.cl k).over w.p.now) rfl i
def Cl.stop (c:Cl):Cl:=⟨{c.po with closing:=true},c.rd,c.last,c.ex⟩
theorem Cl.Gd.stop {c:Cl}(h:c.Gd):c.stop.Gd:=⟨⟨h.po.inn,h.po.icap,h.po.out,h.po.bud⟩,h.rd,h.ex,h.body,h.last⟩
def Wd.stop (w:Wd)(k:Nat):Wd:=w.setC k (w.cl k).stop
noncomputable def Wd.failH (w:Wd)(k:Nat):Wd:=((((w.cc (w.cl k).ex.rc true).prim (w.cl k).ex.ser .zero false)).over k).stop k
noncomputable def Wd.failN (w:Wd)(k:Nat)(id st:Int):Wd:=(((w.cc (w.cl k).ex.rc true).prim (w.cl k).ex.ser .zero false).put id (bD st (w.cl k).ex.rq.m (w.cl k).ex.cl)).over k
noncomputable def Wd.fail (w:Wd)(k:Nat)(id st:Int):Wd:=if(w.cl k).ex.hd then w.failH k else w.failN k id st
theorem Bb (w:Wd)(k:Nat)(id st:Int){n:Nat}(hs:w.S)(hw:w.B n)(hn:n+10≤10000000000)(hk:bM w.p.cls id=some k):aH (CG G) 85 [.op 0 0 0,dI id,dI st] (lP w) [] (NR (w.fail k id st)):=by
 have c1:=dt w.p id hs.cl;rw[hk,bj] at c1;obtain⟨hlt,hid⟩:=aR hk;have hg:=w.get_cl hlt;have c2:=lU w.p.ro true;have c3:=EA (w.cc (w.cl k).ex.rc true) (w.cl k).ex.ser .zero false (hs.cc _ _) (hw.cc _ _) Sn.zero_gd;have s3:=(hs.cc (w.cl k).ex.rc true).prim (w.cl k).ex.ser Sn.zero_gd false;have b3:=(hw.cc (w.cl k).ex.rc true).prim (by omega) (w.cl k).ex.ser .zero false;have k3:bM ((w.cc (w.cl k).ex.rc true).prim (w.cl k).ex.ser .zero false).p.cls id=some k:=by rw[xX,FA,hk]
 unfold Wd.fail Wd.failH Wd.failN;unfold dU dD at hg;cases hh:(w.cl k).ex.hd
 ·rw[if_neg (by simp)];have c4:=ku st (w.cl k).ex.rq.m (w.cl k).ex.cl;have c5:=qs st (w.cl k).ex.rq.m (w.cl k).ex.cl;have hpl:=iY st (w.cl k).ex.rq.m (w.cl k).ex.cl;have c6:=sO ((w.cc (w.cl k).ex.rc true).prim (w.cl k).ex.ser .zero false) id (bD st (w.cl k).ex.rq.m (w.cl k).ex.cl) s3 b3 (by omega);have s6:=s3.put id (bD st (w.cl k).ex.rq.m (w.cl k).ex.cl);have k6:=jw ((w.cc (w.cl k).ex.rc true).prim (w.cl k).ex.ser .zero false) id id (bD st (w.cl k).ex.rq.m (w.cl k).ex.cl);rw[k3] at k6;have c7:=qI _ id k s6 k6;generalize ((w.cc (w.cl k).ex.rc true).prim (w.cl k).ex.ser .zero false).put id (bD st (w.cl k).ex.rq.m (w.cl k).ex.cl)=w3 at*;generalize ((w.cc (w.cl k).ex.rc true).prim (w.cl k).ex.ser .zero false)=w2 at*;generalize bD st (w.cl k).ex.rq.m (w.cl k).ex.cl=pb at*;generalize j8 st (w.cl k).ex.rq.m (w.cl k).ex.cl=pf at*;unfold Wd.cc at c3;rw[hh] at hg;by_cases h5:(w.cl k).ex.rc=5
  ·rw[if_pos h5] at c3;unfold dw bf eF bU oW zg jH at*;refine mH 73 Tryz.func85 ?_;repeat'(first|refine ad ?_|refine dk ?_|refine ah (c1) ?_|refine ah (c2) ?_|refine ah (c4) ?_|refine ah (c5) ?_|refine bh k rfl (by simpa using hlt) ?_|refine az hg ?_|refine aj h5 ?_|refine ae (fun _=>?_) (fun _=>?_)|refine aq ?_)
   apply ak [(0,_),(1,_),(2,_),(3,_)] c3;·((repeat' constructor)<;>(first|refine aI ?_|rfl)<;>first|with_reducible rfl|(simp only[Wd.obs];rfl)|(congr 1<;>omega)|(congr 1<;>simp;done)|(simp;done)|rfl|skip)
   ·repeat'(first|refine ad ?_|refine dk ?_|refine ah (c4) ?_|refine ah (c5) ?_|refine ae (fun _=>?_) (fun _=>?_)|refine aq ?_)
    apply ak [(0,_),(1,_),(2,_),(3,_)] c6;·exact be
    ·repeat'(first|refine ad ?_|refine dk ?_|refine ae (fun _=>?_) (fun _=>?_)|refine aq ?_)
     apply ak [(0,_),(1,_),(2,_),(3,_)] c7;·exact be
     ·repeat'(first|refine ad ?_|refine dk ?_|refine ae (fun _=>?_) (fun _=>?_)|refine aq ?_)
      apply aw [(16,_)];exact be
  ·rw[if_neg h5] at c3;unfold dw bf eF bU oW zg jH at*;refine mH 73 Tryz.func85 ?_;repeat'(first|refine ad ?_|refine dk ?_|refine ah (c1) ?_|refine ah (c2) ?_|refine ah (c4) ?_|refine ah (c5) ?_|refine bh k rfl (by simpa using hlt) ?_|refine az hg ?_|refine ai h5 ?_|refine ae (fun _=>?_) (fun _=>?_)|refine aq ?_)
   apply ak [(0,_),(1,_),(2,_),(3,_)] c3;·((repeat' constructor)<;>(first|refine aI ?_|rfl)<;>first|with_reducible rfl|(simp only[Wd.setC,Wd.setU,Wd.act,aQ,aP,Ns,Ng,Wd.obs];rfl)|(congr 1<;>omega)|(congr 1<;>simp;done)|(simp;done)|rfl|skip)
   ·repeat'(first|refine ad ?_|refine dk ?_|refine ah (c4) ?_|refine ah (c5) ?_|refine ae (fun _=>?_) (fun _=>?_)|refine aq ?_)
    apply ak [(0,_),(1,_),(2,_),(3,_)] c6;·exact be
    ·repeat'(first|refine ad ?_|refine dk ?_|refine ae (fun _=>?_) (fun _=>?_)|refine aq ?_)
     apply ak [(0,_),(1,_),(2,_),(3,_)] c7;·exact be
     ·repeat'(first|refine ad ?_|refine dk ?_|refine ae (fun _=>?_) (fun _=>?_)|refine aq ?_)
      apply aw [(16,_)];exact be
 ·rw[if_pos rfl];have c7:=qI _ id k s3 k3;have k4:bM (((w.cc (w.cl k).ex.rc true).prim (w.cl k).ex.ser .zero false).over k).p.cls id=some k:=by rw[xm,k3]
  have s4:=s3.over (aR k3).1;generalize ((w.cc (w.cl k).ex.rc true).prim (w.cl k).ex.ser .zero false).over k=w4 at*;generalize ((w.cc (w.cl k).ex.rc true).prim (w.cl k).ex.ser .zero false)=w2 at*;have c8:=dt w4.p id s4.cl;rw[k4,bj] at c8;obtain⟨hlt4,_⟩:=aR k4;have hg4:=w4.get_cl hlt4;unfold dU dD at hg4;unfold Wd.cc at c3;rw[hh] at hg;by_cases h5:(w.cl k).ex.rc=5
  ·rw[if_pos h5] at c3;unfold dw bf oW zg jH at*;refine mH 73 Tryz.func85 ?_;repeat'(first|refine ad ?_|refine dk ?_|refine ah (c1) ?_|refine ah (c2) ?_|refine bh k rfl (by simpa using hlt) ?_|refine az hg ?_|refine aj h5 ?_|refine ae (fun _=>?_) (fun _=>?_)|refine aq ?_)
   apply ak [(0,_),(1,_),(2,_),(3,_)] c3;·((repeat' constructor)<;>(first|refine aI ?_|rfl)<;>first|with_reducible rfl|(simp only[Wd.obs];rfl)|(congr 1<;>omega)|(congr 1<;>simp;done)|(simp;done)|rfl|skip)
   ·repeat'(first|refine ad ?_|refine dk ?_|refine ae (fun _=>?_) (fun _=>?_)|refine aq ?_)
    apply ak [(0,_),(1,_),(2,_),(3,_)] c7;·exact be
    ·repeat'(first|refine ad ?_|refine dk ?_|refine ah (c8) ?_|refine bh k rfl (by simpa using hlt4) ?_|refine ax hg4 ?_|refine ae (fun _=>?_) (fun _=>?_)|refine aq ?_)
     apply aw [(16,_)];((repeat' constructor)<;>(first|refine aI ?_|rfl)<;>first|with_reducible rfl|(simp only[Wd.setC,aQ,Wd.stop];rfl)|(congr 1<;>omega)|(congr 1<;>simp;done)|(simp;done)|rfl|skip)
  ·rw[if_neg h5] at c3;unfold dw bf oW zg jH at*;refine mH 73 Tryz.func85 ?_;repeat'(first|refine ad ?_|refine dk ?_|refine ah (c1) ?_|refine ah (c2) ?_|refine bh k rfl (by simpa using hlt) ?_|refine az hg ?_|refine ai h5 ?_|refine ae (fun _=>?_) (fun _=>?_)|refine aq ?_)
   apply ak [(0,_),(1,_),(2,_),(3,_)] c3;·((repeat' constructor)<;>(first|refine aI ?_|rfl)<;>first|with_reducible rfl|(simp only[Wd.setC,Wd.setU,Wd.act,aQ,aP,Ns,Ng,Wd.obs];rfl)|(congr 1<;>omega)|(congr 1<;>simp;done)|(simp;done)|rfl|skip)
   ·repeat'(first|refine ad ?_|refine dk ?_|refine ae (fun _=>?_) (fun _=>?_)|refine aq ?_)
    apply ak [(0,_),(1,_),(2,_),(3,_)] c7;·exact be
    ·repeat'(first|refine ad ?_|refine dk ?_|refine ah (c8) ?_|refine bh k rfl (by simpa using hlt4) ?_|refine ax hg4 ?_|refine ae (fun _=>?_) (fun _=>?_)|refine aq ?_)
     apply aw [(16,_)];((repeat' constructor)<;>(first|refine aI ?_|rfl)<;>first|with_reducible rfl|(simp only[Wd.setC,aQ,Wd.stop];rfl)|(congr 1<;>omega)|(congr 1<;>simp;done)|(simp;done)|rfl|skip)
def Wd.dropU (w:Wd)(k:Nat)(id:Int)(quiet:Bool):Wd:=⟨{w.p with ups:=w.p.ups.take k++w.p.ups.drop (k+1),can:=if bG id=5 then(eZ w.p.can id).1 else w.p.can,sta:=if bG id=5 then w.p.sta else(eZ w.p.sta id).1},w.out++if quiet then[] else[⟨4,id,0,0,[]⟩]⟩
def Wd.drop (w:Wd)(id:Int)(quiet:Bool):Wd:=match im w.p.ups id with|none=>w|some k=>w.dropU k id quiet
theorem qm (w:Wd)(id:Int)(quiet:Bool){n:Nat}(hs:w.S)(hw:w.B n):aH (CG G) 84 [.op 0 0 0,dI id,.d (.b quiet)] (lP w) [] (jr (w.drop id quiet)):=by
 have c1:=iS w.p id hs.ul;have c2:=qt id;have c3:=zj w.p.can id hs.can;have c4:=zj w.p.sta id hs.sta;have hol:=hw.ol;have hlim:=hw.lim;have hul:=hs.ul;have hml:(w.out.map bn).length=w.out.length:=by simp
 have hcm:(w.p.ups.map fo).length=w.p.ups.length:=by simp
 unfold Wd.drop;unfold dw bf o8 at*;cases hk:im w.p.ups id with
 |none=>
 rw[hk,da] at c1;refine mH 81 Tryz.func84 ?_;repeat'(first|refine ad ?_|refine dk ?_|refine ah (c1) ?_|refine aj (by decide) ?_|refine ae (fun _=>?_) (fun _=>?_)|refine aq ?_)
 apply aw [(16,_),(17,_),(18,_)];exact be;|some k=>
 rw[hk,bj] at c1;obtain⟨hlt,hid⟩:=fE hk;unfold Wd.dropU;simp only[];generalize (eZ w.p.can id).1=pc at*;generalize (eZ w.p.can id).2=bc at*;generalize (eZ w.p.sta id).1=ps at*;generalize (eZ w.p.sta id).2=bs at*;by_cases h5:bG id=5
 ·simp only[if_pos h5];cases quiet
  ·refine aH.mk (n:=81) Tryz.func84 rfl rfl rfl (Nat.le_of_ble_eq_true rfl) rfl (ah c1 ?_);apply bd (fun _:Unit=>True) (fun _=>⟨[(0,.op 0 0 0),(1,dI id),(2,.d (.b false)),(6,dI (k:Int))],[(0,some (.box [dI w.p.cfg.maxHead,dI w.p.cfg.maxBody,dI w.p.cfg.maxReply,dI w.p.cfg.cin,dI w.p.cfg.cout,dI w.p.cfg.clients,dI w.p.cfg.admins,dI w.p.cfg.listeners,dI w.p.cfg.stable,dI w.p.cfg.canary,dI w.p.cfg.shadow,dI w.p.cfg.tee,dI w.p.cfg.idle,dI w.p.cfg.reqd,dI w.p.cfg.shadd,dI w.p.cfg.reports,.d (.sl 1 (w.p.cfg.plan.ws.map (.i .i64))),dI w.p.cfg.plan.ms,dI w.p.cfg.plan.nu,dI w.p.cfg.plan.de,dI w.p.cfg.plan.ho,dI w.p.cfg.plan.wi,.d (.s w.p.cfg.salt),.d (.s w.p.cfg.cookie),.d (.b w.p.cfg.mirror),.d (.sl 1 (w.p.cfg.ignore.map .s)),dI w.p.now,dI w.p.draw,dI w.p.ser,dI w.p.ro.st,dI w.p.ro.sg,dI w.p.ro.he,dI w.p.ro.tt,dI w.p.ro.er,dI w.p.ro.ag,.os 1,.d (.sl 33 (w.p.ups.map fo)),dI w.p.sta.ba,dI w.p.sta.qu,dI w.p.sta.se,.d (.sl 1 (w.p.sta.id.map (.i .i64))),.d (.sl 1 (w.p.sta.bu.map (.i .i64))),dI w.p.can.ba,dI w.p.can.qu,dI w.p.can.se,.d (.sl 1 (w.p.can.id.map (.i .i64))),.d (.sl 1 (w.p.can.bu.map (.i .i64))),dI w.p.sh.pool.ba,dI w.p.sh.pool.qu,dI w.p.sh.pool.se,.d (.sl 1 (w.p.sh.pool.id.map (.i .i64))),.d (.sl 1 (w.p.sh.pool.bu.map (.i .i64))),.d (.sl 55 (w.p.sh.jobs.map bI)),dI w.p.sh.rep.cap,dI w.p.sh.rep.ser,.d (.sl 6 (w.p.sh.rep.l.map NH)),.os 3])),(1,some (.buf 65 (w.p.cls.map dU))),(3,some (.buf 5 (w.out.map bn)))],3⟩)
   ·refine ai (by omega) ?_;repeat'(first|refine ad ?_|refine dk ?_|refine ae (fun _=>?_) (fun _=>?_)|refine aq ?_)
    apply aC () [] trivial;exact be
   ·rintro _ _;repeat'(first|refine ad ?_|refine dk ?_|refine ah (c2) ?_|refine ah (c3) ?_|refine ah (c4) ?_|refine bnd k rfl (by omega) ?_|refine bnd (k+1) (by omega) (by omega) ?_|refine aB (by simp;omega) ?_|refine aj h5 ?_|refine ae (fun _=>?_) (fun _=>?_)|refine aq ?_)
    apply aw [(16,_),(17,_),(18,_)];((repeat' constructor)<;>(first|refine aI ?_|rfl)<;>first|with_reducible rfl|(simp only[Ng,List.map_take,List.map_drop];rfl)|(congr 1<;>omega)|(congr 1<;>simp;done)|(simp;done)|rfl|skip)
  ·refine aH.mk (n:=81) Tryz.func84 rfl rfl rfl (Nat.le_of_ble_eq_true rfl) rfl (ah c1 ?_);apply bd (fun _:Unit=>True) (fun _=>⟨[(0,.op 0 0 0),(1,dI id),(2,.d (.b true)),(6,dI (k:Int))],[(0,some (.box [dI w.p.cfg.maxHead,dI w.p.cfg.maxBody,dI w.p.cfg.maxReply,dI w.p.cfg.cin,dI w.p.cfg.cout,dI w.p.cfg.clients,dI w.p.cfg.admins,dI w.p.cfg.listeners,dI w.p.cfg.stable,dI w.p.cfg.canary,dI w.p.cfg.shadow,dI w.p.cfg.tee,dI w.p.cfg.idle,dI w.p.cfg.reqd,dI w.p.cfg.shadd,dI w.p.cfg.reports,.d (.sl 1 (w.p.cfg.plan.ws.map (.i .i64))),dI w.p.cfg.plan.ms,dI w.p.cfg.plan.nu,dI w.p.cfg.plan.de,dI w.p.cfg.plan.ho,dI w.p.cfg.plan.wi,.d (.s w.p.cfg.salt),.d (.s w.p.cfg.cookie),.d (.b w.p.cfg.mirror),.d (.sl 1 (w.p.cfg.ignore.map .s)),dI w.p.now,dI w.p.draw,dI w.p.ser,dI w.p.ro.st,dI w.p.ro.sg,dI w.p.ro.he,dI w.p.ro.tt,dI w.p.ro.er,dI w.p.ro.ag,.os 1,.d (.sl 33 (w.p.ups.map fo)),dI w.p.sta.ba,dI w.p.sta.qu,dI w.p.sta.se,.d (.sl 1 (w.p.sta.id.map (.i .i64))),.d (.sl 1 (w.p.sta.bu.map (.i .i64))),dI w.p.can.ba,dI w.p.can.qu,dI w.p.can.se,.d (.sl 1 (w.p.can.id.map (.i .i64))),.d (.sl 1 (w.p.can.bu.map (.i .i64))),dI w.p.sh.pool.ba,dI w.p.sh.pool.qu,dI w.p.sh.pool.se,.d (.sl 1 (w.p.sh.pool.id.map (.i .i64))),.d (.sl 1 (w.p.sh.pool.bu.map (.i .i64))),.d (.sl 55 (w.p.sh.jobs.map bI)),dI w.p.sh.rep.cap,dI w.p.sh.rep.ser,.d (.sl 6 (w.p.sh.rep.l.map NH)),.os 3])),(1,some (.buf 65 (w.p.cls.map dU))),(3,some (.buf 5 (w.out.map bn)))],3⟩)
   ·refine ai (by omega) ?_;repeat'(first|refine ad ?_|refine dk ?_|refine ae (fun _=>?_) (fun _=>?_)|refine aq ?_)
    apply aC () [] trivial;exact be
   ·rintro _ _;repeat'(first|refine ad ?_|refine dk ?_|refine ah (c2) ?_|refine ah (c3) ?_|refine ah (c4) ?_|refine bnd k rfl (by omega) ?_|refine bnd (k+1) (by omega) (by omega) ?_|refine aB (by simp;omega) ?_|refine aj h5 ?_|refine ae (fun _=>?_) (fun _=>?_)|refine aq ?_)
    apply aw [(16,_),(17,_),(18,_)];((repeat' constructor)<;>(first|refine aI ?_|rfl)<;>first|with_reducible rfl|(simp only[Ng,List.map_take,List.map_drop,if_true,List.append_nil];rfl)|(congr 1<;>omega)|(congr 1<;>simp;done)|(simp;done)|rfl|skip)
 ·simp only[if_neg h5];cases quiet
  ·refine aH.mk (n:=81) Tryz.func84 rfl rfl rfl (Nat.le_of_ble_eq_true rfl) rfl (ah c1 ?_);apply bd (fun _:Unit=>True) (fun _=>⟨[(0,.op 0 0 0),(1,dI id),(2,.d (.b false)),(6,dI (k:Int))],[(0,some (.box [dI w.p.cfg.maxHead,dI w.p.cfg.maxBody,dI w.p.cfg.maxReply,dI w.p.cfg.cin,dI w.p.cfg.cout,dI w.p.cfg.clients,dI w.p.cfg.admins,dI w.p.cfg.listeners,dI w.p.cfg.stable,dI w.p.cfg.canary,dI w.p.cfg.shadow,dI w.p.cfg.tee,dI w.p.cfg.idle,dI w.p.cfg.reqd,dI w.p.cfg.shadd,dI w.p.cfg.reports,.d (.sl 1 (w.p.cfg.plan.ws.map (.i .i64))),dI w.p.cfg.plan.ms,dI w.p.cfg.plan.nu,dI w.p.cfg.plan.de,dI w.p.cfg.plan.ho,dI w.p.cfg.plan.wi,.d (.s w.p.cfg.salt),.d (.s w.p.cfg.cookie),.d (.b w.p.cfg.mirror),.d (.sl 1 (w.p.cfg.ignore.map .s)),dI w.p.now,dI w.p.draw,dI w.p.ser,dI w.p.ro.st,dI w.p.ro.sg,dI w.p.ro.he,dI w.p.ro.tt,dI w.p.ro.er,dI w.p.ro.ag,.os 1,.d (.sl 33 (w.p.ups.map fo)),dI w.p.sta.ba,dI w.p.sta.qu,dI w.p.sta.se,.d (.sl 1 (w.p.sta.id.map (.i .i64))),.d (.sl 1 (w.p.sta.bu.map (.i .i64))),dI w.p.can.ba,dI w.p.can.qu,dI w.p.can.se,.d (.sl 1 (w.p.can.id.map (.i .i64))),.d (.sl 1 (w.p.can.bu.map (.i .i64))),dI w.p.sh.pool.ba,dI w.p.sh.pool.qu,dI w.p.sh.pool.se,.d (.sl 1 (w.p.sh.pool.id.map (.i .i64))),.d (.sl 1 (w.p.sh.pool.bu.map (.i .i64))),.d (.sl 55 (w.p.sh.jobs.map bI)),dI w.p.sh.rep.cap,dI w.p.sh.rep.ser,.d (.sl 6 (w.p.sh.rep.l.map NH)),.os 3])),(1,some (.buf 65 (w.p.cls.map dU))),(3,some (.buf 5 (w.out.map bn)))],3⟩)
   ·refine ai (by omega) ?_;repeat'(first|refine ad ?_|refine dk ?_|refine ae (fun _=>?_) (fun _=>?_)|refine aq ?_)
    apply aC () [] trivial;exact be
   ·rintro _ _;repeat'(first|refine ad ?_|refine dk ?_|refine ah (c2) ?_|refine ah (c3) ?_|refine ah (c4) ?_|refine bnd k rfl (by omega) ?_|refine bnd (k+1) (by omega) (by omega) ?_|refine aB (by simp;omega) ?_|refine ai h5 ?_|refine ae (fun _=>?_) (fun _=>?_)|refine aq ?_)
    apply aw [(16,_),(17,_),(18,_)];((repeat' constructor)<;>(first|refine aI ?_|rfl)<;>first|with_reducible rfl|(simp only[Ng,List.map_take,List.map_drop];rfl)|(congr 1<;>omega)|(congr 1<;>simp;done)|(simp;done)|rfl|skip)
  ·refine aH.mk (n:=81) Tryz.func84 rfl rfl rfl (Nat.le_of_ble_eq_true rfl) rfl (ah c1 ?_);apply bd (fun _:Unit=>True) (fun _=>⟨[(0,.op 0 0 0),(1,dI id),(2,.d (.b true)),(6,dI (k:Int))],[(0,some (.box [dI w.p.cfg.maxHead,dI w.p.cfg.maxBody,dI w.p.cfg.maxReply,dI w.p.cfg.cin,dI w.p.cfg.cout,dI w.p.cfg.clients,dI w.p.cfg.admins,dI w.p.cfg.listeners,dI w.p.cfg.stable,dI w.p.cfg.canary,dI w.p.cfg.shadow,dI w.p.cfg.tee,dI w.p.cfg.idle,dI w.p.cfg.reqd,dI w.p.cfg.shadd,dI w.p.cfg.reports,.d (.sl 1 (w.p.cfg.plan.ws.map (.i .i64))),dI w.p.cfg.plan.ms,dI w.p.cfg.plan.nu,dI w.p.cfg.plan.de,dI w.p.cfg.plan.ho,dI w.p.cfg.plan.wi,.d (.s w.p.cfg.salt),.d (.s w.p.cfg.cookie),.d (.b w.p.cfg.mirror),.d (.sl 1 (w.p.cfg.ignore.map .s)),dI w.p.now,dI w.p.draw,dI w.p.ser,dI w.p.ro.st,dI w.p.ro.sg,dI w.p.ro.he,dI w.p.ro.tt,dI w.p.ro.er,dI w.p.ro.ag,.os 1,.d (.sl 33 (w.p.ups.map fo)),dI w.p.sta.ba,dI w.p.sta.qu,dI w.p.sta.se,.d (.sl 1 (w.p.sta.id.map (.i .i64))),.d (.sl 1 (w.p.sta.bu.map (.i .i64))),dI w.p.can.ba,dI w.p.can.qu,dI w.p.can.se,.d (.sl 1 (w.p.can.id.map (.i .i64))),.d (.sl 1 (w.p.can.bu.map (.i .i64))),dI w.p.sh.pool.ba,dI w.p.sh.pool.qu,dI w.p.sh.pool.se,.d (.sl 1 (w.p.sh.pool.id.map (.i .i64))),.d (.sl 1 (w.p.sh.pool.bu.map (.i .i64))),.d (.sl 55 (w.p.sh.jobs.map bI)),dI w.p.sh.rep.cap,dI w.p.sh.rep.ser,.d (.sl 6 (w.p.sh.rep.l.map NH)),.os 3])),(1,some (.buf 65 (w.p.cls.map dU))),(3,some (.buf 5 (w.out.map bn)))],3⟩)
   ·refine ai (by omega) ?_;repeat'(first|refine ad ?_|refine dk ?_|refine ae (fun _=>?_) (fun _=>?_)|refine aq ?_)
    apply aC () [] trivial;exact be
   ·rintro _ _;repeat'(first|refine ad ?_|refine dk ?_|refine ah (c2) ?_|refine ah (c3) ?_|refine ah (c4) ?_|refine bnd k rfl (by omega) ?_|refine bnd (k+1) (by omega) (by omega) ?_|refine aB (by simp;omega) ?_|refine ai h5 ?_|refine ae (fun _=>?_) (fun _=>?_)|refine aq ?_)
    apply aw [(16,_),(17,_),(18,_)];((repeat' constructor)<;>(first|refine aI ?_|rfl)<;>first|with_reducible rfl|(simp only[Ng,List.map_take,List.map_drop,if_true,List.append_nil];rfl)|(congr 1<;>omega)|(congr 1<;>simp;done)|(simp;done)|rfl|skip)
theorem Wd.S.dropU {w:Wd}(h:w.S)(k:Nat)(id:Int)(q:Bool):(w.dropU k id q).S:=by
 refine⟨h.cfg,h.now,h.draw,h.ser,h.ro,h.pl,h.cl,?_,h.cg,?_,?_,?_,h.sh⟩;·have:=h.ul;show(w.p.ups.take k++w.p.ups.drop (k+1)).length≤_;rw[Na,Nj,Nz];omega
 ·intro x hx;rcases Np.1 hx with hx|hx;·exact h.ug x (List.mem_of_mem_take hx)
  ·exact h.ug x (List.mem_of_mem_drop hx)
 ·show ib (if _ then _ else _);split;·exact h.sta
  ·exact pC h.sta id
 ·show ib (if _ then _ else _);split;·exact pC h.can id
  ·exact h.can
theorem Wd.S.drop {w:Wd}(h:w.S)(id:Int)(q:Bool):(w.drop id q).S:=by
 unfold Wd.drop;split;·exact h
 ·exact h.dropU _ _ _
theorem u4 (l:List Nat)(k:Nat):(l.take k++l.drop (k+1)).sum≤l.sum:=by
 have h1:(l.take k++l.drop k).sum=l.sum:=by rw[NB]
 have h2:(l.drop (k+1)).sum≤(l.drop k).sum:=by rw[show l.drop (k+1)=(l.drop k).drop 1 by rw[List.drop_drop,Nat.add_comm]];cases l.drop k<;>simp
 simp only[List.sum_append] at*;omega
theorem Wd.B.dropU {w:Wd}{n:Nat}(h:w.B n)(hl:n<10000000000)(k:Nat)(id:Int)(q:Bool):(w.dropU k id q).B (n+1):=by
 refine⟨hl,?_,?_⟩;·have:=h.ol;show(w.out++_).length≤_;cases q<;>simp<;>omega
 ·have h2:=h.ph;have h3:=u4 (w.p.ups.map fun u=>u.po.bud.toNat) k;have e1:(w.dropU k id q).bo=w.bo:=by show((w.out++_).map _).sum=_;cases q<;>simp[Wd.bo]
  have e2:(w.dropU k id q).bc=w.bc:=rfl;have e3:(w.dropU k id q).bu≤w.bu:=by show((w.p.ups.take k++w.p.ups.drop (k+1)).map _).sum≤_;rw[Ng,List.map_take,List.map_drop];exact h3
  unfold Wd.phi at*;omega
theorem Wd.B.drop {w:Wd}{n:Nat}(h:w.B n)(hl:n<10000000000)(id:Int)(q:Bool):(w.drop id q).B (n+1):=by
 unfold Wd.drop;split;·exact h.up (by omega) hl
 ·exact h.dropU hl _ _ _
theorem eh (w:Wd)(id:Int)(q:Bool)(i:Int):bM (w.drop id q).p.cls i=bM w.p.cls i:=by unfold Wd.drop;split<;>rfl
theorem jv (w:Wd)(id:Int)(b:List UInt8):(w.put id b).p.ups=w.p.ups:=by unfold Wd.put;cases bM w.p.cls id with|none=>rfl;|some k=>show(if _ then _ else _:Wd).p.ups=_;split<;>rfl
theorem qX (w:Wd)(ser:Int)(sn:Sn)(cm:Bool):(w.prim ser sn cm).p.ups=w.p.ups:=by unfold Wd.prim;split<;>rfl
theorem zN (w:Wd)(rc:Int)(b:Bool):(w.cc rc b).p.ups=w.p.ups:=by unfold Wd.cc;split<;>rfl
noncomputable def dl.ans (x:dl)(cookie:List UInt8):iZ:=rF cookie ⟨x.rc,x.rid,x.rnew⟩ x.rq.m {x.an with body:=x.store} x.size x.cl
noncomputable def dl.seen (x:dl)(ign:List (List UInt8)):Sn:=⟨x.an.st,kF x.an.fs ign,x.size,x.dg.sum⟩
noncomputable def dl.keep (x:dl)(u:Up):Bool:=xU x.an.mi x.an.fs&&(decide (u.rd.fm.kd≠4)&&(decide (u.po.inn.dat.length=0)&&(decide (u.po.out.dat.length=0)&&!u.po.ended)))
def Wd.rel (w:Wd)(j:Nat)(id:Int):Wd:=if(w.up j).po.cls=5 then⟨{w.p with ups:=w.p.ups.set j {w.up j with cli:=0},can:=(kK w.p.can id).1},w.out⟩else⟨{w.p with ups:=w.p.ups.set j {w.up j with cli:=0},sta:=(kK w.p.sta id).1},w.out⟩
noncomputable def Wd.cm1 (w:Wd)(x:dl)(id:Int):Wd:=if x.sto then w.put id (gB (x.ans w.p.cfg.cookie)) else w
noncomputable def Wd.cm3 (w:Wd)(x:dl):Wd:=(w.cc x.rc (decide (500≤x.an.st))).prim x.ser (x.seen w.p.cfg.ignore) true
noncomputable def Wd.cm4 (w:Wd)(x:dl)(j:Nat):Wd:=if x.keep (w.up j) then w.rel j x.up else w.drop x.up false
noncomputable def Wd.complete (w:Wd)(k j:Nat)(id:Int):Wd:=(((w.cm1 (w.cl k).ex id).cm3 (w.cl k).ex).cm4 (w.cl k).ex j).over k
theorem BN (w:Wd)(id:Int)(b:List UInt8):(w.put id b).p.cfg=w.p.cfg:=by unfold Wd.put;cases bM w.p.cls id with|none=>rfl;|some k=>show(if _ then _ else _:Wd).p.cfg=_;split<;>rfl
theorem L8 {x:dl}(h:x.Gd){c:bk}(hc:c.Ok):br x.an.fs≤10000000∧fT x.size∧c.cookie.length≤1000∧(x.ans c.cookie).rs.length≤100000∧br (x.ans c.cookie).fs≤1000000∧(x.ans c.cookie).body.length≤1000000:=by
 have h1:=h.an;have h2:=h.size;have h3:=hc.cookieLen;have h4:=h.rid;have h5:=h.store;have h6:=xy c.cookie ⟨x.rc,x.rid,x.rnew⟩ x.rq.m {x.an with body:=x.store} x.size x.cl (by omega);refine⟨by omega,⟨by omega,by omega⟩,by omega,h.anr,?_,?_⟩;·exact Nat.le_trans h6 (by simp only;omega)
 ·show x.store.length≤_;omega
theorem BK {x:dl}(h:x.Gd)(ign:List Nm):(x.seen ign).Gd:=by have h1:=tc x.an.fs ign;have h2:=uz x.an.fs ign;have h3:=h.an;have h4:=h.ann;exact⟨by show(kF x.an.fs ign).length≤_;omega,by show aX ((kF x.an.fs ign).map (·.1))≤_;omega⟩
theorem Wd.S.rel {w:Wd}(h:w.S){j:Nat}(hj:j<w.p.ups.length)(id:Int):(w.rel j id).S:=by
 have hg:=h.ug _ (w.up_mem hj);have h1:=h.setU j (c:={w.up j with cli:=0}) ⟨hg.po,hg.rd⟩;unfold Wd.rel;split;·exact⟨h.cfg,h.now,h.draw,h.ser,h.ro,h.pl,h.cl,h1.ul,h.cg,h1.ug,h.sta,Bu h.can _,h.sh⟩
 ·exact⟨h.cfg,h.now,h.draw,h.ser,h.ro,h.pl,h.cl,h1.ul,h.cg,h1.ug,Bu h.sta _,h.can,h.sh⟩
theorem tL (w:Wd)(k j:Nat)(id:Int){n:Nat}(hs:w.S)(hw:w.B n)(hn:n+10≤10000000000)(hk:bM w.p.cls id=some k)(hj:im w.p.ups (w.cl k).ex.up=some j):aH (CG G) 146 [.op 0 0 0,dI id] (lP w) [] (jr (w.complete k j id)):=by
 have c1:=dt w.p id hs.cl;rw[hk,bj] at c1;obtain⟨hlt,hid⟩:=aR hk;have hg:=w.get_cl hlt;have hx:=(hs.cg _ (w.cl_mem hlt)).ex;unfold dU dD at hg;unfold Wd.complete;generalize (w.cl k).ex=x at*;obtain⟨a1,a2,a3,a4,a5,a6⟩:=L8 hx hs.cfg;have hal:=pO (x.ans w.p.cfg.cookie);have c2:=A2 w.p.cfg ⟨x.rc,x.rid,x.rnew⟩ x.rq.m {x.an with body:=x.store} x.size x.cl a1 a2 a3 hx.rid;have c3:=zz (x.ans w.p.cfg.cookie) (by omega) (by omega) (by omega);have c4:=sO w id (gB (x.ans w.p.cfg.cookie)) hs hw (by omega);have s1:(w.cm1 x id).S:=by unfold Wd.cm1;split;exact hs.put _ _;exact hs
 have b1:(w.cm1 x id).B (n+1):=by unfold Wd.cm1;split;exact hw.put hs (by omega) _ _;exact hw.up (by omega) (by omega)
 have k1:bM (w.cm1 x id).p.cls id=some k:=by unfold Wd.cm1;split;rw[jw,hk];exact hk
 have u1:(w.cm1 x id).p.ups=w.p.ups:=by unfold Wd.cm1;split;rw[jv];rfl
 have d1:(w.cm1 x id).p.cfg=w.p.cfg:=by unfold Wd.cm1;split;rw[BN];rfl
 have e1:x.sto=true→w.cm1 x id=w.put id (gB (x.ans w.p.cfg.cookie)):=fun h=>by unfold Wd.cm1;rw[if_pos h]
 have e2:x.sto=false→w.cm1 x id=w:=fun h=>by unfold Wd.cm1;rw[if_neg (by simp[h])]
 generalize w.cm1 x id=w1 at*;have k2:bM (w1.cc x.rc (decide (500≤x.an.st))).p.cls id=some k:=by rw[FA,k1]
 have s2:=s1.cc x.rc (decide (500≤x.an.st));have b2:=b1.cc x.rc (decide (500≤x.an.st));have hgd:=BK hx w1.p.cfg.ignore;have c5:=lU w1.p.ro true;have c6:=lU w1.p.ro false;have c7:=EA (w1.cc x.rc (decide (500≤x.an.st))) x.ser (x.seen w1.p.cfg.ignore) true s2 b2 hgd;have c8:=Kb x.an.fs w1.p.cfg.ignore (Gv s1.cfg hx.ann hx.an);have c9:=KR x.dg (by have:=hx.dg;omega);have g1:x.rc=5→500≤x.an.st→w1.cc x.rc (decide (500≤x.an.st))=w1.obs true:=fun h1 h2=>by unfold Wd.cc;rw[if_pos h1,decide_eq_true h2]
 have g2:x.rc=5→¬500≤x.an.st→w1.cc x.rc (decide (500≤x.an.st))=w1.obs false:=fun h1 h2=>by unfold Wd.cc;rw[if_pos h1,decide_eq_false h2]
 have g3:x.rc≠5→w1.cc x.rc (decide (500≤x.an.st))=w1:=fun h1=>by unfold Wd.cc;rw[if_neg h1]
 have g4:(w1.cc x.rc (decide (500≤x.an.st))).p.cfg=w1.p.cfg:=by unfold Wd.cc;split<;>rfl
 have u3:((w1.cc x.rc (decide (500≤x.an.st))).prim x.ser (x.seen w1.p.cfg.ignore) true).p.ups=w.p.ups:=by rw[qX,zN,u1]
 have k3:bM ((w1.cc x.rc (decide (500≤x.an.st))).prim x.ser (x.seen w1.p.cfg.ignore) true).p.cls id=some k:=by rw[xX,k2]
 have s3:=s2.prim x.ser hgd true;have b3:=b2.prim (by omega) x.ser (x.seen w1.p.cfg.ignore) true;unfold Wd.cm3 at*;generalize (w1.cc x.rc (decide (500≤x.an.st))).prim x.ser (x.seen w1.p.cfg.ignore) true=w3 at*;generalize w1.cc x.rc (decide (500≤x.an.st))=w2 at*;rw[←g4] at c7 c8;have hj3:im w3.p.ups x.up=some j:=by rw[u3,hj]
 obtain⟨hjl,hjd⟩:=fE hj3;have c10:=iS w3.p x.up s3.ul;rw[hj3,bj] at c10;have hgu:=w3.get_up hjl;have hgu0:=hgu;have cp:=KD x.an.mi x.an.fs (by have:=hx.an;omega);have cd:=qm w3 x.up false s3 b3;have cr1:=uA w3.p.can x.up s3.can;have cr2:=uA w3.p.sta x.up s3.sta;have e3:x.keep (w3.up j)=false→w3.cm4 x j=w3.drop x.up false:=fun h=>by unfold Wd.cm4;rw[h];rfl
 have e4:x.keep (w3.up j)=true→w3.cm4 x j=w3.rel j x.up:=fun h=>by unfold Wd.cm4;rw[h];rfl
 unfold dl.keep at e3 e4;have k4:bM (w3.cm4 x j).p.cls id=some k:=by
  unfold Wd.cm4;split;·unfold Wd.rel;split<;>exact k3
  ·rw[eh,k3]
 have s4:(w3.cm4 x j).S:=by
  unfold Wd.cm4;split;·exact s3.rel hjl _
  ·exact s3.drop _ _
 have c11:=qI (w3.cm4 x j) id k s4 k4;generalize w3.cm4 x j=w4 at*;unfold fo jx at hgu;unfold o8 at cr1 cr2;unfold dw bf di bi eF bU oW zg jH at*;unfold dl.seen at c7;refine aH.mk (n:=190) Tryz.func146 rfl rfl rfl (Nat.le_of_ble_eq_true rfl) rfl (ah c1 (bh k rfl (by simpa using hlt) (az hg ?_)));refine dk ?_;apply bd (fun _:Unit=>True) (fun _=>⟨[(0,.op 0 0 0),(1,dI id),(4,.op 17 0 0)],[(0,some (fG w1 1 2 16)),(1,some (.buf 65 (w1.p.cls.map dU))),(2,some (.buf 33 (w1.p.ups.map fo))),(16,some (.buf 5 (w1.out.map bn))),(17,some (.box [dI x.st,dI x.ser,dI x.born,dI x.up,dI x.rc,.d (.s x.rid),.d (.b x.rnew),.d (.s x.rq.m),.d (.s x.rq.t),dI x.rq.mi,.d (.sl 2 (x.rq.fs.map aL)),.d (.b x.rq.fr),.d (.sl 1 (aD x.rq.body)),.d (.b x.cl),.d (.b x.hd),.d (.b x.sto),dI x.an.st,.d (.s x.an.rs),dI x.an.mi,.d (.sl 2 (x.an.fs.map aL)),.d (.sl 1 (aD x.an.body)),.d (.sl 1 (aD x.store)),dI x.size,.d (.i .u32 x.dg.s.x0),.d (.i .u32 x.dg.s.x1),.d (.i .u32 x.dg.s.x2),.d (.i .u32 x.dg.s.x3),.d (.i .u32 x.dg.s.x4),.d (.i .u32 x.dg.s.x5),.d (.i .u32 x.dg.s.x6),.d (.i .u32 x.dg.s.x7),dI x.dg.n,.d (.sl 1 (aD x.dg.t))]))],2⟩)
 ·cases hst:x.sto
  ·have:=e2 hst;subst this;repeat'(first|refine ad ?_|refine dk ?_|refine ae (fun _=>?_) (fun _=>?_)|refine aq ?_)
   apply aC () [(16,_),(17,_)] trivial;((repeat' constructor)<;>(first|refine aI ?_|rfl)<;>first|with_reducible rfl|(simp only[Wd.setC,Wd.setU,Wd.act,aQ,aP,Ns,Ng,hst];rfl)|(congr 1<;>omega)|(congr 1<;>simp;done)|(simp;done)|rfl|skip)
  ·rw[e1 hst];repeat'(first|refine ad ?_|refine dk ?_|refine ah (c2) ?_|refine ah (c3) ?_|refine ae (fun _=>?_) (fun _=>?_)|refine aq ?_)
   apply ak [(0,_),(1,_),(2,_),(3,_)] c4;·exact be
   ·repeat'(first|refine ad ?_|refine dk ?_|refine ae (fun _=>?_) (fun _=>?_)|refine aq ?_)
    apply aC () [(16,_),(17,_)] trivial;((repeat' constructor)<;>(first|refine aI ?_|rfl)<;>first|with_reducible rfl|(simp only[Wd.setC,Wd.setU,Wd.act,aQ,aP,Ns,Ng,hst];rfl)|(congr 1<;>omega)|(congr 1<;>simp;done)|(simp;done)|rfl|skip)
 ·rintro _ _;apply bd (fun _:Unit=>True) (fun _=>⟨[(0,.op 0 0 0),(1,dI id),(4,.op 17 0 0)],[(0,some (fG w2 1 2 16)),(1,some (.buf 65 (w2.p.cls.map dU))),(2,some (.buf 33 (w2.p.ups.map fo))),(16,some (.buf 5 (w2.out.map bn))),(17,some (.box [dI x.st,dI x.ser,dI x.born,dI x.up,dI x.rc,.d (.s x.rid),.d (.b x.rnew),.d (.s x.rq.m),.d (.s x.rq.t),dI x.rq.mi,.d (.sl 2 (x.rq.fs.map aL)),.d (.b x.rq.fr),.d (.sl 1 (aD x.rq.body)),.d (.b x.cl),.d (.b x.hd),.d (.b x.sto),dI x.an.st,.d (.s x.an.rs),dI x.an.mi,.d (.sl 2 (x.an.fs.map aL)),.d (.sl 1 (aD x.an.body)),.d (.sl 1 (aD x.store)),dI x.size,.d (.i .u32 x.dg.s.x0),.d (.i .u32 x.dg.s.x1),.d (.i .u32 x.dg.s.x2),.d (.i .u32 x.dg.s.x3),.d (.i .u32 x.dg.s.x4),.d (.i .u32 x.dg.s.x5),.d (.i .u32 x.dg.s.x6),.d (.i .u32 x.dg.s.x7),dI x.dg.n,.d (.sl 1 (aD x.dg.t))]))],2⟩)
  ·by_cases h5:x.rc=5
   ·by_cases h6:500≤x.an.st
    ·rw[g1 h5 h6];repeat'(first|refine ad ?_|refine dk ?_|refine ah (c5) ?_|refine aj h5 ?_|refine aj h6 ?_|refine ae (fun _=>?_) (fun _=>?_)|refine aq ?_)
     apply aC () [(16,_),(17,_)] trivial;((repeat' constructor)<;>(first|refine aI ?_|rfl)<;>first|with_reducible rfl|(simp only[Wd.obs];rfl)|(congr 1<;>omega)|(congr 1<;>simp;done)|(simp;done)|rfl|skip)
    ·rw[g2 h5 h6];repeat'(first|refine ad ?_|refine dk ?_|refine ah (c6) ?_|refine aj h5 ?_|refine ai h6 ?_|refine ae (fun _=>?_) (fun _=>?_)|refine aq ?_)
     apply aC () [(16,_),(17,_)] trivial;((repeat' constructor)<;>(first|refine aI ?_|rfl)<;>first|with_reducible rfl|(simp only[Wd.obs];rfl)|(congr 1<;>omega)|(congr 1<;>simp;done)|(simp;done)|rfl|skip)
   ·rw[g3 h5];repeat'(first|refine ad ?_|refine dk ?_|refine ai h5 ?_|refine ae (fun _=>?_) (fun _=>?_)|refine aq ?_)
    apply aC () [(16,_),(17,_)] trivial;exact be
  ·rintro _ _;repeat'(first|refine ad ?_|refine dk ?_|refine ah (c8) ?_|refine ah (c9) ?_|refine ae (fun _=>?_) (fun _=>?_)|refine aq ?_)
   apply ak [(0,_),(1,_),(2,_),(3,_)] c7;·exact be
   ·refine dk ?_;refine ah c10 ?_;refine dk ?_;refine bh j rfl (by simpa using hjl) (az hgu ?_);apply bd (fun _:Unit=>True) (fun _=>⟨[(0,.op 0 0 0),(1,dI id)],[(0,some (fG w4 17 18 16)),(17,some (.buf 65 (w4.p.cls.map dU))),(18,some (.buf 33 (w4.p.ups.map fo))),(16,some (.buf 5 (w4.out.map bn)))],2⟩)
    ·cases hp:xU x.an.mi x.an.fs
     ·rw[hp] at cp e3;rw[e3 (by simp[*])];repeat'(first|refine ad ?_|refine dk ?_|refine ah (cp) ?_|refine aj h6 ?_|refine ai h6 ?_|refine aj h7 ?_|refine ai h7 ?_|refine aj h8 ?_|refine ai h8 ?_|refine ae (fun _=>?_) (fun _=>?_)|refine aq ?_)
      apply ak [(0,_),(1,_),(2,_),(3,_)] cd;·exact be
      ·repeat'(first|refine ad ?_|refine dk ?_|refine ae (fun _=>?_) (fun _=>?_)|refine aq ?_)
       apply aC () [(16,_),(17,_),(18,_)] trivial;exact be
     ·rw[hp] at cp e3 e4;by_cases h6:(w3.up j).rd.fm.kd≠4
      ·by_cases h7:((aD (w3.up j).po.inn.dat).length:Int)=0
       ·have h7':(w3.up j).po.inn.dat.length=0:=by rw[aK] at h7;omega
        by_cases h8:((aD (w3.up j).po.out.dat).length:Int)=0
        ·have h8':(w3.up j).po.out.dat.length=0:=by rw[aK] at h8;omega
         cases he:(w3.up j).po.ended
         ·rw[he] at hgu;rw[e4 (by simp[*])];unfold Wd.rel;by_cases h9:(w3.up j).po.cls=5
          ·rw[if_pos h9];repeat'(first|refine ad ?_|refine dk ?_|refine ah (cp) ?_|refine aj h6 ?_|refine ai h6 ?_|refine aj h7 ?_|refine ai h7 ?_|refine aj h8 ?_|refine ai h8 ?_|refine ah (cr1) ?_|refine ah (cr2) ?_|refine bh j rfl (by simpa using hjl) ?_|refine ax hgu ?_|refine aj h9 ?_|refine ae (fun _=>?_) (fun _=>?_)|refine aq ?_)
           apply aC () [(16,_),(17,_),(18,_)] trivial;((repeat' constructor)<;>(first|refine aI ?_|rfl)<;>first|exact lg_|skip);all_goals simp only[aP,fo,jx,he]
          ·rw[if_neg h9];repeat'(first|refine ad ?_|refine dk ?_|refine ah (cp) ?_|refine aj h6 ?_|refine ai h6 ?_|refine aj h7 ?_|refine ai h7 ?_|refine aj h8 ?_|refine ai h8 ?_|refine ah (cr1) ?_|refine ah (cr2) ?_|refine bh j rfl (by simpa using hjl) ?_|refine ax hgu ?_|refine ai h9 ?_|refine ae (fun _=>?_) (fun _=>?_)|refine aq ?_)
           apply aC () [(16,_),(17,_),(18,_)] trivial;((repeat' constructor)<;>(first|refine aI ?_|rfl)<;>first|exact lg_|skip);all_goals simp only[aP,fo,jx,he]
         ·rw[he] at hgu;rw[e3 (by simp[*])];repeat'(first|refine ad ?_|refine dk ?_|refine ah (cp) ?_|refine aj h6 ?_|refine ai h6 ?_|refine aj h7 ?_|refine ai h7 ?_|refine aj h8 ?_|refine ai h8 ?_|refine ae (fun _=>?_) (fun _=>?_)|refine aq ?_)
          apply ak [(0,_),(1,_),(2,_),(3,_)] cd;·exact be
          ·repeat'(first|refine ad ?_|refine dk ?_|refine ae (fun _=>?_) (fun _=>?_)|refine aq ?_)
           apply aC () [(16,_),(17,_),(18,_)] trivial;exact be
        ·have h8':(w3.up j).po.out.dat.length≠0:=by rw[aK] at h8;omega
         rw[e3 (by simp[*])];repeat'(first|refine ad ?_|refine dk ?_|refine ah (cp) ?_|refine aj h6 ?_|refine ai h6 ?_|refine aj h7 ?_|refine ai h7 ?_|refine aj h8 ?_|refine ai h8 ?_|refine ae (fun _=>?_) (fun _=>?_)|refine aq ?_)
         apply ak [(0,_),(1,_),(2,_),(3,_)] cd;·exact be
         ·repeat'(first|refine ad ?_|refine dk ?_|refine ae (fun _=>?_) (fun _=>?_)|refine aq ?_)
          apply aC () [(16,_),(17,_),(18,_)] trivial;exact be
       ·have h7':(w3.up j).po.inn.dat.length≠0:=by rw[aK] at h7;omega
        rw[e3 (by simp[*])];repeat'(first|refine ad ?_|refine dk ?_|refine ah (cp) ?_|refine aj h6 ?_|refine ai h6 ?_|refine aj h7 ?_|refine ai h7 ?_|refine aj h8 ?_|refine ai h8 ?_|refine ae (fun _=>?_) (fun _=>?_)|refine aq ?_)
        apply ak [(0,_),(1,_),(2,_),(3,_)] cd;·exact be
        ·repeat'(first|refine ad ?_|refine dk ?_|refine ae (fun _=>?_) (fun _=>?_)|refine aq ?_)
         apply aC () [(16,_),(17,_),(18,_)] trivial;exact be
      ·have h6':(w3.up j).rd.fm.kd=4:=Nq.1 h6;rw[e3 (by simp[*])];repeat'(first|refine ad ?_|refine dk ?_|refine ah (cp) ?_|refine aj h6 ?_|refine ai h6 ?_|refine aj h7 ?_|refine ai h7 ?_|refine aj h8 ?_|refine ai h8 ?_|refine ae (fun _=>?_) (fun _=>?_)|refine aq ?_)
       apply ak [(0,_),(1,_),(2,_),(3,_)] cd;·exact be
       ·repeat'(first|refine ad ?_|refine dk ?_|refine ae (fun _=>?_) (fun _=>?_)|refine aq ?_)
        apply aC () [(16,_),(17,_),(18,_)] trivial;exact be
    ·rintro _ _;repeat'(first|refine ad ?_|refine dk ?_|refine ae (fun _=>?_) (fun _=>?_)|refine aq ?_)
     apply ak [(0,_),(1,_),(2,_),(3,_)] c11;·exact be
     ·repeat'(first|refine ad ?_|refine dk ?_|refine ae (fun _=>?_) (fun _=>?_)|refine aq ?_)
      apply aw [(16,_),(17,_),(18,_)];exact be
def Wd.poolOf (w:Wd)(rc:Int):Po:=if rc=5 then w.p.can else w.p.sta
def Wd.setPool (w:Wd)(rc:Int)(p:Po):Wd:=if rc=5 then⟨{w.p with can:=p},w.out⟩ else⟨{w.p with sta:=p},w.out⟩
def bT (c:bk)(to:Int):Up:=⟨rx to c.cin (2*c.maxHead+c.maxBody+2000),false,0,.zero⟩
def jR (l:List Up)(to:Int):Nat:=MF (fun u:Up=>decide (u.po.id<to)) l
def Wd.insU (w:Wd)(to rc:Int):Wd:=⟨{w.p with ups:=w.p.ups.take (jR w.p.ups to)++[bT w.p.cfg to]++w.p.ups.drop (jR w.p.ups to)},w.out++[⟨2,to,rc,0,[]⟩]⟩
def Wd.fw1 (w:Wd)(rc:Int)(p:Po)(to:Int)(fresh:Bool):Wd:=if fresh then(w.setPool rc p).insU to rc else w.setPool rc p
def dl.to (x:dl)(to:Int)(fresh:Bool):dl:={x with st:=if fresh then 2 else 3,up:=to}
def Cl.to (c:Cl)(to:Int)(fresh:Bool):Cl:=⟨c.po,c.rd,c.last,c.ex.to to fresh⟩
def Wd.fw2 (w:Wd)(k:Nat)(to:Int)(fresh:Bool):Wd:=w.setC k ((w.cl k).to to fresh)
def Cm (x:dl)(id:Int)(m:Bool):List UInt8:=mB (oB x.rq id x.ser m)
def Up.fw (u:Up)(x:dl)(id:Int):Up:=⟨(u.po.put (Cm x id false)).p,u.opn,id,rL x.rq.m⟩
def Wd.fw3 (w:Wd)(x:dl)(j:Nat)(id to:Int):Wd:=(w.setU j ((w.up j).fw x id)).send to ((w.up j).po.put (Cm x id false)).sent
def Wd.fw4 (w:Wd)(x:dl)(id:Int):Wd:=if w.p.cfg.mirror then⟨{w.p with sh:=(CI w.p.sh w.p.cfg x.ser w.p.now x.rq.m (Cm x id true)).1},w.out++(CI w.p.sh w.p.cfg x.ser w.p.now x.rq.m (Cm x id true)).2⟩ else w
def Wd.busy (w:Wd)(k:Nat)(id:Int):Wd:=(w.put id (bD 503 (w.cl k).ex.rq.m (w.cl k).ex.cl)).over k
def Wd.forward (w:Wd)(k j:Nat)(id:Int):Wd:=match fZ (w.poolOf (w.cl k).ex.rc) with|none=>w.busy k id|some (p,to,fresh)=>(((w.fw1 (w.cl k).ex.rc p to fresh).fw2 k to fresh).fw3 (w.cl k).ex j id to).fw4 (w.cl k).ex id
theorem B8 {x:dl}(h:x.Gd)(hb:x.rq.body.length≤1000000)(id:Int)(hi:fT id)(m:Bool):br x.rq.fs≤10000000∧fT x.ser∧(oB x.rq id x.ser m).m.length≤100000∧(oB x.rq id x.ser m).t.length≤100000∧br (oB x.rq id x.ser m).fs≤1000000∧(oB x.rq id x.ser m).body.length≤1000000∧(Cm x id m).length≤6000000:=by
 have h1:=h.rq;have h2:=h.ser;have h3:(oB x.rq id x.ser m).m.length≤100000:=h.rqm;have h4:(oB x.rq id x.ser m).t.length≤100000:=h.rqt;have h5:=Fb x.rq id x.ser m (by omega) hi.2 (by omega);have h6:br (oB x.rq id x.ser m).fs≤1000000:=by show br (vI x.rq id x.ser m)≤_;omega
 have h7:(oB x.rq id x.ser m).body.length≤1000000:=hb;have h8:=EZ (oB x.rq id x.ser m);refine⟨by omega,⟨by omega,by omega⟩,h3,h4,h6,h7,?_⟩;unfold Cm;omega
theorem Wd.S.setPool {w:Wd}(h:w.S)(rc:Int){p:Po}(hp:ib p):(w.setPool rc p).S:=by
 unfold Wd.setPool;split;·exact⟨h.cfg,h.now,h.draw,h.ser,h.ro,h.pl,h.cl,h.ul,h.cg,h.ug,h.sta,hp,h.sh⟩
 ·exact⟨h.cfg,h.now,h.draw,h.ser,h.ro,h.pl,h.cl,h.ul,h.cg,h.ug,hp,h.can,h.sh⟩
theorem Wd.S.poolOf {w:Wd}(h:w.S)(rc:Int):ib (w.poolOf rc):=by
 unfold Wd.poolOf;split;·exact h.can
 ·exact h.sta
theorem wY {c:bk}(hc:c.Ok)(to:Int):(bT c to).Gd:=⟨ra _ _ _ hc.cin.2,dm.zero_g⟩
theorem Wd.S.insU {w:Wd}(h:w.S)(hl:w.p.ups.length<1000000)(to rc:Int):(w.insU to rc).S:=by
 have hk:=Aq (fun u:Up=>decide (u.po.id<to)) w.p.ups;refine⟨h.cfg,h.now,h.draw,h.ser,h.ro,h.pl,h.cl,?_,h.cg,?_,h.sta,h.can,h.sh⟩;·show(w.p.ups.take (jR w.p.ups to)++[bT w.p.cfg to]++w.p.ups.drop (jR w.p.ups to)).length≤_;simp only[Na,Nj,Nz,Nb,Nf];unfold jR;omega
 ·intro x hx;have hx:x∈w.p.ups.take (jR w.p.ups to)++[bT w.p.cfg to]++w.p.ups.drop (jR w.p.ups to):=hx;rcases Np.1 hx with hx|hx
  ·rcases Np.1 hx with hx|hx;·exact h.ug x (List.mem_of_mem_take hx)
   ·obtain rfl:=Nx.1 hx;exact wY h.cfg to
  ·exact h.ug x (List.mem_of_mem_drop hx)
theorem Wd.B.setPool {w:Wd}{n:Nat}(h:w.B n)(rc:Int)(p:Po):(w.setPool rc p).B n:=by unfold Wd.setPool;split<;>exact⟨h.lim,h.ol,h.ph⟩
theorem Wd.B.insU {w:Wd}{n:Nat}(h:w.B n)(hl:n<10000000000)(to rc:Int):(w.insU to rc).B (n+1):=by
 refine⟨hl,?_,?_⟩;·have:=h.ol;show(w.out++[_]).length≤_;simp;omega
 ·have h2:=h.ph;have e1:(w.insU to rc).bo=w.bo:=by show((w.out++[_]).map _).sum=_;simp[Wd.bo]
  have e2:(w.insU to rc).bc=w.bc:=rfl;have e3:(w.insU to rc).bu=w.bu:=by
   show((w.p.ups.take (jR w.p.ups to)++[bT w.p.cfg to]++w.p.ups.drop (jR w.p.ups to)).map _).sum=_;have:((w.p.ups.take (jR w.p.ups to)++w.p.ups.drop (jR w.p.ups to)).map fun u:Up=>u.po.bud.toNat).sum=w.bu:=by rw[NB];rfl
   simp only[Ng,List.sum_append] at*;have z:([bT w.p.cfg to].map fun u:Up=>u.po.bud.toNat).sum=0:=rfl;omega
  unfold Wd.phi at*;omega
end Go.Proofs.YtgfdbddglhblbaaGreat

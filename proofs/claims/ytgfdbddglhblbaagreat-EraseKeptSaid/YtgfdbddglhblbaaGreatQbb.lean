/- A part of the proof of what is stated of the erasing of a mirror. -/
import Derived.Test.YtgfdbddglhblbaaGreatQba
set_option maxHeartbeats 64000000
namespace Go.Proofs.YtgfdbddglhblbaaGreat
open Go.Eng
attribute [local irreducible] aO
set_option maxRecDepth 100000
def KH:List UInt8:=[72,84,84,80,47,49,46,49,32,49,48,48,32,67,111,110,116,105,110,117,101,13,10,13,10]
noncomputable def Wd.rqX (w:Wd)(k:Nat):jQ:=dH (w.cl k).rd (w.cl k).po.inn.dat w.p.cfg.maxHead w.p.cfg.maxBody (w.p.cfg.maxBody+1)
def su (x:jQ):Int:=if x.e=0∧x.k=1∧56<x.r.rq.fs.length then 3 else x.e
def Cl.take (c:Cl)(x:jQ):Cl:=⟨c.po.eat x.n,x.r,c.last,c.ex⟩
def Cl.exch (c:Cl)(x:dl):Cl:=⟨c.po,c.rd,c.last,x⟩
def dl.head (now:Int)(q:eL):dl:=⟨1,0,now,0,0,[],false,q,!xU q.mi q.fs,false,false,.zero,[],0,dig0⟩
def dl.route (x:dl)(c:bk)(ro:Ro)(draw ser:Int):dl:={x with ser:=ser,rc:=(AG c ro x.rq.fs draw ser).cls,rid:=(AG c ro x.rq.fs draw ser).id,rnew:=(AG c ro x.rq.fs draw ser).new}
def NT (s:Int):Int:=min (s+1) 1000000000
def Wd.rqH (w:Wd)(k:Nat)(q:eL):Wd:=if(w.cl k).po.cls=1 then⟨{w.p with ser:=NT w.p.ser,cls:=w.p.cls.set k ((w.cl k).exch ((dl.head w.p.now q).route w.p.cfg w.p.ro w.p.draw (NT w.p.ser)))},w.out⟩else w.setC k ((w.cl k).exch (dl.head w.p.now q))
def z5:List UInt8:=[101,120,112,101,99,116]
def Lc:List UInt8:=[49,48,48,45,99,111,110,116,105,110,117,101]
def Kt (q:eL):Bool:=q.fr&&(decide (q.mi=1)&&iy (cJ (aM z5 q.fs)) (Lc,[]))
def Wd.rqC (w:Wd)(id:Int)(q:eL):Wd:=if Kt q then w.put id KH else w
def dl.more (x:dl)(b:List UInt8):dl:={x with rq:={x.rq with body:=x.rq.body++b}}
noncomputable def Wd.request (w:Wd)(k:Nat)(id:Int):Wd×Bool:=if su (w.rqX k)≠0 then(w.refuse k id (su (w.rqX k)),true)else if(w.rqX k).k=1 then(((w.setC k ((w.cl k).take (w.rqX k))).rqH k (w.rqX k).r.rq).rqC id (w.rqX k).r.rq,true)else if(w.rqX k).k=2 then(w.setC k (((w.cl k).take (w.rqX k)).exch ((w.cl k).ex.more (w.rqX k).dat)),true)else if(w.rqX k).k=3 then((w.setC k ((w.cl k).take (w.rqX k))).dispatch k id,true)else if 0<(w.rqX k).n then(w.setC k ((w.cl k).take (w.rqX k)),true)else if(w.cl k).po.ended=false then(w.setC k ((w.cl k).take (w.rqX k)),false)else(w.setC k ((w.cl k).take (w.rqX k)).shut,true)
theorem Cl.Gd.take {c:Cl}(h:c.Gd)(hph:c.rd.ph=0→c.rd.sz=0){x:jQ}(hp:dx c.rd c.po.inn.dat x)(he:x.e=0):(c.take x).Gd:=by
 refine⟨FB h.po _,hp.g,h.ex,?_,h.last⟩;show(c.ex.rq.body.length:Int)≤x.r.sz;have hb:=h.body;by_cases h1:x.k=1;·have:=hph (hp.head he h1).1;have:=hp.szh he h1;omega
 ·have:=hp.szd he h1;omega
theorem Cl.Gd.head {c:Cl}(h:c.Gd){e:dl}(he:e.Gd)(hb:e.rq.body=[]):(c.exch e).Gd:=by refine⟨h.po,h.rd,he,?_,h.last⟩;show(e.rq.body.length:Int)≤c.rd.sz;have:=h.rd.sz;rw[hb];simp;omega
theorem dl.head_gd {r:dm}(h:r.G){now:Int}(hn:0≤now∧now≤1000000000):(dl.head now r.rq).Gd:=⟨h.rq,h.rqn,h.rqm,h.rqt,by show br []≤_;decide,by show([]:List bB).length≤_;decide,by show([]:List UInt8).length≤_;decide,by show(0:Int)≤0∧(0:Int)≤_;decide,by show((0:Nat):Int)≤0;decide,by show([]:List UInt8).length≤_;decide,by show([]:List UInt8).length≤_;decide,by show(0:Int)≤0∧(0:Int)≤_;decide,hn⟩
theorem dl.Gd.route {x:dl}(h:x.Gd)(c:bk)(ro:Ro)(draw:Int){ser:Int}(hs:0≤ser∧ser≤1000000000):(x.route c ro draw ser).Gd:=⟨h.rq,h.rqn,h.rqm,h.rqt,h.an,h.ann,h.anr,h.size,h.store,h.dg,by have:=xF c x.rq.fs draw ser;show(vU c x.rq.fs draw ser).1.length≤1000;omega,hs,h.born⟩
theorem vK {s:Int}(h:0≤s∧s≤1000000000):0≤NT s∧NT s≤1000000000:=by unfold NT;omega
theorem Wd.S.rqH {w:Wd}(h:w.S){k:Nat}(hk:k<w.p.cls.length){r:dm}(hr:r.G):(w.rqH k r.rq).S:=by
 have hg:=h.cg _ (w.cl_mem hk);have hn:0≤w.p.now∧w.p.now≤1000000000:=⟨h.now.1,by have:=h.now.2;omega⟩;have h1:=dl.head_gd hr hn;unfold Wd.rqH;split;·have hs:=vK h.ser;have h2:=h.setC k (c:=(w.cl k).exch ((dl.head w.p.now r.rq).route w.p.cfg w.p.ro w.p.draw (NT w.p.ser))) (hg.head (h1.route _ _ _ hs) hr.rqb);exact⟨h.cfg,h.now,h.draw,hs,h.ro,h.pl,h2.cl,h.ul,h2.cg,h.ug,h.sta,h.can,h.sh⟩
 ·exact h.setC k (hg.head h1 hr.rqb)
theorem Wd.B.rqH {w:Wd}{n:Nat}(h:w.B n){k:Nat}(hk:k<w.p.cls.length)(q:eL):(w.rqH k q).B n:=by
 unfold Wd.rqH;split;·have h2:=h.setC hk (c:=(w.cl k).exch ((dl.head w.p.now q).route w.p.cfg w.p.ro w.p.draw (NT w.p.ser))) (Int.le_refl _);exact⟨h2.lim,h2.ol,h2.ph⟩
 ·exact h.setC hk (Int.le_refl _)
theorem IA {w:Wd}{k:Nat}(hk:k<w.p.cls.length)(x:jQ)(q:eL)(h:(w.cl k).po.cls=1):(w.setC k ((w.cl k).take x)).rqH k q=⟨{w.p with ser:=NT w.p.ser,cls:=w.p.cls.set k (((w.cl k).take x).exch ((dl.head w.p.now q).route w.p.cfg w.p.ro w.p.draw (NT w.p.ser)))},w.out⟩:=by unfold Wd.rqH;rw[w.cl_setC hk,if_pos (show((w.cl k).take x).po.cls=1 from h)];simp only[Wd.setC,Ns]
theorem Lw {w:Wd}{k:Nat}(hk:k<w.p.cls.length)(x:jQ)(q:eL)(h:(w.cl k).po.cls≠1):(w.setC k ((w.cl k).take x)).rqH k q=w.setC k (((w.cl k).take x).exch (dl.head w.p.now q)):=by unfold Wd.rqH;rw[w.cl_setC hk,if_neg (show((w.cl k).take x).po.cls≠1 from h)];simp only[Wd.setC,Ns]
theorem xA (w:Wd)(k:Nat)(c:Cl)(rc:Int)(p:Po)(to:Int)(fr:Bool):((w.setC k c).fw1 rc p to fr).p.ups=(w.fw1 rc p to fr).p.ups:=by unfold Wd.fw1 Wd.setPool;split<;>split<;>rfl
theorem Cn (w:Wd)(k:Nat)(id:Int){n:Nat}(hs:w.S)(hw:w.B n)(hn:n+20≤10000000000)(hul:w.p.ups.length<1000000)(hi:fT id)(hk:bM w.p.cls id=some k)(hph:(w.cl k).rd.ph=0→(w.cl k).rd.sz=0)(hj:(w.rqX k).e=0→(w.rqX k).k=3→(w.cl k).po.cls=1→∀p to fr,fZ (w.poolOf (w.cl k).ex.rc)=some (p,to,fr)→im (w.fw1 (w.cl k).ex.rc p to fr).p.ups to=some ((w.setC k ((w.cl k).take (w.rqX k))).jF k)):aH (CG G) 110 [.op 0 0 0,dI id] (lP w) [.d (.b (w.request k id).2)] (jr (w.request k id).1):=by
 have c1:=dt w.p id hs.cl;rw[hk,bj] at c1;obtain⟨hlt,hid⟩:=aR hk;have hg:=w.get_cl hlt;have hcg:=hs.cg _ (w.cl_mem hlt);have hmb:=hs.cfg.maxBody;have hp:=gM (w.cl k).rd (w.cl k).po.inn.dat w.p.cfg.maxHead w.p.cfg.maxBody (w.p.cfg.maxBody+1) hcg.rd hcg.po.il (by omega);have c2:=EX (w.cl k).rd (w.cl k).po.inn.dat w.p.cfg.maxHead w.p.cfg.maxBody (w.p.cfg.maxBody+1) (by have:=hcg.po.il;omega) hcg.rd.inn (by omega) (by omega);have hX:dH (w.cl k).rd (w.cl k).po.inn.dat w.p.cfg.maxHead w.p.cfg.maxBody (w.p.cfg.maxBody+1)=w.rqX k:=rfl;rw[hX] at hp c2;generalize hR:w.request k id=R;unfold Wd.request at hR;have htk:=fun he=>hcg.take hph hp he;generalize hXv:w.rqX k=x at*;have c3:=IV w k id (su x) hs hw hk;have c4:=Mt (w.cl k).po x.n (by have:=hcg.po.il;omega);unfold jQ.ds gr bZ at c2;unfold ee bN at c4;unfold dU dD at hg;unfold dw bf at c1;refine mH 214 Tryz.func110 ?_;repeat'(first|refine ad ?_|refine dk ?_|refine ah (c1) ?_|refine bh k rfl (by simpa using hlt) ?_|refine az hg ?_|refine ae (fun _=>?_) (fun _=>?_)|refine aq ?_)
 refine ah c2 ?_;refine dk ?_;apply bd (fun _:Unit=>True) (fun _=>⟨[(0,.op 0 0 0),(1,dI id),(5,.op 17 0 0),(6,.op 1 k 0),(7,.op 18 0 0),(8,.op 19 0 0),(9,dI x.n),(10,dI (su x))],[(0,some (fG w 1 2 3)),(1,some (.buf 65 (w.p.cls.map dU))),(2,some (.buf 33 (w.p.ups.map fo))),(3,some (.buf 5 (w.out.map bn))),(17,some (.box [dI w.p.cfg.maxHead,dI w.p.cfg.maxBody,dI w.p.cfg.maxReply,dI w.p.cfg.cin,dI w.p.cfg.cout,dI w.p.cfg.clients,dI w.p.cfg.admins,dI w.p.cfg.listeners,dI w.p.cfg.stable,dI w.p.cfg.canary,dI w.p.cfg.shadow,dI w.p.cfg.tee,dI w.p.cfg.idle,dI w.p.cfg.reqd,dI w.p.cfg.shadd,dI w.p.cfg.reports,.d (.sl 1 (w.p.cfg.plan.ws.map (.i .i64))),dI w.p.cfg.plan.ms,dI w.p.cfg.plan.nu,dI w.p.cfg.plan.de,dI w.p.cfg.plan.ho,dI w.p.cfg.plan.wi,.d (.s w.p.cfg.salt),.d (.s w.p.cfg.cookie),.d (.b w.p.cfg.mirror),.d (.sl 1 (w.p.cfg.ignore.map .s))])),(18,some (.box [.d (.b x.r.rep),.d (.s x.r.meth),dI x.r.ph,.d (.s x.r.rq.m),.d (.s x.r.rq.t),dI x.r.rq.mi,.d (.sl 2 (x.r.rq.fs.map aL)),.d (.b x.r.rq.fr),.d (.sl 1 (aD x.r.rq.body)),dI x.r.an.st,.d (.s x.r.an.rs),dI x.r.an.mi,.d (.sl 2 (x.r.an.fs.map aL)),.d (.sl 1 (aD x.r.an.body)),dI x.r.fm.kd,dI x.r.fm.len,dI x.r.lf,dI x.r.sz,dI x.r.ck.ph,dI x.r.ck.lf,dI x.r.ck.tr,.d (.sl 1 (aD x.r.ck.ln))])),(19,some (.box [dI x.k,.d (.sl 1 (aD x.dat))]))],2⟩)
 ·have hml:(x.r.rq.fs.map aL).length=x.r.rq.fs.length:=by simp
  by_cases a1:x.e=0
  ·by_cases a2:x.k=1
   ·by_cases a3:56<x.r.rq.fs.length
    ·have e:su x=3:=by unfold su;rw[if_pos ⟨a1,a2,a3⟩]
     rw[e];repeat'(first|refine ad ?_|refine dk ?_|refine aj a1 ?_|refine aj a2 ?_|refine aj (by omega) ?_|refine ae (fun _=>?_) (fun _=>?_)|refine aq ?_)
     apply aC () [(17,_),(18,_),(19,_)] trivial;exact be
    ·have e:su x=x.e:=by unfold su;rw[if_neg (fun h=>a3 h.2.2)]
     rw[e];repeat'(first|refine ad ?_|refine dk ?_|refine aj a1 ?_|refine aj a2 ?_|refine ai (by omega) ?_|refine ae (fun _=>?_) (fun _=>?_)|refine aq ?_)
     apply aC () [(17,_),(18,_),(19,_)] trivial;exact be
   ·have e:su x=x.e:=by unfold su;rw[if_neg (fun h=>a2 h.2.1)]
    rw[e];repeat'(first|refine ad ?_|refine dk ?_|refine aj a1 ?_|refine ai a2 ?_|refine ae (fun _=>?_) (fun _=>?_)|refine aq ?_)
    apply aC () [(17,_),(18,_),(19,_)] trivial;exact be
  ·have e:su x=x.e:=by unfold su;rw[if_neg (fun h=>a1 h.1)]
   rw[e];repeat'(first|refine ad ?_|refine dk ?_|refine ai a1 ?_|refine ae (fun _=>?_) (fun _=>?_)|refine aq ?_)
   apply aC () [(17,_),(18,_),(19,_)] trivial;exact be
 ·rintro _ _;by_cases hE:su x≠0
  ·rw[if_pos hE] at hR;subst hR;repeat'(first|refine ad ?_|refine dk ?_|refine aj hE ?_|refine ae (fun _=>?_) (fun _=>?_)|refine aq ?_)
   apply ak [(0,_),(1,_),(2,_),(3,_)] c3;·exact be
   ·repeat'(first|refine ad ?_|refine dk ?_|refine ae (fun _=>?_) (fun _=>?_)|refine aq ?_)
    apply aw [(16,_),(17,_),(18,_)];exact be
  ·rw[if_neg hE] at hR;have hE0:su x=0:=Nq.1 hE;have he:x.e=0:=by
    unfold su at hE0;split at hE0;·cases hE0
    ·exact hE0
   have tkG:=htk he;have s1:=hs.setC k tkG;have b1:=hw.setC (c:=(w.cl k).take x) hlt (Int.le_refl _);have g1:=w.cl_setC hlt ((w.cl k).take x);have k1:bM (w.setC k ((w.cl k).take x)).p.cls id=some k:=by rw[kh w k ((w.cl k).take x) rfl,hk]
   have hlt1:=(aR k1).1;have hg1:=(w.setC k ((w.cl k).take x)).get_cl hlt1;rw[g1] at hg1;have hjj:=hj he;by_cases h1:x.k=1
   ·rw[if_pos h1] at hR;have hfs:=hp.g.rq;have hfn:=hp.g.rqn;have hser0:=hs.ser;have hser:=vK hs.ser;have cp:=KD x.r.rq.mi x.r.rq.fs (by omega);have cs:=wQ;have cc:=I0 w.p.cfg w.p.ro x.r.rq.fs w.p.draw (NT w.p.ser) hs.cfg (by omega) hs.draw ⟨by omega,by omega⟩;have s2:=s1.rqH hlt1 hp.g;have b2:=b1.rqH hlt1 x.r.rq;have f1:=sO ((w.setC k ((w.cl k).take x)).rqH k x.r.rq) id KH s2 b2 (by decide);have hlst:=rE (aM z5 x.r.rq.fs);have hvl:=cK (cv z5) x.r.rq.fs;have ce:=Aa x.r.rq.fs z5 (by omega) (by decide);have ci:=iN (cJ (aM z5 x.r.rq.fs)) (Lc,[]) (by have:=kI (cJ (aM z5 x.r.rq.fs));unfold aM at*;omega) (fun y hy=>by have:=gT hy;unfold aM at*;omega) (by decide);have hH1:=IA hlt x x.r.rq;have hH2:=Lw hlt x x.r.rq;unfold Wd.rqC Kt at hR;unfold di bi oW bP at*;generalize (w.setC k ((w.cl k).take x)).rqH k x.r.rq=w2 at*;refine ad ?_;refine ai (fun h=>hE h) ?_;repeat'(first|refine dk ?_|refine ah (c4) ?_|refine bh k rfl (by simpa using hlt) ?_|refine ax (au (by simpa using hlt)) ?_|refine ax hg ?_|refine az (au (by simpa using hlt)) ?_|refine az hg ?_)
    refine ad ?_;refine aj h1 ?_;repeat'(first|refine dk ?_|refine bh k rfl (by simpa using hlt) ?_|refine ax (au (by simpa using hlt)) ?_|refine ax hg ?_|refine az (au (by simpa using hlt)) ?_|refine az hg ?_)
    refine bp cp (fun hpf=>?_) (fun hpf=>?_);all_goals
     refine ah cs ?_;repeat'(first|refine dk ?_|refine bh k rfl (by simpa using hlt) ?_|refine ax (au (by simpa using hlt)) ?_|refine ax hg ?_|refine az (au (by simpa using hlt)) ?_|refine az hg ?_)
     apply bd (fun _:Unit=>True) (fun _=>⟨[(0,.op 0 0 0),(1,dI id),(11,.op 20 0 0)],[(0,some (fG w2 1 2 3)),(1,some (.buf 65 (w2.p.cls.map dU))),(2,some (.buf 33 (w2.p.ups.map fo))),(3,some (.buf 5 (w2.out.map bn))),(20,some (.box [.d (.s x.r.rq.m),.d (.s x.r.rq.t),dI x.r.rq.mi,.d (.sl 2 (x.r.rq.fs.map aL)),.d (.b x.r.rq.fr),.d (.sl 1 (aD x.r.rq.body))]))],2⟩)
     ·by_cases hcl:(w.cl k).po.cls=1
      ·have hw2:=hH1 hcl;subst hw2;repeat'(first|refine ad ?_|refine dk ?_|refine ah (cc) ?_|refine aj hcl ?_|refine bh k rfl (by simpa using hlt) ?_|refine ax (au (by simpa using hlt)) ?_|refine ax hg ?_|refine az (au (by simpa using hlt)) ?_|refine az hg ?_|refine ae (fun _=>?_) (fun _=>?_)|refine aq ?_)
       apply aC () [(20,_)] trivial;((repeat' constructor)<;>(first|refine aI ?_|rfl)<;>first|with_reducible rfl|(simp only[aQ,Ns,Cl.exch,Cl.take,dl.route,dl.head,hpf];rfl)|(congr 1<;>omega)|(congr 1<;>simp;done)|(simp;done)|rfl|skip)
      ·have hw2:=hH2 hcl;subst hw2;repeat'(first|refine ad ?_|refine dk ?_|refine ai hcl ?_|refine bh k rfl (by simpa using hlt) ?_|refine ax (au (by simpa using hlt)) ?_|refine ax hg ?_|refine az (au (by simpa using hlt)) ?_|refine az hg ?_|refine ae (fun _=>?_) (fun _=>?_)|refine aq ?_)
       apply aC () [(20,_)] trivial;((repeat' constructor)<;>(first|refine aI ?_|rfl)<;>first|with_reducible rfl|(simp only[Wd.setC,aQ,Ns,Cl.exch,Cl.take,dl.head,hpf];rfl)|(congr 1<;>omega)|(congr 1<;>simp;done)|(simp;done)|rfl|skip)
     ·rintro _ _;generalize hfr:x.r.rq.fr=fr at*;cases fr
      ·simp only[Bool.false_and,Bool.false_eq_true,if_false] at hR;subst hR;repeat'(first|refine ad ?_|refine dk ?_|refine ae (fun _=>?_) (fun _=>?_)|refine aq ?_)
       apply aw [(16,_),(17,_),(18,_)];exact be
      ·simp only[Bool.true_and] at hR;by_cases hmi:x.r.rq.mi=1
       ·rw[decide_eq_true hmi,Bool.true_and] at hR;generalize iy (cJ (aM z5 x.r.rq.fs)) (Lc,[])=an at*;cases an
        ·simp only[Bool.false_eq_true,if_false] at hR;subst hR;repeat'(first|refine ad ?_|refine dk ?_|refine ah (ce) ?_|refine ah (ci) ?_|refine aj hmi ?_|refine ae (fun _=>?_) (fun _=>?_)|refine aq ?_)
         apply aw [(16,_),(17,_),(18,_)];exact be
        ·simp only[if_true] at hR;subst hR;repeat'(first|refine ad ?_|refine dk ?_|refine ah (ce) ?_|refine ah (ci) ?_|refine aj hmi ?_|refine ae (fun _=>?_) (fun _=>?_)|refine aq ?_)
         apply ak [(0,_),(1,_),(2,_),(3,_)] f1;·exact be
         ·repeat'(first|refine ad ?_|refine dk ?_|refine ae (fun _=>?_) (fun _=>?_)|refine aq ?_)
          apply aw [(16,_),(17,_),(18,_)];exact be
       ·rw[decide_eq_false hmi,Bool.false_and] at hR;simp only[Bool.false_eq_true,if_false] at hR;subst hR;repeat'(first|refine ad ?_|refine dk ?_|refine ai hmi ?_|refine ae (fun _=>?_) (fun _=>?_)|refine aq ?_)
        apply aw [(16,_),(17,_),(18,_)];exact be
   ·rw[if_neg h1] at hR;have hnx:∀P:Prop,¬su x≠0→(¬¬su x=0):=fun _ h=>h;by_cases h2:x.k=2
    ·rw[if_pos h2] at hR;subst hR;have hbl:=aK (w.cl k).ex.rq.body;have hdl:=aK x.dat;have hb0:=hcg.body;have hb1:=hcg.rd.sz;have hd0:=hp.dat;have hd1:=hp.n.2;have hd2:=hcg.po.il;refine ad ?_;refine ai (fun h=>hE h) ?_;repeat'(first|refine dk ?_|refine ah (c4) ?_|refine bh k rfl (by simpa using hlt) ?_|refine ax (au (by simpa using hlt)) ?_|refine ax hg ?_|refine az (au (by simpa using hlt)) ?_|refine az hg ?_)
     refine ad ?_;refine ai h1 ?_;repeat'(first|refine ad ?_|refine dk ?_|refine aj h2 ?_|refine aB (by simp;omega) ?_|refine bh k rfl (by simpa using hlt) ?_|refine ax (au (by simpa using hlt)) ?_|refine ax hg ?_|refine az (au (by simpa using hlt)) ?_|refine az hg ?_|refine ae (fun _=>?_) (fun _=>?_)|refine aq ?_)
     apply aw [(16,_),(17,_),(18,_)];((repeat' constructor)<;>(first|refine aI ?_|rfl)<;>first|with_reducible rfl|(simp only[Wd.setC,aQ,Ns,Cl.exch,Cl.take,dl.more,List.nil_append,cU];rfl)|(congr 1<;>omega)|(congr 1<;>simp;done)|(simp;done)|rfl|skip)
    ·rw[if_neg h2] at hR;by_cases h3:x.k=3
     ·rw[if_pos h3] at hR;subst hR;have d1:=AK (w.setC k ((w.cl k).take x)) k id s1 b1 (by omega) hul hi k1 (fun h p to fr ha=>by rw[g1] at h ha⊢;rw[xA];exact hjj h3 h p to fr ha);refine ad ?_;refine ai (fun h=>hE h) ?_;repeat'(first|refine dk ?_|refine ah (c4) ?_|refine bh k rfl (by simpa using hlt) ?_|refine ax (au (by simpa using hlt)) ?_|refine ax hg ?_|refine az (au (by simpa using hlt)) ?_|refine az hg ?_)
      refine ad ?_;refine ai h1 ?_;repeat'(first|refine ad ?_|refine dk ?_|refine ai h2 ?_|refine aj h3 ?_|refine bh k rfl (by simpa using hlt) ?_|refine ax (au (by simpa using hlt)) ?_|refine ax hg ?_|refine az (au (by simpa using hlt)) ?_|refine az hg ?_|refine ae (fun _=>?_) (fun _=>?_)|refine aq ?_)
      apply ak [(0,_),(1,_),(2,_),(3,_)] d1;·((repeat' constructor)<;>(first|refine aI ?_|rfl)<;>first|with_reducible rfl|(simp only[Wd.setC,aQ,Ns,Cl.take];rfl)|(congr 1<;>omega)|(congr 1<;>simp;done)|(simp;done)|rfl|skip)
      ·repeat'(first|refine ad ?_|refine dk ?_|refine ae (fun _=>?_) (fun _=>?_)|refine aq ?_)
       apply aw [(16,_),(17,_),(18,_)];exact be
     ·rw[if_neg h3] at hR;by_cases h4:0<x.n
      ·rw[if_pos h4] at hR;subst hR;refine ad ?_;refine ai (fun h=>hE h) ?_;repeat'(first|refine dk ?_|refine ah (c4) ?_|refine bh k rfl (by simpa using hlt) ?_|refine ax (au (by simpa using hlt)) ?_|refine ax hg ?_|refine az (au (by simpa using hlt)) ?_|refine az hg ?_)
       refine ad ?_;refine ai h1 ?_;repeat'(first|refine ad ?_|refine dk ?_|refine ai h2 ?_|refine ai h3 ?_|refine aj h4 ?_|refine bh k rfl (by simpa using hlt) ?_|refine ax (au (by simpa using hlt)) ?_|refine ax hg ?_|refine az (au (by simpa using hlt)) ?_|refine az hg ?_|refine ae (fun _=>?_) (fun _=>?_)|refine aq ?_)
       apply aw [(16,_),(17,_),(18,_)];((repeat' constructor)<;>(first|refine aI ?_|rfl)<;>first|with_reducible rfl|(simp only[Wd.setC,aQ,Ns,Cl.take];rfl)|(congr 1<;>omega)|(congr 1<;>simp;done)|(simp;done)|rfl|skip)
      ·rw[if_neg h4] at hR;clear c1 c2 c3 hj hjj hp htk tkG s1 b1 g1 k1 hlt1 hg1 hid hcg hph hX hXv;generalize w.cl k=c at*;obtain⟨⟨pid,pcls,inn,out,bud,en,clo⟩,rd,last,ex⟩:=c;cases en
       ·simp only[if_true] at hR;subst hR;refine ad ?_;refine ai (fun h=>hE h) ?_;repeat'(first|refine dk ?_|refine ah (c4) ?_|refine bh k rfl (by simpa using hlt) ?_|refine ax (au (by simpa using hlt)) ?_|refine ax hg ?_|refine az (au (by simpa using hlt)) ?_|refine az hg ?_)
        refine ad ?_;refine ai h1 ?_;repeat'(first|refine ad ?_|refine dk ?_|refine ai h2 ?_|refine ai h3 ?_|refine ai h4 ?_|refine bh k rfl (by simpa using hlt) ?_|refine ax (au (by simpa using hlt)) ?_|refine ax hg ?_|refine az (au (by simpa using hlt)) ?_|refine az hg ?_|refine ae (fun _=>?_) (fun _=>?_)|refine aq ?_)
        apply aw [(16,_),(17,_),(18,_)];((repeat' constructor)<;>(first|refine aI ?_|rfl)<;>first|with_reducible rfl|(simp only[Wd.setC,aQ,Ns,Cl.take];rfl)|(congr 1<;>omega)|(congr 1<;>simp;done)|(simp;done)|rfl|skip)
       ·simp only[Bool.true_eq_false,if_false] at hR;subst hR;refine ad ?_;refine ai (fun h=>hE h) ?_;repeat'(first|refine dk ?_|refine ah (c4) ?_|refine bh k rfl (by simpa using hlt) ?_|refine ax (au (by simpa using hlt)) ?_|refine ax hg ?_|refine az (au (by simpa using hlt)) ?_|refine az hg ?_)
        refine ad ?_;refine ai h1 ?_;repeat'(first|refine ad ?_|refine dk ?_|refine ai h2 ?_|refine ai h3 ?_|refine ai h4 ?_|refine bh k rfl (by simpa using hlt) ?_|refine ax (au (by simpa using hlt)) ?_|refine ax hg ?_|refine az (au (by simpa using hlt)) ?_|refine az hg ?_|refine ae (fun _=>?_) (fun _=>?_)|refine aq ?_)
        apply aw [(16,_),(17,_),(18,_)];((repeat' constructor)<;>(first|refine aI ?_|rfl)<;>first|with_reducible rfl|(simp only[Wd.setC,aQ,Ns,Cl.take,Cl.shut];rfl)|(congr 1<;>omega)|(congr 1<;>simp;done)|(simp;done)|rfl|skip)
theorem zu (l:List bB):(l.flatMap oX).length≤br l+3*l.length:=by induction l with|nil=>simp;|cons f r ih=>rw[dj];simp only[List.flatMap_cons,Na,oX,Nb,Nf];omega
theorem yv (r:eL):(gO r).length≤r.m.length+r.t.length+br r.fs+3*r.fs.length+44:=by
 have h1:=ic r;have h2:(qJ r.fs).length≤br r.fs+3*r.fs.length:=by
  unfold qJ;split;·exact zu _
  ·simp
 unfold gO;split;·simp
 ·simp only[Na,zD,Nb,Nf];omega
theorem D0 (r:eL):(mB r).length≤r.m.length+r.t.length+br r.fs+3*r.fs.length+44+r.body.length:=by
 have:=yv r;unfold mB;split;·simp
 ·simp only[Na];omega
theorem Cf (n:List UInt8)(l:List bB):br (ga [n] l)+aX (aM n l)≤br l:=by have h0:aX []=0:=rfl;induction l with|nil=>exact Nat.le_refl _;|cons f r ih=>
 rw[dj];unfold ga aM at*;simp only[List.filter_cons,iy,List.any_cons,List.any_nil,Bool.or_false] at*;cases h:cv n f;·simp only[Bool.not_false,if_true,dj,Bool.false_eq_true,if_false];omega
 ·simp only[Bool.not_true,Bool.false_eq_true,if_false,if_true,Nw,ca];omega
theorem qB (l:List bB)(n m:List UInt8):br (dB l n m)≤2*br l+n.length+2*m.length+3:=by have h1:=rE (aM n l);have h2:=li (cJ (aM n l)++[m]) yr (by decide);have h3:=Cf n l;rw[mF] at h2;unfold dB;rw[b7,ez];simp only[ca] at h2;have:aX []=0:=rfl;simp only;omega
theorem tA (l:List bB)(n m:List UInt8):(dB l n m).length≤l.length+1:=by unfold dB ga;have:=NC (fun f=>!iy [n] f) l;simp only[Na,Nb,Nf];omega
theorem F6 (r:eL)(peer ser:Int)(mir:Bool)(hb:r.body.length≤100000000)(hp:peer≤9223372036854775807)(hs:ser≤9223372036854775807):br (vI r peer ser mir)≤4*br r.fs+230∧(vI r peer ser mir).length≤r.fs.length+5:=by
 have l1:=bv (n:=peer) hp;have l2:=bv (n:=ser) hs;have l3:=bv (n:=(r.body.length:Int)) (by omega);have h2:br (ga [mR,mf] r.fs)≤br r.fs:=dL _ _;have g2:(ga [mR,mf] r.fs).length≤r.fs.length:=NC _ _;unfold vI;generalize ga [mR,mf] r.fs=u at*;have h3:=iK u;have g3:(bw u).length≤u.length:=NC _ _;have h4:=qB (bw u) jX (aY 10 peer);have h5:=qB (dB (bw u) jX (aY 10 peer)) gN gZ;have g4:=tA (bw u) jX (aY 10 peer);have g5:=tA (dB (bw u) jX (aY 10 peer)) gN gZ;have e1:jX.length=15:=rfl;have e2:gN.length=3:=rfl;have e3:gZ.length=10:=rfl;have e4:qn.length=14:=rfl;have e5:Es.length=12:=rfl;have e6:Il.length=8:=rfl;have e7:br []=0:=rfl;have key:∀(fr:Bool),br (kr u fr r.body.length (aY 10 peer))≤4*br r.fs+180∧(kr u fr r.body.length (aY 10 peer)).length≤r.fs.length+3:=by
  intro fr;unfold kr;rw[b7,Na];cases fr;·simp only[Bool.false_eq_true,if_false,Nf];omega
  ·simp only[if_true,ez,Nb,Nf];omega
 obtain⟨k1,k2⟩:=key r.fr;generalize kr _ _ _ _=w at*;rw[b7,b7,ez,Na,Na];cases mir;·simp only[Bool.false_eq_true,if_false,Nb,Nf];omega
 ·simp only[if_true,ez,Nb,Nf];omega
theorem Ge (x:dl)(id:Int)(h:Nat)(hm:x.rq.m.length≤h)(ht:x.rq.t.length≤h)(hf:br x.rq.fs≤h)(hn:x.rq.fs.length≤64)(hh:h≤300)(hb:x.rq.body.length≤100000000)(hi:id≤9223372036854775807)(hs:x.ser≤9223372036854775807)(m:Bool):(Cm x id m).length≤2*h+2000+x.rq.body.length:=by obtain⟨h1,h2⟩:=F6 x.rq id x.ser m hb hi hs;have h3:=D0 (oB x.rq id x.ser m);unfold Cm;have e1:(oB x.rq id x.ser m).m=x.rq.m:=rfl;have e2:(oB x.rq id x.ser m).t=x.rq.t:=rfl;have e3:(oB x.rq id x.ser m).fs=vI x.rq id x.ser m:=rfl;have e4:(oB x.rq id x.ser m).body=x.rq.body:=rfl;rw[e1,e2,e3,e4] at h3;omega
structure dm.T (r:dm)(body:Int):Prop where
 sz:r.sz≤body
 two:r.fm.kd=2→r.sz+r.lf≤body
 ph:r.ph=0→r.sz=0
theorem dm.T.zero {body:Int}(h:0≤body):dm.zero.T body:=⟨h,fun hk=>by have hk:(0:Int)=2:=hk;omega,fun _=>rfl⟩
theorem Fx {body:Int}(m:List UInt8)(h:0≤body):(rL m).T body:=⟨h,fun hk=>by have hk:(0:Int)=2:=hk;omega,fun _=>rfl⟩
structure BL (most body:Int)(x:jQ):Prop where
 t:x.e=0→x.r.T body
 m:x.e=0→x.k=1→(x.r.rep=false→(x.r.rq.m.length:Int)≤most∧(x.r.rq.t.length:Int)≤most∧(br x.r.rq.fs:Int)≤most)dat:x.e=0→x.k≠2→x.dat=[]
theorem BL.bad {most body e:Int}(h:e≠0):BL most body (.bad e):=⟨fun h1=>absurd h1 h,fun h1=>absurd h1 h,fun h1=>absurd h1 h⟩
theorem AD {b:List UInt8}{most:Int}(h:(eI b most).2=0):(eI b most).1≤most:=by
 unfold eI at*;split at h;·rename_i h1;rw[if_pos h1];exact h1.2
 ·split at h<;>cases h
theorem Dm {r:dm}{b:List UInt8}(h:(dO r b).1.rep=false):(dO r b).1.rq.m.length≤b.length∧(dO r b).1.rq.t.length≤b.length∧br (dO r b).1.rq.fs≤b.length:=by
 have hp:=tX b;unfold dO at*;by_cases hr:r.rep;·rw[if_pos hr] at h;simp only[hr] at h;split at h<;>cases h
 ·rw[if_neg hr];simp only;split;·exact⟨hp.m,hp.t,hp.fs⟩
  ·exact⟨hp.m,hp.t,hp.fs⟩
theorem IU (r:dm)(b:List UInt8)(most body:Int)(hr:r.T body)(hb:0≤body)(_h1:r.ph=0):BL most body (kQ r b most body):=by
 unfold kQ;split;·exact⟨fun _=>hr,fun _ h1=>by have h1:(0:Int)=1:=h1;omega,fun _ _=>rfl⟩
 ·split;·rename_i h;exact BL.bad h
  ·rename_i h4 h5;have h5:=Nq.1 h5;obtain⟨n,hn,hn4,hnl⟩:=md b most h5;have hm:=AD h5;split;·exact⟨fun _=>hr,fun _ h1=>by have h1:(4:Int)=1:=h1;omega,fun _ _=>rfl⟩
   ·rw[hn] at hm⊢;rw[Int.toNat_natCast];have htl:(b.take n).length≤n:=by rw[Nj];omega
    have hq:=fun h=>Dm (r:=r) (b:=b.take n) h;generalize dO r (b.take n)=fx at*;obtain⟨X,F,E⟩:=fx;simp only at*;unfold qT;split;·rename_i he;exact BL.bad he
    ·rename_i he;have he:iF F body E=0:=Nq.1 he;have h2:F.kd=2→F.len≤body:=by
      intro hk;unfold iF at he;split at he;·cases he
      ·rename_i hn;by_cases hgt:body<F.len;·exact absurd ⟨he,hk,hgt⟩ hn
       ·omega
     exact⟨fun _=>⟨hb,fun hk=>by have:=h2 hk;show 0+F.len≤body;omega,fun _=>rfl⟩,fun _ _ hrep=>by obtain⟨q1,q2,q3⟩:=hq hrep;show(X.rq.m.length:Int)≤most∧(X.rq.t.length:Int)≤most∧(br X.rq.fs:Int)≤most;omega,fun _ _=>rfl⟩
theorem Lz (r:dm)(b:List UInt8)(most body room:Int)(hr:r.T body)(_h2:0≤body)(h0:r.ph=1):BL most body (ov r b body room):=by
 have hs:=hr.sz;unfold ov;split
 ·rename_i h1;split;·exact⟨fun _=>⟨hr.sz,hr.two,fun h=>by have h:(2:Int)=0:=h;omega⟩,fun _ h1=>by have h1:(3:Int)=1:=h1;omega,fun _ _=>rfl⟩
  ·rename_i h2;have hk2:r.fm.kd=2:=by omega
   have h3:=hr.two hk2;split;·exact⟨fun _=>hr,fun _ h1=>by have h1:(0:Int)=1:=h1;omega,fun _ _=>rfl⟩
   ·have kl:gR r b room≤r.lf:=by unfold gR;omega
    generalize gR r b room=k at*;exact⟨fun _=>⟨by show r.sz+k≤body;omega,fun _=>by show r.sz+k+(r.lf-k)≤body;omega,fun h=>by have h:r.ph=0:=h;omega⟩,fun _ h1=>by have h1:(2:Int)=1:=h1;omega,fun _ h1=>absurd rfl h1⟩
 ·rename_i h1;split
  ·rename_i h2;have hE:jp r (fu (min room (body+1-r.sz)) r.ck [] b 0) body=0→r.sz+((fu (min room (body+1-r.sz)) r.ck [] b 0).out.length:Int)≤body:=by
    unfold jp;intro h;split at h;·cases h
    ·rename_i hn;have:¬body<r.sz+((fu (min room (body+1-r.sz)) r.ck [] b 0).out.length:Int):=fun hh=>hn ⟨h,hh⟩;omega
   generalize fu (min room (body+1-r.sz)) r.ck [] b 0=f at*;generalize jp r f body=e at*;unfold nF;split;·rename_i he;exact BL.bad he
   ·rename_i he;have hle:=hE (Nq.1 he);have hk:r.fm.kd≠2:=by omega
    split;·exact⟨fun _=>⟨hle,fun h=>absurd h hk,fun h=>by have h:r.ph=0:=h;omega⟩,fun _ h1=>by have h1:(2:Int)=1:=h1;omega,fun _ h1=>absurd rfl h1⟩
    ·split;·exact⟨fun _=>⟨hle,fun h=>absurd h hk,fun h=>by have h:(2:Int)=0:=h;omega⟩,fun _ h1=>by have h1:(3:Int)=1:=h1;omega,fun _ _=>rfl⟩
     ·exact⟨fun _=>⟨hle,fun h=>absurd h hk,fun h=>by have h:r.ph=0:=h;omega⟩,fun _ h1=>by have h1:(0:Int)=1:=h1;omega,fun _ _=>rfl⟩
  ·split;·exact⟨fun _=>hr,fun _ h1=>by have h1:(0:Int)=1:=h1;omega,fun _ _=>rfl⟩
   ·split;·exact BL.bad (by decide)
    ·rename_i h3 h4 h5;generalize fU r b body room=k at*;exact⟨fun _=>⟨by show r.sz+k≤body;omega,fun h=>by have h:r.fm.kd=2:=h;omega,fun h=>by have h:r.ph=0:=h;omega⟩,fun _ h1=>by have h1:(2:Int)=1:=h1;omega,fun _ h1=>absurd rfl h1⟩
theorem Ft (r:dm)(b:List UInt8)(most body room:Int)(hr:r.T body)(hb:0≤body):BL most body (dH r b most body room):=by
 unfold dH;split;·rename_i h;exact IU r b most body hr hb h
 ·split;·rename_i h;exact Lz r b most body _ hr hb h
  ·exact⟨fun _=>hr,fun _ h1=>by have h1:(0:Int)=1:=h1;omega,fun _ _=>rfl⟩
theorem eY {α:Type}{f:α→Int}{l:List α}(h:(l.map f).Nodup){x y:α}(hx:x∈l)(hy:y∈l)(e:f x=f y):x=y:=by obtain⟨i,hi,rfl⟩:=List.mem_iff_getElem.1 hx;obtain⟨j,hj,rfl⟩:=List.mem_iff_getElem.1 hy;have:i=j:=(List.getElem_inj (h₀:=by simpa using hi) (h₁:=by simpa using hj) h).1 (by simpa using e);subst this;rfl
theorem qV {α:Type}{f:α→Int}{l:List α}(h:(l.map f).Nodup){k:Nat}{a:α}(ha:∀hk:k<l.length,f a=f l[k]):((l.set k a).map f).Nodup:=by
 by_cases hk:k<l.length;·rw[List.map_set,ha hk,show f l[k]=(l.map f)[k]'(by simpa using hk) by simp,List.set_getElem_self];exact h
 ·rw[List.set_eq_of_length_le (by omega)];exact h
theorem eM {α:Type}{f:α→Int}{l:List α}(h:(l.map f).Nodup){k:Nat}(hk:k<l.length){a x:α}:x∈l.set k a↔x=a∨(x∈l∧f x≠f l[k]):=by
 constructor
 ·intro hx;obtain⟨i,hi,rfl⟩:=List.mem_iff_getElem.1 hx;rw[List.getElem_set];split;·exact .inl rfl
  ·rename_i hne;have hi':i<l.length:=by simpa using hi
   refine .inr ⟨Nr hi',fun e=>hne ?_⟩;have:=(List.getElem_inj (h₀:=by simpa using hi') (h₁:=by simpa using hk) h).1 (by simpa using e);omega
 ·rintro(rfl|⟨hx,hne⟩);·exact List.mem_iff_getElem.2 ⟨k,by simpa using hk,by simp⟩
  ·obtain⟨i,hi,rfl⟩:=List.mem_iff_getElem.1 hx;have:k≠i:=fun e=>hne (by subst e;rfl);exact List.mem_iff_getElem.2 ⟨i,by simpa using hi,by rw[List.getElem_set,if_neg this]⟩
theorem vV {α:Type}{f:α→Int}{l:List α}(h:(l.map f).Nodup){k:Nat}(hk:k<l.length){x:α}:x∈l.take k++l.drop (k+1)↔x∈l∧f x≠f l[k]:=by
 rw[←List.eraseIdx_eq_take_drop_succ,List.mem_eraseIdx_iff_getElem];constructor;·rintro⟨i,hi,hne,rfl⟩;refine⟨Nr hi,fun e=>hne ?_⟩;exact(List.getElem_inj (h₀:=by simpa using hi) (h₁:=by simpa using hk) h).1 (by simpa using e)
 ·rintro⟨hx,hne⟩;obtain⟨i,hi,rfl⟩:=List.mem_iff_getElem.1 hx;exact⟨i,hi,fun e=>hne (by subst e;rfl),rfl⟩
theorem EO {α:Type}{f:α→Int}{l:List α}(h:(l.map f).Nodup)(k:Nat):((l.take k++l.drop (k+1)).map f).Nodup:=by rw[←List.eraseIdx_eq_take_drop_succ];exact((List.eraseIdx_sublist l k).map f).nodup h
theorem A3 {α:Type}{l:List α}{i:Nat}{a x:α}:x∈l.take i++[a]++l.drop i↔x=a∨x∈l:=by
 constructor
 ·intro hx;rcases Np.1 hx with hx|hx
  ·rcases Np.1 hx with hx|hx;·exact .inr (List.mem_of_mem_take hx)
   ·exact .inl (Nx.1 hx)
  ·exact .inr (List.mem_of_mem_drop hx)
 ·rintro(rfl|hx);·simp
  ·rw[←NB i l] at hx;rcases Np.1 hx with hx|hx;·exact Np.2 (.inl (Np.2 (.inl hx)))
   ·exact Np.2 (.inr hx)
theorem FI {α:Type}{f:α→Int}{l:List α}(h:(l.map f).Nodup)(i:Nat){a:α}(ha:∀x,x∈l→f x≠f a):((l.take i++[a]++l.drop i).map f).Nodup:=by
 have p:((l.take i++[a]++l.drop i).map f).Perm (f a::l.map f):=by
  have:(l.take i++[a]++l.drop i).Perm (a::l):=by have:=List.perm_middle (a:=a) (l₁:=l.take i) (l₂:=l.drop i);rw[NB] at this;simpa using this
  simpa using this.map f
 rw[p.nodup_iff,List.nodup_cons];refine⟨fun hm=>?_,h⟩;obtain⟨x,hx,e⟩:=List.mem_map.1 hm;exact ha x hx e
theorem Ho {α:Type}{f:α→Int}{l:List α}{x:α}(hx:x∈l):∃k,l.findIdx? (fun c=>decide (f c=f x))=some k:=by cases h:l.findIdx? (fun c=>decide (f c=f x)) with|some k=>exact⟨k,rfl⟩;|none=>have:=List.findIdx?_eq_none_iff.1 h x hx;simp at this
theorem vG {l:List Cl}{x:Cl}(hx:x∈l):∃k,bM l x.po.id=some k:=Ho (f:=fun c:Cl=>c.po.id) hx
theorem uO {l:List Up}{x:Up}(hx:x∈l):∃k,im l x.po.id=some k:=Ho (f:=fun c:Up=>c.po.id) hx
theorem cx {α:Type}{l:List α}{k:Nat}(h:k<l.length)(d:α):l.getD k d=l[k]:=by simp[h]
structure jK (c:bk):Prop where
 ok:c.Ok
 mh:100≤c.maxHead∧c.maxHead≤299
 cin:c.cin≤1000
structure Cl.K (c:bk)(x:Cl):Prop where
 id:1≤x.po.id∧x.po.id≤300000
 cap:x.po.inn.cap≤1000
 clo:x.po.closing=true→x.ex.st=0
 st:0≤x.ex.st∧x.ex.st≤3
 size:x.ex.st≠2→x.ex.st≠3→x.ex.size=0
 rt:x.rd.T c.maxBody
 rep:x.rd.rep=false
 hm:(x.ex.rq.m.length:Int)≤c.maxHead
 ht:(x.ex.rq.t.length:Int)≤c.maxHead
 hf:(br x.ex.rq.fs:Int)≤c.maxHead
structure Up.K (c:bk)(u:Up):Prop where
 cls:u.po.cls=bG u.po.id
 cap:u.po.inn.cap≤1000
 ocap:u.po.out.cap=2*c.maxHead+c.maxBody+2000
 idle:u.cli=0→u.opn=true∧u.po.out.dat=[]rt:u.rd.T c.maxReply
def CW (x:Cl)(u:Up):Prop:=u.po.id=x.ex.up∧u.cli=x.po.id∧x.ex.size=u.rd.sz∧(x.ex.st=3→u.opn=true)
structure Wd.J (c:bk)(w:Wd)(e:Int):Prop where
 s:w.S
 cfg:w.p.cfg=c
 cn:(w.p.cls.map fun x=>x.po.id).Nodup
 un:(w.p.ups.map fun x=>x.po.id).Nodup
 ck:∀x,x∈w.p.cls→x.K c
 uk:∀u,u∈w.p.ups→u.K c
 ba:w.p.sta.ba=1000000∧w.p.can.ba=2000000
 qu:w.p.sta.qu≤100∧w.p.can.qu≤100
 pl:∀u,u∈w.p.ups→(u.po.id∈w.p.sta.id∨u.po.id∈w.p.sta.bu)∨(u.po.id∈w.p.can.id∨u.po.id∈w.p.can.bu)il:∀i,i∈w.p.sta.id∨i∈w.p.can.id→∃u,u∈w.p.ups∧u.po.id=i∧u.cli=0
 cu:∀x,x∈w.p.cls→x.po.id≠e→(x.ex.st=2∨x.ex.st=3)→∃u,u∈w.p.ups∧CW x u
 uc:∀u,u∈w.p.ups→u.cli≠0→∃x,x∈w.p.cls∧x.po.id=u.cli∧x.ex.up=u.po.id∧(x.ex.st=2∨x.ex.st=3)
theorem Wd.J.up {c:bk}{w:Wd}(h:w.J c 0)(e:Int):w.J c e:={h with cu:=fun x hx _ hs=>h.cu x hx (by have:=(h.ck x hx).id;omega) hs}
theorem Wd.J.same {c:bk}{w w':Wd}{e:Int}(h:w.J c e)(hs:w'.S)(h1:w'.p.cls=w.p.cls)(h2:w'.p.ups=w.p.ups)(h3:w'.p.sta=w.p.sta)(h4:w'.p.can=w.p.can)(h5:w'.p.cfg=w.p.cfg):w'.J c e:=by
 obtain⟨a1,a2,a3,a4,a5,a6,a7,a8,a9,a10,a11,a12⟩:=h;refine⟨hs,by rw[h5];exact a2,by rw[h1];exact a3,by rw[h2];exact a4,by rw[h1];exact a5,by rw[h2];exact a6,by rw[h3,h4];exact a7,by rw[h3,h4];exact a8,?_,?_,?_,?_⟩;·rw[h2,h3,h4];exact a9
 ·rw[h2,h3,h4];exact a10
 ·rw[h1,h2];exact a11
 ·rw[h1,h2];exact a12
theorem Wd.J.len {c:bk}{w:Wd}{e:Int}(h:w.J c e):w.p.ups.length≤200:=by
 have h1:(w.p.ups.map fun x=>x.po.id)⊆w.p.sta.id++w.p.sta.bu++(w.p.can.id++w.p.can.bu):=by intro i hi;obtain⟨u,hu,rfl⟩:=List.mem_map.1 hi;rcases h.pl u hu with(h|h)|(h|h)<;>simp[h]
 have h2:=h.un.length_le_of_subset h1;have h3:=h.s.sta.le;have h4:=h.s.can.le;have h5:=h.qu;simp only[Nl,Na] at h2;omega
theorem Wd.J.setC {c:bk}{w:Wd}{e:Int}(h:w.J c e){k:Nat}(hk:k<w.p.cls.length){x:Cl}(hid:x.po.id=(w.cl k).po.id)(hg:x.Gd)(hK:x.K c)(hcu:x.po.id≠e→(x.ex.st=2∨x.ex.st=3)→∃u,u∈w.p.ups∧CW x u)(huc:∀u,u∈w.p.ups→u.cli=x.po.id→x.ex.up=u.po.id∧(x.ex.st=2∨x.ex.st=3)):(w.setC k x).J c e:=by
 have e0:w.cl k=w.p.cls[k]:=cx hk _;rw[e0] at hid;have hm:∀y,y∈(w.setC k x).p.cls↔y=x∨(y∈w.p.cls∧y.po.id≠w.p.cls[k].po.id):=fun y=>eM h.cn hk;refine⟨h.s.setC k hg,h.cfg,qV h.cn fun _=>hid,h.un,fun y hy=>?_,h.uk,h.ba,h.qu,h.pl,h.il,fun y hy hne hs=>?_,fun u hu hc=>?_⟩
 ·rcases (hm y).1 hy with rfl|⟨hy,_⟩;·exact hK
  ·exact h.ck y hy
 ·rcases (hm y).1 hy with rfl|⟨hy,_⟩;·exact hcu hne hs
  ·exact h.cu y hy hne hs
 ·obtain⟨y,hy,h1,h2,h3⟩:=h.uc u hu hc;by_cases hy2:y.po.id=w.p.cls[k].po.id;·have:=huc u hu (by rw[←h1,hy2,hid]);exact⟨x,(hm x).2 (.inl rfl),by rw[hid,←hy2,h1],this⟩
  ·exact⟨y,(hm y).2 (.inr ⟨hy,hy2⟩),h1,h2,h3⟩
theorem Wd.J.setCx {c:bk}{w:Wd}{e:Int}(h:w.J c e){k:Nat}(hk:k<w.p.cls.length){x:Cl}(hid:x.po.id=(w.cl k).po.id)(hg:x.Gd)(hK:x.K c)(h1:x.ex.st=(w.cl k).ex.st)(h2:x.ex.up=(w.cl k).ex.up)(h3:x.ex.size=(w.cl k).ex.size):(w.setC k x).J c e:=by
 have hmem:=w.cl_mem hk;refine h.setC hk hid hg hK (fun hne hs=>?_) (fun u hu hc=>?_);·rw[h1] at hs;rw[hid] at hne;obtain⟨u,hu,l1,l2,l3,l4⟩:=h.cu _ hmem hne hs;exact⟨u,hu,by rw[h2];exact l1,by rw[hid];exact l2,by rw[h3];exact l3,by rw[h1];exact l4⟩
 ·obtain⟨y,hy,g1,g2,g3⟩:=h.uc u hu (by rw[hc];have:=hK.id;omega);have:y=w.cl k:=eY h.cn hy hmem (by rw[g1,hc,hid]);subst this;exact⟨by rw[h2];exact g2,by rw[h1];exact g3⟩
theorem Wd.J.setCz {c:bk}{w:Wd}{e:Int}(h:w.J c e){k:Nat}(hk:k<w.p.cls.length){x:Cl}(hid:x.po.id=(w.cl k).po.id)(hg:x.Gd)(hK:x.K c)(hz:x.ex.st≠2∧x.ex.st≠3)(hn:∀u,u∈w.p.ups→u.cli≠x.po.id)(he:e=0∨e=x.po.id):(w.setC k x).J c 0:=by
 have h1:=h.setC hk hid hg hK (fun _ hs=>by rcases hs with hs|hs<;>simp[hs] at hz) (fun u hu hc=>absurd hc (hn u hu));refine{h1 with cu:=fun y hy h0 hs=>?_};by_cases hye:y.po.id=e
 ·rcases he with he|he;·exact absurd (hye.trans he) h0
  ·have e0:w.cl k=w.p.cls[k]:=cx hk _;rw[e0] at hid;rcases (eM (f:=fun x:Cl=>x.po.id) h.cn hk).1 hy with rfl|⟨_,hne⟩;·rcases hs with hs|hs<;>simp[hs] at hz
   ·exact absurd (by rw[hye,he,hid]) hne
 ·exact h1.cu y hy hye hs
theorem Wd.J.noup {c:bk}{w:Wd}{e:Int}(h:w.J c e){x:Cl}(hx:x∈w.p.cls)(hs:x.ex.st≠2∧x.ex.st≠3):∀u,u∈w.p.ups→u.cli≠x.po.id:=by intro u hu hc;obtain⟨y,hy,g1,g2,g3⟩:=h.uc u hu (by rw[hc];have:=(h.ck x hx).id;omega);have:y=x:=eY h.cn hy hx (by rw[g1,hc]);subst this;rcases g3 with g|g<;>simp[g] at hs
theorem Ai (p:cH)(b:List UInt8)(h:(p.put b).e=0):(p.put b).p.id=p.id∧(p.put b).p.cls=p.cls∧(p.put b).p.inn=p.inn∧(p.put b).p.out.cap=p.out.cap∧(p.put b).p.ended=p.ended∧(p.put b).p.closing=p.closing:=by
 unfold cH.put at*;split at h;·simp at h
 ·rename_i hn;simp only[if_neg hn,cH.flush,and_self]
theorem Wd.put_cls (w:Wd){id:Int}{k:Nat}(hk:bM w.p.cls id=some k)(b:List UInt8):(w.put id b).p.cls=w.p.cls∨(((w.cl k).po.put b).e=0∧(w.put id b).p.cls=w.p.cls.set k {w.cl k with po:=((w.cl k).po.put b).p}):=by
 unfold Wd.put;rw[hk];simp only;split;·rename_i h;exact .inr ⟨h,rfl⟩
 ·exact .inl rfl
theorem rS (w:Wd)(id:Int)(b:List UInt8):(w.put id b).p.ups=w.p.ups∧(w.put id b).p.sta=w.p.sta∧(w.put id b).p.can=w.p.can∧(w.put id b).p.cfg=w.p.cfg∧(w.put id b).p.now=w.p.now∧(w.put id b).p.sh=w.p.sh∧(w.put id b).p.ro=w.p.ro:=by unfold Wd.put;cases bM w.p.cls id with|none=>exact⟨rfl,rfl,rfl,rfl,rfl,rfl,rfl⟩;|some k=>
 simp only;split;·exact⟨rfl,rfl,rfl,rfl,rfl,rfl,rfl⟩
 ·exact⟨rfl,rfl,rfl,rfl,rfl,rfl,rfl⟩
theorem Wd.J.out {c:bk}{w:Wd}{e:Int}(h:w.J c e)(l:List bC):Wd.J c ⟨w.p,l⟩ e:=h.same (h.s.out l) rfl rfl rfl rfl rfl
theorem Wd.cl_put (w:Wd){id:Int}{k:Nat}(hk:bM w.p.cls id=some k)(b:List UInt8):(w.put id b).cl k=w.cl k∨(((w.cl k).po.put b).e=0∧(w.put id b).cl k={w.cl k with po:=((w.cl k).po.put b).p}):=by
 have hlt:=(aR hk).1;rcases w.put_cls hk b with h|⟨h0,h⟩;·left;unfold Wd.cl;rw[h]
 ·right;refine⟨h0,?_⟩;show(w.put id b).p.cls.getD k .zero=_;rw[h,cx (by simpa using hlt),List.getElem_set_self]
theorem Wd.cl_put2 (w:Wd){id:Int}{k:Nat}(hk:bM w.p.cls id=some k)(b:List UInt8):((w.put id b).cl k).ex=(w.cl k).ex∧((w.put id b).cl k).rd=(w.cl k).rd∧((w.put id b).cl k).last=(w.cl k).last∧((w.put id b).cl k).po.id=(w.cl k).po.id∧((w.put id b).cl k).po.cls=(w.cl k).po.cls∧((w.put id b).cl k).po.inn=(w.cl k).po.inn∧((w.put id b).cl k).po.closing=(w.cl k).po.closing:=by
 rcases w.cl_put hk b with h|⟨h0,h⟩;·rw[h];exact⟨rfl,rfl,rfl,rfl,rfl,rfl,rfl⟩
 ·rw[h];obtain⟨p1,p2,p3,_,_,p4⟩:=Ai _ _ h0;exact⟨rfl,rfl,rfl,p1,p2,p3,p4⟩
theorem Wd.J.put {c:bk}{w:Wd}{e:Int}(h:w.J c e)(id:Int)(b:List UInt8):(w.put id b).J c e:=by cases hk:bM w.p.cls id with|none=>unfold Wd.put;rw[hk];exact h;|some k=>
 have hlt:=(aR hk).1;obtain⟨r1,r2,r3,r4,_⟩:=rS w id b;rcases w.put_cls hk b with g|⟨g0,g⟩;·exact h.same (h.s.put _ _) g r1 r2 r3 r4
 ·have hK:=h.ck _ (w.cl_mem hlt);have hG:=h.s.cg _ (w.cl_mem hlt);obtain⟨p1,p2,p3,p4,p5,p6⟩:=Ai (w.cl k).po b g0;have hJ:=h.setCx hlt (x:={w.cl k with po:=((w.cl k).po.put b).p}) p1 ⟨FC hG.po b g0,hG.rd,hG.ex,hG.body,hG.last⟩
   ⟨by rw[p1];exact hK.id,by show((w.cl k).po.put b).p.inn.cap≤1000;rw[p3];exact hK.cap,fun hc=>hK.clo (by rw[←p6];exact hc),hK.st,hK.size,hK.rt,hK.rep,hK.hm,hK.ht,hK.hf⟩ rfl rfl rfl;exact hJ.same (h.s.put _ _) g r1 r2 r3 r4
theorem Wd.J.cc {c:bk}{w:Wd}{e:Int}(h:w.J c e)(rc:Int)(b:Bool):(w.cc rc b).J c e:=by
 have hs:=h.s.cc rc b;unfold Wd.cc at*;split at hs;·rename_i h1;rw[if_pos h1];exact h.same hs rfl rfl rfl rfl rfl
 ·rename_i h1;rw[if_neg h1];exact h
theorem nZ (w:Wd)(ser:Int)(sn:Sn)(cm:Bool):(w.prim ser sn cm).p.cls=w.p.cls∧(w.prim ser sn cm).p.ups=w.p.ups∧(w.prim ser sn cm).p.sta=w.p.sta∧(w.prim ser sn cm).p.can=w.p.can∧(w.prim ser sn cm).p.cfg=w.p.cfg∧(w.prim ser sn cm).p.now=w.p.now:=by unfold Wd.prim;split<;>exact⟨rfl,rfl,rfl,rfl,rfl,rfl⟩
theorem Wd.J.prim {c:bk}{w:Wd}{e:Int}(h:w.J c e)(ser:Int){sn:Sn}(hsn:sn.Gd)(cm:Bool):(w.prim ser sn cm).J c e:=by obtain⟨r0,r1,r2,r3,r4,_⟩:=nZ w ser sn cm;exact h.same (h.s.prim ser hsn cm) r0 r1 r2 r3 r4
theorem Wd.J.cok {c:bk}{w:Wd}{e:Int}(h:w.J c e):c.Ok:=by have:=h.s.cfg;rw[h.cfg] at this;exact this
theorem Cl.K.over {c:bk}{x:Cl}(hc:c.Ok)(h:x.K c)(now:Int):(x.over now).K c:=⟨h.id,h.cap,fun _=>rfl,by show(0:Int)≤0∧(0:Int)≤3;omega,fun _ _=>rfl,dm.T.zero hc.maxBody.1,rfl,by show((0:Nat):Int)≤_;have:=hc.maxHead;omega,by show((0:Nat):Int)≤_;have:=hc.maxHead;omega,by show((br []:Nat):Int)≤_;have:=hc.maxHead;have:br []=0:=rfl;omega⟩
theorem Wd.J.over {c:bk}{w:Wd}{e:Int}(h:w.J c e){k:Nat}(hk:k<w.p.cls.length)(hn:∀u,u∈w.p.ups→u.cli≠(w.cl k).po.id)(he:e=0∨e=(w.cl k).po.id):(w.over k).J c 0:=by have hK:=h.ck _ (w.cl_mem hk);have hG:=h.s.cg _ (w.cl_mem hk);exact h.setCz hk (x:=(w.cl k).over w.p.now) rfl (hG.over ⟨h.s.now.1,by have:=h.s.now.2;omega⟩) (hK.over h.cok _) (by show(0:Int)≠2∧(0:Int)≠3;omega) hn he
theorem Cl.K.shut {c:bk}{x:Cl}(hc:c.Ok)(h:x.K c):x.shut.K c:=⟨h.id,h.cap,fun _=>rfl,by show(0:Int)≤0∧(0:Int)≤3;omega,fun _ _=>rfl,h.rt,h.rep,by show((0:Nat):Int)≤_;have:=hc.maxHead;omega,by show((0:Nat):Int)≤_;have:=hc.maxHead;omega,by show((br []:Nat):Int)≤_;have:=hc.maxHead;have:br []=0:=rfl;omega⟩
theorem Wd.J.shut {c:bk}{w:Wd}(h:w.J c 0){k:Nat}(hk:k<w.p.cls.length)(hs:(w.cl k).ex.st≠2∧(w.cl k).ex.st≠3):(w.setC k (w.cl k).shut).J c 0:=by have hm:=w.cl_mem hk;exact h.setCz hk (x:=(w.cl k).shut) rfl (h.s.cg _ hm).shut ((h.ck _ hm).shut h.cok) (by show(0:Int)≠2∧(0:Int)≠3;omega) (h.noup (x:=w.cl k) hm hs) (.inl rfl)
theorem Wd.J.refuse {c:bk}{w:Wd}(h:w.J c 0){k:Nat}(hk:k<w.p.cls.length)(hs:(w.cl k).ex.st≠2∧(w.cl k).ex.st≠3)(id e:Int):(w.refuse k id e).J c 0:=(h.shut hk hs).put _ _
theorem Cl.K.stop {c:bk}{x:Cl}(h:x.K c)(hs:x.ex.st=0):x.stop.K c:=⟨h.id,h.cap,fun _=>hs,h.st,h.size,h.rt,h.rep,h.hm,h.ht,h.hf⟩
theorem Wd.J.stop {c:bk}{w:Wd}{e:Int}(h:w.J c e){k:Nat}(hk:k<w.p.cls.length)(hs:(w.cl k).ex.st=0):(w.stop k).J c e:=by have hm:=w.cl_mem hk;exact h.setCx hk (x:=(w.cl k).stop) rfl (h.s.cg _ hm).stop ((h.ck _ hm).stop hs) rfl rfl rfl
theorem Wd.over_cl (w:Wd){k:Nat}(hk:k<w.p.cls.length):(w.over k).cl k=(w.cl k).over w.p.now:=w.cl_setC hk _
theorem Wd.J.fail {c:bk}{w:Wd}{e:Int}(h:w.J c e){k:Nat}{id:Int}(hk:bM w.p.cls id=some k)(st:Int)(hn:∀u,u∈w.p.ups→u.cli≠id)(he:e=0∨e=id):(w.fail k id st).J c 0:=by
 obtain⟨hlt,hid⟩:=aR hk;have hid:(w.cl k).po.id=id:=hid;have e1:(w.cc (w.cl k).ex.rc true).p.cls=w.p.cls:=by unfold Wd.cc;split<;>rfl
 have e2:(w.cc (w.cl k).ex.rc true).p.ups=w.p.ups:=zN _ _ _;have h1:=(h.cc (w.cl k).ex.rc true).prim (w.cl k).ex.ser Sn.zero_gd false;obtain⟨r0,r1,_⟩:=nZ (w.cc (w.cl k).ex.rc true) (w.cl k).ex.ser .zero false;unfold Wd.fail;split
 ·unfold Wd.failH;generalize (w.cc (w.cl k).ex.rc true).prim (w.cl k).ex.ser .zero false=w1 at*;have c1:w1.p.cls=w.p.cls:=by rw[r0,e1]
  have u1:w1.p.ups=w.p.ups:=by rw[r1,e2]
  have hlt1:k<w1.p.cls.length:=by rw[c1];exact hlt
  have g1:w1.cl k=w.cl k:=by unfold Wd.cl;rw[c1]
  have h2:=h1.over hlt1 (by rw[g1,hid,u1];exact hn) (by rw[g1,hid];exact he);refine h2.stop ?_ ?_;·show k<(w1.p.cls.set k _).length;rw[List.length_set];exact hlt1
  ·rw[Wd.over_cl _ hlt1];rfl
 ·unfold Wd.failN;have hk1:bM ((w.cc (w.cl k).ex.rc true).prim (w.cl k).ex.ser .zero false).p.cls id=some k:=by rw[r0,e1,hk]
  generalize (w.cc (w.cl k).ex.rc true).prim (w.cl k).ex.ser .zero false=w1 at*;have c1:w1.p.cls=w.p.cls:=by rw[r0,e1]
  have u1:w1.p.ups=w.p.ups:=by rw[r1,e2]
  have g1:w1.cl k=w.cl k:=by unfold Wd.cl;rw[c1]
  have h2:=h1.put id (bD st (w.cl k).ex.rq.m (w.cl k).ex.cl);have q:=w1.cl_put2 hk1 (bD st (w.cl k).ex.rq.m (w.cl k).ex.cl);have r:=rS w1 id (bD st (w.cl k).ex.rq.m (w.cl k).ex.cl);have hk2:=jw w1 id id (bD st (w.cl k).ex.rq.m (w.cl k).ex.cl);rw[hk1] at hk2;generalize w1.put id (bD st (w.cl k).ex.rq.m (w.cl k).ex.cl)=w2 at*;have hi2:(w2.cl k).po.id=id:=by rw[q.2.2.2.1,g1,hid]
  exact h2.over (aR hk2).1 (by rw[hi2,r.1,u1];exact hn) (by rw[hi2];exact he)
end Go.Proofs.YtgfdbddglhblbaaGreat

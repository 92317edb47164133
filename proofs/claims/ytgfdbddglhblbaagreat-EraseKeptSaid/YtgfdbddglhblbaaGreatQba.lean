/- A part of the proof of what is stated of the erasing of a mirror. -/
import Derived.Test.YtgfdbddglhblbaaGreatQaz
import Derived.Test.YtgfdbddglhblbaaGreatQau
set_option maxHeartbeats 64000000
namespace Go.Proofs.YtgfdbddglhblbaaGreat
open Go.Eng
attribute [local irreducible] aO
set_option maxRecDepth 100000
theorem pZ (p:cH)(b:List UInt8)(hp:0≤p.bud):(p.put b).p.bud.toNat+(p.put b).sent.length≤p.bud.toNat∧(p.put b).p.bud≤p.bud:=by
 unfold cH.put;split;·exact⟨by show(0:Int).toNat+([]:List UInt8).length≤_;simp,hp⟩
 ·simp only[cH.flush,Nj,cH.fl];simp only[Na];omega
theorem MX {p:cH}(h:p.Q)(b:List UInt8):(p.put b).p.Q:=by
 by_cases he:(p.put b).e=0;·exact FC h b he
 ·unfold cH.put at*;split;·exact cH.zero_q
  ·rename_i hn;rw[if_neg hn] at he;exact absurd rfl he
theorem Jv (w:Wd)(rc:Int)(p:Po)(to:Int)(fr:Bool):(w.fw1 rc p to fr).p.cls=w.p.cls:=by unfold Wd.fw1 Wd.setPool;split<;>split<;>rfl
theorem Wd.S.fw1 {w:Wd}(h:w.S)(hl:w.p.ups.length<1000000)(rc:Int){p:Po}(hp:ib p)(to:Int)(fr:Bool):(w.fw1 rc p to fr).S:=by
 unfold Wd.fw1;split;·refine(h.setPool rc hp).insU ?_ to rc;unfold Wd.setPool;split<;>exact hl
 ·exact h.setPool rc hp
theorem Wd.B.fw1 {w:Wd}{n:Nat}(h:w.B n)(hl:n<10000000000)(rc:Int)(p:Po)(to:Int)(fr:Bool):(w.fw1 rc p to fr).B (n+1):=by
 unfold Wd.fw1;split;·exact(h.setPool rc p).insU hl to rc
 ·exact(h.setPool rc p).up (by omega) hl
theorem Cl.Gd.to {c:Cl}(h:c.Gd)(to:Int)(fr:Bool):(c.to to fr).Gd:=⟨h.po,h.rd,⟨h.ex.rq,h.ex.rqn,h.ex.rqm,h.ex.rqt,h.ex.an,h.ex.ann,h.ex.anr,h.ex.size,h.ex.store,h.ex.dg,h.ex.rid,h.ex.ser,h.ex.born⟩,h.body,h.last⟩
theorem Wd.S.fw3 {w:Wd}(h:w.S)(x:dl){j:Nat}(hj:j<w.p.ups.length)(id to:Int):(w.fw3 x j id to).S:=by have hg:=h.ug _ (w.up_mem hj);exact(h.setU j (c:=(w.up j).fw x id) ⟨MX hg.po _,w7 _⟩).out _
theorem Wd.B.fw3 {w:Wd}{n:Nat}(hs:w.S)(h:w.B n)(hl:n<10000000000)(x:dl){j:Nat}(hj:j<w.p.ups.length)(id to:Int):(w.fw3 x j id to).B (n+1):=by have hg:=hs.ug _ (w.up_mem hj);have hb:=pZ (w.up j).po (Cm x id false) hg.po.bud.1;have h1:=w.bu_setU hj ((w.up j).fw x id);have e0:((w.up j).fw x id).po.bud=((w.up j).po.put (Cm x id false)).p.bud:=rfl;rw[e0] at h1;refine Wd.B.send hl h.ol ?_;have e1:(w.setU j ((w.up j).fw x id)).bo=w.bo:=rfl;have e2:(w.setU j ((w.up j).fw x id)).bc=w.bc:=rfl;have h2:=h.ph;unfold Wd.phi at*;omega
theorem Dc (w:Wd)(k j:Nat)(id:Int){n:Nat}(hs:w.S)(hw:w.B n)(hn:n+10≤10000000000)(hul:w.p.ups.length<1000000)(hi:fT id)(hk:bM w.p.cls id=some k)(hj:∀p to fr,fZ (w.poolOf (w.cl k).ex.rc)=some (p,to,fr)→im (w.fw1 (w.cl k).ex.rc p to fr).p.ups to=some j):aH (CG G) 175 [.op 0 0 0,dI id] (lP w) [] (jr (w.forward k j id)):=by
 have c1:=dt w.p id hs.cl;rw[hk,bj] at c1;obtain⟨hlt,hid⟩:=aR hk;have hg:=w.get_cl hlt;have hcg:=hs.cg _ (w.cl_mem hlt);have hx:=hcg.ex;have hbd:(w.cl k).ex.rq.body.length≤1000000:=by have:=hcg.body;have:=hcg.rd.sz;omega
 obtain⟨f1,f2,f3,f4,f5,f6,f7⟩:=B8 hx hbd id hi false;obtain⟨_,_,m3,m4,m5,m6,m7⟩:=B8 hx hbd id hi true;have hpo:=hs.poolOf (w.cl k).ex.rc;have c2:=tY (w.poolOf (w.cl k).ex.rc) hpo;have c3:=ku 503 (w.cl k).ex.rq.m (w.cl k).ex.cl;have c4:=qs 503 (w.cl k).ex.rq.m (w.cl k).ex.cl;have hpl:=iY 503 (w.cl k).ex.rq.m (w.cl k).ex.cl;have c5:=sO w id (bD 503 (w.cl k).ex.rq.m (w.cl k).ex.cl) hs hw (by omega);have k5:=jw w id id (bD 503 (w.cl k).ex.rq.m (w.cl k).ex.cl);rw[hk] at k5;have c6:=qI (w.put id (bD 503 (w.cl k).ex.rq.m (w.cl k).ex.cl)) id k (hs.put _ _) k5;have d1:=qh (w.cl k).ex.rq id (w.cl k).ex.ser false f1 (by omega) hi f2;have d2:=wl (oB (w.cl k).ex.rq id (w.cl k).ex.ser false) (by omega) (by omega) (by omega) (by omega);have d3:=qh (w.cl k).ex.rq id (w.cl k).ex.ser true f1 (by omega) hi f2;have d4:=wl (oB (w.cl k).ex.rq id (w.cl k).ex.ser true) (by omega) (by omega) (by omega) (by omega);have d5:=tn (w.cl k).ex.rq.m;have hF1:fZ (w.poolOf (w.cl k).ex.rc)=none→w.forward k j id=(w.put id (bD 503 (w.cl k).ex.rq.m (w.cl k).ex.cl)).over k:=fun h=>by unfold Wd.forward;rw[h];rfl
 have hF2:∀p to fr,fZ (w.poolOf (w.cl k).ex.rc)=some (p,to,fr)→w.forward k j id=(((w.fw1 (w.cl k).ex.rc p to fr).fw2 k to fr).fw3 (w.cl k).ex j id to).fw4 (w.cl k).ex id:=fun p to fr h=>by unfold Wd.forward;rw[h]
 unfold dU dD at hg;generalize hpp:w.poolOf (w.cl k).ex.rc=pool at*;unfold Cm at*;unfold dw bf eF bU o8 gu dF at*;refine aH.mk (n:=269) Tryz.func175 rfl rfl rfl (Nat.le_of_ble_eq_true rfl) rfl (ah c1 (bh k rfl (by simpa using hlt) (az hg ?_)));apply bd (fun _:Unit=>True) (fun _=>⟨[(0,.op 0 0 0),(1,dI id),(4,dI (k:Int)),(5,.op 17 0 0),(6,.op 18 0 0)],[(0,some (fG w 1 2 3)),(1,some (.buf 65 (w.p.cls.map dU))),(2,some (.buf 33 (w.p.ups.map fo))),(3,some (.buf 5 (w.out.map bn))),(17,some (.box [dI ((w.cl k).ex.st),dI ((w.cl k).ex.ser),dI ((w.cl k).ex.born),dI ((w.cl k).ex.up),dI ((w.cl k).ex.rc),.d (.s (w.cl k).ex.rid),.d (.b (w.cl k).ex.rnew),.d (.s (w.cl k).ex.rq.m),.d (.s (w.cl k).ex.rq.t),dI ((w.cl k).ex.rq.mi),.d (.sl 2 ((w.cl k).ex.rq.fs.map aL)),.d (.b (w.cl k).ex.rq.fr),.d (.sl 1 (aD (w.cl k).ex.rq.body)),.d (.b (w.cl k).ex.cl),.d (.b (w.cl k).ex.hd),.d (.b (w.cl k).ex.sto),dI ((w.cl k).ex.an.st),.d (.s (w.cl k).ex.an.rs),dI ((w.cl k).ex.an.mi),.d (.sl 2 ((w.cl k).ex.an.fs.map aL)),.d (.sl 1 (aD (w.cl k).ex.an.body)),.d (.sl 1 (aD (w.cl k).ex.store)),dI ((w.cl k).ex.size),.d (.i .u32 (w.cl k).ex.dg.s.x0),.d (.i .u32 (w.cl k).ex.dg.s.x1),.d (.i .u32 (w.cl k).ex.dg.s.x2),.d (.i .u32 (w.cl k).ex.dg.s.x3),.d (.i .u32 (w.cl k).ex.dg.s.x4),.d (.i .u32 (w.cl k).ex.dg.s.x5),.d (.i .u32 (w.cl k).ex.dg.s.x6),.d (.i .u32 (w.cl k).ex.dg.s.x7),dI ((w.cl k).ex.dg.n),.d (.sl 1 (aD (w.cl k).ex.dg.t))])),(18,some (.box [dI pool.ba,dI pool.qu,dI pool.se,.d (.sl 1 (pool.id.map (.i .i64))),.d (.sl 1 (pool.bu.map (.i .i64)))]))],2⟩)
 ·by_cases h5:(w.cl k).ex.rc=5
  ·have hpe:pool=w.p.can:=by rw[←hpp];unfold Wd.poolOf;rw[if_pos h5]
   subst hpe;repeat'(first|refine ad ?_|refine dk ?_|refine aj h5 ?_|refine ae (fun _=>?_) (fun _=>?_)|refine aq ?_)
   apply aC () [(17,_),(18,_)] trivial;exact be
  ·have hpe:pool=w.p.sta:=by rw[←hpp];unfold Wd.poolOf;rw[if_neg h5]
   subst hpe;repeat'(first|refine ad ?_|refine dk ?_|refine ai h5 ?_|refine ae (fun _=>?_) (fun _=>?_)|refine aq ?_)
   apply aC () [(17,_),(18,_)] trivial;exact be
 ·rintro _ _;cases ha:fZ pool with|none=>
   rw[ha] at c2;rw[hF1 ha];simp only[As] at c2;repeat'(first|refine ad ?_|refine dk ?_|refine ah (c2) ?_|refine ah (c3) ?_|refine ah (c4) ?_|refine aj (by decide) ?_|refine ae (fun _=>?_) (fun _=>?_)|refine aq ?_)
   apply ak [(0,_),(1,_),(2,_),(3,_)] c5;·exact be
   ·repeat'(first|refine ad ?_|refine dk ?_|refine ae (fun _=>?_) (fun _=>?_)|refine aq ?_)
    apply ak [(0,_),(1,_),(2,_),(3,_)] c6;·exact be
    ·repeat'(first|refine ad ?_|refine dk ?_|refine ae (fun _=>?_) (fun _=>?_)|refine aq ?_)
     apply aw [(16,_),(17,_),(18,_)];exact be;|some q=>
   obtain⟨p,to,fr⟩:=q;rw[ha] at c2;rw[hF2 p to fr ha];clear hF1 hF2;simp only[As] at c2;have hj:=hj p to fr ha;have hp:=(pg hpo ha).1;have s1:=hs.setPool (w.cl k).ex.rc hp;have b1:=hw.setPool (w.cl k).ex.rc p;have s2:=hs.fw1 hul (w.cl k).ex.rc hp to fr;have b2:=hw.fw1 (by omega) (w.cl k).ex.rc p to fr;have e2:=Jv w (w.cl k).ex.rc p to fr;unfold o8 at c2;refine ah c2 (ad (ai (fun h=>h rfl) ?_));apply bd (fun _:Unit=>True) (fun _=>⟨[(0,.op 0 0 0),(1,dI id),(4,dI (k:Int)),(5,.op 17 0 0),(7,dI to),(8,.d (.b fr))],[(0,some (fG (w.setPool (w.cl k).ex.rc p) 1 2 3)),(1,some (.buf 65 (w.p.cls.map dU))),(2,some (.buf 33 (w.p.ups.map fo))),(3,some (.buf 5 (w.out.map bn))),(17,some (.box [dI ((w.cl k).ex.st),dI ((w.cl k).ex.ser),dI ((w.cl k).ex.born),dI ((w.cl k).ex.up),dI ((w.cl k).ex.rc),.d (.s (w.cl k).ex.rid),.d (.b (w.cl k).ex.rnew),.d (.s (w.cl k).ex.rq.m),.d (.s (w.cl k).ex.rq.t),dI ((w.cl k).ex.rq.mi),.d (.sl 2 ((w.cl k).ex.rq.fs.map aL)),.d (.b (w.cl k).ex.rq.fr),.d (.sl 1 (aD (w.cl k).ex.rq.body)),.d (.b (w.cl k).ex.cl),.d (.b (w.cl k).ex.hd),.d (.b (w.cl k).ex.sto),dI ((w.cl k).ex.an.st),.d (.s (w.cl k).ex.an.rs),dI ((w.cl k).ex.an.mi),.d (.sl 2 ((w.cl k).ex.an.fs.map aL)),.d (.sl 1 (aD (w.cl k).ex.an.body)),.d (.sl 1 (aD (w.cl k).ex.store)),dI ((w.cl k).ex.size),.d (.i .u32 (w.cl k).ex.dg.s.x0),.d (.i .u32 (w.cl k).ex.dg.s.x1),.d (.i .u32 (w.cl k).ex.dg.s.x2),.d (.i .u32 (w.cl k).ex.dg.s.x3),.d (.i .u32 (w.cl k).ex.dg.s.x4),.d (.i .u32 (w.cl k).ex.dg.s.x5),.d (.i .u32 (w.cl k).ex.dg.s.x6),.d (.i .u32 (w.cl k).ex.dg.s.x7),dI ((w.cl k).ex.dg.n),.d (.sl 1 (aD (w.cl k).ex.dg.t))]))],2⟩)
   ·by_cases h5:(w.cl k).ex.rc=5
    ·unfold Wd.setPool;rw[if_pos h5];repeat'(first|refine ad ?_|refine dk ?_|refine aj h5 ?_|refine ae (fun _=>?_) (fun _=>?_)|refine aq ?_)
     apply aC () [(17,_)] trivial;exact be
    ·unfold Wd.setPool;rw[if_neg h5];repeat'(first|refine ad ?_|refine dk ?_|refine ai h5 ?_|refine ae (fun _=>?_) (fun _=>?_)|refine aq ?_)
     apply aC () [(17,_)] trivial;exact be
   ·rintro _ _;have q1:(w.setPool (w.cl k).ex.rc p).p.cls=w.p.cls:=by unfold Wd.setPool;split<;>rfl
    have q2:(w.setPool (w.cl k).ex.rc p).p.ups=w.p.ups:=by unfold Wd.setPool;split<;>rfl
    have q3:(w.setPool (w.cl k).ex.rc p).out=w.out:=by unfold Wd.setPool;split<;>rfl
    unfold Wd.fw1 at*;generalize w.setPool (w.cl k).ex.rc p=w1 at*;rw[←q1,←q2,←q3];apply bd (fun _:Unit=>True) (fun _=>⟨[(0,.op 0 0 0),(1,dI id),(4,dI (k:Int)),(5,.op 17 0 0),(7,dI to)],[(0,some (fG (if fr then w1.insU to (w.cl k).ex.rc else w1) 1 18 16)),(1,some (.buf 65 (w1.p.cls.map dU))),(18,some (.buf 33 ((if fr then w1.insU to (w.cl k).ex.rc else w1).p.ups.map fo))),(16,some (.buf 5 ((if fr then w1.insU to (w.cl k).ex.rc else w1).out.map bn))),(17,some (.box [dI ({(w.cl k).ex with st:=if fr then 2 else 3}.st),dI ({(w.cl k).ex with st:=if fr then 2 else 3}.ser),dI ({(w.cl k).ex with st:=if fr then 2 else 3}.born),dI ({(w.cl k).ex with st:=if fr then 2 else 3}.up),dI ({(w.cl k).ex with st:=if fr then 2 else 3}.rc),.d (.s {(w.cl k).ex with st:=if fr then 2 else 3}.rid),.d (.b {(w.cl k).ex with st:=if fr then 2 else 3}.rnew),.d (.s {(w.cl k).ex with st:=if fr then 2 else 3}.rq.m),.d (.s {(w.cl k).ex with st:=if fr then 2 else 3}.rq.t),dI ({(w.cl k).ex with st:=if fr then 2 else 3}.rq.mi),.d (.sl 2 ({(w.cl k).ex with st:=if fr then 2 else 3}.rq.fs.map aL)),.d (.b {(w.cl k).ex with st:=if fr then 2 else 3}.rq.fr),.d (.sl 1 (aD {(w.cl k).ex with st:=if fr then 2 else 3}.rq.body)),.d (.b {(w.cl k).ex with st:=if fr then 2 else 3}.cl),.d (.b {(w.cl k).ex with st:=if fr then 2 else 3}.hd),.d (.b {(w.cl k).ex with st:=if fr then 2 else 3}.sto),dI ({(w.cl k).ex with st:=if fr then 2 else 3}.an.st),.d (.s {(w.cl k).ex with st:=if fr then 2 else 3}.an.rs),dI ({(w.cl k).ex with st:=if fr then 2 else 3}.an.mi),.d (.sl 2 ({(w.cl k).ex with st:=if fr then 2 else 3}.an.fs.map aL)),.d (.sl 1 (aD {(w.cl k).ex with st:=if fr then 2 else 3}.an.body)),.d (.sl 1 (aD {(w.cl k).ex with st:=if fr then 2 else 3}.store)),dI ({(w.cl k).ex with st:=if fr then 2 else 3}.size),.d (.i .u32 {(w.cl k).ex with st:=if fr then 2 else 3}.dg.s.x0),.d (.i .u32 {(w.cl k).ex with st:=if fr then 2 else 3}.dg.s.x1),.d (.i .u32 {(w.cl k).ex with st:=if fr then 2 else 3}.dg.s.x2),.d (.i .u32 {(w.cl k).ex with st:=if fr then 2 else 3}.dg.s.x3),.d (.i .u32 {(w.cl k).ex with st:=if fr then 2 else 3}.dg.s.x4),.d (.i .u32 {(w.cl k).ex with st:=if fr then 2 else 3}.dg.s.x5),.d (.i .u32 {(w.cl k).ex with st:=if fr then 2 else 3}.dg.s.x6),.d (.i .u32 {(w.cl k).ex with st:=if fr then 2 else 3}.dg.s.x7),dI ({(w.cl k).ex with st:=if fr then 2 else 3}.dg.n),.d (.sl 1 (aD {(w.cl k).ex with st:=if fr then 2 else 3}.dg.t))]))],2⟩)
    ·cases fr
     ·simp only[Bool.false_eq_true,if_false];repeat'(first|refine ad ?_|refine dk ?_|refine ae (fun _=>?_) (fun _=>?_)|refine aq ?_)
      apply aC () [(16,_),(17,_),(18,_)] trivial;exact be
     ·simp only[if_true];have n1:=Lg w1.p.cfg s1.cfg;have n2:=rU to w1.p.cfg.cin (2*w1.p.cfg.maxHead+w1.p.cfg.maxBody+2000);have hml:(w1.p.ups.map fo).length=w1.p.ups.length:=by simp
      have hmo:(w1.out.map bn).length=w1.out.length:=by simp
      have hol:=b1.ol;have hlim:=b1.lim;have hul1:=s1.ul;unfold di bi at n1;unfold ee bN at n2;repeat'(first|refine ad ?_|refine dk ?_|refine ah (n1) ?_|refine ah (n2) ?_|refine ae (fun _=>?_) (fun _=>?_)|refine aq ?_)
      apply aA (fun i:Nat=>i≤w1.p.ups.length∧∀(j:Nat)(h:j<w1.p.ups.length),j<i→decide (w1.p.ups[j].po.id<to)=true) (fun i=>⟨[(0,.op 0 0 0),(1,dI id),(4,dI (k:Int)),(5,.op 17 0 0),(7,dI to),(10,.op 19 0 0),(11,dI (i:Int))],[(0,some (.box [dI w1.p.cfg.maxHead,dI w1.p.cfg.maxBody,dI w1.p.cfg.maxReply,dI w1.p.cfg.cin,dI w1.p.cfg.cout,dI w1.p.cfg.clients,dI w1.p.cfg.admins,dI w1.p.cfg.listeners,dI w1.p.cfg.stable,dI w1.p.cfg.canary,dI w1.p.cfg.shadow,dI w1.p.cfg.tee,dI w1.p.cfg.idle,dI w1.p.cfg.reqd,dI w1.p.cfg.shadd,dI w1.p.cfg.reports,.d (.sl 1 (w1.p.cfg.plan.ws.map (.i .i64))),dI w1.p.cfg.plan.ms,dI w1.p.cfg.plan.nu,dI w1.p.cfg.plan.de,dI w1.p.cfg.plan.ho,dI w1.p.cfg.plan.wi,.d (.s w1.p.cfg.salt),.d (.s w1.p.cfg.cookie),.d (.b w1.p.cfg.mirror),.d (.sl 1 (w1.p.cfg.ignore.map .s)),dI w1.p.now,dI w1.p.draw,dI w1.p.ser,dI w1.p.ro.st,dI w1.p.ro.sg,dI w1.p.ro.he,dI w1.p.ro.tt,dI w1.p.ro.er,dI w1.p.ro.ag,.os 1,.d (.sl 33 (w1.p.ups.map fo)),dI w1.p.sta.ba,dI w1.p.sta.qu,dI w1.p.sta.se,.d (.sl 1 (w1.p.sta.id.map (.i .i64))),.d (.sl 1 (w1.p.sta.bu.map (.i .i64))),dI w1.p.can.ba,dI w1.p.can.qu,dI w1.p.can.se,.d (.sl 1 (w1.p.can.id.map (.i .i64))),.d (.sl 1 (w1.p.can.bu.map (.i .i64))),dI w1.p.sh.pool.ba,dI w1.p.sh.pool.qu,dI w1.p.sh.pool.se,.d (.sl 1 (w1.p.sh.pool.id.map (.i .i64))),.d (.sl 1 (w1.p.sh.pool.bu.map (.i .i64))),.d (.sl 55 (w1.p.sh.jobs.map bI)),dI w1.p.sh.rep.cap,dI w1.p.sh.rep.ser,.d (.sl 6 (w1.p.sh.rep.l.map NH)),.os 3])),(1,some (.buf 65 (w1.p.cls.map dU))),(3,some (.buf 5 (w1.out.map bn))),(17,some (.box [dI ((w.cl k).ex.st),dI ((w.cl k).ex.ser),dI ((w.cl k).ex.born),dI ((w.cl k).ex.up),dI ((w.cl k).ex.rc),.d (.s (w.cl k).ex.rid),.d (.b (w.cl k).ex.rnew),.d (.s (w.cl k).ex.rq.m),.d (.s (w.cl k).ex.rq.t),dI ((w.cl k).ex.rq.mi),.d (.sl 2 ((w.cl k).ex.rq.fs.map aL)),.d (.b (w.cl k).ex.rq.fr),.d (.sl 1 (aD (w.cl k).ex.rq.body)),.d (.b (w.cl k).ex.cl),.d (.b (w.cl k).ex.hd),.d (.b (w.cl k).ex.sto),dI ((w.cl k).ex.an.st),.d (.s (w.cl k).ex.an.rs),dI ((w.cl k).ex.an.mi),.d (.sl 2 ((w.cl k).ex.an.fs.map aL)),.d (.sl 1 (aD (w.cl k).ex.an.body)),.d (.sl 1 (aD (w.cl k).ex.store)),dI ((w.cl k).ex.size),.d (.i .u32 (w.cl k).ex.dg.s.x0),.d (.i .u32 (w.cl k).ex.dg.s.x1),.d (.i .u32 (w.cl k).ex.dg.s.x2),.d (.i .u32 (w.cl k).ex.dg.s.x3),.d (.i .u32 (w.cl k).ex.dg.s.x4),.d (.i .u32 (w.cl k).ex.dg.s.x5),.d (.i .u32 (w.cl k).ex.dg.s.x6),.d (.i .u32 (w.cl k).ex.dg.s.x7),dI ((w.cl k).ex.dg.n),.d (.sl 1 (aD (w.cl k).ex.dg.t))])),(19,some (.box [dI ((bT w1.p.cfg to).po.id),dI ((bT w1.p.cfg to).po.cls),dI ((bT w1.p.cfg to).po.inn.cap),.d (.sl 1 (aD (bT w1.p.cfg to).po.inn.dat)),dI ((bT w1.p.cfg to).po.out.cap),.d (.sl 1 (aD (bT w1.p.cfg to).po.out.dat)),dI ((bT w1.p.cfg to).po.bud),.d (.b (bT w1.p.cfg to).po.ended),.d (.b (bT w1.p.cfg to).po.closing),.d (.b (bT w1.p.cfg to).opn),dI ((bT w1.p.cfg to).cli),.d (.b (bT w1.p.cfg to).rd.rep),.d (.s (bT w1.p.cfg to).rd.meth),dI ((bT w1.p.cfg to).rd.ph),.d (.s (bT w1.p.cfg to).rd.rq.m),.d (.s (bT w1.p.cfg to).rd.rq.t),dI ((bT w1.p.cfg to).rd.rq.mi),.d (.sl 2 ((bT w1.p.cfg to).rd.rq.fs.map aL)),.d (.b (bT w1.p.cfg to).rd.rq.fr),.d (.sl 1 (aD (bT w1.p.cfg to).rd.rq.body)),dI ((bT w1.p.cfg to).rd.an.st),.d (.s (bT w1.p.cfg to).rd.an.rs),dI ((bT w1.p.cfg to).rd.an.mi),.d (.sl 2 ((bT w1.p.cfg to).rd.an.fs.map aL)),.d (.sl 1 (aD (bT w1.p.cfg to).rd.an.body)),dI ((bT w1.p.cfg to).rd.fm.kd),dI ((bT w1.p.cfg to).rd.fm.len),dI ((bT w1.p.cfg to).rd.lf),dI ((bT w1.p.cfg to).rd.sz),dI ((bT w1.p.cfg to).rd.ck.ph),dI ((bT w1.p.cfg to).rd.ck.lf),dI ((bT w1.p.cfg to).rd.ck.tr),.d (.sl 1 (aD (bT w1.p.cfg to).rd.ck.ln))]))],3⟩) (fun i=>w1.p.ups.length-i) 0 ⟨Nat.zero_le _,fun j _ hj=>by omega⟩ [(17,_),(19,_)];·exact be
      ·rintro i ⟨hi,hnn⟩;have exit:(∀h:i<w1.p.ups.length,decide (w1.p.ups[i].po.id<to)=false)→jR w1.p.ups to=i:=fun hh=>Aj _ _ _ hi hnn hh;refine ad ?_;refine ae (fun h1=>?_) (fun h1=>?_)
       ·have hi':i<w1.p.ups.length:=by omega
        refine ao i rfl (wS hi') ?_;refine ae (fun h2=>?_) (fun h2=>?_)
        ·repeat'(first|refine ad ?_|refine dk ?_|refine ae (fun _=>?_) (fun _=>?_)|refine aq ?_)
         apply aG (i+1) [(17,_),(19,_)] ⟨by omega,fun j h hj=>by
          by_cases hji:j<i;·exact hnn j h hji
          ·obtain rfl:j=i:=by omega
           exact decide_eq_true h2⟩ (by omega);exact be
        ·have he:=exit fun _=>decide_eq_false h2;unfold Wd.insU;rw[he];repeat'(first|refine ad ?_|refine dk ?_|refine bnd i rfl (by omega) ?_|refine aB (by simp;omega) ?_|refine ae (fun _=>?_) (fun _=>?_)|refine aq ?_)
         apply aC () [(16,_),(17,_),(18,_)] trivial;((repeat' constructor)<;>(first|refine aI ?_|rfl)<;>first|with_reducible rfl|(simp only[Ng,List.map_take,List.map_drop];rfl)|(congr 1<;>omega)|(congr 1<;>simp;done)|(simp;done)|rfl|skip)
       ·have he:=exit fun h=>absurd h (by omega);unfold Wd.insU;rw[he];repeat'(first|refine ad ?_|refine dk ?_|refine bnd i rfl (by omega) ?_|refine aB (by simp;omega) ?_|refine ae (fun _=>?_) (fun _=>?_)|refine aq ?_)
        apply aC () [(16,_),(17,_),(18,_)] trivial;((repeat' constructor)<;>(first|refine aI ?_|rfl)<;>first|with_reducible rfl|(simp only[Ng,List.map_take,List.map_drop];rfl)|(congr 1<;>omega)|(congr 1<;>simp;done)|(simp;done)|rfl|skip)
    ·rintro _ _;generalize (if fr then w1.insU to (w.cl k).ex.rc else w1)=w2 at*;have ec:w2.cl k=w.cl k:=by unfold Wd.cl;rw[e2]
     rw[q1,←e2];rw[←e2] at hg hlt;have hcg2:(w2.cl k).Gd:=by rw[ec];exact hcg
     have s3:(w2.fw2 k to fr).S:=s2.setC k (hcg2.to to fr);have b3:(w2.fw2 k to fr).B (n+1):=b2.setC hlt (Int.le_refl _);have hj3:im (w2.fw2 k to fr).p.ups to=some j:=hj;obtain⟨hjl,hjd⟩:=fE hj;have r1:=iS (w2.fw2 k to fr).p to s3.ul;rw[hj3,bj] at r1;have hgu:=w2.get_up hjl;have hug:=s2.ug _ (w2.up_mem hjl);have r2:=Kl (w2.up j).po (mB (oB (w.cl k).ex.rq id (w.cl k).ex.ser false)) hug.po.bud hug.po.ol (by omega);have r3:aH (CG G) 79 [.op 0 0 0,dI to,.d (.sl 1 (aD ((w2.up j).po.put (mB (oB (w.cl k).ex.rq id (w.cl k).ex.ser false))).sent))] (lP ((w2.fw2 k to fr).setU j ((w2.up j).fw (w.cl k).ex id))) [] (NR ((w2.fw2 k to fr).fw3 (w.cl k).ex j id to)):=B0 ((w2.fw2 k to fr).setU j ((w2.up j).fw (w.cl k).ex id)) to ((w2.up j).po.put (mB (oB (w.cl k).ex.rq id (w.cl k).ex.ser false))).sent (n:=n+1) (by have:=pZ (w2.up j).po (mB (oB (w.cl k).ex.rq id (w.cl k).ex.ser false)) hug.po.bud.1;have:=hug.po.bud;omega) (b3.setU hjl (pZ _ _ hug.po.bud.1).2);have s5:=s3.fw3 (w.cl k).ex hjl id to;have b5:=b3.fw3 s3 (by omega) (w.cl k).ex hjl id to;have hser:=hx.ser;generalize hw5:(w2.fw2 k to fr).fw3 (w.cl k).ex j id to=w5 at*;have r4:=Mr w5.p.sh w5.p.cfg (w.cl k).ex.ser w5.p.now (w.cl k).ex.rq.m (mB (oB (w.cl k).ex.rq id (w.cl k).ex.ser true)) s5.sh s5.cfg (by omega);unfold Wd.fw4;unfold fo jx at hgu;unfold Cm;unfold ee bN at r2;unfold gr bZ at d5;unfold dw bf at r1;simp only[Wd.fw2,Wd.setC,aQ,ec] at r1;cases hm:w5.p.cfg.mirror
     ·simp only[lP,NR,fG,hm] at r3;simp only[Bool.false_eq_true,if_false];repeat'(first|refine ad ?_|refine dk ?_|refine ah (r1) ?_|refine ah (d1) ?_|refine ah (d2) ?_|refine ah (d5) ?_|refine ah (r2) ?_|refine bh k rfl (by simpa using hlt) ?_|refine bh j rfl (by simpa using hjl) ?_|refine ax (au (by simpa using hlt)) ?_|refine ax (au (by simpa using hjl)) ?_|refine ax hg ?_|refine ax hgu ?_|refine az (au (by simpa using hjl)) ?_|refine ae (fun _=>?_) (fun _=>?_)|refine aq ?_)
      apply ak [(0,_),(1,_),(2,_),(3,_)] r3;·((repeat' constructor)<;>(first|refine aI ?_|rfl)<;>first|with_reducible rfl|(simp only[Wd.setC,Wd.setU,aQ,aP,Ns,Wd.fw2,Up.fw,ec];rfl)|(congr 1<;>omega)|(congr 1<;>simp;done)|(simp;done)|rfl|skip)
      ·repeat'(first|refine ad ?_|refine dk ?_|refine ae (fun _=>?_) (fun _=>?_)|refine aq ?_)
       apply aw [(16,_),(17,_),(18,_)];((repeat' constructor)<;>(first|refine aI ?_|rfl)<;>first|exact lg_|skip);all_goals simp only[hm]
     ·simp only[lP,NR,fG,hm] at r3;simp only[if_true];repeat'(first|refine ad ?_|refine dk ?_|refine ah (r1) ?_|refine ah (d1) ?_|refine ah (d2) ?_|refine ah (d5) ?_|refine ah (r2) ?_|refine bh k rfl (by simpa using hlt) ?_|refine bh j rfl (by simpa using hjl) ?_|refine ax (au (by simpa using hlt)) ?_|refine ax (au (by simpa using hjl)) ?_|refine ax hg ?_|refine ax hgu ?_|refine az (au (by simpa using hjl)) ?_|refine ae (fun _=>?_) (fun _=>?_)|refine aq ?_)
      apply ak [(0,_),(1,_),(2,_),(3,_)] r3;·((repeat' constructor)<;>(first|refine aI ?_|rfl)<;>first|with_reducible rfl|(simp only[Wd.setC,Wd.setU,aQ,aP,Ns,Wd.fw2,Up.fw,ec];rfl)|(congr 1<;>omega)|(congr 1<;>simp;done)|(simp;done)|rfl|skip)
      ·have hsm:=(AM w5.p.sh w5.p.cfg (w.cl k).ex.ser w5.p.now (w.cl k).ex.rq.m (mB (oB (w.cl k).ex.rq id (w.cl k).ex.ser true))).1;generalize CI w5.p.sh w5.p.cfg (w.cl k).ex.ser w5.p.now (w.cl k).ex.rq.m (mB (oB (w.cl k).ex.rq id (w.cl k).ex.ser true))=t at*;have hm5:(w5.out.map bn).length=w5.out.length:=by simp
       have hmt:(t.2.map bn).length=t.2.length:=by simp
       have hol5:=b5.ol;have hlim5:=b5.lim;simp only[di,bi,hm,bJ,aZ,bS] at r4;repeat'(first|refine ad ?_|refine dk ?_|refine ah (d3) ?_|refine ah (d4) ?_|refine ah (r4) ?_|refine aB (by omega) ?_|refine ae (fun _=>?_) (fun _=>?_)|refine aq ?_)
       apply aw [(16,_),(17,_),(18,_)];((repeat' constructor)<;>(first|refine aI ?_|rfl)<;>first|exact lg_|skip);all_goals simp only[hm]
theorem Dw (m q:List UInt8)(x:Ro)(p:Pl)(hx:Io x p)(hy:∀c,Io (jV x c).1 p):(ik m q x p).body.length≤3000∧(ik m q x p).text.length≤3000:=by
 have h1:=jC x p hx;have h2:=jC _ p (hy (fI q:Int));have a1:Bo.length≤3000:=by decide
 have a2:xQ.length≤3000:=by decide
 have a3:yz.length≤3000:=by decide
 unfold ik;split
 ·refine⟨?_,h1⟩;simp only;split;·decide
  ·exact h1
 ·split
  ·split;·exact⟨a1,a1⟩
   ·exact⟨h2,h2⟩
  ·split;·exact⟨a2,a2⟩
   ·exact⟨a3,a3⟩
def fH (a:FZ)(cl:Bool):iZ:=⟨a.code,du a.code,1,sF a.ct a.text++f8 cl,a.body⟩
def Wd.aAns (w:Wd)(k:Nat):FZ:=ik (w.cl k).ex.rq.m (cz 63 (w.cl k).ex.rq.t).1 w.p.ro w.p.cfg.plan
def Wd.lAns (w:Wd)(k:Nat):FZ:=kq (w.cl k).ex.rq.m (w.cl k).ex.rq.t (eB w.p.sh.rep.l) (pV w.p.sh.rep.l)
def Wd.setRo (w:Wd)(r:Ro):Wd:=⟨{w.p with ro:=r},w.out⟩
def Wd.say (w:Wd)(id:Int)(b m:List UInt8)(cl:Bool):Wd:=if w.fits id b then w.put id b else(w.put id b).put id (bD 503 m cl)
def Wd.answer (w:Wd)(k:Nat)(id:Int)(a:FZ):Wd:=(w.say id (gB (fH a (w.cl k).ex.cl)) (w.cl k).ex.rq.m (w.cl k).ex.cl).over k
def Wd.jF (w:Wd)(k:Nat):Nat:=match fZ (w.poolOf (w.cl k).ex.rc) with|none=>0|some (p,to,fr)=>(im (w.fw1 (w.cl k).ex.rc p to fr).p.ups to).getD 0
def Wd.dispatch (w:Wd)(k:Nat)(id:Int):Wd:=if(w.cl k).po.cls=1 then w.forward k (w.jF k) id else if(w.cl k).po.cls=2 then(w.setRo (w.aAns k).ro).answer k id (w.aAns k)else w.answer k id (w.lAns k)
theorem Wd.S.setRo {w:Wd}(h:w.S){r:Ro}(hr:eo w.p.now w.p.cfg.plan.ws.length r):(w.setRo r).S:=⟨h.cfg,h.now,h.draw,h.ser,hr,h.pl,h.cl,h.ul,h.cg,h.ug,h.sta,h.can,h.sh⟩
theorem Wd.B.setRo {w:Wd}{n:Nat}(h:w.B n)(r:Ro):(w.setRo r).B n:=⟨h.lim,h.ol,h.ph⟩
theorem Wd.B.say {w:Wd}{n:Nat}(hs:w.S)(h:w.B n)(hl:n+2≤10000000000)(id:Int)(b m:List UInt8)(cl:Bool):(w.say id b m cl).B (n+2):=by
 unfold Wd.say;split;·exact(h.put hs (by omega) _ _).up (by omega) hl
 ·exact(h.put hs (by omega) _ _).put (hs.put _ _) (by omega) _ _
theorem u2 (m q:List UInt8)(x:Ro)(p:Pl):(ik m q x p).ro=x∨∃c,(ik m q x p).ro=(jV x c).1:=by
 unfold ik;repeat' split
 all_goals first|exact .inl rfl|exact .inr ⟨_,rfl⟩
theorem JN (m q:List UInt8)(x:Ro)(p:Pl):(ik m q x p).ct.length≤20:=by
 unfold ik;repeat' split
 all_goals (first|(show om.length≤20;decide)|(show eE.length≤20;decide))
theorem Dh (m t tx js:List UInt8){n:Nat}(hn:100≤n)(h1:tx.length≤n)(h2:js.length≤n):(kq m t tx js).ct.length≤20∧(kq m t tx js).text.length≤n∧(kq m t tx js).body.length≤n:=by
 have a2:xQ.length≤100:=by decide
 have a3:yz.length≤100:=by decide
 have j:om.length≤20:=by decide
 have p:eE.length≤20:=by decide
 unfold kq;simp only;split;·exact⟨p,by simp only;omega,by simp only;omega⟩
 ·split;·exact⟨p,by simp only;omega,by simp only;omega⟩
  ·split
   ·refine⟨p,h1,?_⟩;simp only;split;·simp
    ·exact h1
   ·refine⟨j,h2,?_⟩;simp only;split;·simp
    ·exact h2
theorem Gp (a:FZ)(cl:Bool)(h1:a.ct.length≤20)(h2:a.text.length≤900000000):br (fH a cl).fs≤400:=by
 show br (sF a.ct a.text++f8 cl)≤400;have h1':br (f8 cl)≤16:=by cases cl<;>decide
 have h3:AF.length≤20:=by decide
 have h4:zc.length≤20:=by decide
 have h5:=bv (n:=(a.text.length:Int)) (by omega);have h0:br []=0:=rfl;rw[b7];unfold sF;simp only[dj,h0];omega
theorem Jr {w:Wd}(h:w.S):(eB w.p.sh.rep.l).length≤400000000∧(pV w.p.sh.rep.l).length≤400000000∧w.p.sh.rep.l.length≤5:=by have h1:=F3 w.p.sh.rep.l h.sh.fit;have h2:=wL w.p.sh.rep.l h.sh.fit;have h3:=h.sh.rep.len;have h4:=h.sh.cap;refine⟨by omega,?_,by omega⟩;simp only[pV,CK,Na,Nb,Nf];omega
theorem admIo {w:Wd}(h:w.S):Io w.p.ro w.p.cfg.plan∧(∀c,Io (jV w.p.ro c).1 w.p.cfg.plan):=by have hn:=h.now;have hl:=h.cfg.planLen;exact⟨J7 h.ro (by omega) (by omega) h.cfg.planPos,fun c=>J7 (nq h.pl hn.1 h.ro c) (by omega) (by omega) h.cfg.planPos⟩
theorem AK (w:Wd)(k:Nat)(id:Int){n:Nat}(hs:w.S)(hw:w.B n)(hn:n+10≤10000000000)(hul:w.p.ups.length<1000000)(hi:fT id)(hk:bM w.p.cls id=some k)(hj:(w.cl k).po.cls=1→∀p to fr,fZ (w.poolOf (w.cl k).ex.rc)=some (p,to,fr)→im (w.fw1 (w.cl k).ex.rc p to fr).p.ups to=some (w.jF k)):aH (CG G) 144 [.op 0 0 0,dI id] (lP w) [] (jr (w.dispatch k id)):=by
 have c1:=dt w.p id hs.cl;rw[hk,bj] at c1;obtain⟨hlt,hid⟩:=aR hk;have hg:=w.get_cl hlt;have hcg:=hs.cg _ (w.cl_mem hlt);have hx:=hcg.ex;obtain⟨hio,hio2⟩:=admIo hs;obtain⟨ht1,ht2,ht3⟩:=Jr hs;have hob:=wL w.p.sh.rep.l hs.sh.fit;have t1:=Md w.p.sh.rep.cap w.p.sh.rep.ser w.p.sh.rep.l (by omega) (fun y hy=>xD y (hs.sh.fit y hy)) (by omega);have t2:=MY w.p.sh.rep.cap w.p.sh.rep.ser w.p.sh.rep.l (by omega) (fun y hy=>⟨xD y (hs.sh.fit y hy),JP y (hs.sh.fit y hy)⟩) (by omega);have hrt:=hx.rqt;have hpl:=hs.cfg.planLen;have d1:(w.cl k).po.cls=1→aH (CG G) 175 [.op 0 0 0,dI id] (lP w) [] (jr (w.forward k (w.jF k) id)):=fun h=>Dc w k (w.jF k) id hs hw hn hul hi hk (hj h);have d2:=Lk (w.cl k).ex.rq.m (w.cl k).ex.rq.t (w.cl k).ex.rq.mi ((w.cl k).ex.rq.fs.map aL) (aD (w.cl k).ex.rq.body) (w.cl k).ex.rq.fr w.p.ro w.p.cfg.plan hio hio2 (by omega) (by omega);have d3:=Jz (w.cl k).ex.rq.m (w.cl k).ex.rq.t (eB w.p.sh.rep.l) (pV w.p.sh.rep.l) (w.cl k).ex.rq.mi ((w.cl k).ex.rq.fs.map aL) (aD (w.cl k).ex.rq.body) (w.cl k).ex.rq.fr w.p.sh.rep.cap w.p.sh.rep.ser w.p.sh.rep.l (by omega) (by omega) (by omega) t1 t2;have la:=Dh (w.cl k).ex.rq.m (w.cl k).ex.rq.t (eB w.p.sh.rep.l) (pV w.p.sh.rep.l) (n:=400000000) (by omega) ht1 ht2;have lb:=Dw (w.cl k).ex.rq.m (cz 63 (w.cl k).ex.rq.t).1 w.p.ro w.p.cfg.plan hio hio2;have lc:=JN (w.cl k).ex.rq.m (cz 63 (w.cl k).ex.rq.t).1 w.p.ro w.p.cfg.plan;have lr:eo w.p.now w.p.cfg.plan.ws.length (w.aAns k).ro:=by
  rcases u2 (w.cl k).ex.rq.m (cz 63 (w.cl k).ex.rq.t).1 w.p.ro w.p.cfg.plan with h|⟨c,h⟩;·show eo _ _ (ik _ _ _ _).ro;rw[h];exact hs.ro
  ·show eo _ _ (ik _ _ _ _).ro;rw[h];exact nq hs.pl hs.now.1 hs.ro c
 have sA:=hs.setRo lr;have bA:=hw.setRo (w.aAns k).ro;have hcls:∀y:Wd,y.p.cls=w.p.cls→y.cl k=w.cl k:=fun y h=>by unfold Wd.cl;rw[h]
 unfold dU dD at hg;generalize hD:w.dispatch k id=D at*;unfold Wd.dispatch Wd.aAns Wd.lAns at*;unfold dw bf at c1;generalize ik (w.cl k).ex.rq.m (cz 63 (w.cl k).ex.rq.t).1 w.p.ro w.p.cfg.plan=aa at*;generalize kq (w.cl k).ex.rq.m (w.cl k).ex.rq.t (eB w.p.sh.rep.l) (pV w.p.sh.rep.l)=al at*;unfold sr oW gj lz o6 at*;refine aH.mk (n:=96) Tryz.func144 rfl rfl rfl (Nat.le_of_ble_eq_true rfl) rfl (ah c1 (bh k rfl (by simpa using hlt) (az hg ?_)));apply bd (fun y:Wd×FZ=>y.1.S∧y.1.B n∧y.2.ct.length≤20∧y.2.text.length≤400000000∧y.2.body.length≤400000000∧y.1.p.cls=w.p.cls∧y.1.answer k id y.2=D) (fun y=>⟨[(0,.op 0 0 0),(1,dI id),(5,.op 17 0 0),(6,.op 18 0 0)],[(0,some (fG y.1 1 2 3)),(1,some (.buf 65 (y.1.p.cls.map dU))),(2,some (.buf 33 (y.1.p.ups.map fo))),(3,some (.buf 5 (y.1.out.map bn))),(17,some (.box [dI ((w.cl k).ex.st),dI ((w.cl k).ex.ser),dI ((w.cl k).ex.born),dI ((w.cl k).ex.up),dI ((w.cl k).ex.rc),.d (.s (w.cl k).ex.rid),.d (.b (w.cl k).ex.rnew),.d (.s (w.cl k).ex.rq.m),.d (.s (w.cl k).ex.rq.t),dI ((w.cl k).ex.rq.mi),.d (.sl 2 ((w.cl k).ex.rq.fs.map aL)),.d (.b (w.cl k).ex.rq.fr),.d (.sl 1 (aD (w.cl k).ex.rq.body)),.d (.b (w.cl k).ex.cl),.d (.b (w.cl k).ex.hd),.d (.b (w.cl k).ex.sto),dI ((w.cl k).ex.an.st),.d (.s (w.cl k).ex.an.rs),dI ((w.cl k).ex.an.mi),.d (.sl 2 ((w.cl k).ex.an.fs.map aL)),.d (.sl 1 (aD (w.cl k).ex.an.body)),.d (.sl 1 (aD (w.cl k).ex.store)),dI ((w.cl k).ex.size),.d (.i .u32 (w.cl k).ex.dg.s.x0),.d (.i .u32 (w.cl k).ex.dg.s.x1),.d (.i .u32 (w.cl k).ex.dg.s.x2),.d (.i .u32 (w.cl k).ex.dg.s.x3),.d (.i .u32 (w.cl k).ex.dg.s.x4),.d (.i .u32 (w.cl k).ex.dg.s.x5),.d (.i .u32 (w.cl k).ex.dg.s.x6),.d (.i .u32 (w.cl k).ex.dg.s.x7),dI ((w.cl k).ex.dg.n),.d (.sl 1 (aD (w.cl k).ex.dg.t))])),(18,some (.box [dI y.2.code,.d (.s (du y.2.code)),dI 1,.os 19,.d (.sl 1 (aD y.2.body))])),(19,some (.buf 2 ((sF y.2.ct y.2.text).map aL)))],2⟩)
 ·refine bh k rfl (by simpa using hlt) (az hg ?_);refine ae (fun h1=>?_) (fun h1=>?_)
  ·repeat'(first|refine ad ?_|refine dk ?_|refine ae (fun _=>?_) (fun _=>?_)|refine aq ?_)
   rw[if_pos h1] at hD;subst hD;apply ak [(0,_),(1,_),(2,_),(3,_)] (d1 h1);·exact be
   ·repeat'(first|refine ad ?_|refine dk ?_|refine ae (fun _=>?_) (fun _=>?_)|refine aq ?_)
    apply aw [(16,_),(17,_),(18,_)];exact be
  ·rw[if_neg h1] at hD;refine ae (fun h2=>?_) (fun h2=>?_)
   ·rw[if_pos h2] at hD;repeat'(first|refine ad ?_|refine dk ?_|refine ae (fun _=>?_) (fun _=>?_)|refine aq ?_)
    refine aT (ak [] d2 ?_ ?_);·exact aF
    repeat'(first|refine ad ?_|refine dk ?_|refine ae (fun _=>?_) (fun _=>?_)|refine aq ?_)
    apply aC (w.setRo aa.ro,aa) [(17,_),(18,_),(19,_)] ⟨sA,bA,lc,Nat.le_trans lb.2 (by decide),Nat.le_trans lb.1 (by decide),rfl,hD⟩;((repeat' constructor)<;>(first|refine aI ?_|rfl)<;>first|with_reducible rfl|(simp only[Wd.setRo];rfl)|(congr 1<;>omega)|(congr 1<;>simp;done)|(simp;done)|rfl|skip)
   ·rw[if_neg h2] at hD;repeat'(first|refine ad ?_|refine dk ?_|refine ae (fun _=>?_) (fun _=>?_)|refine aq ?_)
    refine aT (ak [] d3 ?_ ?_);·exact aF
    repeat'(first|refine ad ?_|refine dk ?_|refine ae (fun _=>?_) (fun _=>?_)|refine aq ?_)
    apply aC (w,al) [(17,_),(18,_),(19,_)] ⟨hs,hw,la.1,la.2.1,la.2.2,rfl,hD⟩;exact be
 ·rintro⟨v,a⟩ ⟨vs,vb,l1,l2,l3,vc,vD⟩;simp only at vs vb l1 l2 l3 vc vD;have e1:=hcls v vc;unfold Wd.answer Wd.say at vD;rw[e1] at vD;have hal:=Gp a (w.cl k).ex.cl l1 (by omega);have hrl:=pO (fH a (w.cl k).ex.cl);have hre:=kC a.code;have e2:(fH a (w.cl k).ex.cl).rs=du a.code:=rfl;have e3:(fH a (w.cl k).ex.cl).body=a.body:=rfl;rw[e2,e3] at hrl;have f1:=zz (fH a (w.cl k).ex.cl) (by rw[e2];omega) (by omega) (by rw[e3];omega);have f2:=sO v id (gB (fH a (w.cl k).ex.cl)) vs vb (by omega);have f3:=ku 503 (w.cl k).ex.rq.m (w.cl k).ex.cl;have f4:=qs 503 (w.cl k).ex.rq.m (w.cl k).ex.cl;have hpb:=iY 503 (w.cl k).ex.rq.m (w.cl k).ex.cl;have s2:=vs.put id (gB (fH a (w.cl k).ex.cl));have b2:=vb.put vs (by omega) id (gB (fH a (w.cl k).ex.cl));have k2:bM (v.put id (gB (fH a (w.cl k).ex.cl))).p.cls id=some k:=by rw[jw,vc,hk]
  have f5:=sO (v.put id (gB (fH a (w.cl k).ex.cl))) id (bD 503 (w.cl k).ex.rq.m (w.cl k).ex.cl) s2 b2 (by omega);have f6:=qI (v.put id (gB (fH a (w.cl k).ex.cl))) id k s2 k2;have f7:=qI ((v.put id (gB (fH a (w.cl k).ex.cl))).put id (bD 503 (w.cl k).ex.rq.m (w.cl k).ex.cl)) id k (s2.put _ _) (by rw[jw,k2]);generalize hfi:v.fits id (gB (fH a (w.cl k).ex.cl))=fi at*;generalize v.put id (gB (fH a (w.cl k).ex.cl))=v2 at*;generalize gB (fH a (w.cl k).ex.cl)=rb at*;apply bd (fun _:Unit=>True) (fun _=>⟨[(0,.op 0 0 0),(1,dI id),(5,.op 17 0 0),(6,.op 18 0 0)],[(0,some (fG v 1 2 3)),(1,some (.buf 65 (v.p.cls.map dU))),(2,some (.buf 33 (v.p.ups.map fo))),(3,some (.buf 5 (v.out.map bn))),(17,some (.box [dI ((w.cl k).ex.st),dI ((w.cl k).ex.ser),dI ((w.cl k).ex.born),dI ((w.cl k).ex.up),dI ((w.cl k).ex.rc),.d (.s (w.cl k).ex.rid),.d (.b (w.cl k).ex.rnew),.d (.s (w.cl k).ex.rq.m),.d (.s (w.cl k).ex.rq.t),dI ((w.cl k).ex.rq.mi),.d (.sl 2 ((w.cl k).ex.rq.fs.map aL)),.d (.b (w.cl k).ex.rq.fr),.d (.sl 1 (aD (w.cl k).ex.rq.body)),.d (.b (w.cl k).ex.cl),.d (.b (w.cl k).ex.hd),.d (.b (w.cl k).ex.sto),dI ((w.cl k).ex.an.st),.d (.s (w.cl k).ex.an.rs),dI ((w.cl k).ex.an.mi),.d (.sl 2 ((w.cl k).ex.an.fs.map aL)),.d (.sl 1 (aD (w.cl k).ex.an.body)),.d (.sl 1 (aD (w.cl k).ex.store)),dI ((w.cl k).ex.size),.d (.i .u32 (w.cl k).ex.dg.s.x0),.d (.i .u32 (w.cl k).ex.dg.s.x1),.d (.i .u32 (w.cl k).ex.dg.s.x2),.d (.i .u32 (w.cl k).ex.dg.s.x3),.d (.i .u32 (w.cl k).ex.dg.s.x4),.d (.i .u32 (w.cl k).ex.dg.s.x5),.d (.i .u32 (w.cl k).ex.dg.s.x6),.d (.i .u32 (w.cl k).ex.dg.s.x7),dI ((w.cl k).ex.dg.n),.d (.sl 1 (aD (w.cl k).ex.dg.t))])),(18,some (.box [dI ((fH a (w.cl k).ex.cl).st),.d (.s (fH a (w.cl k).ex.cl).rs),dI ((fH a (w.cl k).ex.cl).mi),.d (.sl 2 ((fH a (w.cl k).ex.cl).fs.map aL)),.d (.sl 1 (aD (fH a (w.cl k).ex.cl).body))]))],2⟩)
  ·have hfl:((sF a.ct a.text).map aL).length=2:=rfl;generalize hcl:(w.cl k).ex.cl=cl;cases cl
   ·repeat'(first|refine ad ?_|refine dk ?_|refine ae (fun _=>?_) (fun _=>?_)|refine aq ?_)
    apply aC () [(17,_),(18,_)] trivial;((repeat' constructor)<;>(first|refine aI ?_|rfl)<;>first|exact lg_|skip);all_goals (first|(show D.b false=D.b _;rw[hcl])|simp[fH,f8])
   ·refine aB (by rw[hfl];decide) ?_;repeat'(first|refine ad ?_|refine dk ?_|refine ae (fun _=>?_) (fun _=>?_)|refine aq ?_)
    apply aC () [(17,_),(18,_)] trivial;((repeat' constructor)<;>(first|refine aI ?_|rfl)<;>first|exact lg_|skip);all_goals (first|(show D.b true=D.b _;rw[hcl])|simp[fH,f8,aL,cnHB,Fz])
  ·rintro _ _;unfold eF bU at f1 f3 f4;cases fi
   ·simp only[Bool.false_eq_true,if_false] at vD;refine ad (ah f1 ?_);apply ak [(0,_),(1,_),(2,_),(3,_)] f2;·exact be
    ·repeat'(first|refine ad ?_|refine dk ?_|refine ah (f3) ?_|refine ah (f4) ?_|refine ae (fun _=>?_) (fun _=>?_)|refine aq ?_)
     apply ak [(0,_),(1,_),(2,_),(3,_)] f5;·exact be
     ·repeat'(first|refine ad ?_|refine dk ?_|refine ae (fun _=>?_) (fun _=>?_)|refine aq ?_)
      apply ak [(0,_),(1,_),(2,_),(3,_)] f7;·exact be
      ·repeat'(first|refine ad ?_|refine dk ?_|refine ae (fun _=>?_) (fun _=>?_)|refine aq ?_)
       rw[←vD];apply aw [(16,_),(17,_),(18,_)];exact be
   ·simp only[if_true] at vD;refine ad (ah f1 ?_);apply ak [(0,_),(1,_),(2,_),(3,_)] f2;·exact be
    ·repeat'(first|refine ad ?_|refine dk ?_|refine ah (f3) ?_|refine ah (f4) ?_|refine ae (fun _=>?_) (fun _=>?_)|refine aq ?_)
     apply ak [(0,_),(1,_),(2,_),(3,_)] f6;·exact be
     ·repeat'(first|refine ad ?_|refine dk ?_|refine ae (fun _=>?_) (fun _=>?_)|refine aq ?_)
      rw[←vD];apply aw [(16,_),(17,_),(18,_)];exact be
end Go.Proofs.YtgfdbddglhblbaaGreat

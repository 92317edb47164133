/- A part of the proof of what is stated of the erasing of a mirror. -/
import Derived.Test.YtgfdbddglhblbaaGreatQbf
set_option maxHeartbeats 64000000
namespace Go.Proofs.YtgfdbddglhblbaaGreat
open Go.Eng
attribute [local irreducible] aO
set_option maxRecDepth 100000
noncomputable def sk (s:bz)(c:bk)(e:Ev):bz×List bC:=if e.kind=4 then(cnF s e.conn,[]) else if e.kind=5 then E0 s e.conn else if e.kind=2 then F0 s c e.conn e.b else if e.kind=3 then EK s c e.conn else if e.kind=6 then CZ s e.conn e.n else if e.kind=7 then ES s e.conn else(s,[])
noncomputable def Wd.mirror (w:Wd)(e:Ev):Wd:=⟨{w.p with sh:=(sk w.p.sh w.p.cfg e).1},w.out++(sk w.p.sh w.p.cfg e).2⟩
theorem mrF_v {s:bz}(h:s.V){c:bk}(hc:c.Ok)(e:Ev):(sk s c e).1.V:=by
 unfold sk;split;·exact cnF_v h _
 ·split;·exact rfF_v h _
  ·split;·exact dtF_v h hc _ _
   ·split;·exact ndF_v h c _
    ·split;·exact bgF_v h _ _
     ·split;·exact gnF_v h _
      ·exact h
theorem sum_nil {l:List bC}(h:∀a,a∈l→a.b=[]):(l.map fun a=>a.b.length).sum≤1000000:=by rw[yD h];omega
theorem FE {s:bz}(h:s.V)(c:bk)(e:Ev):(sk s c e).2.length≤2∧((sk s c e).2.map fun a=>a.b.length).sum≤1000000:=by
 unfold sk;split;·exact⟨Nat.zero_le _,by show(0:Nat)≤_;omega⟩
 ·split;·have:=Lo s e.conn;exact⟨by omega,sum_nil this.2⟩
  ·split;·have:=LN s c e.conn e.b;exact⟨this.1,sum_nil this.2⟩
   ·split;·have:=Mj s c e.conn;exact⟨by omega,sum_nil this.2⟩
    ·split;·have:=Mm h e.conn e.n;refine⟨by omega,?_⟩;have:=fP (f:=fun a:bC=>a.b.length) (l:=(CZ s e.conn e.n).2) 1000000 this.2;have:(CZ s e.conn e.n).2.length*1000000≤1*1000000:=Nat.mul_le_mul_right _ (by omega);omega
     ·split;·have:=Ms s e.conn;exact⟨by omega,sum_nil this.2⟩
      ·exact⟨Nat.zero_le _,by show(0:Nat)≤_;omega⟩
theorem Wd.S.setSh {w:Wd}(h:w.S){s:bz}(hs:s.V)(l:List bC):Wd.S ⟨{w.p with sh:=s},l⟩:=⟨h.cfg,h.now,h.draw,h.ser,h.ro,h.pl,h.cl,h.ul,h.cg,h.ug,h.sta,h.can,hs⟩
theorem xq {c:bk}{w:Wd}(h:w.J c 0){n:Nat}(b:w.B n)(hl:n+2≤10000000000)(hp:w.lim)(e:Ev):Wd.Go c w (w.mirror e) (n+2):=by
 have v:=mrF_v h.s.sh h.s.cfg e;have m:=FE h.s.sh w.p.cfg e;refine⟨h.same (h.s.setSh v _) rfl rfl rfl rfl rfl,⟨hl,?_,?_⟩,rfl,Nat.le_refl _,.same rfl rfl⟩;·have:=b.ol;show(w.out++_).length≤_;rw[Na];omega
 ·have e1:(w.mirror e).bo=w.bo+((sk w.p.sh w.p.cfg e).2.map fun a=>a.b.length).sum:=by show((w.out++_).map _).sum=_;rw[Ng,List.sum_append];rfl
  have e2:(w.mirror e).bc=w.bc:=rfl;have e3:(w.mirror e).bu=w.bu:=rfl;unfold Wd.lim at hp;unfold Wd.phi at*;omega
def Wd.late (w:Wd)(k:Nat):Prop:=w.p.cfg.reqd≤w.p.now-(w.cl k).ex.born
instance (w:Wd)(k:Nat):Decidable (w.late k):=by unfold Wd.late;infer_instance
def Wd.dl1 (w:Wd)(k:Nat)(id:Int):Wd:=((w.put id (bD 408 (w.cl k).ex.rq.m true)).over k).stop k
noncomputable def Wd.deadline (w:Wd)(id:Int):Wd:=match bM w.p.cls id with|none=>w|some k=>if(w.cl k).ex.st=1 then(if w.late k then(w.dl1 k id).go id else w)else if(w.cl k).ex.st=2∨(w.cl k).ex.st=3 then(if w.late k then(if(w.cl k).ex.hd=true then(w.lose k id 504).hang id false else(w.lose k id 504).go id) else w)else if w.p.cfg.idle≤w.p.now-(w.cl k).last then w.hang id false else w
theorem Wd.J.dl1 {c:bk}{w:Wd}(h:w.J c 0){k:Nat}{id:Int}(hk:bM w.p.cls id=some k)(h1:(w.cl k).ex.st=1):(w.dl1 k id).J c 0∧Wd.Kp w (w.dl1 k id) k:=by
 obtain⟨hlt,hid⟩:=aR hk;have hid:(w.cl k).po.id=id:=hid;have hnu:=h.noup (w.cl_mem hlt) (by omega);rw[hid] at hnu;have kp:=Wd.Kp.put w hk (bD 408 (w.cl k).ex.rq.m true);have j1:=h.put id (bD 408 (w.cl k).ex.rq.m true);have u1:=jv w id (bD 408 (w.cl k).ex.rq.m true);unfold Wd.dl1;generalize w.put id (bD 408 (w.cl k).ex.rq.m true)=v at*;have k1:bM v.p.cls id=some k:=by rw[kp.ids,hk]
 have hlv:=(aR k1).1;have hv:(v.cl k).po.id=id:=(aR k1).2;have j2:=j1.over hlv (by rw[hv,u1];exact hnu) (.inl rfl);have kp2:=Wd.Kp.over v hlv;have hlo:k<(v.over k).p.cls.length:=by rw[kp2.len];exact hlv
 exact⟨j2.stop hlo (by rw[v.over_cl hlv];rfl),(kp.trans kp2).trans (.stop _ hlo)⟩
theorem Wd.B.dl1 {w:Wd}{n:Nat}(hs:w.S)(b:w.B n)(hl:n+1≤10000000000){k:Nat}{id:Int}(hk:bM w.p.cls id=some k):(w.dl1 k id).B (n+1):=by
 have kp:=Wd.Kp.put w hk (bD 408 (w.cl k).ex.rq.m true);have hlt:=(aR hk).1;unfold Wd.dl1;have b1:=b.put hs (by omega) id (bD 408 (w.cl k).ex.rq.m true);generalize w.put id (bD 408 (w.cl k).ex.rq.m true)=v at*;have hlv:k<v.p.cls.length:=by rw[kp.len];exact hlt
 exact(b1.over hlv).setC (by rw[(Wd.Kp.over v hlv).len];exact hlv) (Int.le_refl _)
theorem Wd.J.hang0 {c:bk}{w:Wd}(h:w.J c 0){k:Nat}{id:Int}(hk:bM w.p.cls id=some k)(hs:(w.cl k).ex.st≠2∧(w.cl k).ex.st≠3)(q:Bool):(w.hang id q).J c 0:=by obtain⟨hlt,hid⟩:=aR hk;have hid:(w.cl k).po.id=id:=hid;have hn:=h.noup (w.cl_mem hlt) hs;rw[hid] at hn;exact h.hang id q hn (.inl rfl)
theorem IZ (w:Wd){k:Nat}{id:Int}(hk:bM w.p.cls id=some k)(st:Int):((w.fail k id st).cl k).ex.st=0:=by
 have h1:=(Wd.Kp.cc w k (w.cl k).ex.rc true).trans (.prim _ k (w.cl k).ex.ser .zero false);have k1:bM ((w.cc (w.cl k).ex.rc true).prim (w.cl k).ex.ser .zero false).p.cls id=some k:=by rw[h1.ids,hk]
 unfold Wd.fail;split;·unfold Wd.failH;generalize (w.cc (w.cl k).ex.rc true).prim (w.cl k).ex.ser .zero false=w1 at*;have hlv:=(aR k1).1;have h2:=Wd.Kp.over w1 hlv;unfold Wd.stop;rw[Wd.cl_setC _ (by rw[h2.len];exact hlv),w1.over_cl hlv];rfl
 ·unfold Wd.failN;generalize (w.cc (w.cl k).ex.rc true).prim (w.cl k).ex.ser .zero false=w1 at*;have h2:=Wd.Kp.put w1 k1 (bD st (w.cl k).ex.rq.m (w.cl k).ex.cl);rw[Wd.over_cl _ (by rw[h2.len];exact(aR k1).1)];rfl
theorem lG {c:bk}{w:Wd}(h:w.J c 0)(hM:jK c){n:Nat}(b:w.B n)(hl:n+8000000≤10000000000)(id:Int):Wd.Go c w (w.deadline id) (n+8000000):=by have stay:Wd.Go c w w (n+8000000):=(Wd.Go.refl h b).up (by omega) hl;unfold Wd.deadline;cases hk:bM w.p.cls id with|none=>exact stay;|some k=>
 obtain⟨hlt,hid⟩:=aR hk;simp only;split
 ·rename_i h1;split;·obtain⟨j1,kp⟩:=h.dl1 hk h1;have b1:=b.dl1 h.s (by omega) hk;have g:Wd.Go c w (w.dl1 k id) (n+1):=⟨j1,b1,kp.now,Nat.le_of_eq kp.len,kp.ro⟩;exact(g.trans (jd j1 hM b1 (by omega) id)).up (by omega) hl
  ·exact stay
 ·split
  ·rename_i h1 h23;split
   ·have j1:=h.lose hk h23 504;have b1:=b.lose h.s (by omega) hk 504;have kp:=Wd.Kp.lose w hk 504;have g:Wd.Go c w (w.lose k id 504) (n+3):=⟨j1,b1,kp.now,Nat.le_of_eq kp.len,kp.ro⟩;split
    ·have k1:bM (w.lose k id 504).p.cls id=some k:=by rw[kp.ids,hk]
     have hst:((w.lose k id 504).cl k).ex.st=0:=IZ _ (by rw[eh,hk]) 504;have hr:=kz (w.lose k id 504) id false;have g2:Wd.Go c (w.lose k id 504) ((w.lose k id 504).hang id false) (n+3+1):=⟨j1.hang0 k1 (by omega) false,b1.hang (by omega) _ _,hr.2.2.2.2.1,hr.2.2.2.2.2,.same hr.2.2.2.1 (pI _ _ _)⟩;exact(g.trans g2).up (by omega) hl
    ·exact(g.trans (jd j1 hM b1 (by omega) id)).up (by omega) hl
   ·exact stay
  ·rename_i h1 h23;split;·have hr:=kz w id false;exact⟨h.hang0 hk (by omega) false,(b.hang (by omega) _ _).up (by omega) hl,hr.2.2.2.2.1,hr.2.2.2.2.2,.same hr.2.2.2.1 (pI _ _ _)⟩
   ·exact stay
noncomputable def hQ:List Int→Wd→Wd|[],w=>w|i::l,w=>hQ l (w.deadline i)
def Wd.nowUp (w:Wd):Wd:=⟨{w.p with now:=min (w.p.now+1) 1000000000},w.out⟩
def Wd.roTick (w:Wd):Wd:=w.setRo (oV w.p.ro w.p.cfg.plan)
def Wd.shTick (w:Wd):Wd:=⟨{w.p with sh:=(D5 w.p.sh (w.p.now-w.p.cfg.shadd)).1},w.out++(D5 w.p.sh (w.p.now-w.p.cfg.shadd)).2⟩
noncomputable def Wd.tick (w:Wd):Wd:=(hQ (w.p.cls.map fun c=>c.po.id) w.nowUp).roTick.shTick
def I4:Nat:=8000000
theorem zR {c:bk}(hM:jK c)(l:List Int):∀{w:Wd}{n:Nat},w.J c 0→w.B n→n+l.length*I4≤10000000000→Wd.Go c w (hQ l w) (n+l.length*I4):=by induction l with|nil=>intro w n h b _;rw[Nf,Nat.zero_mul,Nat.add_zero];exact .refl h b;|cons i l ih=>intro w n h b hl;rw[Nb,Nat.succ_mul] at hl⊢;have hd:I4=8000000:=rfl;have g:=lG h hM b (by omega) i;have g2:=ih g.j g.b (by omega);exact(g.trans g2).up (by omega) (by omega)
theorem I2 {n:Int}{p:Pl}{r:Ro}(hl:1≤p.ws.length)(hn:0≤n)(h:eo n p.ws.length r):eo (n+1) p.ws.length (oV r p):=by have:=IC hl hn h (1,0);exact this
theorem eo.up {n m:Int}{len:Nat}{r:Ro}(h:eo n len r)(hm:n≤m):eo m len r:=⟨h.st,h.sg,⟨h.he.1,by have:=h.he.2;omega⟩,h.tt,h.er,⟨h.ag.1,by have:=h.ag.2;omega⟩⟩
structure Wd.Tk (c:bk)(w w':Wd)(m:Nat):Prop where
 j:w'.J c 0
 b:w'.B m
 now:w'.p.now≤w.p.now+1
 len:w'.p.cls.length≤w.p.cls.length+1
theorem Wd.Go.tk {c:bk}{w w':Wd}{m:Nat}(g:Wd.Go c w w' m):Wd.Tk c w w' m:=⟨g.j,g.b,by have:=g.now;omega,by have:=g.len;omega⟩
theorem Wd.J.nowUp {c:bk}{w:Wd}(h:w.J c 0)(ht:w.p.now<100000):w.nowUp.J c 0:=by
 have hn:=h.s.now;refine h.same ⟨h.s.cfg,?_,h.s.draw,h.s.ser,?_,h.s.pl,h.s.cl,h.s.ul,h.s.cg,h.s.ug,h.s.sta,h.s.can,h.s.sh⟩ rfl rfl rfl rfl rfl;·show 0≤min (w.p.now+1) 1000000000∧min (w.p.now+1) 1000000000≤100000;omega
 ·exact h.s.ro.up (by show w.p.now≤min (w.p.now+1) 1000000000;omega)
theorem tB {c:bk}{w:Wd}(h:w.J c 0)(hM:jK c){n:Nat}(b:w.B n)(hl:n+900000000≤10000000000)(ht:w.p.now<100000)(hc:w.p.cls.length≤100):(hQ (w.p.cls.map fun c=>c.po.id) w.nowUp).roTick.J c 0∧(hQ (w.p.cls.map fun c=>c.po.id) w.nowUp).roTick.B (n+800000000)∧Wd.Tk c w w.tick (n+900000000):=by
 have hn:=h.s.now;have j0:=h.nowUp ht;have b0:w.nowUp.B n:=⟨b.lim,b.ol,b.ph⟩;have hlen:(w.p.cls.map fun c=>c.po.id).length=w.p.cls.length:=Nl _;have hmul:(w.p.cls.map fun c=>c.po.id).length*I4≤100*8000000:=Nat.mul_le_mul (by omega) (Nat.le_refl _);have g:=zR hM (w.p.cls.map fun c=>c.po.id) j0 b0 (by omega);have e0:w.nowUp.p.now=w.p.now+1:=by show min (w.p.now+1) 1000000000=_;omega
 have hcf:(hQ (w.p.cls.map fun c=>c.po.id) w.nowUp).p.cfg=w.p.cfg:=g.ro.cfg;have hro:eo w.p.now w.p.cfg.plan.ws.length (hQ (w.p.cls.map fun c=>c.po.id) w.nowUp).p.ro:=g.ro.ro w.p.now hn.1 h.s.pl h.s.ro;have gn:=g.now;have gl:=g.len;unfold Wd.tick;generalize hQ (w.p.cls.map fun c=>c.po.id) w.nowUp=v at*;have hti:eo v.p.now v.p.cfg.plan.ws.length (oV v.p.ro v.p.cfg.plan):=by rw[gn,e0,hcf];exact I2 h.s.pl hn.1 hro
 have j1:v.roTick.J c 0:=g.j.setRo hti;have b1:v.roTick.B (n+800000000):=(g.b.setRo _).up (by omega) (by omega);have sm:=HA v.roTick.p.sh (v.roTick.p.now-v.roTick.p.cfg.shadd);have hjl:=j1.s.sh.sm.jobs;refine⟨j1,b1,j1.same (j1.s.setSh (tkF_v j1.s.sh _) _) rfl rfl rfl rfl rfl,?_,?_,?_⟩;·exact(b1.quiet (k:=v.roTick.p.sh.jobs.length) (p:=v.roTick.shTick.p) (by have:=j1.s.sh.jl;have:=j1.s.sh.pool.se;omega) rfl rfl sm.1 sm.2).up (by have:=j1.s.sh.jl;have:=j1.s.sh.pool.se;omega) hl
 ·show v.p.now≤_;rw[gn,e0];omega
 ·show v.p.cls.length≤_;have:w.nowUp.p.cls.length=w.p.cls.length:=rfl;omega
theorem Wd.J.accept {c:bk}{w:Wd}(h:w.J c 0)(hM:jK c){n:Nat}(b:w.B n)(hl:n+1≤10000000000)(hc:w.p.cls.length<1000000)(id:Int):Wd.Tk c w (w.accept id) (n+1):=by
 have stay:Wd.Tk c w w (n+1):=⟨h,b.up (by omega) hl,by omega,by omega⟩;unfold Wd.accept;split;·exact stay
 ·rename_i h0;split;·exact stay
  ·rename_i hso;split;·exact⟨h.out _,b.act hl _ rfl,by show w.p.now≤_;omega,by show w.p.cls.length≤_;omega⟩
   ·have hfresh:∀x,x∈w.p.cls→x.po.id≠id:=by intro x hx e;obtain⟨k,hk⟩:=vG hx;rw[e] at hk;rw[hk] at hso;exact hso rfl
    have hid:1≤id∧id≤300000:=by
     have e:bG id=1∨bG id=2∨bG id=3:=by omega
     unfold bG at e;repeat' split at e
     all_goals omega
    have hcok:=h.s.cfg;have hcin:w.p.cfg.cin≤1000:=by rw[h.cfg];exact hM.cin
    have hm:∀x,x∈(w.insC id).p.cls↔x=oF w id∨x∈w.p.cls:=fun x=>A3;have hlen:(w.insC id).p.cls.length=w.p.cls.length+1:=by have:=yL w.p.cls id w.p.cls.length;show(w.p.cls.take _++[oF w id]++w.p.cls.drop _).length=_;simp only[Na,Nj,Nz,Nb,Nf];omega
    have nG:(oF w id).Gd:=⟨ra _ _ _ (by omega),dm.zero_g,dl.zero_gd,by show((0:Nat):Int)≤0;omega,zW h.s⟩;have nK:(oF w id).K c:=by have hmh:=hM.mh;have hz:br []=0:=rfl;exact⟨hid,(by show min (max w.p.cfg.cin 0) 1000000≤1000;omega),(fun g=>by cases g),(by show(0:Int)≤0∧(0:Int)≤3;omega),fun _ _=>rfl,dm.T.zero h.cok.maxBody.1,rfl,(by show((0:Nat):Int)≤_;omega),(by show((0:Nat):Int)≤_;omega),(by show((br []:Nat):Int)≤_;omega)⟩
    have nS:(w.insC id).S:=⟨h.s.cfg,h.s.now,h.s.draw,h.s.ser,h.s.ro,h.s.pl,by rw[hlen];omega,h.s.ul,fun x hx=>by
     rcases (hm x).1 hx with rfl|hx;·exact nG
     ·exact h.s.cg x hx,h.s.ug,h.s.sta,h.s.can,h.s.sh⟩;refine⟨⟨nS,h.cfg,FI h.cn _ hfresh,h.un,fun x hx=>?_,h.uk,h.ba,h.qu,h.pl,h.il,fun x hx _ hs=>?_,fun u hu hc=>?_⟩,⟨hl,?_,?_⟩,by show w.p.now≤_;omega,by rw[hlen];omega⟩
    ·rcases (hm x).1 hx with rfl|hx;·exact nK
     ·exact h.ck x hx
    ·rcases (hm x).1 hx with rfl|hx;·have hs:(0:Int)=2∨(0:Int)=3:=hs;omega
     ·exact h.cu x hx (by have:=(h.ck x hx).id;omega) hs
    ·obtain⟨x,hx,g⟩:=h.uc u hu hc;exact⟨x,(hm x).2 (.inr hx),g⟩
    ·have:=b.ol;show w.out.length≤_;omega
    ·have e1:(w.insC id).bc=w.bc:=by
      show((w.p.cls.take _++[oF w id]++w.p.cls.drop _).map _).sum=_;have:((w.p.cls.take (Df w.p.cls id w.p.cls.length)++w.p.cls.drop (Df w.p.cls id w.p.cls.length)).map fun u:Cl=>u.po.bud.toNat).sum=w.bc:=by rw[NB];rfl
      simp only[Ng,List.sum_append] at*;have z:([oF w id].map fun u:Cl=>u.po.bud.toNat).sum=0:=rfl;omega
     have h2:=b.ph;have e2:(w.insC id).bo=w.bo:=rfl;have e3:(w.insC id).bu=w.bu:=rfl;unfold Wd.phi at*;omega
theorem Ih (w:Wd)(e:Ev){n:Nat}(hs:w.S)(hw:w.B n)(hn:n+2≤10000000000)(hb:e.b.length≤1000000):aH (CG G) 59 [.op 0 0 0,.d (bH e)] (lP w) [] (NR (w.mirror e)):=by
 have c1:=zs w.p.sh e.conn hs.sh.sm;have c2:=Hk w.p.sh e.conn hs.sh.sm;have c3:=dataR w.p.sh w.p.cfg e.conn e.b hs.sh hs.cfg (by omega);have c4:=endSR w.p.sh w.p.cfg e.conn hs.sh.j hs.cfg;have c5:=Ix w.p.sh e.conn e.n hs.sh.j;have c6:=goneR w.p.sh e.conn hs.sh.sm;have sm:=(FE hs.sh w.p.cfg e).1;have hol:=hw.ol;have hmo:(w.out.map bn).length=w.out.length:=by simp
 unfold Wd.mirror;unfold di bi bJ aZ bS at*;unfold bH;refine mH 95 Tryz.func59 ?_;apply bd (fun _:Unit=>True) (fun _=>⟨[(0,.op 0 0 0),(4,.d (.sl 5 ((sk w.p.sh w.p.cfg e).2.map bn))),(5,.op 17 0 0)],[(0,some (fG w 1 2 3)),(1,some (.buf 65 (w.p.cls.map dU))),(2,some (.buf 33 (w.p.ups.map fo))),(3,some (.buf 5 (w.out.map bn))),(17,some (.box [dI ((sk w.p.sh w.p.cfg e).1.pool.ba),dI ((sk w.p.sh w.p.cfg e).1.pool.qu),dI ((sk w.p.sh w.p.cfg e).1.pool.se),.d (.sl 1 ((sk w.p.sh w.p.cfg e).1.pool.id.map (.i .i64))),.d (.sl 1 ((sk w.p.sh w.p.cfg e).1.pool.bu.map (.i .i64))),.d (.sl 55 ((sk w.p.sh w.p.cfg e).1.jobs.map bI)),dI ((sk w.p.sh w.p.cfg e).1.rep.cap),dI ((sk w.p.sh w.p.cfg e).1.rep.ser),.d (.sl 6 ((sk w.p.sh w.p.cfg e).1.rep.l.map NH))]))],2⟩)
 ·unfold sk;by_cases h4:e.kind=4
  ·rw[if_pos h4];repeat'(first|refine ad ?_|refine dk ?_|refine ah (c1) ?_|refine aj h4 ?_|refine ae (fun _=>?_) (fun _=>?_)|refine aq ?_)
   apply aC () [(17,_)] trivial;exact be
  ·rw[if_neg h4];by_cases h5:e.kind=5
   ·rw[if_pos h5];repeat'(first|refine ad ?_|refine dk ?_|refine ah (c2) ?_|refine ai h4 ?_|refine aj h5 ?_|refine ae (fun _=>?_) (fun _=>?_)|refine aq ?_)
    apply aC () [(17,_)] trivial;exact be
   ·rw[if_neg h5];by_cases h2:e.kind=2
    ·rw[if_pos h2];repeat'(first|refine ad ?_|refine dk ?_|refine ah (c3) ?_|refine ai h4 ?_|refine ai h5 ?_|refine aj h2 ?_|refine ae (fun _=>?_) (fun _=>?_)|refine aq ?_)
     apply aC () [(17,_)] trivial;exact be
    ·rw[if_neg h2];by_cases h3:e.kind=3
     ·rw[if_pos h3];repeat'(first|refine ad ?_|refine dk ?_|refine ah (c4) ?_|refine ai h4 ?_|refine ai h5 ?_|refine ai h2 ?_|refine aj h3 ?_|refine ae (fun _=>?_) (fun _=>?_)|refine aq ?_)
      apply aC () [(17,_)] trivial;exact be
     ·rw[if_neg h3];by_cases h6:e.kind=6
      ·rw[if_pos h6];repeat'(first|refine ad ?_|refine dk ?_|refine ah (c5) ?_|refine ai h4 ?_|refine ai h5 ?_|refine ai h2 ?_|refine ai h3 ?_|refine aj h6 ?_|refine ae (fun _=>?_) (fun _=>?_)|refine aq ?_)
       apply aC () [(17,_)] trivial;exact be
      ·rw[if_neg h6];by_cases h7:e.kind=7
       ·rw[if_pos h7];repeat'(first|refine ad ?_|refine dk ?_|refine ah (c6) ?_|refine ai h4 ?_|refine ai h5 ?_|refine ai h2 ?_|refine ai h3 ?_|refine ai h6 ?_|refine aj h7 ?_|refine ae (fun _=>?_) (fun _=>?_)|refine aq ?_)
        apply aC () [(17,_)] trivial;exact be
       ·rw[if_neg h7];repeat'(first|refine ad ?_|refine dk ?_|refine ai h4 ?_|refine ai h5 ?_|refine ai h2 ?_|refine ai h3 ?_|refine ai h6 ?_|refine ai h7 ?_|refine ae (fun _=>?_) (fun _=>?_)|refine aq ?_)
        apply aC () [(17,_)] trivial;exact be
 ·rintro _ _;generalize sk w.p.sh w.p.cfg e=t at*;have hmt:(t.2.map bn).length=t.2.length:=by simp
  repeat'(first|refine ad ?_|refine dk ?_|refine aB (by omega) ?_|refine ae (fun _=>?_) (fun _=>?_)|refine aq ?_)
  apply aw [(16,_)];exact be
theorem Cx (w:Wd)(id:Int){c:bk}(hM:jK c){n:Nat}(h:w.J c 0)(hw:w.B n)(hn:n+8000000≤10000000000):aH (CG G) 71 [.op 0 0 0,dI id] (lP w) [] (jr (w.deadline id)):=by have c1:=dt w.p id h.s.cl;generalize hR:w.deadline id=R;unfold Wd.deadline at hR;unfold dw bf at c1;cases hk:bM w.p.cls id with
 |none=>
 rw[hk] at hR;rw[hk,da] at c1;have hR:w=R:=hR;subst hR;refine mH 126 Tryz.func71 ?_;repeat'(first|refine ad ?_|refine dk ?_|refine ah (c1) ?_|refine aj (by decide) ?_|refine ae (fun _=>?_) (fun _=>?_)|refine aq ?_)
 apply aw [(16,_),(17,_),(18,_)];exact be;|some k=>
 rw[hk] at hR;rw[hk,bj] at c1;simp only at hR;obtain⟨hlt,hid⟩:=aR hk;have hg:=w.get_cl hlt;have hG:=h.s.cg _ (w.cl_mem hlt);have hnw:=h.s.now;have hbn:=hG.ex.born;have hla:=hG.last;have hnk:¬((k:Int)<0):=by omega
 unfold dU dD at hg;by_cases h1:(w.cl k).ex.st=1
 ·rw[if_pos h1] at hR;by_cases hl0:w.late k
  ·rw[if_pos hl0] at hR;have hl:w.p.cfg.reqd≤w.p.now-(w.cl k).ex.born:=hl0;have hpl:=iY 408 (w.cl k).ex.rq.m true;have j1:=(h.dl1 hk h1).1;have b1:=hw.dl1 h.s (by omega) hk;have c2:=ku 408 (w.cl k).ex.rq.m true;have c3:=qs 408 (w.cl k).ex.rq.m true;have c4:=sO w id (bD 408 (w.cl k).ex.rq.m true) h.s hw (by omega);have kp:=Wd.Kp.put w hk (bD 408 (w.cl k).ex.rq.m true);have s4:=h.s.put id (bD 408 (w.cl k).ex.rq.m true);have c7:=MZ (w.dl1 k id) id hM j1 b1 (by omega);rw[hR] at c7;unfold Wd.dl1 at c7;generalize w.put id (bD 408 (w.cl k).ex.rq.m true)=v at*;generalize bD 408 (w.cl k).ex.rq.m true=pb at*;generalize j8 408 (w.cl k).ex.rq.m true=pf at*;have kv:bM v.p.cls id=some k:=by rw[kp.ids,hk]
   have hlv:=(aR kv).1;have c5:=qI v id k s4 kv;have so:=s4.over hlv;have ko:bM (v.over k).p.cls id=some k:=by rw[xm,kv]
   generalize v.over k=u at*;have hlu:=(aR ko).1;have c6:=dt u.p id so.cl;rw[ko,bj] at c6;have hgv:=u.get_cl hlu;unfold dU dD at hgv;unfold dw bf at c6;unfold eF bU at c2 c3;refine mH 126 Tryz.func71 ?_;repeat'(first|refine ad ?_|refine dk ?_|refine ah (c1) ?_|refine ah (c2) ?_|refine ah (c3) ?_|refine ai hnk ?_|refine aj h1 ?_|refine aj hl ?_|refine aq ?_|refine bh k rfl (by simpa using hlt) ?_|refine ax (au (by simpa using hlt)) ?_|refine ax hg ?_|refine az (au (by simpa using hlt)) ?_|refine az hg ?_|refine ae (fun _=>?_) (fun _=>?_)|refine aq ?_)
   apply ak [(0,_),(1,_),(2,_),(3,_)] c4;·exact be
   ·repeat'(first|refine ad ?_|refine dk ?_|refine ae (fun _=>?_) (fun _=>?_)|refine aq ?_)
    apply ak [(0,_),(1,_),(2,_),(3,_)] c5;·exact be
    ·repeat'(first|refine ad ?_|refine dk ?_|refine ah (c6) ?_|refine bh k rfl (by simpa using hlu) ?_|refine ax hgv ?_|refine ae (fun _=>?_) (fun _=>?_)|refine aq ?_)
     apply ak [(0,_),(1,_),(2,_),(3,_)] c7;·((repeat' constructor)<;>(first|refine aI ?_|rfl)<;>first|with_reducible rfl|(simp only[Wd.setC,aQ,Wd.stop];rfl)|(congr 1<;>omega)|(congr 1<;>simp;done)|(simp;done)|rfl|skip)
     ·repeat'(first|refine ad ?_|refine dk ?_|refine ae (fun _=>?_) (fun _=>?_)|refine aq ?_)
      apply aw [(16,_),(17,_),(18,_)];exact be
  ·rw[if_neg hl0] at hR;have hl:¬w.p.cfg.reqd≤w.p.now-(w.cl k).ex.born:=hl0;subst hR;refine mH 126 Tryz.func71 ?_;repeat'(first|refine ad ?_|refine dk ?_|refine ah (c1) ?_|refine ai hnk ?_|refine aj h1 ?_|refine ai hl ?_|refine aq ?_|refine bh k rfl (by simpa using hlt) ?_|refine ax (au (by simpa using hlt)) ?_|refine ax hg ?_|refine az (au (by simpa using hlt)) ?_|refine az hg ?_|refine ae (fun _=>?_) (fun _=>?_)|refine aq ?_)
   apply aw [(16,_),(17,_),(18,_)];exact be
 ·rw[if_neg h1] at hR;by_cases h23:(w.cl k).ex.st=2∨(w.cl k).ex.st=3
  ·rw[if_pos h23] at hR;have step:∀st:AS,st=st→True:=fun _ _=>trivial;by_cases hl0:w.late k
   ·rw[if_pos hl0] at hR;have hl:w.p.cfg.reqd≤w.p.now-(w.cl k).ex.born:=hl0;have c2:=qm w (w.cl k).ex.up false h.s hw;have c3:=Bb (w.drop (w.cl k).ex.up false) k id 504 (h.s.drop _ _) (hw.drop (by omega) _ _) (by omega) (by rw[eh,hk]);have jl:=h.lose hk h23 504;have bl:=hw.lose h.s (by omega) hk 504;generalize hhd:(w.cl k).ex.hd=hd at*;have hR2:(if hd=true then((w.drop (w.cl k).ex.up false).fail k id 504).hang id false else((w.drop (w.cl k).ex.up false).fail k id 504).go id)=R:=hR;have jl:((w.drop (w.cl k).ex.up false).fail k id 504).J c 0:=jl;have bl:((w.drop (w.cl k).ex.up false).fail k id 504).B (n+3):=bl;clear hR;generalize (w.drop (w.cl k).ex.up false).fail k id 504=v at*;cases hd
    ·rw[if_neg (by simp)] at hR2;have c4:=MZ v id hM jl bl (by omega);rw[hR2] at c4;by_cases h2:(w.cl k).ex.st=2
     ·refine mH 126 Tryz.func71 ?_;repeat'(first|refine ad ?_|refine dk ?_|refine ah (c1) ?_|refine ai hnk ?_|refine ai h1 ?_|refine aj h2 ?_|refine aj hl ?_|refine aq ?_|refine bh k rfl (by simpa using hlt) ?_|refine ax (au (by simpa using hlt)) ?_|refine ax hg ?_|refine az (au (by simpa using hlt)) ?_|refine az hg ?_|refine ae (fun _=>?_) (fun _=>?_)|refine aq ?_)
      apply ak [(0,_),(1,_),(2,_),(3,_)] c2;·exact be
      ·repeat'(first|refine ad ?_|refine dk ?_|refine ae (fun _=>?_) (fun _=>?_)|refine aq ?_)
       apply ak [(0,_),(1,_),(2,_),(3,_)] c3;·exact be
       ·repeat'(first|refine ad ?_|refine dk ?_|refine ae (fun _=>?_) (fun _=>?_)|refine aq ?_)
        apply ak [(0,_),(1,_),(2,_),(3,_)] c4;·exact be
        ·repeat'(first|refine ad ?_|refine dk ?_|refine ae (fun _=>?_) (fun _=>?_)|refine aq ?_)
         apply aw [(16,_),(17,_),(18,_)];exact be
     ·have h3:=h23.resolve_left h2;refine mH 126 Tryz.func71 ?_;repeat'(first|refine ad ?_|refine dk ?_|refine ah (c1) ?_|refine ai hnk ?_|refine ai h1 ?_|refine ai h2 ?_|refine aj h3 ?_|refine aj hl ?_|refine aq ?_|refine bh k rfl (by simpa using hlt) ?_|refine ax (au (by simpa using hlt)) ?_|refine ax hg ?_|refine az (au (by simpa using hlt)) ?_|refine az hg ?_|refine ae (fun _=>?_) (fun _=>?_)|refine aq ?_)
      apply ak [(0,_),(1,_),(2,_),(3,_)] c2;·exact be
      ·repeat'(first|refine ad ?_|refine dk ?_|refine ae (fun _=>?_) (fun _=>?_)|refine aq ?_)
       apply ak [(0,_),(1,_),(2,_),(3,_)] c3;·exact be
       ·repeat'(first|refine ad ?_|refine dk ?_|refine ae (fun _=>?_) (fun _=>?_)|refine aq ?_)
        apply ak [(0,_),(1,_),(2,_),(3,_)] c4;·exact be
        ·repeat'(first|refine ad ?_|refine dk ?_|refine ae (fun _=>?_) (fun _=>?_)|refine aq ?_)
         apply aw [(16,_),(17,_),(18,_)];exact be
    ·rw[if_pos rfl] at hR2;have c4:=ve v id false jl.s bl;rw[hR2] at c4;by_cases h2:(w.cl k).ex.st=2
     ·refine mH 126 Tryz.func71 ?_;repeat'(first|refine ad ?_|refine dk ?_|refine ah (c1) ?_|refine ai hnk ?_|refine ai h1 ?_|refine aj h2 ?_|refine aj hl ?_|refine aq ?_|refine bh k rfl (by simpa using hlt) ?_|refine ax (au (by simpa using hlt)) ?_|refine ax hg ?_|refine az (au (by simpa using hlt)) ?_|refine az hg ?_|refine ae (fun _=>?_) (fun _=>?_)|refine aq ?_)
      apply ak [(0,_),(1,_),(2,_),(3,_)] c2;·exact be
      ·repeat'(first|refine ad ?_|refine dk ?_|refine ae (fun _=>?_) (fun _=>?_)|refine aq ?_)
       apply ak [(0,_),(1,_),(2,_),(3,_)] c3;·exact be
       ·repeat'(first|refine ad ?_|refine dk ?_|refine ae (fun _=>?_) (fun _=>?_)|refine aq ?_)
        apply ak [(0,_),(1,_),(2,_),(3,_)] c4;·exact be
        ·repeat'(first|refine ad ?_|refine dk ?_|refine ae (fun _=>?_) (fun _=>?_)|refine aq ?_)
         apply aw [(16,_),(17,_),(18,_)];exact be
     ·have h3:=h23.resolve_left h2;refine mH 126 Tryz.func71 ?_;repeat'(first|refine ad ?_|refine dk ?_|refine ah (c1) ?_|refine ai hnk ?_|refine ai h1 ?_|refine ai h2 ?_|refine aj h3 ?_|refine aj hl ?_|refine aq ?_|refine bh k rfl (by simpa using hlt) ?_|refine ax (au (by simpa using hlt)) ?_|refine ax hg ?_|refine az (au (by simpa using hlt)) ?_|refine az hg ?_|refine ae (fun _=>?_) (fun _=>?_)|refine aq ?_)
      apply ak [(0,_),(1,_),(2,_),(3,_)] c2;·exact be
      ·repeat'(first|refine ad ?_|refine dk ?_|refine ae (fun _=>?_) (fun _=>?_)|refine aq ?_)
       apply ak [(0,_),(1,_),(2,_),(3,_)] c3;·exact be
       ·repeat'(first|refine ad ?_|refine dk ?_|refine ae (fun _=>?_) (fun _=>?_)|refine aq ?_)
        apply ak [(0,_),(1,_),(2,_),(3,_)] c4;·exact be
        ·repeat'(first|refine ad ?_|refine dk ?_|refine ae (fun _=>?_) (fun _=>?_)|refine aq ?_)
         apply aw [(16,_),(17,_),(18,_)];exact be
   ·rw[if_neg hl0] at hR;have hl:¬w.p.cfg.reqd≤w.p.now-(w.cl k).ex.born:=hl0;subst hR;by_cases h2:(w.cl k).ex.st=2
    ·refine mH 126 Tryz.func71 ?_;repeat'(first|refine ad ?_|refine dk ?_|refine ah (c1) ?_|refine ai hnk ?_|refine ai h1 ?_|refine aj h2 ?_|refine ai hl ?_|refine aq ?_|refine bh k rfl (by simpa using hlt) ?_|refine ax (au (by simpa using hlt)) ?_|refine ax hg ?_|refine az (au (by simpa using hlt)) ?_|refine az hg ?_|refine ae (fun _=>?_) (fun _=>?_)|refine aq ?_)
     apply aw [(16,_),(17,_),(18,_)];exact be
    ·have h3:=h23.resolve_left h2;refine mH 126 Tryz.func71 ?_;repeat'(first|refine ad ?_|refine dk ?_|refine ah (c1) ?_|refine ai hnk ?_|refine ai h1 ?_|refine ai h2 ?_|refine aj h3 ?_|refine ai hl ?_|refine aq ?_|refine bh k rfl (by simpa using hlt) ?_|refine ax (au (by simpa using hlt)) ?_|refine ax hg ?_|refine az (au (by simpa using hlt)) ?_|refine az hg ?_|refine ae (fun _=>?_) (fun _=>?_)|refine aq ?_)
     apply aw [(16,_),(17,_),(18,_)];exact be
  ·rw[if_neg h23] at hR;have h2:¬(w.cl k).ex.st=2:=fun g=>h23 (.inl g);have h3:¬(w.cl k).ex.st=3:=fun g=>h23 (.inr g);by_cases hl:w.p.cfg.reqd≤w.p.now-(w.cl k).ex.born;all_goals
    by_cases hi:w.p.cfg.idle≤w.p.now-(w.cl k).last
    ·rw[if_pos hi] at hR;have c2:=ve w id false h.s hw;rw[hR] at c2;refine mH 126 Tryz.func71 ?_;repeat'(first|refine ad ?_|refine dk ?_|refine ah (c1) ?_|refine ai hnk ?_|refine ai h1 ?_|refine ai h2 ?_|refine ai h3 ?_|refine aj hi ?_|refine aj hl ?_|refine ai hl ?_|refine aq ?_|refine bh k rfl (by simpa using hlt) ?_|refine ax (au (by simpa using hlt)) ?_|refine ax hg ?_|refine az (au (by simpa using hlt)) ?_|refine az hg ?_|refine ae (fun _=>?_) (fun _=>?_)|refine aq ?_)
     apply ak [(0,_),(1,_),(2,_),(3,_)] c2;·exact be
     ·repeat'(first|refine ad ?_|refine dk ?_|refine ae (fun _=>?_) (fun _=>?_)|refine aq ?_)
      apply aw [(16,_),(17,_),(18,_)];exact be
    ·rw[if_neg hi] at hR;subst hR;refine mH 126 Tryz.func71 ?_;repeat'(first|refine ad ?_|refine dk ?_|refine ah (c1) ?_|refine ai hnk ?_|refine ai h1 ?_|refine ai h2 ?_|refine ai h3 ?_|refine ai hi ?_|refine aj hl ?_|refine ai hl ?_|refine aq ?_|refine bh k rfl (by simpa using hlt) ?_|refine ax (au (by simpa using hlt)) ?_|refine ax hg ?_|refine az (au (by simpa using hlt)) ?_|refine az hg ?_|refine ae (fun _=>?_) (fun _=>?_)|refine aq ?_)
     apply aw [(16,_),(17,_),(18,_)];exact be
theorem I5 (l:List Cl):∀i,i≤l.length→((l.take i).map fun c:Cl=>c.po.id).length=i:=by intro i h;simp;omega
theorem tickR (w:Wd){c:bk}(hM:jK c){n:Nat}(h:w.J c 0)(hw:w.B n)(hn:n+900000000≤10000000000)(ht:w.p.now<100000)(hc:w.p.cls.length≤100):aH (CG G) 55 [.op 0 0 0] (lP w) [] (jr w.tick):=by
 have hnw:=h.s.now;have j0:=h.nowUp ht;have b0:w.nowUp.B n:=⟨hw.lim,hw.ol,hw.ph⟩;obtain⟨tj,tb,_⟩:=tB h hM hw hn ht hc;have hml:(w.p.cls.map dU).length=w.p.cls.length:=by simp
 have hd8:I4=8000000:=rfl;have hR:((hQ (w.p.cls.map fun c=>c.po.id) w.nowUp).roTick).shTick=w.tick:=rfl;generalize w.tick=R at*;refine aH.mk (n:=102) Tryz.func55 rfl rfl rfl (Nat.le_of_ble_eq_true rfl) rfl (ar ⟨by omega,by omega⟩ (ad ?_));apply aA (fun i:Nat=>i≤w.p.cls.length) (fun i=>⟨[(0,.op 0 0 0),(2,.os 19),(3,dI (i:Int))],[(0,some (fG w.nowUp 1 2 3)),(1,some (.buf 65 (w.nowUp.p.cls.map dU))),(2,some (.buf 33 (w.nowUp.p.ups.map fo))),(3,some (.buf 5 (w.nowUp.out.map bn))),(19,some (.buf 1 (((w.p.cls.take i).map fun c:Cl=>c.po.id).map (.i .i64))))],2⟩) (fun i=>w.p.cls.length-i) 0 (Nat.zero_le _) [(19,_)];·exact be
 ·intro i hi;have hil:=I5 w.p.cls i hi;have hil2:(((w.p.cls.take i).map fun c:Cl=>c.po.id).map (D.i .i64)).length=i:=by rw[Nl];exact hil
  have hml2:(w.nowUp.p.cls.map dU).length=w.p.cls.length:=hml;refine ad ?_;refine ae (fun h1=>?_) (fun h1=>?_)
  ·have hi':i<w.p.cls.length:=by omega
   have hgi:(w.nowUp.p.cls.map dU)[i]?=some (dU w.p.cls[i]):=BS hi';have hsn:((w.p.cls.take i).map fun c:Cl=>c.po.id).map (D.i .i64)++[.i .i64 w.p.cls[i].po.id]=((w.p.cls.take (i+1)).map fun c:Cl=>c.po.id).map (D.i .i64):=by rw[Nh hi',Ng,Ng];rfl
   refine ad (bh i rfl (by omega) (az hgi (aB (by simp only[Nb,Nf];omega) ?_)));repeat'(first|refine ad ?_|refine dk ?_|refine ae (fun _=>?_) (fun _=>?_)|refine aq ?_)
   apply aG (i+1) [(19,_)] (by omega) (by omega);rw[←hsn];exact be
  ·obtain rfl:i=w.p.cls.length:=by omega
   rw[ND] at hil hil2⊢;refine ad ?_;apply aA (fun x:Nat×Wd=>x.1≤w.p.cls.length∧x.2.J c 0∧x.2.B (n+x.1*I4)∧hQ ((w.p.cls.map fun c:Cl=>c.po.id).drop x.1) x.2=hQ (w.p.cls.map fun c:Cl=>c.po.id) w.nowUp) (fun x=>⟨[(0,.op 0 0 0),(2,.os 19),(4,dI (x.1:Int))],[(0,some (fG x.2 16 17 18)),(16,some (.buf 65 (x.2.p.cls.map dU))),(17,some (.buf 33 (x.2.p.ups.map fo))),(18,some (.buf 5 (x.2.out.map bn))),(19,some (.buf 1 ((w.p.cls.map fun c:Cl=>c.po.id).map (.i .i64))))],3⟩) (fun x=>w.p.cls.length-x.1) (0,w.nowUp) ⟨Nat.zero_le _,j0,by rw[Nat.zero_mul,Nat.add_zero];exact b0,rfl⟩ [(16,1),(17,2),(18,3),(19,_)];·exact be
   ·rintro⟨i,v⟩ ⟨hi,vj,vb,vd⟩;simp only at hi vj vb vd;refine ad ?_;refine ae (fun h2=>?_) (fun h2=>?_)
    ·have hi':i<w.p.cls.length:=by simp only at h2;omega
     have hgi:((w.p.cls.map fun c:Cl=>c.po.id).map (D.i .i64))[i]?=some (.i .i64 w.p.cls[i].po.id):=by simp[hi']
     have hmul:i*I4≤100*8000000:=Nat.mul_le_mul (by omega) (Nat.le_refl _);have c1:=Cx v w.p.cls[i].po.id hM vj vb (by omega);have g:=lG vj hM vb (by omega) w.p.cls[i].po.id;have vd2:hQ ((w.p.cls.map fun c:Cl=>c.po.id).drop (i+1)) (v.deadline w.p.cls[i].po.id)=hQ (w.p.cls.map fun c:Cl=>c.po.id) w.nowUp:=by
      rw[←vd];have:(w.p.cls.map fun c:Cl=>c.po.id).drop i=w.p.cls[i].po.id::(w.p.cls.map fun c:Cl=>c.po.id).drop (i+1):=by rw[Ny (by simpa using hi')];simp
      rw[this];rfl
     generalize v.deadline w.p.cls[i].po.id=v2 at*;refine ad (bh i rfl (by omega) (az hgi ?_));apply ak [(0,_),(1,_),(2,_),(3,_)] c1;·exact be
     ·repeat'(first|refine ad ?_|refine dk ?_|refine ae (fun _=>?_) (fun _=>?_)|refine aq ?_)
      apply aG (i+1,v2) [(16,_),(17,_),(18,_),(19,_)] ⟨by show i+1≤_;omega,g.j,by show v2.B (n+(i+1)*I4);rw[Nat.succ_mul];exact g.b.up (by omega) (by omega),vd2⟩ (by show w.p.cls.length-(i+1)<w.p.cls.length-i;omega);exact be
    ·have e:i=w.p.cls.length:=by simp only at h2;omega
     have vd2:v=hQ (w.p.cls.map fun c:Cl=>c.po.id) w.nowUp:=by rw[←vd,e,List.drop_eq_nil_of_le (by simp)];rfl
     rw[←vd2] at hR tj tb;clear vd vd2;have hvs:=vj.s;have hvn:=hvs.now;have hpl:=hvs.cfg.planLen;have hro:=hvs.ro;have hse:=hvs.sh.pool.se;have hjl:=hvs.sh.jl;have c1:=JI v.p.ro v.p.cfg.plan ⟨by have:=hro.he;omega,hro.he.1⟩ hro.sg (by have:=hro.ag;omega) (by omega);have c2:=LQ v.p.sh v.p.cfg v.p.now hvs.sh.sm hvs.cfg ⟨by omega,by omega⟩;have hol:=vb.ol;have hmo:(v.out.map bn).length=v.out.length:=by simp
     have hmul:i*I4≤100*8000000:=Nat.mul_le_mul (by omega) (Nat.le_refl _);have sm:=(HA v.p.sh (v.p.now-v.p.cfg.shadd)).1;have hmt:((D5 v.p.sh (v.p.now-v.p.cfg.shadd)).2.map bn).length=(D5 v.p.sh (v.p.now-v.p.cfg.shadd)).2.length:=by simp
     subst hR;unfold Wd.shTick Wd.roTick Wd.setRo;simp only;generalize D5 v.p.sh (v.p.now-v.p.cfg.shadd)=t at*;generalize oV v.p.ro v.p.cfg.plan=ro2 at*;unfold di bi bJ aZ bS at c2;unfold oW sr at c1;repeat'(first|refine ad ?_|refine dk ?_|refine ah (c1) ?_|refine ah (c2) ?_|refine aB (by omega) ?_|refine ae (fun _=>?_) (fun _=>?_)|refine aq ?_)
     apply aw [(16,_),(17,_),(18,_)];exact be
def gtA (x y:bC):Bool:=decide (y.kind<x.kind∨x.kind=y.kind∧y.conn<x.conn)
def act0:bC:=⟨0,0,0,0,[]⟩
def pX (l:List bC)(a:bC):Nat→Nat|0=>0|k+1=>if gtA (l.getD k act0) a=true then pX l a k else k+1
theorem Bm (l:List bC)(a:bC):∀k,pX l a k≤k|0=>Nat.le_refl _|k+1=>by have:=Bm l a k;unfold pX;split<;>omega
def rN (l:List bC)(a:bC):List bC:=l.take (pX l a l.length)++[a]++l.drop (pX l a l.length)
def oZ (l:List bC):List bC:=l.foldl rN []
theorem Ew (l:List bC)(a:bC):(rN l a).length=l.length+1:=by have:=Bm l a l.length;unfold rN;simp only[Na,Nj,Nz,Nb,Nf];omega
theorem rZ (l:List bC):(oZ l).length=l.length:=by
 have:∀(l acc:List bC),(l.foldl rN acc).length=acc.length+l.length:=by intro l;induction l with|nil=>intro acc;rfl;|cons a l ih=>intro acc;rw[List.foldl_cons,ih,Ew,Nb];omega
 have:=this l [];simpa[oZ] using this
theorem JW (l:List bC)(hl:l.length≤20000000000):ay (CG G) 60 [.sl 5 (l.map bn)] [.sl 5 ((oZ l).map bn)]:=by
 have hml:(l.map bn).length=l.length:=by simp
 refine ay.mk (n:=76) Tryz.func60 rfl rfl rfl (Nat.le_of_ble_eq_true rfl) (ad ?_);apply aA (fun i:Nat=>i≤l.length) (fun i=>⟨[(0,.d (.sl 5 (l.map bn))),(3,.d (.sl 5 ((oZ (l.take i)).map bn))),(4,dI (i:Int))],[],3⟩) (fun i=>l.length-i) 0 (Nat.zero_le _) [];·exact aF
 ·intro i hi;have hsl:(oZ (l.take i)).length=i:=by rw[rZ,Nj];omega
  have hsm:((oZ (l.take i)).map bn).length=i:=by rw[Nl,hsl]
  refine ad ?_;refine ae (fun h1=>?_) (fun h1=>?_)
  ·have hi':i<l.length:=by omega
   have hgi:(l.map bn)[i]?=some (bn l[i]):=bX hi';have hsn:oZ (l.take (i+1))=rN (oZ (l.take i)) l[i]:=by rw[Nh hi'];unfold oZ;rw[List.foldl_append];rfl
   generalize oZ (l.take i)=o at*;generalize ha:l[i]=a at*;refine ad (ad ?_);apply aA (fun k:Nat=>k≤i∧pX o a i=pX o a k) (fun k=>⟨[(0,.d (.sl 5 (l.map bn))),(3,.d (.sl 5 (o.map bn))),(4,dI (i:Int)),(5,dI (k:Int))],[],3⟩) (fun k=>k) i ⟨Nat.le_refl _,rfl⟩ [];·exact aF
   ·rintro k ⟨hk,hkk⟩;have fin:pX o a i=k→oZ (l.take (i+1))=o.take k++[a]++o.drop k:=by intro h;rw[hsn];unfold rN;rw[hsl,h]
    by_cases h0:0<k
    ·obtain⟨m,rfl⟩:∃m,k=m+1:=⟨k-1,by omega⟩;have hm:m<o.length:=by omega
     have hgm:(o.map bn)[m]?=some (bn o[m]):=bX hm;have hstep:pX o a (m+1)=if gtA o[m] a=true then pX o a m else m+1:=by rw[pX,cx hm]
     generalize ho:o[m]=x at*;by_cases hg:gtA x a=true
     ·rw[if_pos hg] at hstep;have hg2:a.kind<x.kind∨x.kind=a.kind∧a.conn<x.conn:=by simpa[gtA] using hg
      by_cases g1:a.kind<x.kind
      ·repeat'(first|refine ad ?_|refine dk ?_|refine aj (by omega) ?_|refine aq ?_|refine ao m (by omega) hgm ?_|refine ao i rfl hgi ?_|refine ae (fun _=>?_) (fun _=>?_)|refine aq ?_)
       apply aG m [] ⟨by omega,hkk.trans hstep⟩ (by omega);exact aF
      ·have g2:=(hg2.resolve_left g1).1;have g3:=(hg2.resolve_left g1).2;refine ad (aj (by omega) (ar ⟨by omega,by omega⟩ (ao m (by omega) hgm (ao i rfl hgi (ai g1 (ar ⟨by omega,by omega⟩ (ao m (by omega) hgm (ao i rfl hgi (aj g2 (ar ⟨by omega,by omega⟩ (ao m (by omega) hgm ?_)))))))))));refine ao i rfl hgi (aj g3 ?_);repeat'(first|refine ad ?_|refine dk ?_|refine aq ?_|refine ae (fun _=>?_) (fun _=>?_)|refine aq ?_)
       apply aG m [] ⟨by omega,hkk.trans hstep⟩ (by omega);exact aF
     ·rw[if_neg hg] at hstep;have hg2:¬(a.kind<x.kind∨x.kind=a.kind∧a.conn<x.conn):=by simpa[gtA] using hg
      have g1:¬a.kind<x.kind:=fun g=>hg2 (.inl g);have hf:=fin (hkk.trans hstep);by_cases g2:x.kind=a.kind
      ·have g3:¬a.conn<x.conn:=fun g=>hg2 (.inr ⟨g2,g⟩);refine ad (aj (by omega) (ar ⟨by omega,by omega⟩ (ao m (by omega) hgm (ao i rfl hgi (ai g1 (ar ⟨by omega,by omega⟩ (ao m (by omega) hgm (ao i rfl hgi (aj g2 (ar ⟨by omega,by omega⟩ (ao m (by omega) hgm ?_)))))))))));refine ao i rfl hgi (ai g3 ?_);repeat'(first|refine ad ?_|refine dk ?_|refine bnd (m+1) rfl (by omega) ?_|refine aB (by simp;omega) ?_|refine ao i rfl hgi ?_|refine ae (fun _=>?_) (fun _=>?_)|refine aq ?_)
       apply aG (i+1) [] (by omega) (by omega);rw[hf];((repeat' constructor)<;>(first|refine aI ?_|rfl)<;>first|exact oT|skip);all_goals simp[bn]
      ·refine ad (aj (by omega) (ar ⟨by omega,by omega⟩ (ao m (by omega) hgm (ao i rfl hgi (ai g1 (ar ⟨by omega,by omega⟩ (ao m (by omega) hgm (ao i rfl hgi (ai g2 ?_)))))))));repeat'(first|refine ad ?_|refine dk ?_|refine bnd (m+1) rfl (by omega) ?_|refine aB (by simp;omega) ?_|refine ao i rfl hgi ?_|refine ae (fun _=>?_) (fun _=>?_)|refine aq ?_)
       apply aG (i+1) [] (by omega) (by omega);rw[hf];((repeat' constructor)<;>(first|refine aI ?_|rfl)<;>first|exact oT|skip);all_goals simp[bn]
    ·obtain rfl:k=0:=by omega
     have hf:=fin (hkk.trans rfl);refine ad (ai (by omega) (And.intro (dY (by kernel_rfl)) (bnd 0 rfl (Nat.zero_le _) ?_)));repeat'(first|refine ad ?_|refine dk ?_|refine bnd 0 (by omega) (Nat.zero_le _) ?_|refine aB (by simp<;>omega) ?_|refine ao i rfl hgi ?_|refine ae (fun _=>?_) (fun _=>?_)|refine aq ?_)
     apply aG (i+1) [] (by omega) (by omega);rw[hf];((repeat' constructor)<;>(first|refine aI ?_|rfl)<;>first|exact oT|skip);all_goals simp[bn]
  ·obtain rfl:i=l.length:=by omega
   rw[ND];repeat'(first|refine ad ?_|refine dk ?_|refine ae (fun _=>?_) (fun _=>?_)|refine aq ?_)
   rfl
end Go.Proofs.YtgfdbddglhblbaaGreat

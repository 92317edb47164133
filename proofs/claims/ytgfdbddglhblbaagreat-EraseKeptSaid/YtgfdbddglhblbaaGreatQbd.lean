/- A part of the proof of what is stated of the erasing of a mirror. -/
import Derived.Test.YtgfdbddglhblbaaGreatQbc
set_option maxHeartbeats 64000000
namespace Go.Proofs.YtgfdbddglhblbaaGreat
open Go.Eng
attribute [local irreducible] aO
set_option maxRecDepth 100000
def Wd.inU (w:Wd):Nat:=(w.p.ups.map fun u=>u.po.inn.dat.length).sum
def Cl.rank (c:Cl):Nat:=if c.po.closing=true then 0 else if c.ex.st=2∨c.ex.st=3 then 2 else if c.rd.ph=1 then 3 else 1
def Wd.mu (w:Wd)(k:Nat):Nat:=8*((w.cl k).po.inn.dat.length+w.inU)+(w.cl k).rank
theorem Cl.rank_le (c:Cl):c.rank≤3:=by
 unfold Cl.rank;repeat' split
 all_goals omega
structure Wd.Rk (w w':Wd):Prop where
 cfg:w'.p.cfg=w.p.cfg
 ro:∀m:Int,0≤m→1≤w.p.cfg.plan.ws.length→eo m w.p.cfg.plan.ws.length w.p.ro→eo m w.p.cfg.plan.ws.length w'.p.ro
theorem Wd.Rk.refl (w:Wd):Wd.Rk w w:=⟨rfl,fun _ _ _ h=>h⟩
theorem Wd.Rk.same {w w':Wd}(h1:w'.p.cfg=w.p.cfg)(h2:w'.p.ro=w.p.ro):Wd.Rk w w':=⟨h1,fun _ _ _ h=>by rw[h2];exact h⟩
theorem Wd.Rk.trans {w v u:Wd}(a:Wd.Rk w v)(b:Wd.Rk v u):Wd.Rk w u:=⟨b.cfg.trans a.cfg,fun m h0 h1 h=>by have:=b.ro m h0 (by rw[a.cfg];exact h1) (by rw[a.cfg];exact a.ro m h0 h1 h);rw[a.cfg] at this;exact this⟩
structure Wd.Kp (w w':Wd)(k:Nat):Prop where
 ids:∀i,bM w'.p.cls i=bM w.p.cls i
 inn:(w'.cl k).po.inn.dat.length≤(w.cl k).po.inn.dat.length
 inu:w'.inU≤w.inU
 now:w'.p.now=w.p.now
 len:w'.p.cls.length=w.p.cls.length
 ro:Wd.Rk w w'
theorem Wd.Kp.refl (w:Wd)(k:Nat):Wd.Kp w w k:=⟨fun _=>rfl,Nat.le_refl _,Nat.le_refl _,rfl,rfl,.refl _⟩
theorem Wd.Kp.trans {w v u:Wd}{k:Nat}(a:Wd.Kp w v k)(b:Wd.Kp v u k):Wd.Kp w u k:=⟨fun i=>(b.ids i).trans (a.ids i),Nat.le_trans b.inn a.inn,Nat.le_trans b.inu a.inu,b.now.trans a.now,b.len.trans a.len,a.ro.trans b.ro⟩
theorem Wd.Kp.same {w w':Wd}{k:Nat}(h1:w'.p.cls=w.p.cls)(h2:w'.p.ups=w.p.ups)(h3:w'.p.now=w.p.now)(h4:Wd.Rk w w'):Wd.Kp w w' k:=⟨fun _=>by rw[h1],by unfold Wd.cl;rw[h1];exact Nat.le_refl _,by unfold Wd.inU;rw[h2];exact Nat.le_refl _,h3,by rw[h1],h4⟩
theorem Wd.Kp.put (w:Wd){id:Int}{k:Nat}(hk:bM w.p.cls id=some k)(b:List UInt8):Wd.Kp w (w.put id b) k:=by
 have h:=w.cl_put2 hk b;have r:=rS w id b;refine⟨fun i=>jw w id i b,by rw[h.2.2.2.2.2.1];exact Nat.le_refl _,by unfold Wd.inU;rw[r.1];exact Nat.le_refl _,r.2.2.2.2.1,?_,.same r.2.2.2.1 r.2.2.2.2.2.2⟩;rcases w.put_cls hk b with g|⟨_,g⟩;·rw[g]
 ·rw[g,List.length_set]
theorem Wd.Kp.setC (w:Wd){k:Nat}(hk:k<w.p.cls.length)(x:Cl)(hid:x.po.id=(w.cl k).po.id)(hin:x.po.inn.dat.length≤(w.cl k).po.inn.dat.length):Wd.Kp w (w.setC k x) k:=⟨fun i=>kh w k x hid i,by rw[w.cl_setC hk];exact hin,Nat.le_refl _,rfl,List.length_set,.same rfl rfl⟩
theorem Wd.inU_setU (w:Wd){j:Nat}(hj:j<w.p.ups.length)(u:Up):(w.setU j u).inU+(w.up j).po.inn.dat.length=w.inU+u.po.inn.dat.length:=by have:=mg (w.p.ups.map fun c=>c.po.inn.dat.length) j u.po.inn.dat.length (by simpa using hj);unfold Wd.inU Wd.setU Wd.up;simp only[List.map_set];simp only[List.getElem_map] at this;simpa[hj] using this
theorem Wd.Kp.setU (w:Wd)(k:Nat){j:Nat}(hj:j<w.p.ups.length)(u:Up)(hin:u.po.inn.dat.length≤(w.up j).po.inn.dat.length):Wd.Kp w (w.setU j u) k:=⟨fun _=>rfl,Nat.le_refl _,by have:=w.inU_setU hj u;omega,rfl,rfl,.same rfl rfl⟩
theorem Wd.Kp.cc (w:Wd)(k:Nat)(rc:Int)(b:Bool):Wd.Kp w (w.cc rc b) k:=by
 unfold Wd.cc;split;·exact .same rfl rfl rfl ⟨rfl,fun _ _ _ h=>GN h b⟩
 ·exact .refl _ _
theorem Im (w:Wd)(ser:Int)(sn:Sn)(cm:Bool):(w.prim ser sn cm).p.ro=w.p.ro:=by unfold Wd.prim;split<;>rfl
theorem Wd.Kp.prim (w:Wd)(k:Nat)(ser:Int)(sn:Sn)(cm:Bool):Wd.Kp w (w.prim ser sn cm) k:=by have r:=nZ w ser sn cm;exact .same r.1 r.2.1 r.2.2.2.2.2 (.same r.2.2.2.2.1 (Im _ _ _ _))
theorem Wd.Kp.over (w:Wd){k:Nat}(hk:k<w.p.cls.length):Wd.Kp w (w.over k) k:=.setC w hk _ rfl (Nat.le_refl _)
theorem Wd.Kp.stop (w:Wd){k:Nat}(hk:k<w.p.cls.length):Wd.Kp w (w.stop k) k:=.setC w hk _ rfl (Nat.le_refl _)
theorem qE (w:Wd)(id:Int)(q:Bool):(w.drop id q).p.now=w.p.now:=by unfold Wd.drop;split<;>rfl
theorem kW (w:Wd)(id:Int)(q:Bool):(w.drop id q).p.ro=w.p.ro∧(w.drop id q).p.cfg=w.p.cfg:=by unfold Wd.drop;split<;>exact⟨rfl,rfl⟩
theorem Wd.Kp.drop (w:Wd)(k:Nat)(id:Int)(q:Bool):Wd.Kp w (w.drop id q) k:=by
 refine⟨fun i=>eh w id q i,by unfold Wd.cl;rw[mT];exact Nat.le_refl _,?_,qE w id q,by rw[mT],.same (kW w id q).2 (kW w id q).1⟩;unfold Wd.drop;split;·exact Nat.le_refl _
 ·rename_i j _;have:=u4 (w.p.ups.map fun u=>u.po.inn.dat.length) j;show((w.p.ups.take j++w.p.ups.drop (j+1)).map _).sum≤_;rw[Ng,List.map_take,List.map_drop];exact this
theorem Wd.Kp.rel (w:Wd)(k:Nat){j:Nat}(hj:j<w.p.ups.length)(id:Int):Wd.Kp w (w.rel j id) k:=by
 have h:=Wd.Kp.setU w k hj {w.up j with cli:=0} (Nat.le_refl _);unfold Wd.rel;split;·exact⟨fun _=>rfl,Nat.le_refl _,h.inu,rfl,rfl,.same rfl rfl⟩
 ·exact⟨fun _=>rfl,Nat.le_refl _,h.inu,rfl,rfl,.same rfl rfl⟩
theorem Wd.Kp.fail (w:Wd){k:Nat}{id:Int}(hk:bM w.p.cls id=some k)(st:Int):Wd.Kp w (w.fail k id st) k:=by
 have h1:=(Wd.Kp.cc w k (w.cl k).ex.rc true).trans (.prim _ k (w.cl k).ex.ser .zero false);have k1:bM ((w.cc (w.cl k).ex.rc true).prim (w.cl k).ex.ser .zero false).p.cls id=some k:=by rw[h1.ids,hk]
 unfold Wd.fail;split;·unfold Wd.failH;generalize (w.cc (w.cl k).ex.rc true).prim (w.cl k).ex.ser .zero false=w1 at*;have h2:=Wd.Kp.over w1 (aR k1).1;refine(h1.trans h2).trans (.stop _ ?_);rw[h2.len];exact(aR k1).1
 ·unfold Wd.failN;generalize (w.cc (w.cl k).ex.rc true).prim (w.cl k).ex.ser .zero false=w1 at*;have h2:=Wd.Kp.put w1 k1 (bD st (w.cl k).ex.rq.m (w.cl k).ex.cl);refine(h1.trans h2).trans (.over _ ?_);rw[h2.len];exact(aR k1).1
theorem Cl.rank_over (c:Cl)(now:Int):(c.over now).rank≤1:=by
 unfold Cl.rank;split;·omega
 ·rw[if_neg (by show¬((0:Int)=2∨(0:Int)=3);omega),if_neg (by show¬((0:Int)=1);omega)];exact Nat.le_refl _
theorem Wd.rank_over (w:Wd){k:Nat}(hk:k<w.p.cls.length):((w.over k).cl k).rank≤1:=by rw[w.over_cl hk];exact Cl.rank_over _ _
theorem Cl.rank_closing {c:Cl}(h:c.po.closing=true):c.rank=0:=by unfold Cl.rank;rw[if_pos h]
theorem Wd.rank_fail (w:Wd){k:Nat}{id:Int}(hk:bM w.p.cls id=some k)(st:Int):((w.fail k id st).cl k).rank≤1:=by
 have h1:=(Wd.Kp.cc w k (w.cl k).ex.rc true).trans (.prim _ k (w.cl k).ex.ser .zero false);have k1:bM ((w.cc (w.cl k).ex.rc true).prim (w.cl k).ex.ser .zero false).p.cls id=some k:=by rw[h1.ids,hk]
 unfold Wd.fail;split
 ·unfold Wd.failH;generalize (w.cc (w.cl k).ex.rc true).prim (w.cl k).ex.ser .zero false=w1 at*;have h2:=Wd.Kp.over w1 (aR k1).1;have hl:k<(w1.over k).p.cls.length:=by rw[h2.len];exact(aR k1).1
  unfold Wd.stop;rw[Wd.cl_setC _ hl];rw[Cl.rank_closing (c:=((w1.over k).cl k).stop) rfl];omega
 ·unfold Wd.failN;generalize (w.cc (w.cl k).ex.rc true).prim (w.cl k).ex.ser .zero false=w1 at*;have h2:=Wd.Kp.put w1 k1 (bD st (w.cl k).ex.rq.m (w.cl k).ex.cl);exact Wd.rank_over _ (by rw[h2.len];exact(aR k1).1)
theorem Wd.B.fail {w:Wd}{n:Nat}(hs:w.S)(h:w.B n)(hl:n+2≤10000000000){k:Nat}{id:Int}(hk:bM w.p.cls id=some k)(st:Int):(w.fail k id st).B (n+2):=by
 have s1:=(hs.cc (w.cl k).ex.rc true).prim (w.cl k).ex.ser Sn.zero_gd false;have b1:=(h.cc (w.cl k).ex.rc true).prim (by omega) (w.cl k).ex.ser .zero false;have h1:=(Wd.Kp.cc w k (w.cl k).ex.rc true).trans (.prim _ k (w.cl k).ex.ser .zero false);have k1:bM ((w.cc (w.cl k).ex.rc true).prim (w.cl k).ex.ser .zero false).p.cls id=some k:=by rw[h1.ids,hk]
 unfold Wd.fail;split;·unfold Wd.failH;generalize (w.cc (w.cl k).ex.rc true).prim (w.cl k).ex.ser .zero false=w1 at*;have h2:=Wd.Kp.over w1 (aR k1).1;exact Wd.B.up (n:=n+1) ((b1.over (aR k1).1).setC (by rw[h2.len];exact(aR k1).1) (Int.le_refl _)) (by omega) (by omega)
 ·unfold Wd.failN;generalize (w.cc (w.cl k).ex.rc true).prim (w.cl k).ex.ser .zero false=w1 at*;have h2:=Wd.Kp.put w1 k1 (bD st (w.cl k).ex.rq.m (w.cl k).ex.cl);exact(b1.put s1 (by omega) _ _).over (by rw[h2.len];exact(aR k1).1)
theorem mX (w:Wd)(x:dl)(id:Int):(w.cm1 x id).p.ups=w.p.ups∧(w.cm1 x id).p.cfg=w.p.cfg:=by
 unfold Wd.cm1;split;·exact⟨jv _ _ _,BN _ _ _⟩
 ·exact⟨rfl,rfl⟩
theorem Wd.Kp.cm1 (w:Wd){id:Int}{k:Nat}(hk:bM w.p.cls id=some k)(x:dl):Wd.Kp w (w.cm1 x id) k:=by
 unfold Wd.cm1;split;·exact .put w hk _
 ·exact .refl _ _
theorem Wd.Kp.cm3 (w:Wd)(k:Nat)(x:dl):Wd.Kp w (w.cm3 x) k:=(Wd.Kp.cc w k x.rc _).trans (.prim _ k _ _ _)
theorem pJ (w:Wd)(x:dl):(w.cm3 x).p.ups=w.p.ups:=by unfold Wd.cm3;rw[qX,zN]
theorem Wd.Kp.cm4 (w:Wd)(k:Nat)(x:dl){j:Nat}(hj:j<w.p.ups.length):Wd.Kp w (w.cm4 x j) k:=by
 unfold Wd.cm4;split;·exact .rel w k hj _
 ·exact .drop w k _ _
theorem Wd.Kp.complete (w:Wd){k j:Nat}{id:Int}(hk:bM w.p.cls id=some k)(hj:j<w.p.ups.length):Wd.Kp w (w.complete k j id) k:=by
 have h1:=(Wd.Kp.cm1 w hk (w.cl k).ex).trans (.cm3 _ k (w.cl k).ex);have u1:((w.cm1 (w.cl k).ex id).cm3 (w.cl k).ex).p.ups=w.p.ups:=by rw[pJ,(mX _ _ _).1]
 have h2:=h1.trans (.cm4 _ k (w.cl k).ex (j:=j) (by rw[u1];exact hj));unfold Wd.complete;refine h2.trans (.over _ ?_);rw[h2.len];exact(aR hk).1
theorem Wd.rank_complete (w:Wd){k j:Nat}{id:Int}(hk:bM w.p.cls id=some k)(hj:j<w.p.ups.length):((w.complete k j id).cl k).rank≤1:=by
 have h1:=(Wd.Kp.cm1 w hk (w.cl k).ex).trans (.cm3 _ k (w.cl k).ex);have u1:((w.cm1 (w.cl k).ex id).cm3 (w.cl k).ex).p.ups=w.p.ups:=by rw[pJ,(mX _ _ _).1]
 have h2:=h1.trans (.cm4 _ k (w.cl k).ex (j:=j) (by rw[u1];exact hj));unfold Wd.complete;exact Wd.rank_over _ (by rw[h2.len];exact(aR hk).1)
theorem Wd.B.complete {w:Wd}{n:Nat}(hs:w.S)(h:w.B n)(hl:n+3≤10000000000){k j:Nat}{id:Int}(hk:bM w.p.cls id=some k)(hj:j<w.p.ups.length):(w.complete k j id).B (n+3):=by
 have h1:=(Wd.Kp.cm1 w hk (w.cl k).ex).trans (.cm3 _ k (w.cl k).ex);have u1:((w.cm1 (w.cl k).ex id).cm3 (w.cl k).ex).p.ups=w.p.ups:=by rw[pJ,(mX _ _ _).1]
 have h2:=h1.trans (.cm4 _ k (w.cl k).ex (j:=j) (by rw[u1];exact hj));have b1:(w.cm1 (w.cl k).ex id).B (n+1):=by
  unfold Wd.cm1;split;·exact h.put hs (by omega) _ _
  ·exact h.up (by omega) (by omega)
 have b3:((w.cm1 (w.cl k).ex id).cm3 (w.cl k).ex).B (n+2):=(b1.cc _ _).prim (by omega) _ _ _;have b4:(((w.cm1 (w.cl k).ex id).cm3 (w.cl k).ex).cm4 (w.cl k).ex j).B (n+3):=by
  unfold Wd.cm4;split
  ·refine Wd.B.up ?_ (Nat.le_succ _) (by omega);have hj':j<((w.cm1 (w.cl k).ex id).cm3 (w.cl k).ex).p.ups.length:=by rw[u1];exact hj
   generalize (w.cm1 (w.cl k).ex id).cm3 (w.cl k).ex=v at*;have:=b3.setU hj' (c:={v.up j with cli:=0}) (Int.le_refl _);unfold Wd.rel;split<;>exact⟨this.lim,this.ol,this.ph⟩
  ·exact b3.drop (by omega) _ _
 unfold Wd.complete;exact b4.over (by rw[h2.len];exact(aR hk).1)
theorem Wd.J.complete {c:bk}{w:Wd}(h:w.J c 0){k j:Nat}{id:Int}(hk:bM w.p.cls id=some k)(h3:(w.cl k).ex.st=3)(hj:im w.p.ups (w.cl k).ex.up=some j):(w.complete k j id).J c 0:=by
 obtain⟨hlt,hid⟩:=aR hk;have hid:(w.cl k).po.id=id:=hid;have hm:=w.cl_mem hlt;have hK:=h.ck _ hm;have hG:=h.s.cg _ hm;have hid0:(w.cl k).po.id≠0:=by have:=hK.id;omega
 obtain⟨j',hj',hjl,l⟩:=h.link hm hid0 (.inr h3);rw[hj] at hj';cases hj';generalize hx:(w.cl k).ex=x at*;have r1:=mX w x id;have j1:(w.cm1 x id).J c 0:=by unfold Wd.cm1;split;exact h.put _ _;exact h
 have hgd:(x.seen (w.cm1 x id).p.cfg.ignore).Gd:=BK (hx▸hG.ex) _;have j3:((w.cm1 x id).cm3 x).J c 0:=(j1.cc _ _).prim _ hgd _;have u1:((w.cm1 x id).cm3 x).p.ups=w.p.ups:=by rw[pJ,r1.1]
 have kp:=(Wd.Kp.cm1 w hk x).trans (.cm3 _ k x);have kp4:=kp.trans (.cm4 _ k x (j:=j) (by rw[u1];exact hjl));have k3:bM ((w.cm1 x id).cm3 x).p.cls id=some k:=by rw[kp.ids,hk]
 have key:∀v:Wd,v.J c 0→v.p.ups=w.p.ups→bM v.p.cls id=some k→(v.cm4 x j).J c id∧∀u,u∈(v.cm4 x j).p.ups→u.cli≠id:=by
  intro v vj vu vk;have e1:v.up j=w.up j:=by unfold Wd.up;rw[vu]
  have vj2:im v.p.ups x.up=some j:=by rw[vu];exact hj
  have hjv:j<v.p.ups.length:=by rw[vu];exact hjl
  have hum:=v.up_mem hjv;have hc:(v.up j).cli=id:=by rw[e1,l.2.1,hid]
  have hc0:(v.up j).cli≠0:=by rw[hc,←hid];exact hid0
  unfold Wd.cm4;split
  ·rename_i hkeep;have ho:(v.up j).opn=true:=by rw[e1];exact l.2.2.2 (by rw[hx];exact h3)
   have hr:=vj.rel vj2 hc0 ho (EY hkeep);rw[hc] at hr;refine⟨hr,fun u hu he=>?_⟩;have hus:(v.rel j x.up).p.ups=v.p.ups.set j {v.up j with cli:=0}:=by unfold Wd.rel;split<;>rfl
   rw[hus] at hu;rcases (eM (f:=fun x:Up=>x.po.id) vj.un hjv).1 hu with rfl|⟨hu,hne⟩;·have he:(0:Int)=id:=he;exact hid0 (by rw[hid];exact he.symm)
   ·have:=vj.uniq hu hum (by rw[he,hc]) (by rw[he,←hid];exact hid0);have e0:v.up j=v.p.ups[j]:=cx hjv _;rw[this,e0] at hne;exact hne rfl
  ·have hd:=vj.drop (id:=x.up) (e:=id) false fun j' hj'=>by rw[vj2] at hj';cases hj';exact hc
   refine⟨hd,fun u hu he=>?_⟩;obtain⟨hu,hne⟩:=(re vj _ _ u).1 hu;have:=vj.uniq hu hum (by rw[he,hc]) (by rw[he,←hid];exact hid0);have hup:=(fE vj2).2;rw[this] at hne;exact hne hup
 obtain⟨j4,n4⟩:=key _ j3 u1 k3;unfold Wd.complete;rw[hx];have k4:bM (((w.cm1 x id).cm3 x).cm4 x j).p.cls id=some k:=by rw[kp4.ids,hk]
 generalize ((w.cm1 x id).cm3 x).cm4 x j=v at*;have hv:(v.cl k).po.id=id:=(aR k4).2;exact j4.over (aR k4).1 (by rw[hv];exact n4) (by rw[hv];exact .inr rfl)
theorem ue {pool p:Po}{to:Int}{fr:Bool}(ha:fZ pool=some (p,to,fr)):(fr=true∧pool.id=[]∧p=⟨pool.ba,pool.qu,pool.se+1,[],iR pool.bu to⟩∧to=pool.ba+(pool.se+1)∧pool.se<900000)∨(fr=false∧∃r,pool.id=to::r∧p=⟨pool.ba,pool.qu,pool.se,r,iR pool.bu to⟩):=by
 unfold fZ at ha;split at ha;·rename_i m r hid;cases ha;exact .inr ⟨rfl,r,hid,rfl⟩
 ·rename_i hid;split at ha;·rename_i hc;cases ha;exact .inl ⟨rfl,hid,rfl,rfl,hc.2⟩
  ·cases ha
structure FwU (c:bk)(w v:Wd)(to:Int)(fr:Bool)(u:Up):Prop where
 mem:u∈v.p.ups
 id:u.po.id=to
 cli:u.cli=0
 cls:u.po.cls=bG to
 cap:u.po.inn.cap≤1000
 ocap:u.po.out.cap=2*c.maxHead+c.maxBody+2000
 out:u.po.out.dat=[]opn:fr=false→u.opn=true
 gd:u.Gd
 nd:(v.p.ups.map fun x=>x.po.id).Nodup
 old:∀x,x∈v.p.ups→x=u∨(x∈w.p.ups∧x.po.id≠to)new:∀x,x∈w.p.ups→x.po.id≠to→x∈v.p.ups
 none:∀x,x∈w.p.ups→x.po.id=to→x.cli=0
 inu:v.inU=w.inU
theorem ke {c:bk}{w:Wd}{e:Int}(h:w.J c e)(rc:Int):((w.poolOf rc).ba=1000000∧w.poolOf rc=w.p.sta∧rc≠5)∨((w.poolOf rc).ba=2000000∧w.poolOf rc=w.p.can∧rc=5):=by
 unfold Wd.poolOf;split;·rename_i h5;exact .inr ⟨h.ba.2,rfl,h5⟩
 ·rename_i h5;exact .inl ⟨h.ba.1,rfl,h5⟩
theorem nj (w:Wd)(rc:Int)(p:Po):(w.setPool rc p).p.ups=w.p.ups∧(w.setPool rc p).p.cls=w.p.cls∧(w.setPool rc p).p.cfg=w.p.cfg∧(w.setPool rc p).p.now=w.p.now:=by unfold Wd.setPool;split<;>exact⟨rfl,rfl,rfl,rfl⟩
theorem HF {c:bk}{w:Wd}(h:w.J c 0)(hM:jK c){rc:Int}{p:Po}{to:Int}{fr:Bool}(ha:fZ (w.poolOf rc)=some (p,to,fr)):∃u,FwU c w (w.fw1 rc p to fr) to fr u:=by
 have hpo:=h.s.poolOf rc;have sp:=nj w rc p;have hcok:=h.cok;rcases ue ha with⟨rfl,hid,hp,hto,hse⟩|⟨rfl,r,hid,hp⟩
 ·have hfresh:∀x,x∈w.p.ups→x.po.id≠to:=by
   intro x hx e;have hse0:=hpo.se;rcases ke h rc with⟨hb,he,_⟩|⟨hb,he,_⟩
   ·rcases h.pl x hx with g|g;·have:(w.p.sta).ba<x.po.id∧x.po.id≤w.p.sta.ba+w.p.sta.se:=g.elim (h.s.sta.ri _) (h.s.sta.rb _);rw[he] at hto;omega
    ·have:(w.p.can).ba<x.po.id∧x.po.id≤w.p.can.ba+w.p.can.se:=g.elim (h.s.can.ri _) (h.s.can.rb _);have:=h.ba;omega
   ·rcases h.pl x hx with g|g;·have:(w.p.sta).ba<x.po.id∧x.po.id≤w.p.sta.ba+w.p.sta.se:=g.elim (h.s.sta.ri _) (h.s.sta.rb _);have:=h.s.sta.se;have:=h.ba;omega
    ·have:(w.p.can).ba<x.po.id∧x.po.id≤w.p.can.ba+w.p.can.se:=g.elim (h.s.can.ri _) (h.s.can.rb _);rw[he] at hto;omega
  have hups:(w.fw1 rc p to true).p.ups=w.p.ups.take (jR w.p.ups to)++[bT c to]++w.p.ups.drop (jR w.p.ups to):=by show(if true=true then(w.setPool rc p).insU to rc else w.setPool rc p).p.ups=_;rw[if_pos rfl];show(w.setPool rc p).p.ups.take (jR (w.setPool rc p).p.ups to)++[bT (w.setPool rc p).p.cfg to]++(w.setPool rc p).p.ups.drop (jR (w.setPool rc p).p.ups to)=_;rw[sp.1,sp.2.2.1,h.cfg]
  have hm:∀x,x∈(w.fw1 rc p to true).p.ups↔x=bT c to∨x∈w.p.ups:=fun x=>by rw[hups];exact A3
  refine⟨bT c to,(hm _).2 (.inl rfl),rfl,rfl,rfl,?_,?_,rfl,(fun h=>by cases h),wY hcok to,?_,fun x hx=>?_,fun x hx _=>(hm x).2 (.inr hx),fun x hx e=>absurd e (hfresh x hx),?_⟩;·show min (max c.cin 0) 1000000≤1000;have:=hM.cin;omega
  ·show min (max (2*c.maxHead+c.maxBody+2000) 0) 1000000=_;have:=hcok.maxHead;have:=hcok.maxBody;omega
  ·rw[hups];exact FI h.un _ fun x hx=>hfresh x hx
  ·rcases (hm x).1 hx with g|g;·exact .inl g
   ·exact .inr ⟨g,hfresh x g⟩
  ·unfold Wd.inU;rw[hups];have:((w.p.ups.take (jR w.p.ups to)++w.p.ups.drop (jR w.p.ups to)).map fun u:Up=>u.po.inn.dat.length).sum=(w.p.ups.map fun u:Up=>u.po.inn.dat.length).sum:=by rw[NB]
   simp only[Ng,List.sum_append] at*;have z:([bT c to].map fun u:Up=>u.po.inn.dat.length).sum=0:=rfl;omega
 ·have hups:(w.fw1 rc p to false).p.ups=w.p.ups:=by show(if false=true then(w.setPool rc p).insU to rc else w.setPool rc p).p.ups=_;rw[if_neg (by simp)];exact sp.1
  have hmem:to∈w.p.sta.id∨to∈w.p.can.id:=by
   rcases ke h rc with⟨_,he,_⟩|⟨_,he,_⟩;·left;rw[←he,hid];simp
   ·right;rw[←he,hid];simp
  obtain⟨u,hu,g1,g2⟩:=h.il to hmem;have hK:=h.uk u hu;have hI:=hK.idle g2;refine⟨u,by rw[hups];exact hu,g1,g2,by rw[hK.cls,g1],hK.cap,hK.ocap,hI.2,fun _=>hI.1,h.s.ug u hu,by rw[hups];exact h.un,fun x hx=>?_,fun x hx _=>by rw[hups];exact hx,fun x hx e=>?_,by unfold Wd.inU;rw[hups]⟩
  ·rw[hups] at hx;by_cases e:x.po.id=to;·exact .inl (eY h.un hx hu (e.trans g1.symm))
   ·exact .inr ⟨hx,e⟩
  ·have:x=u:=eY h.un hx hu (e.trans g1.symm);rw[this];exact g2
theorem FwU.at {c:bk}{w v:Wd}{to:Int}{fr:Bool}{u:Up}(f:FwU c w v to fr u):∃j,im v.p.ups to=some j∧j<v.p.ups.length∧v.up j=u:=by obtain⟨j,hj⟩:=uO f.mem;rw[f.id] at hj;obtain⟨hlt,hid⟩:=fE hj;rw[cx hlt] at hid;have e1:v.up j=v.p.ups[j]:=cx hlt _;exact⟨j,hj,hlt,by rw[e1];exact eY f.nd (Nr hlt) f.mem (by rw[f.id];exact hid)⟩
theorem Eb {c:bk}{w:Wd}(h:w.J c 0)(hM:jK c)(k:Nat):∀p to fr,fZ (w.poolOf (w.cl k).ex.rc)=some (p,to,fr)→im (w.fw1 (w.cl k).ex.rc p to fr).p.ups to=some (w.jF k):=by intro p to fr ha;obtain⟨u,f⟩:=HF h hM ha;obtain⟨j,hj,_⟩:=f.at;unfold Wd.jF;rw[ha];simp only;rw[hj];rfl
theorem E2 {p:cH}{b:List UInt8}(h:(b.length:Int)≤p.room):(p.put b).e=0:=by unfold cH.put;rw[if_neg (by omega)]
theorem zG {p:cH}(hq:p.Q)(ho:p.out.dat=[]){n:Int}(hc:n≤p.out.cap)(hn:n≤1000000):n≤p.room:=by have h1:=hq.bud;unfold cH.room Qu.room;rw[if_pos hq.out,ho];simp only[Nf];omega
theorem Li {c:bk}{w v:Wd}{to:Int}{fr:Bool}{u:Up}(f:FwU c w v to fr u)(hc:c.Ok)(hM:jK c){x:Cl}(hK:x.K c)(hG:x.Gd)(hi:fT x.po.id):(u.po.put (Cm x.ex x.po.id false)).e=0:=by
 have hb1:=hG.body;have hb2:=hK.rt.sz;have hmb:=hc.maxBody;have hmh:=hM.mh;have hser:=hG.ex.ser;have hl:=Ge x.ex x.po.id c.maxHead.toNat (by have:=hK.hm;omega) (by have:=hK.ht;omega) (by have:=hK.hf;omega) hG.ex.rqn (by omega) (by omega) hi.2 (by omega) false;refine E2 (zG f.gd.po f.out ?_ ?_);·rw[f.ocap];omega
 ·omega
theorem Fl (w:Wd)(k:Nat)(id:Int){p:Po}{to:Int}{fr:Bool}(ha:fZ (w.poolOf (w.cl k).ex.rc)=some (p,to,fr))(j:Nat):w.forward k j id=(((w.fw1 (w.cl k).ex.rc p to fr).fw2 k to fr).fw3 (w.cl k).ex j id to).fw4 (w.cl k).ex id:=by unfold Wd.forward;rw[ha]
theorem xg (w:Wd)(k:Nat)(id:Int)(ha:fZ (w.poolOf (w.cl k).ex.rc)=none)(j:Nat):w.forward k j id=w.busy k id:=by unfold Wd.forward;rw[ha]
theorem FD (w:Wd)(x:dl)(id:Int):(w.fw4 x id).p.cls=w.p.cls∧(w.fw4 x id).p.ups=w.p.ups∧(w.fw4 x id).p.sta=w.p.sta∧(w.fw4 x id).p.can=w.p.can∧(w.fw4 x id).p.cfg=w.p.cfg∧(w.fw4 x id).p.now=w.p.now:=by unfold Wd.fw4;split<;>exact⟨rfl,rfl,rfl,rfl,rfl,rfl⟩
theorem Wd.S.fw4 {w:Wd}(h:w.S){x:dl}(hx:x.Gd)(id:Int):(w.fw4 x id).S:=by
 unfold Wd.fw4;split;·exact⟨h.cfg,h.now,h.draw,h.ser,h.ro,h.pl,h.cl,h.ul,h.cg,h.ug,h.sta,h.can,bnF_v h.sh h.cfg hx.ser _ _ _⟩
 ·exact h
theorem Wd.B.fw4 {w:Wd}{n:Nat}(h:w.B n)(hl:n<10000000000)(x:dl)(id:Int):(w.fw4 x id).B (n+1):=by
 unfold Wd.fw4;split;·exact h.quiet hl rfl rfl (AM _ _ _ _ _ _).1 (AM _ _ _ _ _ _).2
 ·exact h.up (by omega) hl
theorem fw_ro (w:Wd)(rc:Int)(p:Po)(to:Int)(fr:Bool)(k j:Nat)(x:dl)(id:Int):((((w.fw1 rc p to fr).fw2 k to fr).fw3 x j id to).fw4 x id).p.ro=w.p.ro:=by
 have h1:(w.fw1 rc p to fr).p.ro=w.p.ro:=by unfold Wd.fw1 Wd.setPool;split<;>split<;>rfl
 unfold Wd.fw4;split<;>exact h1
theorem ym (w:Wd)(rc:Int)(p:Po)(to:Int)(fr:Bool):(w.fw1 rc p to fr).p.cls=w.p.cls∧(w.fw1 rc p to fr).p.cfg=w.p.cfg∧(w.fw1 rc p to fr).p.now=w.p.now∧(w.fw1 rc p to fr).p.sta=(w.setPool rc p).p.sta∧(w.fw1 rc p to fr).p.can=(w.setPool rc p).p.can:=by
 have sp:=nj w rc p;unfold Wd.fw1;split;·exact⟨sp.2.1,sp.2.2.1,sp.2.2.2,rfl,rfl⟩
 ·exact⟨sp.2.1,sp.2.2.1,sp.2.2.2,rfl,rfl⟩
theorem Wd.J.forward {c:bk}{w:Wd}(h:w.J c 0)(hM:jK c){k:Nat}{id:Int}(hk:bM w.p.cls id=some k)(hs:(w.cl k).ex.st≠2∧(w.cl k).ex.st≠3)(hc:(w.cl k).po.closing=false):(w.forward k (w.jF k) id).J c 0∧Wd.Kp w (w.forward k (w.jF k) id) k∧((w.forward k (w.jF k) id).cl k).rank≤2:=by
 obtain⟨hlt,hid⟩:=aR hk;have hid:(w.cl k).po.id=id:=hid;have hm:=w.cl_mem hlt;have hK:=h.ck _ hm;have hG:=h.s.cg _ hm;have hcok:=h.cok;have hid0:(w.cl k).po.id≠0:=by have:=hK.id;omega
 have hnu:=h.noup hm hs;cases ha:fZ (w.poolOf (w.cl k).ex.rc) with|none=>
 rw[xg w k id ha];unfold Wd.busy;have kp:=Wd.Kp.put w hk (bD 503 (w.cl k).ex.rq.m (w.cl k).ex.cl);have j1:=h.put id (bD 503 (w.cl k).ex.rq.m (w.cl k).ex.cl);have q:=w.cl_put2 hk (bD 503 (w.cl k).ex.rq.m (w.cl k).ex.cl);have pu:=jv w id (bD 503 (w.cl k).ex.rq.m (w.cl k).ex.cl);generalize w.put id (bD 503 (w.cl k).ex.rq.m (w.cl k).ex.cl)=v at*;have hlv:k<v.p.cls.length:=by rw[kp.len];exact hlt
 refine⟨j1.over hlv ?_ (.inl rfl),kp.trans (.over v hlv),Nat.le_trans (v.rank_over hlv) (by omega)⟩;rw[q.2.2.2.1,pu];exact hnu;|some q=>
 obtain⟨p,to,fr⟩:=q;have hjF:=Eb h hM k p to fr ha;obtain⟨u,f⟩:=HF h hM ha;obtain⟨j,hj,hjl,hju⟩:=f.at;rw[hj] at hjF;have hjj:j=w.jF k:=Option.some.inj hjF;rw[←hjj];rw[Fl w k id ha];have hpe:=Li f hcok hM hK hG ⟨by have:=hK.id;omega,by have:=hK.id;omega⟩;rw[hid] at hpe;have hpi:=Ai u.po _ hpe;have hpo:=h.s.poolOf (w.cl k).ex.rc;have hpok:=(pg hpo ha).1;have fr1:=ym w (w.cl k).ex.rc p to fr;have s1:=h.s.fw1 (by have:=h.len;omega) (w.cl k).ex.rc hpok to fr;have sp1:(w.setPool (w.cl k).ex.rc p).p.sta=if(w.cl k).ex.rc=5 then w.p.sta else p:=by unfold Wd.setPool;split<;>rfl
 have sp2:(w.setPool (w.cl k).ex.rc p).p.can=if(w.cl k).ex.rc=5 then p else w.p.can:=by unfold Wd.setPool;split<;>rfl
 have pb:=ke h (w.cl k).ex.rc;have ac:=ue ha;have hro:=fw_ro w (w.cl k).ex.rc p to fr k j (w.cl k).ex id;generalize w.poolOf (w.cl k).ex.rc=pool at*;generalize (w.setPool (w.cl k).ex.rc p)=vp at*;generalize hv:w.fw1 (w.cl k).ex.rc p to fr=v at*;obtain⟨v1,v2,v3,v4,v5⟩:=fr1;have vcl:v.cl k=w.cl k:=by unfold Wd.cl;rw[v1]
 have hlv:k<v.p.cls.length:=by rw[v1];exact hlt
 have s2:(v.fw2 k to fr).S:=s1.setC k (c:=(v.cl k).to to fr) (by rw[vcl];exact hG.to to fr);have s3:=s2.fw3 (w.cl k).ex (j:=j) hjl id to;have s4:=s3.fw4 hG.ex id;have r4:=FD ((v.fw2 k to fr).fw3 (w.cl k).ex j id to) (w.cl k).ex id;generalize hW:((v.fw2 k to fr).fw3 (w.cl k).ex j id to).fw4 (w.cl k).ex id=W at*;have Wc:W.p.cls=w.p.cls.set k ((w.cl k).to to fr):=by rw[r4.1];show v.p.cls.set k ((v.cl k).to to fr)=_;rw[v1,vcl]
 have Wu:W.p.ups=v.p.ups.set j (u.fw (w.cl k).ex id):=by rw[r4.2.1,←hju];rfl
 have Ws:W.p.sta=if(w.cl k).ex.rc=5 then w.p.sta else p:=by rw[r4.2.2.1];show v.p.sta=_;rw[v4,sp1]
 have Wn:W.p.can=if(w.cl k).ex.rc=5 then p else w.p.can:=by rw[r4.2.2.2.1];show v.p.can=_;rw[v5,sp2]
 have Wf:W.p.cfg=c:=by rw[r4.2.2.2.2.1];show v.p.cfg=_;rw[v2,h.cfg]
 have Wt:W.p.now=w.p.now:=by rw[r4.2.2.2.2.2];exact v3
 have hfid:(u.fw (w.cl k).ex id).po.id=to:=by show(u.po.put _).p.id=to;rw[hpi.1,f.id]
 have e0:v.up j=v.p.ups[j]:=cx hjl _;have mu:∀x,x∈W.p.ups↔x=u.fw (w.cl k).ex id∨(x∈w.p.ups∧x.po.id≠to):=by
  intro x;rw[Wu,eM (f:=fun x:Up=>x.po.id) f.nd hjl,←e0,hju,f.id];constructor
  ·rintro(g|⟨g1,g2⟩);·exact .inl g
   ·rcases f.old x g1 with g|g;·rw[g,f.id] at g2;exact absurd rfl g2
    ·exact .inr g
  ·rintro(g|⟨g1,g2⟩);·exact .inl g
   ·exact .inr ⟨f.new x g1 g2,g2⟩
 have mc:∀x,x∈W.p.cls↔x=(w.cl k).to to fr∨(x∈w.p.cls∧x.po.id≠id):=by intro x;have e1:w.cl k=w.p.cls[k]:=cx hlt _;rw[Wc,eM (f:=fun x:Cl=>x.po.id) h.cn hlt,←e1,hid]
 have hpm:(p.ba=pool.ba∧p.qu=pool.qu)∧to∈p.bu∧(∀i,i≠to→(i∈pool.id∨i∈pool.bu)→(i∈p.id∨i∈p.bu))∧(∀i,i∈p.id→i∈pool.id∧i≠to):=by
  rcases ac with⟨_,g1,g2,_⟩|⟨_,r,g1,g2⟩
  ·subst g2;refine⟨⟨rfl,rfl⟩,dG.2 (.inl rfl),fun i hi hh=>?_,fun i hi=>by cases hi⟩;rw[g1] at hh;rcases hh with hh|hh;·cases hh
   ·exact .inr (dG.2 (.inr hh))
  ·subst g2;refine⟨⟨rfl,rfl⟩,dG.2 (.inl rfl),fun i hi hh=>?_,fun i hi=>?_⟩
   ·rw[g1] at hh;rcases hh with hh|hh
    ·rcases List.mem_cons.1 hh with e|hh;·exact absurd e hi
     ·exact .inl hh
    ·exact .inr (dG.2 (.inr hh))
   ·have hp:=hpo.si;rw[g1] at hp⊢;have:=(List.pairwise_cons.1 hp).1 i hi;exact⟨Nv _ hi,by omega⟩
 obtain⟨⟨pb1,pb2⟩,pm1,pm2,pm3⟩:=hpm;have hst:((w.cl k).to to fr).ex.st=2∨((w.cl k).to to fr).ex.st=3:=by
  show(if fr=true then(2:Int) else 3)=2∨(if fr=true then(2:Int) else 3)=3;cases fr;·exact .inr rfl
  ·exact .inl rfl
 have hlink:CW ((w.cl k).to to fr) (u.fw (w.cl k).ex id):=by
  refine⟨hfid,hid.symm,?_,fun h3=>?_⟩;·show(w.cl k).ex.size=0;exact hK.size hs.1 hs.2
  ·have h3:(if fr=true then(2:Int) else 3)=3:=h3;cases fr;·exact f.opn rfl
   ·cases h3
 refine⟨⟨s4,Wf,?_,?_,fun x hx=>?_,fun x hx=>?_,?_,?_,fun x hx=>?_,fun i hi=>?_,fun x hx _ hst2=>?_,fun x hx hc0=>?_⟩,⟨fun i=>?_,?_,?_,Wt,?_,.same (Wf.trans h.cfg.symm) hro⟩,?_⟩;·rw[Wc];exact qV h.cn fun hk'=>by rw[show w.p.cls[k]=w.cl k from(cx hlt _).symm];rfl
 ·rw[Wu];exact qV f.nd fun hk'=>by rw[hfid,←e0,hju,f.id]
 ·rcases (mc x).1 hx with rfl|⟨hx,_⟩;·exact⟨hK.id,hK.cap,(fun hcl=>by have hcl:(w.cl k).po.closing=true:=hcl;rw[hc] at hcl;cases hcl),(by rcases hst with g|g<;>rw[g]<;>omega),(fun g2 g3=>(hst.elim g2 g3).elim),hK.rt,hK.rep,hK.hm,hK.ht,hK.hf⟩
  ·exact h.ck x hx
 ·rcases (mu x).1 hx with rfl|⟨hx,_⟩
  ·refine⟨?_,?_,?_,fun h0=>?_,Fx _ hcok.maxReply.1⟩;·rw[hfid];show(u.po.put _).p.cls=_;rw[hpi.2.1];exact f.cls
   ·show(u.po.put _).p.inn.cap≤1000;rw[hpi.2.2.1];exact f.cap
   ·show(u.po.put _).p.out.cap=_;rw[hpi.2.2.2.1];exact f.ocap
   ·have h0:id=0:=h0;exact absurd (hid.trans h0) hid0
  ·exact h.uk x hx
 ·rw[Ws,Wn];rcases pb with⟨b1,b2,b3⟩|⟨b1,b2,b3⟩;·rw[if_neg b3,if_neg b3];exact⟨by rw[pb1,b1],h.ba.2⟩
  ·rw[if_pos b3,if_pos b3];exact⟨h.ba.1,by rw[pb1,b1]⟩
 ·rw[Ws,Wn];rcases pb with⟨b1,b2,b3⟩|⟨b1,b2,b3⟩;·rw[if_neg b3,if_neg b3];exact⟨by rw[pb2,b2];exact h.qu.1,h.qu.2⟩
  ·rw[if_pos b3,if_pos b3];exact⟨h.qu.1,by rw[pb2,b2];exact h.qu.2⟩
 ·rw[Ws,Wn];rcases (mu x).1 hx with rfl|⟨hx,hne⟩
  ·rw[hfid];rcases pb with⟨b1,b2,b3⟩|⟨b1,b2,b3⟩;·rw[if_neg b3,if_neg b3];exact .inl (.inr pm1)
   ·rw[if_pos b3,if_pos b3];exact .inr (.inr pm1)
  ·rcases pb with⟨b1,b2,b3⟩|⟨b1,b2,b3⟩;·rw[if_neg b3,if_neg b3];exact(h.pl x hx).imp_left fun g=>pm2 _ hne (by rw[b2];exact g)
   ·rw[if_pos b3,if_pos b3];exact(h.pl x hx).imp_right fun g=>pm2 _ hne (by rw[b2];exact g)
 ·rw[Ws,Wn] at hi;have hboth:(i∈w.p.sta.id∨i∈w.p.can.id)∧i≠to:=by
   rcases pb with⟨b1,b2,b3⟩|⟨b1,b2,b3⟩
   ·rw[if_neg b3,if_neg b3] at hi;rcases hi with g|g;·have:=pm3 i g;rw[b2] at this;exact⟨.inl this.1,this.2⟩
    ·refine⟨.inr g,fun e=>?_⟩;have c1:=pm h.s.can h.ba.2 (.inl g);have c2:=pz hpok (by rw[pb1,b1]) (.inr pm1);rw[e,c2] at c1;omega
   ·rw[if_pos b3,if_pos b3] at hi;rcases hi with g|g;·refine⟨.inl g,fun e=>?_⟩;have c1:=pz h.s.sta h.ba.1 (.inl g);have c2:=pm hpok (by rw[pb1,b1]) (.inr pm1);rw[e,c2] at c1;omega
    ·have:=pm3 i g;rw[b2] at this;exact⟨.inr this.1,this.2⟩
  obtain⟨y,hy,g1,g2⟩:=h.il i hboth.1;exact⟨y,(mu y).2 (.inr ⟨hy,by rw[g1];exact hboth.2⟩),g1,g2⟩
 ·rcases (mc x).1 hx with rfl|⟨hx,hne⟩;·exact⟨_,(mu _).2 (.inl rfl),hlink⟩
  ·have hx0:=(h.ck x hx).id;obtain⟨y,hy,l⟩:=h.cu x hx (by omega) hst2;refine⟨y,(mu y).2 (.inr ⟨hy,fun e=>?_⟩),l⟩;have:=f.none y hy e;have:=l.2.1;omega
 ·rcases (mu x).1 hx with rfl|⟨hx,hne⟩;·exact⟨_,(mc _).2 (.inl rfl),hid,hlink.1.symm,hst⟩
  ·obtain⟨y,hy,g1,g2,g3⟩:=h.uc x hx hc0;refine⟨y,(mc y).2 (.inr ⟨hy,fun e=>?_⟩),g1,g2,g3⟩;have:y=w.cl k:=eY h.cn hy hm (e.trans hid.symm);rw[this] at g3;rcases g3 with g|g;·exact hs.1 g
   ·exact hs.2 g
 ·rw[Wc];exact kh w k ((w.cl k).to to fr) rfl i
 ·have:W.cl k=(w.cl k).to to fr:=by show W.p.cls.getD k .zero=_;rw[Wc,cx (by rw[List.length_set];exact hlt),List.getElem_set_self]
  rw[this];exact Nat.le_refl _
 ·have h1:=Wd.inU_setU v hjl (u.fw (w.cl k).ex id);have h2:W.inU=(v.setU j (u.fw (w.cl k).ex id)).inU:=by unfold Wd.inU;rw[Wu];rfl
  have h3:(u.fw (w.cl k).ex id).po.inn.dat.length=u.po.inn.dat.length:=by show(u.po.put _).p.inn.dat.length=_;rw[hpi.2.2.1]
  have h4:=f.inu;rw[hju] at h1;omega
 ·rw[Wc,List.length_set]
 ·have:W.cl k=(w.cl k).to to fr:=by show W.p.cls.getD k .zero=_;rw[Wc,cx (by rw[List.length_set];exact hlt),List.getElem_set_self]
  rw[this];unfold Cl.rank;split;·omega
  ·first|omega|(rw[if_pos hst];omega)|skip
   all_goals simp only[hst,if_true]
   all_goals omega
theorem Wd.B.forward {c:bk}{w:Wd}(h:w.J c 0)(hM:jK c){n:Nat}(b:w.B n)(hl:n+3≤10000000000){k:Nat}{id:Int}(hk:bM w.p.cls id=some k):(w.forward k (w.jF k) id).B (n+3):=by obtain⟨hlt,hid⟩:=aR hk;have hG:=h.s.cg _ (w.cl_mem hlt);cases ha:fZ (w.poolOf (w.cl k).ex.rc) with
 |none=>rw[xg w k id ha];unfold Wd.busy;have kp:=Wd.Kp.put w hk (bD 503 (w.cl k).ex.rq.m (w.cl k).ex.cl);exact Wd.B.up (n:=n+1) ((b.put h.s (by omega) _ _).over (by rw[kp.len];exact hlt)) (by omega) hl;|some q=>
 obtain⟨p,to,fr⟩:=q;obtain⟨u,f⟩:=HF h hM ha;have hjF:=Eb h hM k p to fr ha;obtain⟨j,hj,hjl,hju⟩:=f.at;rw[hj] at hjF;have hjj:j=w.jF k:=Option.some.inj hjF;rw[←hjj];rw[Fl w k id ha];have hpok:=(pg (h.s.poolOf (w.cl k).ex.rc) ha).1;have s1:=h.s.fw1 (by have:=h.len;omega) (w.cl k).ex.rc hpok to fr;have b1:=b.fw1 (by omega) (w.cl k).ex.rc p to fr;have v1:=(ym w (w.cl k).ex.rc p to fr).1;generalize w.fw1 (w.cl k).ex.rc p to fr=v at*;have vcl:v.cl k=w.cl k:=by unfold Wd.cl;rw[v1]
 have s2:(v.fw2 k to fr).S:=s1.setC k (c:=(v.cl k).to to fr) (by rw[vcl];exact hG.to to fr);have b2:(v.fw2 k to fr).B (n+1):=b1.setC (by rw[v1];exact hlt) (Int.le_refl _);have b3:=b2.fw3 s2 (by omega) (w.cl k).ex (j:=j) hjl id to;exact b3.fw4 (by omega) _ _
theorem Wd.J.setRo {c:bk}{w:Wd}{e:Int}(h:w.J c e){r:Ro}(hr:eo w.p.now w.p.cfg.plan.ws.length r):(w.setRo r).J c e:=h.same (h.s.setRo hr) rfl rfl rfl rfl rfl
theorem AX {w:Wd}(hs:w.S)(k:Nat):eo w.p.now w.p.cfg.plan.ws.length (w.aAns k).ro:=by
 rcases u2 (w.cl k).ex.rq.m (cz 63 (w.cl k).ex.rq.t).1 w.p.ro w.p.cfg.plan with h|⟨c,h⟩;·show eo _ _ (ik _ _ _ _).ro;rw[h];exact hs.ro
 ·show eo _ _ (ik _ _ _ _).ro;rw[h];exact nq hs.pl hs.now.1 hs.ro c
theorem Hn {w:Wd}{m:Int}(h0:0≤m)(h1:1≤w.p.cfg.plan.ws.length)(h:eo m w.p.cfg.plan.ws.length w.p.ro)(k:Nat):eo m w.p.cfg.plan.ws.length (w.aAns k).ro:=by
 rcases u2 (w.cl k).ex.rq.m (cz 63 (w.cl k).ex.rq.t).1 w.p.ro w.p.cfg.plan with g|⟨c,g⟩;·show eo _ _ (ik _ _ _ _).ro;rw[g];exact h
 ·show eo _ _ (ik _ _ _ _).ro;rw[g];exact nq h1 h0 h c
theorem Wd.Kp.say (w:Wd){id:Int}{k:Nat}(hk:bM w.p.cls id=some k)(b m:List UInt8)(cl:Bool):Wd.Kp w (w.say id b m cl) k:=by
 unfold Wd.say;have h:=Wd.Kp.put w hk b;split;·exact h
 ·exact h.trans (.put _ (by rw[h.ids,hk]) _)
theorem Wd.J.say {c:bk}{w:Wd}{e:Int}(h:w.J c e)(id:Int)(b m:List UInt8)(cl:Bool):(w.say id b m cl).J c e:=by
 unfold Wd.say;split;·exact h.put _ _
 ·exact(h.put _ _).put _ _
theorem Ie (w:Wd)(id:Int)(b m:List UInt8)(cl:Bool):(w.say id b m cl).p.ups=w.p.ups:=by
 unfold Wd.say;split;·exact jv _ _ _
 ·rw[jv,jv]
theorem Wd.J.answer {c:bk}{w:Wd}(h:w.J c 0){k:Nat}{id:Int}(hk:bM w.p.cls id=some k)(hs:(w.cl k).ex.st≠2∧(w.cl k).ex.st≠3)(a:FZ):(w.answer k id a).J c 0∧Wd.Kp w (w.answer k id a) k∧((w.answer k id a).cl k).rank≤1:=by
 obtain⟨hlt,hid⟩:=aR hk;have hid:(w.cl k).po.id=id:=hid;have hnu:=h.noup (w.cl_mem hlt) hs;rw[hid] at hnu;have kp:=Wd.Kp.say w hk (gB (fH a (w.cl k).ex.cl)) (w.cl k).ex.rq.m (w.cl k).ex.cl;have j1:=h.say id (gB (fH a (w.cl k).ex.cl)) (w.cl k).ex.rq.m (w.cl k).ex.cl;have u1:=Ie w id (gB (fH a (w.cl k).ex.cl)) (w.cl k).ex.rq.m (w.cl k).ex.cl;unfold Wd.answer;generalize w.say id (gB (fH a (w.cl k).ex.cl)) (w.cl k).ex.rq.m (w.cl k).ex.cl=v at*;have k1:bM v.p.cls id=some k:=by rw[kp.ids,hk]
 have hlv:=(aR k1).1;have hv:(v.cl k).po.id=id:=(aR k1).2;exact⟨j1.over hlv (by rw[hv,u1];exact hnu) (.inl rfl),kp.trans (.over v hlv),v.rank_over hlv⟩
theorem Wd.B.answer {w:Wd}{n:Nat}(hs:w.S)(b:w.B n)(hl:n+2≤10000000000){k:Nat}{id:Int}(hk:bM w.p.cls id=some k)(a:FZ):(w.answer k id a).B (n+2):=by have kp:=Wd.Kp.say w hk (gB (fH a (w.cl k).ex.cl)) (w.cl k).ex.rq.m (w.cl k).ex.cl;exact(b.say hs hl _ _ _ _).over (by rw[kp.len];exact(aR hk).1)
structure Wd.Po (c:bk)(w w':Wd)(k:Nat)(r:Nat):Prop where
 j:w'.J c 0
 kp:Wd.Kp w w' k
 rk:(w'.cl k).rank≤r
theorem Wd.J.dispatch {c:bk}{w:Wd}(h:w.J c 0)(hM:jK c){k:Nat}{id:Int}(hk:bM w.p.cls id=some k)(hs:(w.cl k).ex.st≠2∧(w.cl k).ex.st≠3)(hc:(w.cl k).po.closing=false):Wd.Po c w (w.dispatch k id) k 2:=by
 unfold Wd.dispatch;split;·obtain⟨h1,h2,h3⟩:=h.forward hM hk hs hc;exact⟨h1,h2,h3⟩
 ·split;·obtain⟨h1,h2,h3⟩:=(h.setRo (AX h.s k)).answer (k:=k) (id:=id) hk hs (w.aAns k);exact⟨h1,Wd.Kp.trans (w:=w) (v:=w.setRo (w.aAns k).ro) (Wd.Kp.same rfl rfl rfl ⟨rfl,fun _ h0 h1 h=>Hn h0 h1 h k⟩) h2,by omega⟩
  ·obtain⟨h1,h2,h3⟩:=h.answer hk hs (w.lAns k);exact⟨h1,h2,by omega⟩
theorem Wd.B.dispatch {c:bk}{w:Wd}(h:w.J c 0)(hM:jK c){n:Nat}(b:w.B n)(hl:n+3≤10000000000){k:Nat}{id:Int}(hk:bM w.p.cls id=some k):(w.dispatch k id).B (n+3):=by
 unfold Wd.dispatch;split;·exact Wd.B.forward h hM b hl hk
 ·split;·exact((b.setRo _).answer (h.s.setRo (AX h.s k)) (by omega) (k:=k) (id:=id) hk _).up (by omega) hl
  ·exact(b.answer h.s (by omega) hk _).up (by omega) hl
theorem Cl.K.take {c:bk}{x:Cl}(h:x.K c)(_h1:c.Ok){y:jQ}(hp:dx x.rd x.po.inn.dat y)(ht:BL c.maxHead c.maxBody y)(he:y.e=0):(x.take y).K c:=⟨h.id,h.cap,h.clo,h.st,h.size,ht.t he,by show y.r.rep=false;rw[hp.rep he];exact h.rep,h.hm,h.ht,h.hf⟩
theorem Wd.J.take {c:bk}{w:Wd}(h:w.J c 0){k:Nat}(hk:k<w.p.cls.length){y:jQ}(hp:dx (w.cl k).rd (w.cl k).po.inn.dat y)(ht:BL c.maxHead c.maxBody y)(he:y.e=0):(w.setC k ((w.cl k).take y)).J c 0:=by have hm:=w.cl_mem hk;have hK:=h.ck _ hm;exact h.setCx hk (x:=(w.cl k).take y) rfl ((h.s.cg _ hm).take hK.rt.ph hp he) (hK.take h.cok hp ht he) rfl rfl rfl
theorem Wd.J.rqH {c:bk}{w:Wd}(h:w.J c 0){k:Nat}(hk:k<w.p.cls.length)(hs:(w.cl k).ex.st≠2∧(w.cl k).ex.st≠3)(hc:(w.cl k).po.closing=false){r:dm}(hr:r.G)(hm:(r.rq.m.length:Int)≤c.maxHead∧(r.rq.t.length:Int)≤c.maxHead∧(br r.rq.fs:Int)≤c.maxHead):(w.rqH k r.rq).J c 0:=by
 have hmm:=w.cl_mem hk;have hK:=h.ck _ hmm;have hG:=h.s.cg _ hmm;have hn:0≤w.p.now∧w.p.now≤1000000000:=⟨h.s.now.1,by have:=h.s.now.2;omega⟩;have hS:=h.s.rqH hk hr;have key:∀e:dl,e.st=1→e.size=0→e.rq=r.rq→e.Gd→(w.setC k ((w.cl k).exch e)).J c 0:=by
  intro e e1 e2 e3 eg;refine h.setCz hk (x:=(w.cl k).exch e) rfl (hG.head eg (by rw[e3];exact hr.rqb)) ?_ ?_ (h.noup (x:=w.cl k) hmm hs) (.inl rfl);·exact⟨hK.id,hK.cap,(fun hcl=>by have hcl:(w.cl k).po.closing=true:=hcl;rw[hc] at hcl;cases hcl),(by show 0≤e.st∧e.st≤3;omega),fun _ _=>e2,hK.rt,hK.rep,by show(e.rq.m.length:Int)≤_;rw[e3];exact hm.1,by show(e.rq.t.length:Int)≤_;rw[e3];exact hm.2.1,by show(br e.rq.fs:Int)≤_;rw[e3];exact hm.2.2⟩
  ·show e.st≠2∧e.st≠3;omega
 have h1:=dl.head_gd hr hn;unfold Wd.rqH at*;split at hS;·rename_i h5;rw[if_pos h5];have h2:=key ((dl.head w.p.now r.rq).route w.p.cfg w.p.ro w.p.draw (NT w.p.ser)) rfl rfl rfl (h1.route _ _ _ (vK h.s.ser));exact h2.same hS rfl rfl rfl rfl rfl
 ·rename_i h5;rw[if_neg h5];exact key (dl.head w.p.now r.rq) rfl rfl rfl h1
theorem Wd.Kp.rqH (w:Wd){k:Nat}(hk:k<w.p.cls.length)(q:eL):Wd.Kp w (w.rqH k q) k:=by
 unfold Wd.rqH;split;·have h:=Wd.Kp.setC w hk ((w.cl k).exch ((dl.head w.p.now q).route w.p.cfg w.p.ro w.p.draw (NT w.p.ser))) rfl (Nat.le_refl _);exact⟨h.ids,h.inn,h.inu,rfl,h.len,.same rfl rfl⟩
 ·exact .setC w hk _ rfl (Nat.le_refl _)
theorem Wd.Kp.rqC (w:Wd){id:Int}{k:Nat}(hk:bM w.p.cls id=some k)(q:eL):Wd.Kp w (w.rqC id q) k:=by
 unfold Wd.rqC;split;·exact .put w hk _
 ·exact .refl _ _
theorem Wd.mu_lt {w v w':Wd}{k:Nat}(h:Wd.Kp v w' k)(hn:(v.cl k).po.inn.dat.length+v.inU+1≤(w.cl k).po.inn.dat.length+w.inU):w'.mu k<w.mu k:=by have h1:=h.inn;have h2:=h.inu;have h3:=(w'.cl k).rank_le;unfold Wd.mu;omega
theorem Wd.mu_rk {w w':Wd}{k:Nat}(h:Wd.Kp w w' k)(hr:(w'.cl k).rank<(w.cl k).rank):w'.mu k<w.mu k:=by have h1:=h.inn;have h2:=h.inu;unfold Wd.mu;omega
theorem Cl.rank_one {x:Cl}(hc:x.po.closing=false):1≤x.rank:=by
 unfold Cl.rank;rw[if_neg (by rw[hc];simp)];repeat' split
 all_goals omega
structure Wd.Rd (c:bk)(w:Wd)(r:Wd×Bool)(k:Nat):Prop where
 j:r.1.J c 0
 ids:∀i,bM r.1.p.cls i=bM w.p.cls i
 now:r.1.p.now=w.p.now
 len:r.1.p.cls.length=w.p.cls.length
 mu:r.2=true→r.1.mu k<w.mu k
 ro:Wd.Rk w r.1
theorem Wd.Rd.mk' {c:bk}{w w':Wd}{k:Nat}{b:Bool}(hj:w'.J c 0)(kp:Wd.Kp w w' k)(hm:b=true→w'.mu k<w.mu k):Wd.Rd c w (w',b) k:=⟨hj,kp.ids,kp.now,kp.len,hm,kp.ro⟩
theorem qM {c:bk}{w:Wd}(h:w.J c 0){k:Nat}(hk:k<w.p.cls.length):dx (w.cl k).rd (w.cl k).po.inn.dat (w.rqX k)∧BL c.maxHead c.maxBody (w.rqX k):=by have hm:=w.cl_mem hk;have hG:=h.s.cg _ hm;have hmb:=h.s.cfg.maxBody;refine⟨gM _ _ _ _ _ hG.rd hG.po.il (by omega),?_⟩;have:=Ft (w.cl k).rd (w.cl k).po.inn.dat w.p.cfg.maxHead w.p.cfg.maxBody (w.p.cfg.maxBody+1) (by rw[h.cfg];exact(h.ck _ hm).rt) hmb.1;rw[h.cfg] at this;unfold Wd.rqX;rw[h.cfg];exact this
theorem xi {x:jQ}(h:¬su x≠0):x.e=0∧¬(x.k=1∧56<x.r.rq.fs.length):=by
 have h:=Nq.1 h;unfold su at h;split at h;·cases h
 ·rename_i hn;exact⟨h,fun g=>hn ⟨h,g.1,g.2⟩⟩
theorem Wd.J.request {c:bk}{w:Wd}(h:w.J c 0)(hM:jK c){k:Nat}{id:Int}(hk:bM w.p.cls id=some k)(hs:(w.cl k).ex.st≠2∧(w.cl k).ex.st≠3)(hc:(w.cl k).po.closing=false):Wd.Rd c w (w.request k id) k:=by
 obtain⟨hlt,hid⟩:=aR hk;have hm:=w.cl_mem hlt;have hK:=h.ck _ hm;have hG:=h.s.cg _ hm;obtain⟨hp,ht⟩:=qM h hlt;have hr1:=Cl.rank_one hc;unfold Wd.request;generalize w.rqX k=x at*;split
 ·have kp1:=Wd.Kp.setC w hlt (w.cl k).shut rfl (Nat.le_refl _);have k1:bM (w.setC k (w.cl k).shut).p.cls id=some k:=by rw[kp1.ids,hk]
  have kp2:=Wd.Kp.put _ k1 (bD (jO (su x) (w.cl k).rd.ph) (w.cl k).ex.rq.m true);refine .mk' (h.refuse hlt hs id _) (kp1.trans kp2) fun _=>Wd.mu_rk (kp1.trans kp2) ?_;have q:=Wd.cl_put2 _ k1 (bD (jO (su x) (w.cl k).rd.ph) (w.cl k).ex.rq.m true);have:((w.refuse k id (su x)).cl k).po.closing=true:=by show(((w.setC k (w.cl k).shut).put id _).cl k).po.closing=true;rw[q.2.2.2.2.2.2,Wd.cl_setC _ hlt];rfl
  rw[Cl.rank_closing this];omega
 ·rename_i hE;obtain⟨he,h56⟩:=xi hE;have j1:=h.take hlt hp ht he;have hel:=pB hG.po x.n hp.n.1 hp.n.2;have kp1:=Wd.Kp.setC w hlt ((w.cl k).take x) rfl (by show((w.cl k).po.eat x.n).inn.dat.length≤_;have:=hp.n;omega);have g1:=w.cl_setC hlt ((w.cl k).take x);have in1:(((w.setC k ((w.cl k).take x)).cl k).po.inn.dat.length:Int)=((w.cl k).po.inn.dat.length:Int)-x.n:=by rw[g1];exact hel
  have iu1:(w.setC k ((w.cl k).take x)).inU=w.inU:=rfl;have k1:bM (w.setC k ((w.cl k).take x)).p.cls id=some k:=by rw[kp1.ids,hk]
  have hlt1:=(aR k1).1;split
  ·rename_i hk1;have hn:=(hp.head he hk1).2.2;have hm3:=ht.m he hk1 (by rw[hp.rep he];exact hK.rep);have j2:=j1.rqH hlt1 (by rw[g1];exact hs) (by rw[g1];exact hc) hp.g hm3;have kp2:=Wd.Kp.rqH (w.setC k ((w.cl k).take x)) hlt1 x.r.rq;have kp3:=Wd.Kp.rqC _ (k:=k) (id:=id) (by rw[kp2.ids,k1]) x.r.rq;have j3:(((w.setC k ((w.cl k).take x)).rqH k x.r.rq).rqC id x.r.rq).J c 0:=by
    unfold Wd.rqC;split;·exact j2.put _ _
    ·exact j2
   exact .mk' j3 ((kp1.trans kp2).trans kp3) fun _=>Wd.mu_lt (kp2.trans kp3) (by omega)
  ·rename_i hk1;split
   ·rename_i hk2;have hn:=(hp.data he hk2).2.2;have hsz:=hp.szd he hk1;have e1:w.setC k (((w.cl k).take x).exch ((w.cl k).ex.more x.dat))=(w.setC k ((w.cl k).take x)).setC k (((w.cl k).take x).exch ((w.cl k).ex.more x.dat)):=by simp only[Wd.setC,Ns]
    rw[e1];have hG1:=j1.s.cg _ (Wd.cl_mem hlt1);have hK1:=j1.ck _ (Wd.cl_mem hlt1);rw[g1] at hG1 hK1;have hbd:=hG.body;have j2:=j1.setCx hlt1 (x:=((w.cl k).take x).exch ((w.cl k).ex.more x.dat)) (by rw[g1];rfl)
     ⟨hG1.po,hG1.rd,⟨hG.ex.rq,hG.ex.rqn,hG.ex.rqm,hG.ex.rqt,hG.ex.an,hG.ex.ann,hG.ex.anr,hG.ex.size,hG.ex.store,hG.ex.dg,hG.ex.rid,hG.ex.ser,hG.ex.born⟩,by show(((w.cl k).ex.rq.body++x.dat).length:Int)≤x.r.sz;rw[Na];omega,hG.last⟩
     ⟨hK1.id,hK1.cap,hK1.clo,hK1.st,hK1.size,hK1.rt,hK1.rep,hK1.hm,hK1.ht,hK1.hf⟩ (by rw[g1];rfl) (by rw[g1];rfl) (by rw[g1];rfl);have kp2:=Wd.Kp.setC (w.setC k ((w.cl k).take x)) hlt1 (((w.cl k).take x).exch ((w.cl k).ex.more x.dat)) (by rw[g1];rfl) (by rw[g1];exact Nat.le_refl _);exact .mk' j2 (kp1.trans kp2) fun _=>Wd.mu_lt kp2 (by omega)
   ·rename_i hk2;split
    ·rename_i hk3;have d:=j1.dispatch hM k1 (by rw[g1];exact hs) (by rw[g1];exact hc);refine .mk' d.j (kp1.trans d.kp) fun _=>?_;have hph:=hp.done he hk3;have hr3:(w.cl k).rank=3:=by unfold Cl.rank;rw[if_neg (by rw[hc];simp),if_neg (fun g=>g.elim hs.1 hs.2),if_pos hph]
     exact Wd.mu_rk (kp1.trans d.kp) (by have:=d.rk;omega)
    ·split;·rename_i hn;exact .mk' j1 kp1 fun _=>Wd.mu_lt (.refl _ _) (by omega)
     ·split;·exact .mk' j1 kp1 fun h=>by cases h
      ·have j2:=j1.shut hlt1 (by rw[g1];exact hs);rw[g1] at j2;have e1:w.setC k ((w.cl k).take x).shut=(w.setC k ((w.cl k).take x)).setC k ((w.cl k).take x).shut:=by simp only[Wd.setC,Ns]
       rw[e1];have kp2:=Wd.Kp.setC (w.setC k ((w.cl k).take x)) hlt1 ((w.cl k).take x).shut (by rw[g1];rfl) (by rw[g1];exact Nat.le_refl _);refine .mk' j2 (kp1.trans kp2) fun _=>Wd.mu_rk (kp1.trans kp2) ?_;rw[Wd.cl_setC _ hlt1,Cl.rank_closing rfl];omega
theorem Wd.B.rqC {w:Wd}{n:Nat}(hs:w.S)(b:w.B n)(hl:n+1≤10000000000)(id:Int)(q:eL):(w.rqC id q).B (n+1):=by
 unfold Wd.rqC;split;·exact b.put hs (by omega) _ _
 ·exact b.up (by omega) hl
theorem Wd.B.request {c:bk}{w:Wd}(h:w.J c 0)(hM:jK c){n:Nat}(b:w.B n)(hl:n+4≤10000000000){k:Nat}{id:Int}(hk:bM w.p.cls id=some k):(w.request k id).1.B (n+4):=by
 obtain⟨hlt,hid⟩:=aR hk;have hm:=w.cl_mem hlt;have hG:=h.s.cg _ hm;obtain⟨hp,ht⟩:=qM h hlt;unfold Wd.request;generalize w.rqX k=x at*;split;·have b1:=b.setC hlt (c:=(w.cl k).shut) (Int.le_refl _);have s1:=h.s.setC k (hG.shut);exact(b1.put s1 (by omega) id _).up (by omega) hl
 ·rename_i hE;obtain⟨he,h56⟩:=xi hE;have j1:=h.take hlt hp ht he;have kp1:=Wd.Kp.setC w hlt ((w.cl k).take x) rfl (by show((w.cl k).po.eat x.n).inn.dat.length≤_;have:=hp.n;have:=pB hG.po x.n hp.n.1 hp.n.2;omega);have k1:bM (w.setC k ((w.cl k).take x)).p.cls id=some k:=by rw[kp1.ids,hk]
  have hlt1:=(aR k1).1;have b1:=b.setC hlt (c:=(w.cl k).take x) (Int.le_refl _);split;·exact((b1.rqH hlt1 _).rqC (j1.s.rqH hlt1 hp.g) (by omega) _ _).up (by omega) hl
  ·split;·exact(b.setC hlt (c:=((w.cl k).take x).exch ((w.cl k).ex.more x.dat)) (Int.le_refl _)).up (by omega) hl
   ·split;·exact(Wd.B.dispatch j1 hM b1 (by omega) k1).up (by omega) hl
    ·split;·exact b1.up (by omega) hl
     ·split;·exact b1.up (by omega) hl
      ·exact(b.setC hlt (c:=((w.cl k).take x).shut) (Int.le_refl _)).up (by omega) hl
end Go.Proofs.YtgfdbddglhblbaaGreat

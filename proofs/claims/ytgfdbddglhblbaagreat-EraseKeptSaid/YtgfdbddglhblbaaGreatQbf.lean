/- A part of the proof of what is stated of the erasing of a mirror. -/
import Derived.Test.YtgfdbddglhblbaaGreatQbe
set_option maxHeartbeats 64000000
namespace Go.Proofs.YtgfdbddglhblbaaGreat
open Go.Eng
attribute [local irreducible] aO
set_option maxRecDepth 100000
structure Ev where
 kind:Int
 conn:Int
 n:Int
 b:List UInt8
noncomputable def Wd.fuel (w:Wd)(id:Int):Nat:=match bM w.p.cls id with|some k=>w.mu k+1|none=>1
noncomputable def Wd.go (w:Wd)(id:Int):Wd:=jG (w.fuel id) w id
theorem KP {p:cH}(h:p.Q)(hc:p.inn.cap≤1000):p.inn.dat.length≤1000:=by have:=p.inn.ok_iff.1 h.inn;omega
theorem AZ {c:bk}{w:Wd}(h:w.J c 0)(id:Int):w.fuel id≤1700000:=by unfold Wd.fuel;cases hk:bM w.p.cls id with|none=>simp only;omega;|some k=>simp only;have hlt:=(aR hk).1;have h1:=KP (h.s.cg _ (w.cl_mem hlt)).po (h.ck _ (w.cl_mem hlt)).cap;have h2:=fP (f:=fun u:Up=>u.po.inn.dat.length) (l:=w.p.ups) 1000 (fun u hu=>KP (h.s.ug u hu).po (h.uk u hu).cap);have h3:=h.len;have h4:=(w.cl k).rank_le;unfold Wd.mu;have:w.inU≤w.p.ups.length*1000:=h2;omega
theorem IE {w:Wd}{id:Int}(k:Nat)(hk:bM w.p.cls id=some k):w.mu k<w.fuel id:=by unfold Wd.fuel;rw[hk];simp only;omega
theorem Wd.Go.up {c:bk}{w w':Wd}{m m':Nat}(g:Wd.Go c w w' m)(h:m≤m')(hl:m'≤10000000000):Wd.Go c w w' m':=⟨g.j,g.b.up h hl,g.now,g.len,g.ro⟩
theorem jd {c:bk}{w:Wd}(h:w.J c 0)(hM:jK c){n:Nat}(b:w.B n)(hl:n+7000000≤10000000000)(id:Int):Wd.Go c w (w.go id) (n+7000000):=by have hf:=AZ h id;exact(nY hM (w.fuel id) (id:=id) h b (by omega)).up (by omega) hl
theorem Wd.Go.trans {c:bk}{w v u:Wd}{m m':Nat}(a:Wd.Go c w v m)(b:Wd.Go c v u m'):Wd.Go c w u m':=⟨b.j,b.b,b.now.trans a.now,Nat.le_trans b.len a.len,a.ro.trans b.ro⟩
def Wd.lim (w:Wd):Prop:=w.phi+1000000≤60000000000
theorem jZ (p:cH)(b:List UInt8):(p.offer b).1.id=p.id∧(p.offer b).1.cls=p.cls∧(p.offer b).1.inn.cap=p.inn.cap∧(p.offer b).1.out=p.out∧(p.offer b).1.bud=p.bud∧(p.offer b).1.closing=p.closing:=by unfold cH.offer;split<;>exact⟨rfl,rfl,rfl,rfl,rfl,rfl⟩
theorem wD (p:cH)(n:Int):(p.grant n).id=p.id∧(p.grant n).cls=p.cls∧(p.grant n).inn=p.inn∧(p.grant n).out.cap=p.out.cap∧(p.grant n).closing=p.closing∧(p.out.dat=[]→(p.grant n).out.dat=[]):=by refine⟨rfl,rfl,rfl,rfl,rfl,fun h=>?_⟩;show p.out.dat.drop _=[];rw[h];simp
theorem kT (p:cH)(n:Int):(p.grant n).bud.toNat+(p.gsent n).length≤1000000:=by have h:=GI p n;unfold cH.grant cH.gsent cH.flush cH.fl;simp only[Nj];omega
def Wd.acData (w:Wd)(k:Nat)(id:Int)(b:List UInt8):Wd:=(w.setC k ⟨((w.cl k).po.offer b).1,(w.cl k).rd,if 0<((w.cl k).po.offer b).2 then w.p.now else(w.cl k).last,(w.cl k).ex⟩).act [⟨1,id,0,(((w.cl k).po.offer b).2:Int),[]⟩]
def Wd.acEnd (w:Wd)(k:Nat):Wd:=w.setC k ⟨{(w.cl k).po with ended:=true},(w.cl k).rd,(w.cl k).last,(w.cl k).ex⟩
def Wd.acBud (w:Wd)(k:Nat)(id n:Int):Wd:=(w.setC k ⟨(w.cl k).po.grant n,(w.cl k).rd,if(w.cl k).po.gsent n=[] then(w.cl k).last else w.p.now,(w.cl k).ex⟩).send id ((w.cl k).po.gsent n)
noncomputable def Wd.accepted (w:Wd)(e:Ev):Wd:=match bM w.p.cls e.conn with|none=>w|some k=>if e.kind=2 then(w.acData k e.conn e.b).go e.conn else if e.kind=3 then(w.acEnd k).go e.conn else if e.kind=6 then(w.acBud k e.conn e.n).go e.conn else if e.kind=7 then(w.abandon k).hang e.conn true else w
theorem Wd.J.setP {c:bk}{w:Wd}{e:Int}(h:w.J c e){k:Nat}(hk:k<w.p.cls.length){p:cH}{l:Int}(h1:p.id=(w.cl k).po.id)(h2:p.Q)(h3:p.inn.cap=(w.cl k).po.inn.cap)(h4:p.closing=(w.cl k).po.closing)(hl:0≤l∧l≤1000000000):(w.setC k ⟨p,(w.cl k).rd,l,(w.cl k).ex⟩).J c e:=by have hm:=w.cl_mem hk;have hK:=h.ck _ hm;have hG:=h.s.cg _ hm;exact h.setCx hk (x:=⟨p,(w.cl k).rd,l,(w.cl k).ex⟩) h1 ⟨h2,hG.rd,hG.ex,hG.body,hl⟩ ⟨by show 1≤p.id∧p.id≤300000;rw[h1];exact hK.id,by show p.inn.cap≤1000;rw[h3];exact hK.cap,fun hc=>hK.clo (by rw[←h4];exact hc),hK.st,hK.size,hK.rt,hK.rep,hK.hm,hK.ht,hK.hf⟩ rfl rfl rfl
theorem zW {w:Wd}(h:w.S):0≤w.p.now∧w.p.now≤1000000000:=⟨h.now.1,by have:=h.now.2;omega⟩
theorem Wd.J.acData {c:bk}{w:Wd}(h:w.J c 0){k:Nat}(hk:k<w.p.cls.length)(id:Int)(b:List UInt8):(w.acData k id b).J c 0:=by
 have hm:=w.cl_mem hk;have hG:=h.s.cg _ hm;have o:=jZ (w.cl k).po b;refine(h.setP hk o.1 (pn hG.po b) o.2.2.1 o.2.2.2.2.2 ?_).out _;split;·exact zW h.s
 ·exact hG.last
theorem Wd.J.acEnd {c:bk}{w:Wd}(h:w.J c 0){k:Nat}(hk:k<w.p.cls.length):(w.acEnd k).J c 0:=by have hm:=w.cl_mem hk;have hG:=h.s.cg _ hm;exact h.setP hk (p:={(w.cl k).po with ended:=true}) rfl ⟨hG.po.inn,hG.po.icap,hG.po.out,hG.po.bud⟩ rfl rfl hG.last
theorem Wd.J.acBud {c:bk}{w:Wd}(h:w.J c 0){k:Nat}(hk:k<w.p.cls.length)(id n:Int):(w.acBud k id n).J c 0:=by
 have hm:=w.cl_mem hk;have hG:=h.s.cg _ hm;have g:=wD (w.cl k).po n;refine(h.setP hk g.1 (u9 hG.po n) (by rw[g.2.2.1]) g.2.2.2.2.1 ?_).out _;split;·exact hG.last
 ·exact zW h.s
theorem Wd.B.act {w:Wd}{n:Nat}(b:w.B n)(hl:n+1≤10000000000)(a:bC)(ha:a.b=[]):(w.act [a]).B (n+1):=b.quiet (p:=w.p) hl rfl rfl (by simp) (fun x hx=>by rw[Nx.1 hx];exact ha)
theorem Wd.B.acData {w:Wd}{n:Nat}(b:w.B n)(hl:n+1≤10000000000){k:Nat}(hk:k<w.p.cls.length)(id:Int)(d:List UInt8):(w.acData k id d).B (n+1):=by have o:=jZ (w.cl k).po d;exact(b.setC hk (c:=⟨((w.cl k).po.offer d).1,(w.cl k).rd,if 0<((w.cl k).po.offer d).2 then w.p.now else(w.cl k).last,(w.cl k).ex⟩) (by show((w.cl k).po.offer d).1.bud≤_;rw[o.2.2.2.2.1];exact Int.le_refl _)).act hl _ rfl
theorem Wd.B.acEnd {w:Wd}{n:Nat}(b:w.B n){k:Nat}(hk:k<w.p.cls.length):(w.acEnd k).B n:=b.setC hk (Int.le_refl _)
theorem Wd.B.acBud {w:Wd}{m:Nat}(b:w.B m)(hl:m+1≤10000000000)(hp:w.lim){k:Nat}(hk:k<w.p.cls.length)(id n:Int):(w.acBud k id n).B (m+1):=by have h1:=w.bc_setC hk ⟨(w.cl k).po.grant n,(w.cl k).rd,if(w.cl k).po.gsent n=[] then(w.cl k).last else w.p.now,(w.cl k).ex⟩;have h2:=kT (w.cl k).po n;refine Wd.B.send (by omega) b.ol ?_;have e1:∀x:Cl,(w.setC k x).bo=w.bo:=fun _=>rfl;have e2:∀x:Cl,(w.setC k x).bu=w.bu:=fun _=>rfl;unfold Wd.lim at hp;unfold Wd.phi at*;rw[e1,e2];simp only at h1;omega
theorem AH (w:Wd)(k:Nat):Wd.Kp w (w.abandon k) k:=by
 unfold Wd.abandon;split;·exact(Wd.Kp.drop w k _ _).trans (.prim _ k _ _ _)
 ·exact .refl _ _
theorem Wd.J.abandon {c:bk}{w:Wd}(h:w.J c 0){k:Nat}{id:Int}(hk:bM w.p.cls id=some k):((w.abandon k).J c id)∧∀u,u∈(w.abandon k).p.ups→u.cli≠id:=by
 obtain⟨hlt,hid⟩:=aR hk;have hid:(w.cl k).po.id=id:=hid;have hm:=w.cl_mem hlt;have hK:=h.ck _ hm;unfold Wd.abandon;split
 ·rename_i hs;obtain⟨j,hj,hjl,l⟩:=h.link hm (by have:=hK.id;omega) hs;have h1:(w.drop (w.cl k).ex.up false).J c id:=h.drop false fun j' hj'=>by rw[hj] at hj';cases hj';rw[l.2.1,hid]
  have hg:=h.gone hm false;rw[hid] at hg;refine⟨h1.prim _ Sn.zero_gd _,?_⟩;rw[qX];exact hg
 ·rename_i hs;have:=h.noup hm (by omega);rw[hid] at this;exact⟨h.up id,this⟩
theorem Wd.B.abandon {w:Wd}{n:Nat}(b:w.B n)(hl:n+2≤10000000000)(k:Nat):(w.abandon k).B (n+2):=by
 unfold Wd.abandon;split;·exact(b.drop (by omega) _ _).prim (by omega) _ _ _
 ·exact b.up (by omega) hl
theorem Wd.Go.refl {c:bk}{w:Wd}{n:Nat}(h:w.J c 0)(b:w.B n):Wd.Go c w w n:=⟨h,b,rfl,Nat.le_refl _,.refl _⟩
theorem u7 {c:bk}{w:Wd}{n k:Nat}{x:Cl}{l:List bC}(h:Wd.J c ⟨(w.setC k x).p,l⟩ 0)(b:Wd.B ⟨(w.setC k x).p,l⟩ n):Wd.Go c w ⟨(w.setC k x).p,l⟩ n:=⟨h,b,rfl,by show(w.p.cls.set k x).length≤_;rw[List.length_set];exact Nat.le_refl _,.same rfl rfl⟩
theorem sC {c:bk}{w:Wd}(h:w.J c 0)(hM:jK c){n:Nat}(b:w.B n)(hl:n+8000000≤10000000000)(hp:w.lim)(e:Ev):Wd.Go c w (w.accepted e) (n+8000000):=by unfold Wd.accepted;cases hk:bM w.p.cls e.conn with|none=>exact(Wd.Go.refl h b).up (by omega) hl;|some k=>
 obtain⟨hlt,hid⟩:=aR hk;simp only;split;·have j1:=h.acData hlt e.conn e.b;have b1:=b.acData (by omega) hlt e.conn e.b;exact((u7 j1 b1).trans (jd j1 hM b1 (by omega) e.conn)).up (by omega) hl
 ·split;·have j1:=h.acEnd hlt;have b1:=b.acEnd hlt;exact((u7 j1 b1).trans (jd j1 hM b1 (by omega) e.conn)).up (by omega) hl
  ·split;·have j1:=h.acBud hlt e.conn e.n;have b1:=b.acBud (by omega) hp hlt e.conn e.n;exact((u7 j1 b1).trans (jd j1 hM b1 (by omega) e.conn)).up (by omega) hl
   ·split;·obtain⟨j1,n1⟩:=h.abandon hk;have b1:=b.abandon (by omega) k;have kp:=AH w k;have hr:=kz (w.abandon k) e.conn true;exact⟨j1.hang _ _ n1 (.inr rfl),(b1.hang (by omega) _ _).up (by omega) hl,hr.2.2.2.2.1.trans kp.now,by have:=kp.len;have:=hr.2.2.2.2.2;omega,kp.ro.trans (.same hr.2.2.2.1 (pI _ _ _))⟩
    ·exact(Wd.Go.refl h b).up (by omega) hl
def Wd.svData (w:Wd)(j:Nat)(id:Int)(b:List UInt8):Wd:=(w.setU j ⟨((w.up j).po.offer b).1,(w.up j).opn,(w.up j).cli,(w.up j).rd⟩).act [⟨1,id,0,(((w.up j).po.offer b).2:Int),[]⟩]
def Wd.svEnd (w:Wd)(j:Nat):Wd:=w.setU j ⟨{(w.up j).po with ended:=true},(w.up j).opn,(w.up j).cli,(w.up j).rd⟩
def Wd.svBud (w:Wd)(j:Nat)(id n:Int):Wd:=(w.setU j ⟨(w.up j).po.grant n,(w.up j).opn,(w.up j).cli,(w.up j).rd⟩).send id ((w.up j).po.gsent n)
def Wd.svCon (w:Wd)(j k:Nat):Wd:=(w.setU j ⟨(w.up j).po,true,(w.up j).cli,(w.up j).rd⟩).setC k ((w.cl k).exch {(w.cl k).ex with st:=3})
def Wd.kU (w:Wd)(j:Nat):Nat:=(bM w.p.cls (w.up j).cli).getD 0
noncomputable def Wd.svOn (w:Wd)(j:Nat)(id n:Int):Wd:=if(w.up j).cli≠0 then w.go (w.up j).cli else if 0<n then w.drop id false else w
noncomputable def Wd.svGone (w:Wd)(j:Nat)(id:Int):Wd:=if(w.up j).cli≠0 then((w.drop id true).fail (w.kU j) (w.up j).cli 502).go (w.up j).cli else w.drop id true
noncomputable def Wd.server (w:Wd)(e:Ev):Wd:=match im w.p.ups e.conn with|none=>w|some j=>if e.kind=4 then(if(w.up j).opn=true then w else w.svCon j (w.kU j))else if e.kind=5∨e.kind=7 then(if e.kind=5∧(w.up j).opn=true then w else w.svGone j e.conn)else if e.kind=2 then(if(w.up j).opn=true then(w.svData j e.conn e.b).svOn j e.conn (((w.up j).po.offer e.b).2:Int) else w)else if e.kind=3 then(if(w.up j).opn=true then(w.svEnd j).svOn j e.conn 1 else w)else if e.kind=6 then(if(w.up j).opn=true then w.svBud j e.conn e.n else w)else w
theorem Wd.J.setV {c:bk}{w:Wd}{e:Int}(h:w.J c e){j:Nat}(hj:j<w.p.ups.length){p:cH}(h1:p.id=(w.up j).po.id)(h0:p.cls=(w.up j).po.cls)(h2:p.Q)(h3:p.inn.cap=(w.up j).po.inn.cap)(h4:p.out.cap=(w.up j).po.out.cap)(h5:(w.up j).po.out.dat=[]→p.out.dat=[]):(w.setU j ⟨p,(w.up j).opn,(w.up j).cli,(w.up j).rd⟩).J c e:=by have hm:=w.up_mem hj;have hK:=h.uk _ hm;have hG:=h.s.ug _ hm;exact h.setU hj (u:=⟨p,(w.up j).opn,(w.up j).cli,(w.up j).rd⟩) h1 rfl (fun g=>g) ⟨h2,hG.rd⟩ ⟨by show p.cls=bG p.id;rw[h0,h1];exact hK.cls,by show p.inn.cap≤1000;rw[h3];exact hK.cap,by show p.out.cap=_;rw[h4];exact hK.ocap,fun g=>⟨(hK.idle g).1,h5 (hK.idle g).2⟩,hK.rt⟩ (.inl rfl)
theorem Wd.J.svData {c:bk}{w:Wd}(h:w.J c 0){j:Nat}(hj:j<w.p.ups.length)(id:Int)(b:List UInt8):(w.svData j id b).J c 0:=by have hG:=h.s.ug _ (w.up_mem hj);have o:=jZ (w.up j).po b;exact(h.setV hj o.1 o.2.1 (pn hG.po b) o.2.2.1 (by rw[o.2.2.2.1]) (fun g=>by rw[o.2.2.2.1];exact g)).out _
theorem Wd.J.svEnd {c:bk}{w:Wd}(h:w.J c 0){j:Nat}(hj:j<w.p.ups.length):(w.svEnd j).J c 0:=by have hG:=h.s.ug _ (w.up_mem hj);exact h.setV hj (p:={(w.up j).po with ended:=true}) rfl rfl ⟨hG.po.inn,hG.po.icap,hG.po.out,hG.po.bud⟩ rfl rfl (fun g=>g)
theorem Wd.J.svBud {c:bk}{w:Wd}(h:w.J c 0){j:Nat}(hj:j<w.p.ups.length)(id n:Int):(w.svBud j id n).J c 0:=by have hG:=h.s.ug _ (w.up_mem hj);have g:=wD (w.up j).po n;exact(h.setV hj g.1 g.2.1 (u9 hG.po n) (by rw[g.2.2.1]) g.2.2.2.1 g.2.2.2.2.2).out _
theorem Wd.B.svData {w:Wd}{n:Nat}(b:w.B n)(hl:n+1≤10000000000){j:Nat}(hj:j<w.p.ups.length)(id:Int)(d:List UInt8):(w.svData j id d).B (n+1):=by have o:=jZ (w.up j).po d;exact(b.setU hj (c:=⟨((w.up j).po.offer d).1,(w.up j).opn,(w.up j).cli,(w.up j).rd⟩) (by show((w.up j).po.offer d).1.bud≤_;rw[o.2.2.2.2.1];exact Int.le_refl _)).act hl _ rfl
theorem Wd.B.svEnd {w:Wd}{n:Nat}(b:w.B n){j:Nat}(hj:j<w.p.ups.length):(w.svEnd j).B n:=b.setU hj (Int.le_refl _)
theorem Wd.B.svBud {w:Wd}{m:Nat}(b:w.B m)(hl:m+1≤10000000000)(hp:w.lim){j:Nat}(hj:j<w.p.ups.length)(id n:Int):(w.svBud j id n).B (m+1):=by have h1:=w.bu_setU hj ⟨(w.up j).po.grant n,(w.up j).opn,(w.up j).cli,(w.up j).rd⟩;have h2:=kT (w.up j).po n;refine Wd.B.send (by omega) b.ol ?_;have e1:∀x:Up,(w.setU j x).bo=w.bo:=fun _=>rfl;have e2:∀x:Up,(w.setU j x).bc=w.bc:=fun _=>rfl;unfold Wd.lim at hp;unfold Wd.phi at*;rw[e1,e2];simp only at h1;omega
theorem Wd.J.atU {c:bk}{w:Wd}(h:w.J c 0){j:Nat}(hj:j<w.p.ups.length)(hc:(w.up j).cli≠0):bM w.p.cls (w.up j).cli=some (w.kU j)∧(w.cl (w.kU j)).ex.up=(w.up j).po.id∧((w.cl (w.kU j)).ex.st=2∨(w.cl (w.kU j)).ex.st=3):=by
 obtain⟨x,hx,g1,g2,g3⟩:=h.uc _ (w.up_mem hj) hc;obtain⟨k,hk⟩:=vG hx;rw[g1] at hk;have e:w.kU j=k:=by unfold Wd.kU;rw[hk];rfl
 obtain⟨hlt,hid⟩:=aR hk;have:w.cl k=x:=eY h.cn (w.cl_mem hlt) hx (by rw[g1];exact hid);rw[e,this];exact⟨hk,g2,g3⟩
theorem Wd.J.svCon {c:bk}{w:Wd}(h:w.J c 0){j:Nat}(hj:j<w.p.ups.length)(hc:(w.up j).cli≠0):(w.svCon j (w.kU j)).J c 0:=by
 obtain⟨hk,hup,hst⟩:=h.atU hj hc;generalize w.kU j=k at*;obtain⟨hlt,hid⟩:=aR hk;have hid:(w.cl k).po.id=(w.up j).cli:=hid;have hm:=w.cl_mem hlt;have hK:=h.ck _ hm;have hG:=h.s.cg _ hm;have hum:=w.up_mem hj;have hUK:=h.uk _ hum;have hUG:=h.s.ug _ hum;have j1:=h.setU hj (u:=⟨(w.up j).po,true,(w.up j).cli,(w.up j).rd⟩) rfl rfl (fun _=>rfl) ⟨hUG.po,hUG.rd⟩ ⟨hUK.cls,hUK.cap,hUK.ocap,fun g=>absurd g hc,hUK.rt⟩ (.inl rfl);have hcl:(w.cl k).po.closing≠true:=fun g=>by have:=hK.clo g;omega
 have hid0:(w.cl k).po.id≠0:=by rw[hid];exact hc
 obtain⟨j',hj',hjl',l⟩:=h.link hm hid0 hst;have ej:w.up j'=w.up j:=h.uniq (w.up_mem hjl') hum (by rw[l.2.1,hid]) (by rw[l.2.1];exact hid0);rw[ej] at l;refine j1.setC hlt (x:=(w.cl k).exch {(w.cl k).ex with st:=3}) rfl (hG.exch ⟨hG.ex.rq,hG.ex.rqn,hG.ex.rqm,hG.ex.rqt,hG.ex.an,hG.ex.ann,hG.ex.anr,hG.ex.size,hG.ex.store,hG.ex.dg,hG.ex.rid,hG.ex.ser,hG.ex.born⟩ rfl)
  ⟨hK.id,hK.cap,fun g=>absurd g hcl,by show(0:Int)≤3∧(3:Int)≤3;omega,fun _ g=>absurd rfl g,hK.rt,hK.rep,hK.hm,hK.ht,hK.hf⟩ (fun _ _=>?_) (fun u hu hcu=>?_);·exact⟨⟨(w.up j).po,true,(w.up j).cli,(w.up j).rd⟩,(by show _∈w.p.ups.set j _;exact List.mem_iff_getElem.2 ⟨j,by simpa using hj,by simp⟩),l.1,l.2.1,l.2.2.1,fun _=>rfl⟩
 ·have hcu:u.cli=(w.up j).cli:=hcu.trans hid;refine⟨?_,.inr rfl⟩;show(w.cl k).ex.up=u.po.id;rcases (eM (f:=fun x:Up=>x.po.id) h.un hj).1 hu with rfl|⟨hu,hne⟩;·exact hup
  ·have:=h.uniq hu hum hcu (by rw[hcu];exact hc);rw[this];exact hup
theorem Wd.B.svCon {w:Wd}{n:Nat}(b:w.B n){j k:Nat}(hj:j<w.p.ups.length)(hk:k<w.p.cls.length):(w.svCon j k).B n:=(b.setU hj (c:=⟨(w.up j).po,true,(w.up j).cli,(w.up j).rd⟩) (Int.le_refl _)).setC (c:=(w.cl k).exch {(w.cl k).ex with st:=3}) hk (Int.le_refl _)
theorem vt {c:bk}{w:Wd}{n j:Nat}{x:Up}{l:List bC}(h:Wd.J c ⟨(w.setU j x).p,l⟩ 0)(b:Wd.B ⟨(w.setU j x).p,l⟩ n):Wd.Go c w ⟨(w.setU j x).p,l⟩ n:=⟨h,b,rfl,Nat.le_refl _,.same rfl rfl⟩
theorem t8 {c:bk}{w:Wd}(h:w.J c 0)(hM:jK c){n:Nat}(b:w.B n)(hl:n+7000000≤10000000000){j:Nat}{id:Int}(hj:im w.p.ups id=some j)(m:Int):Wd.Go c w (w.svOn j id m) (n+7000000):=by
 unfold Wd.svOn;split;·exact jd h hM b hl _
 ·rename_i hc;split;·exact⟨h.drop false fun j' hj'=>by rw[hj] at hj';cases hj';exact Nq.1 hc,(b.drop (by omega) _ _).up (by omega) hl,qE _ _ _,by rw[mT];exact Nat.le_refl _,.same (kW _ _ _).2 (kW _ _ _).1⟩
  ·exact(Wd.Go.refl h b).up (by omega) hl
theorem Wd.J.svGone {c:bk}{w:Wd}(h:w.J c 0){j:Nat}{id:Int}(hj:im w.p.ups id=some j):((w.drop id true).J c (w.up j).cli)∧((w.up j).cli≠0→∀u,u∈(w.drop id true).p.ups→u.cli≠(w.up j).cli):=by obtain⟨hjl,hjd⟩:=fE hj;refine⟨h.drop true fun j' hj'=>by rw[hj] at hj';cases hj';rfl,fun hc u hu e=>?_⟩;obtain⟨hu,hne⟩:=(re h _ _ u).1 hu;have:=h.uniq hu (w.up_mem hjl) e (by rw[e];exact hc);rw[this] at hne;exact hne hjd
theorem wO {c:bk}{w:Wd}(h:w.J c 0)(hM:jK c){n:Nat}(b:w.B n)(hl:n+7100000≤10000000000){j:Nat}{id:Int}(hj:im w.p.ups id=some j):Wd.Go c w (w.svGone j id) (n+7100000):=by
 obtain⟨hjl,hjd⟩:=fE hj;obtain⟨j1,n1⟩:=h.svGone hj;have b1:=b.drop (by omega) id true;unfold Wd.svGone;split
 ·rename_i hc;obtain⟨hk,_⟩:=h.atU hjl hc;have hk1:bM (w.drop id true).p.cls (w.up j).cli=some (w.kU j):=by rw[eh,hk]
  have j2:=j1.fail hk1 502 (n1 hc) (.inr rfl);have b2:=b1.fail (h.s.drop _ _) (by omega) hk1 502;have kp:=(Wd.Kp.drop w (w.kU j) id true).trans (.fail _ hk1 502);have g:Wd.Go c w ((w.drop id true).fail (w.kU j) (w.up j).cli 502) (n+1+2):=⟨j2,b2,kp.now,Nat.le_of_eq kp.len,kp.ro⟩;exact(g.trans (jd j2 hM b2 (by omega) _)).up (by omega) hl
 ·rename_i hc;have hc:(w.up j).cli=0:=Nq.1 hc;rw[hc] at j1;exact⟨j1,b1.up (by omega) hl,qE _ _ _,by rw[mT];exact Nat.le_refl _,.same (kW _ _ _).2 (kW _ _ _).1⟩
theorem Ae (w:Wd)(j:Nat)(id i:Int)(b:List UInt8):im (w.svData j id b).p.ups i=im w.p.ups i:=nn w j ⟨((w.up j).po.offer b).1,(w.up j).opn,(w.up j).cli,(w.up j).rd⟩ (jZ _ _).1 i
theorem D1 (w:Wd)(j:Nat)(i:Int):im (w.svEnd j).p.ups i=im w.p.ups i:=nn w j ⟨{(w.up j).po with ended:=true},(w.up j).opn,(w.up j).cli,(w.up j).rd⟩ rfl i
theorem yo {c:bk}{w:Wd}(h:w.J c 0)(hM:jK c){n:Nat}(b:w.B n)(hl:n+8000000≤10000000000)(hp:w.lim)(e:Ev):Wd.Go c w (w.server e) (n+8000000):=by unfold Wd.server;have stay:Wd.Go c w w (n+8000000):=(Wd.Go.refl h b).up (by omega) hl;cases hj:im w.p.ups e.conn with|none=>exact stay;|some j=>
 obtain⟨hjl,hjd⟩:=fE hj;have hUK:=h.uk _ (w.up_mem hjl);simp only;split
 ·split;·exact stay
  ·rename_i ho;have hc:(w.up j).cli≠0:=fun g=>ho (hUK.idle g).1;obtain⟨hk,_⟩:=h.atU hjl hc;have j1:=h.svCon hjl hc;have b1:=b.svCon hjl (aR hk).1;exact⟨j1,b1.up (by omega) hl,rfl,by show(w.p.cls.set _ _).length≤_;rw[List.length_set];exact Nat.le_refl _,.same rfl rfl⟩
 ·split
  ·split;·exact stay
   ·exact(wO h hM b (by omega) hj).up (by omega) hl
  ·split
   ·split;·have j1:=h.svData hjl e.conn e.b;have b1:=b.svData (by omega) hjl e.conn e.b;exact((vt j1 b1).trans (t8 j1 hM b1 (by omega) (by rw[Ae];exact hj) _)).up (by omega) hl
    ·exact stay
   ·split
    ·split;·have j1:=h.svEnd hjl;have b1:=b.svEnd hjl;exact((vt j1 b1).trans (t8 j1 hM b1 (by omega) (by rw[D1];exact hj) _)).up (by omega) hl
     ·exact stay
    ·split
     ·split;·have j1:=h.svBud hjl e.conn e.n;have b1:=b.svBud (by omega) hp hjl e.conn e.n;exact(vt j1 b1).up (by omega) hl
      ·exact stay
     ·exact stay
def bH (e:Ev):D:=.agg [.i .i64 e.kind,.i .i64 e.conn,.i .i64 e.n,.sl 1 (aD e.b)]
theorem MZ (w:Wd)(id:Int){c:bk}(hM:jK c){n:Nat}(h:w.J c 0)(hw:w.B n)(hn:n+7000000≤10000000000):aH (CG G) 82 [.op 0 0 0,dI id] (lP w) [] (jr (w.go id)):=goOnR w id hM h hw (by have:=AZ h id;omega) fun k hk=>IE k hk
theorem Dp (w:Wd)(e:Ev){c:bk}(hM:jK c){n:Nat}(h:w.J c 0)(hw:w.B n)(hn:n+8000000≤10000000000)(hp:w.lim)(hb:e.b.length≤1000000):aH (CG G) 57 [.op 0 0 0,.d (bH e)] (lP w) [] (jr (w.accepted e)):=by have c1:=dt w.p e.conn h.s.cl;generalize hR:w.accepted e=R;unfold Wd.accepted at hR;unfold dw bf at c1;unfold bH;cases hk:bM w.p.cls e.conn with
 |none=>
 rw[hk] at hR;rw[hk,da] at c1;have hR:w=R:=hR;subst hR;refine mH 115 Tryz.func57 ?_;repeat'(first|refine ad ?_|refine dk ?_|refine ah (c1) ?_|refine aj (by decide) ?_|refine ae (fun _=>?_) (fun _=>?_)|refine aq ?_)
 apply aw [(16,_),(17,_),(18,_)];exact be;|some k=>
 rw[hk] at hR;rw[hk,bj] at c1;simp only at hR;obtain⟨hlt,hid⟩:=aR hk;have hg:=w.get_cl hlt;have hG:=h.s.cg _ (w.cl_mem hlt);have hol:=hw.ol;have hmo:(w.out.map bn).length=w.out.length:=by simp
 have hnk:¬((k:Int)<0):=by omega
 unfold dU dD at hg;by_cases h2:e.kind=2
 ·rw[if_pos h2] at hR;have j1:=h.acData hlt e.conn e.b;have b1:=hw.acData (by omega) hlt e.conn e.b;have c2:=MZ (w.acData k e.conn e.b) e.conn hM j1 b1 (by omega);have c3:=Av (w.cl k).po e.b (by omega);rw[hR] at c2;unfold Wd.acData at c2;generalize (w.cl k).po.offer e.b=of at*;obtain⟨op,on⟩:=of;simp only at c2 c3;unfold ee bN at c3;by_cases hn0:0<on
  ·rw[if_pos hn0] at c2;refine mH 115 Tryz.func57 ?_;repeat'(first|refine ad ?_|refine dk ?_|refine ah (c1) ?_|refine ah (c3) ?_|refine ai hnk ?_|refine aj h2 ?_|refine aj (by omega) ?_|refine aB (by simp;omega) ?_|refine bh k rfl (by simpa using hlt) ?_|refine ax (au (by simpa using hlt)) ?_|refine ax hg ?_|refine az (au (by simpa using hlt)) ?_|refine az hg ?_|refine ae (fun _=>?_) (fun _=>?_)|refine aq ?_)
   apply ak [(0,_),(1,_),(2,_),(3,_)] c2;·exact be
   ·repeat'(first|refine ad ?_|refine dk ?_|refine ae (fun _=>?_) (fun _=>?_)|refine aq ?_)
    apply aw [(16,_),(17,_),(18,_)];exact be
  ·rw[if_neg hn0] at c2;refine mH 115 Tryz.func57 ?_;repeat'(first|refine ad ?_|refine dk ?_|refine ah (c1) ?_|refine ah (c3) ?_|refine ai hnk ?_|refine aj h2 ?_|refine ai (by omega) ?_|refine aB (by simp;omega) ?_|refine bh k rfl (by simpa using hlt) ?_|refine ax (au (by simpa using hlt)) ?_|refine ax hg ?_|refine az (au (by simpa using hlt)) ?_|refine az hg ?_|refine ae (fun _=>?_) (fun _=>?_)|refine aq ?_)
   apply ak [(0,_),(1,_),(2,_),(3,_)] c2;·exact be
   ·repeat'(first|refine ad ?_|refine dk ?_|refine ae (fun _=>?_) (fun _=>?_)|refine aq ?_)
    apply aw [(16,_),(17,_),(18,_)];exact be
 ·rw[if_neg h2] at hR;by_cases h3:e.kind=3
  ·rw[if_pos h3] at hR;have c2:=MZ (w.acEnd k) e.conn hM (h.acEnd hlt) (hw.acEnd hlt) (by omega);rw[hR] at c2;unfold Wd.acEnd at c2;refine mH 115 Tryz.func57 ?_;repeat'(first|refine ad ?_|refine dk ?_|refine ah (c1) ?_|refine ai hnk ?_|refine ai h2 ?_|refine aj h3 ?_|refine bh k rfl (by simpa using hlt) ?_|refine ax (au (by simpa using hlt)) ?_|refine ax hg ?_|refine az (au (by simpa using hlt)) ?_|refine az hg ?_|refine ae (fun _=>?_) (fun _=>?_)|refine aq ?_)
   apply ak [(0,_),(1,_),(2,_),(3,_)] c2;·exact be
   ·repeat'(first|refine ad ?_|refine dk ?_|refine ae (fun _=>?_) (fun _=>?_)|refine aq ?_)
    apply aw [(16,_),(17,_),(18,_)];exact be
  ·rw[if_neg h3] at hR;by_cases h6:e.kind=6
   ·rw[if_pos h6] at hR;have j1:=h.acBud hlt e.conn e.n;have b1:=hw.acBud (by omega) hp hlt e.conn e.n;have c2:=MZ (w.acBud k e.conn e.n) e.conn hM j1 b1 (by omega);have c3:=zC (w.cl k).po e.n hG.po.ol;have hgb:=kT (w.cl k).po e.n;have hw1:(w.setC k ⟨(w.cl k).po.grant e.n,(w.cl k).rd,(w.cl k).last,(w.cl k).ex⟩).B n:=by have h1:=w.bc_setC hlt ⟨(w.cl k).po.grant e.n,(w.cl k).rd,(w.cl k).last,(w.cl k).ex⟩;refine⟨hw.lim,hw.ol,?_⟩;have e1:∀x:Cl,(w.setC k x).bo=w.bo:=fun _=>rfl;have e2:∀x:Cl,(w.setC k x).bu=w.bu:=fun _=>rfl;unfold Wd.lim at hp;unfold Wd.phi at*;rw[e1,e2];simp only at h1;omega
    have c4:=B0 (w.setC k ⟨(w.cl k).po.grant e.n,(w.cl k).rd,(w.cl k).last,(w.cl k).ex⟩) e.conn ((w.cl k).po.gsent e.n) (by omega) hw1;have hg2:(((w.setC k ⟨(w.cl k).po.grant e.n,(w.cl k).rd,(w.cl k).last,(w.cl k).ex⟩).send e.conn ((w.cl k).po.gsent e.n)).p.cls.map dU)[k]?=some (dU ⟨(w.cl k).po.grant e.n,(w.cl k).rd,(w.cl k).last,(w.cl k).ex⟩):=by show((w.p.cls.set k _).map dU)[k]?=_;simp[hlt]
    have hsl:=aK ((w.cl k).po.gsent e.n);rw[hR] at c2;unfold Wd.acBud at c2;generalize hgp:(w.cl k).po.grant e.n=gp at*;generalize hgs:(w.cl k).po.gsent e.n=gs at*;unfold ee bN at c3;unfold dU dD at hg2;by_cases hs0:gs=[]
    ·rw[if_pos hs0] at c2;have hs1:gs.length=0:=by rw[hs0];rfl
     refine mH 115 Tryz.func57 ?_;repeat'(first|refine ad ?_|refine dk ?_|refine ah (c1) ?_|refine ah (c3) ?_|refine ai hnk ?_|refine ai h2 ?_|refine ai h3 ?_|refine aj h6 ?_|refine bh k rfl (by simpa using hlt) ?_|refine ax (au (by simpa using hlt)) ?_|refine ax hg ?_|refine az (au (by simpa using hlt)) ?_|refine az hg ?_|refine ae (fun _=>?_) (fun _=>?_)|refine aq ?_)
     apply ak [(0,_),(1,_),(2,_),(3,_)] c4;·exact be
     ·repeat'(first|refine ad ?_|refine dk ?_|refine ai (by omega) ?_|refine ae (fun _=>?_) (fun _=>?_)|refine aq ?_)
      apply ak [(0,_),(1,_),(2,_),(3,_)] c2;·exact be
      ·repeat'(first|refine ad ?_|refine dk ?_|refine ae (fun _=>?_) (fun _=>?_)|refine aq ?_)
       apply aw [(16,_),(17,_),(18,_)];exact be
    ·rw[if_neg hs0] at c2;have hs1:gs.length≠0:=fun g=>hs0 (List.eq_nil_of_length_eq_zero g);refine mH 115 Tryz.func57 ?_;repeat'(first|refine ad ?_|refine dk ?_|refine ah (c1) ?_|refine ah (c3) ?_|refine ai hnk ?_|refine ai h2 ?_|refine ai h3 ?_|refine aj h6 ?_|refine bh k rfl (by simpa using hlt) ?_|refine ax (au (by simpa using hlt)) ?_|refine ax hg ?_|refine az (au (by simpa using hlt)) ?_|refine az hg ?_|refine ae (fun _=>?_) (fun _=>?_)|refine aq ?_)
     apply ak [(0,_),(1,_),(2,_),(3,_)] c4;·exact be
     ·repeat'(first|refine ad ?_|refine dk ?_|refine aj (by omega) ?_|refine ax hg2 ?_|refine ae (fun _=>?_) (fun _=>?_)|refine aq ?_)
      apply ak [(0,_),(1,_),(2,_),(3,_)] c2;·((repeat' constructor)<;>(first|refine aI ?_|rfl)<;>first|with_reducible rfl|(simp only[Wd.setC,aQ,Ns,Wd.send];rfl)|(congr 1<;>omega)|(congr 1<;>simp;done)|(simp;done)|rfl|skip)
      ·repeat'(first|refine ad ?_|refine dk ?_|refine ae (fun _=>?_) (fun _=>?_)|refine aq ?_)
       apply aw [(16,_),(17,_),(18,_)];exact be
   ·rw[if_neg h6] at hR;by_cases h7:e.kind=7
    ·rw[if_pos h7] at hR;have c2:=F5 w k e.conn h.s hw (by omega) hk;have ja:=h.abandon hk;have c3:=ve (w.abandon k) e.conn true ja.1.s (hw.abandon (by omega) k);rw[hR] at c3;refine mH 115 Tryz.func57 ?_;repeat'(first|refine ad ?_|refine dk ?_|refine ah (c1) ?_|refine ai hnk ?_|refine ai h2 ?_|refine ai h3 ?_|refine ai h6 ?_|refine aj h7 ?_|refine bh k rfl (by simpa using hlt) ?_|refine ax (au (by simpa using hlt)) ?_|refine ax hg ?_|refine az (au (by simpa using hlt)) ?_|refine az hg ?_|refine ae (fun _=>?_) (fun _=>?_)|refine aq ?_)
     apply ak [(0,_),(1,_),(2,_),(3,_)] c2;·exact be
     ·repeat'(first|refine ad ?_|refine dk ?_|refine ae (fun _=>?_) (fun _=>?_)|refine aq ?_)
      apply ak [(0,_),(1,_),(2,_),(3,_)] c3;·exact be
      ·repeat'(first|refine ad ?_|refine dk ?_|refine ae (fun _=>?_) (fun _=>?_)|refine aq ?_)
       apply aw [(16,_),(17,_),(18,_)];exact be
    ·rw[if_neg h7] at hR;subst hR;refine mH 115 Tryz.func57 ?_;repeat'(first|refine ad ?_|refine dk ?_|refine ah (c1) ?_|refine ai hnk ?_|refine ai h2 ?_|refine ai h3 ?_|refine ai h6 ?_|refine ai h7 ?_|refine bh k rfl (by simpa using hlt) ?_|refine ax (au (by simpa using hlt)) ?_|refine ax hg ?_|refine az (au (by simpa using hlt)) ?_|refine az hg ?_|refine ae (fun _=>?_) (fun _=>?_)|refine aq ?_)
     apply aw [(16,_),(17,_),(18,_)];exact be
theorem KW (w:Wd)(j:Nat)(id m:Int){c:bk}(hM:jK c){n:Nat}(h:w.J c 0)(hw:w.B n)(hn:n+7000000≤10000000000):((w.up j).cli≠0→aH (CG G) 82 [.op 0 0 0,dI ((w.up j).cli)] (lP w) [] (jr (w.svOn j id m)))∧((w.up j).cli=0→0<m→aH (CG G) 84 [.op 0 0 0,dI id,.d (.b false)] (lP w) [] (jr (w.svOn j id m)))∧((w.up j).cli=0→¬0<m→w.svOn j id m=w):=by
 refine⟨fun hc=>?_,fun hc hm=>?_,fun hc hm=>?_⟩;·unfold Wd.svOn;rw[if_pos hc];exact MZ w _ hM h hw hn
 ·unfold Wd.svOn;rw[if_neg (fun g=>g hc),if_pos hm];exact qm w id false h.s hw
 ·unfold Wd.svOn;rw[if_neg (fun g=>g hc),if_neg hm]
theorem H6 (w:Wd)(e:Ev){c:bk}(hM:jK c){n:Nat}(h:w.J c 0)(hw:w.B n)(hn:n+8000000≤10000000000)(hp:w.lim)(hb:e.b.length≤1000000):aH (CG G) 58 [.op 0 0 0,.d (bH e)] (lP w) [] (jr (w.server e)):=by have c1:=iS w.p e.conn h.s.ul;generalize hR:w.server e=R;unfold Wd.server at hR;unfold dw bf at c1;unfold bH;cases hj:im w.p.ups e.conn with
 |none=>
 rw[hj] at hR;rw[hj,da] at c1;have hR:w=R:=hR;subst hR;refine mH 155 Tryz.func58 ?_;repeat'(first|refine ad ?_|refine dk ?_|refine ah (c1) ?_|refine aj (by decide) ?_|refine ae (fun _=>?_) (fun _=>?_)|refine aq ?_)
 apply aw [(16,_),(17,_),(18,_)];exact be;|some j=>
 rw[hj] at hR;rw[hj,bj] at c1;simp only at hR;obtain⟨hjl,hjd⟩:=fE hj;have hgu:=w.get_up hjl;have hum:=w.up_mem hjl;have hG:=h.s.ug _ hum;have hUK:=h.uk _ hum;have hol:=hw.ol;have hmo:(w.out.map bn).length=w.out.length:=by simp
 have hnk:¬((j:Int)<0):=by omega
 unfold fo jx at hgu;by_cases h4:e.kind=4
 ·rw[if_pos h4] at hR;generalize hopn:(w.up j).opn=op at*;cases op
  ·rw[if_neg (by simp)] at hR;subst hR;have hc:(w.up j).cli≠0:=fun g=>by have:=(hUK.idle g).1;rw[hopn] at this;cases this
   obtain⟨hk,_⟩:=h.atU hjl hc;have c2:=dt (w.setU j ⟨(w.up j).po,true,(w.up j).cli,(w.up j).rd⟩).p (w.up j).cli h.s.cl;have hk2:bM (w.setU j ⟨(w.up j).po,true,(w.up j).cli,(w.up j).rd⟩).p.cls (w.up j).cli=some (w.kU j):=hk;rw[hk2,bj] at c2;obtain⟨hlt,hid⟩:=aR hk;have hg:=w.get_cl hlt;unfold Wd.svCon;generalize w.kU j=k at*;unfold dU dD at hg;unfold dw bf at c2;simp only[Wd.setU,aP] at c2;refine mH 155 Tryz.func58 ?_;repeat'(first|refine ad ?_|refine dk ?_|refine ah (c1) ?_|refine ah (c2) ?_|refine ai hnk ?_|refine aj h4 ?_|refine bh j rfl (by simpa using hjl) ?_|refine ax (au (by simpa using hjl)) ?_|refine ax hgu ?_|refine az (au (by simpa using hjl)) ?_|refine az hgu ?_|refine bh k rfl (by simpa using hlt) ?_|refine ax (au (by simpa using hlt)) ?_|refine ax hg ?_|refine az (au (by simpa using hlt)) ?_|refine az hg ?_|refine ae (fun _=>?_) (fun _=>?_)|refine aq ?_)
   apply aw [(16,_),(17,_),(18,_)];((repeat' constructor)<;>(first|refine aI ?_|rfl)<;>first|with_reducible rfl|(simp only[Wd.setC,Wd.setU,aQ,aP,Cl.exch];rfl)|(congr 1<;>omega)|(congr 1<;>simp;done)|(simp;done)|rfl|skip)
  ·rw[if_pos rfl] at hR;subst hR;refine mH 155 Tryz.func58 ?_;repeat'(first|refine ad ?_|refine dk ?_|refine ah (c1) ?_|refine ai hnk ?_|refine aj h4 ?_|refine bh j rfl (by simpa using hjl) ?_|refine ax (au (by simpa using hjl)) ?_|refine ax hgu ?_|refine az (au (by simpa using hjl)) ?_|refine az hgu ?_|refine ae (fun _=>?_) (fun _=>?_)|refine aq ?_)
   apply aw [(16,_),(17,_),(18,_)];exact be
 ·rw[if_neg h4] at hR;by_cases h57:e.kind=5∨e.kind=7
  ·rw[if_pos h57] at hR;by_cases ho:e.kind=5∧(w.up j).opn=true
   ·rw[if_pos ho] at hR;subst hR;have ho1:=ho.1;rw[ho.2] at hgu;refine mH 155 Tryz.func58 ?_;repeat'(first|refine ad ?_|refine dk ?_|refine ah (c1) ?_|refine ai hnk ?_|refine ai h4 ?_|refine aj ho1 ?_|refine bh j rfl (by simpa using hjl) ?_|refine ax (au (by simpa using hjl)) ?_|refine ax hgu ?_|refine az (au (by simpa using hjl)) ?_|refine az hgu ?_|refine ae (fun _=>?_) (fun _=>?_)|refine aq ?_)
    apply aw [(16,_),(17,_),(18,_)];exact be
   ·rw[if_neg ho] at hR;obtain⟨j1,n1⟩:=h.svGone hj;have b1:=hw.drop (by omega) e.conn true;have c2:=qm w e.conn true h.s hw;unfold Wd.svGone at hR;by_cases hc:(w.up j).cli≠0
    ·rw[if_pos hc] at hR;obtain⟨hk,_⟩:=h.atU hjl hc;have hk1:bM (w.drop e.conn true).p.cls (w.up j).cli=some (w.kU j):=by rw[eh,hk]
     have j2:=j1.fail hk1 502 (n1 hc) (.inr rfl);have b2:=b1.fail (h.s.drop _ _) (by omega) hk1 502;have c3:=Bb (w.drop e.conn true) (w.kU j) (w.up j).cli 502 (h.s.drop _ _) b1 (by omega) hk1;have c4:=MZ ((w.drop e.conn true).fail (w.kU j) (w.up j).cli 502) (w.up j).cli hM j2 b2 (by omega);rw[hR] at c4;by_cases h5:e.kind=5
     ·have ho2:(w.up j).opn=false:=by cases hh:(w.up j).opn with|false=>rfl;|true=>exact absurd ⟨h5,hh⟩ ho
      rw[ho2] at hgu;refine mH 155 Tryz.func58 ?_;repeat'(first|refine ad ?_|refine dk ?_|refine ah (c1) ?_|refine ai hnk ?_|refine ai h4 ?_|refine aj h5 ?_|refine bh j rfl (by simpa using hjl) ?_|refine ax (au (by simpa using hjl)) ?_|refine ax hgu ?_|refine az (au (by simpa using hjl)) ?_|refine az hgu ?_|refine ae (fun _=>?_) (fun _=>?_)|refine aq ?_)
      apply ak [(0,_),(1,_),(2,_),(3,_)] c2;·exact be
      ·repeat'(first|refine ad ?_|refine dk ?_|refine aj hc ?_|refine ae (fun _=>?_) (fun _=>?_)|refine aq ?_)
       apply ak [(0,_),(1,_),(2,_),(3,_)] c3;·exact be
       ·repeat'(first|refine ad ?_|refine dk ?_|refine ae (fun _=>?_) (fun _=>?_)|refine aq ?_)
        apply ak [(0,_),(1,_),(2,_),(3,_)] c4;·exact be
        ·repeat'(first|refine ad ?_|refine dk ?_|refine ae (fun _=>?_) (fun _=>?_)|refine aq ?_)
         apply aw [(16,_),(17,_),(18,_)];exact be
     ·have h7:=h57.resolve_left h5;refine mH 155 Tryz.func58 ?_;repeat'(first|refine ad ?_|refine dk ?_|refine ah (c1) ?_|refine ai hnk ?_|refine ai h4 ?_|refine ai h5 ?_|refine aj h7 ?_|refine bh j rfl (by simpa using hjl) ?_|refine ax (au (by simpa using hjl)) ?_|refine ax hgu ?_|refine az (au (by simpa using hjl)) ?_|refine az hgu ?_|refine ae (fun _=>?_) (fun _=>?_)|refine aq ?_)
      apply ak [(0,_),(1,_),(2,_),(3,_)] c2;·exact be
      ·repeat'(first|refine ad ?_|refine dk ?_|refine aj hc ?_|refine ae (fun _=>?_) (fun _=>?_)|refine aq ?_)
       apply ak [(0,_),(1,_),(2,_),(3,_)] c3;·exact be
       ·repeat'(first|refine ad ?_|refine dk ?_|refine ae (fun _=>?_) (fun _=>?_)|refine aq ?_)
        apply ak [(0,_),(1,_),(2,_),(3,_)] c4;·exact be
        ·repeat'(first|refine ad ?_|refine dk ?_|refine ae (fun _=>?_) (fun _=>?_)|refine aq ?_)
         apply aw [(16,_),(17,_),(18,_)];exact be
    ·rw[if_neg hc] at hR;rw[hR] at c2;by_cases h5:e.kind=5
     ·have ho2:(w.up j).opn=false:=by cases hh:(w.up j).opn with|false=>rfl;|true=>exact absurd ⟨h5,hh⟩ ho
      rw[ho2] at hgu;refine mH 155 Tryz.func58 ?_;repeat'(first|refine ad ?_|refine dk ?_|refine ah (c1) ?_|refine ai hnk ?_|refine ai h4 ?_|refine aj h5 ?_|refine bh j rfl (by simpa using hjl) ?_|refine ax (au (by simpa using hjl)) ?_|refine ax hgu ?_|refine az (au (by simpa using hjl)) ?_|refine az hgu ?_|refine ae (fun _=>?_) (fun _=>?_)|refine aq ?_)
      apply ak [(0,_),(1,_),(2,_),(3,_)] c2;·exact be
      ·repeat'(first|refine ad ?_|refine dk ?_|refine ai hc ?_|refine ae (fun _=>?_) (fun _=>?_)|refine aq ?_)
       apply aw [(16,_),(17,_),(18,_)];exact be
     ·have h7:=h57.resolve_left h5;refine mH 155 Tryz.func58 ?_;repeat'(first|refine ad ?_|refine dk ?_|refine ah (c1) ?_|refine ai hnk ?_|refine ai h4 ?_|refine ai h5 ?_|refine aj h7 ?_|refine bh j rfl (by simpa using hjl) ?_|refine ax (au (by simpa using hjl)) ?_|refine ax hgu ?_|refine az (au (by simpa using hjl)) ?_|refine az hgu ?_|refine ae (fun _=>?_) (fun _=>?_)|refine aq ?_)
      apply ak [(0,_),(1,_),(2,_),(3,_)] c2;·exact be
      ·repeat'(first|refine ad ?_|refine dk ?_|refine ai hc ?_|refine ae (fun _=>?_) (fun _=>?_)|refine aq ?_)
       apply aw [(16,_),(17,_),(18,_)];exact be
  ·rw[if_neg h57] at hR;have h5:¬e.kind=5:=fun g=>h57 (.inl g);have h7:¬e.kind=7:=fun g=>h57 (.inr g);by_cases h2:e.kind=2
   ·rw[if_pos h2] at hR;generalize hopn:(w.up j).opn=op at*;cases op
    ·rw[if_neg (by simp)] at hR;subst hR;refine mH 155 Tryz.func58 ?_;repeat'(first|refine ad ?_|refine dk ?_|refine ah (c1) ?_|refine ai hnk ?_|refine ai h4 ?_|refine ai h5 ?_|refine ai h7 ?_|refine aj h2 ?_|refine bh j rfl (by simpa using hjl) ?_|refine ax (au (by simpa using hjl)) ?_|refine ax hgu ?_|refine az (au (by simpa using hjl)) ?_|refine az hgu ?_|refine ae (fun _=>?_) (fun _=>?_)|refine aq ?_)
     apply aw [(16,_),(17,_),(18,_)];exact be
    ·rw[if_pos rfl] at hR;have c3:=Av (w.up j).po e.b (by omega);have c2:=KW (w.svData j e.conn e.b) j e.conn (((w.up j).po.offer e.b).2:Int) hM (h.svData hjl e.conn e.b) (hw.svData (by omega) hjl e.conn e.b) (by omega);have e1:((w.svData j e.conn e.b).up j).cli=(w.up j).cli:=by show((w.setU j ⟨((w.up j).po.offer e.b).1,(w.up j).opn,(w.up j).cli,(w.up j).rd⟩).up j).cli=_;rw[w.up_setU hjl]
     rw[e1,hR] at c2;obtain⟨c2a,c2b,c2c⟩:=c2;clear hR e1;unfold Wd.svData at c2a c2b c2c;rw[hopn] at c2a c2b c2c;generalize (w.up j).po.offer e.b=of at*;obtain⟨op,on⟩:=of;simp only at c2a c2b c2c c3;unfold ee bN at c3;by_cases hc:(w.up j).cli≠0
     ·have c2a:=c2a hc;refine mH 155 Tryz.func58 ?_;repeat'(first|refine ad ?_|refine dk ?_|refine ah (c1) ?_|refine ah (c3) ?_|refine ai hnk ?_|refine ai h4 ?_|refine ai h5 ?_|refine ai h7 ?_|refine aj h2 ?_|refine aB (by simp;omega) ?_|refine aj hc ?_|refine bh j rfl (by simpa using hjl) ?_|refine ax (au (by simpa using hjl)) ?_|refine ax hgu ?_|refine az (au (by simpa using hjl)) ?_|refine az hgu ?_|refine ae (fun _=>?_) (fun _=>?_)|refine aq ?_)
      apply ak [(0,_),(1,_),(2,_),(3,_)] c2a;·exact be
      ·repeat'(first|refine ad ?_|refine dk ?_|refine ae (fun _=>?_) (fun _=>?_)|refine aq ?_)
       apply aw [(16,_),(17,_),(18,_)];exact be
     ·have hc0:(w.up j).cli=0:=Nq.1 hc;by_cases hn0:0<(on:Int)
      ·have c2b:=c2b hc0 hn0;refine mH 155 Tryz.func58 ?_;repeat'(first|refine ad ?_|refine dk ?_|refine ah (c1) ?_|refine ah (c3) ?_|refine ai hnk ?_|refine ai h4 ?_|refine ai h5 ?_|refine ai h7 ?_|refine aj h2 ?_|refine aB (by simp;omega) ?_|refine ai hc ?_|refine aj hn0 ?_|refine bh j rfl (by simpa using hjl) ?_|refine ax (au (by simpa using hjl)) ?_|refine ax hgu ?_|refine az (au (by simpa using hjl)) ?_|refine az hgu ?_|refine ae (fun _=>?_) (fun _=>?_)|refine aq ?_)
       apply ak [(0,_),(1,_),(2,_),(3,_)] c2b;·exact be
       ·repeat'(first|refine ad ?_|refine dk ?_|refine ae (fun _=>?_) (fun _=>?_)|refine aq ?_)
        apply aw [(16,_),(17,_),(18,_)];exact be
      ·have c2c:=c2c hc0 hn0;subst c2c;refine mH 155 Tryz.func58 ?_;repeat'(first|refine ad ?_|refine dk ?_|refine ah (c1) ?_|refine ah (c3) ?_|refine ai hnk ?_|refine ai h4 ?_|refine ai h5 ?_|refine ai h7 ?_|refine aj h2 ?_|refine aB (by simp;omega) ?_|refine ai hc ?_|refine ai hn0 ?_|refine bh j rfl (by simpa using hjl) ?_|refine ax (au (by simpa using hjl)) ?_|refine ax hgu ?_|refine az (au (by simpa using hjl)) ?_|refine az hgu ?_|refine ae (fun _=>?_) (fun _=>?_)|refine aq ?_)
       apply aw [(16,_),(17,_),(18,_)];exact be
   ·rw[if_neg h2] at hR;by_cases h3:e.kind=3
    ·rw[if_pos h3] at hR;generalize hopn:(w.up j).opn=op at*;cases op
     ·rw[if_neg (by simp)] at hR;subst hR;refine mH 155 Tryz.func58 ?_;repeat'(first|refine ad ?_|refine dk ?_|refine ah (c1) ?_|refine ai hnk ?_|refine ai h4 ?_|refine ai h5 ?_|refine ai h7 ?_|refine ai h2 ?_|refine aj h3 ?_|refine bh j rfl (by simpa using hjl) ?_|refine ax (au (by simpa using hjl)) ?_|refine ax hgu ?_|refine az (au (by simpa using hjl)) ?_|refine az hgu ?_|refine ae (fun _=>?_) (fun _=>?_)|refine aq ?_)
      apply aw [(16,_),(17,_),(18,_)];exact be
     ·rw[if_pos rfl] at hR;have c2:=KW (w.svEnd j) j e.conn 1 hM (h.svEnd hjl) (hw.svEnd hjl) (by omega);have e1:((w.svEnd j).up j).cli=(w.up j).cli:=by show((w.setU j ⟨{(w.up j).po with ended:=true},(w.up j).opn,(w.up j).cli,(w.up j).rd⟩).up j).cli=_;rw[w.up_setU hjl]
      rw[e1,hR] at c2;obtain⟨c2a,c2b,_⟩:=c2;clear hR e1;unfold Wd.svEnd at c2a c2b;rw[hopn] at c2a c2b;by_cases hc:(w.up j).cli≠0
      ·have c2a:=c2a hc;refine mH 155 Tryz.func58 ?_;repeat'(first|refine ad ?_|refine dk ?_|refine ah (c1) ?_|refine ai hnk ?_|refine ai h4 ?_|refine ai h5 ?_|refine ai h7 ?_|refine ai h2 ?_|refine aj h3 ?_|refine aj hc ?_|refine bh j rfl (by simpa using hjl) ?_|refine ax (au (by simpa using hjl)) ?_|refine ax hgu ?_|refine az (au (by simpa using hjl)) ?_|refine az hgu ?_|refine ae (fun _=>?_) (fun _=>?_)|refine aq ?_)
       apply ak [(0,_),(1,_),(2,_),(3,_)] c2a;·exact be
       ·repeat'(first|refine ad ?_|refine dk ?_|refine ae (fun _=>?_) (fun _=>?_)|refine aq ?_)
        apply aw [(16,_),(17,_),(18,_)];exact be
      ·have hc0:(w.up j).cli=0:=Nq.1 hc;have c2b:=c2b hc0 (by decide);refine mH 155 Tryz.func58 ?_;repeat'(first|refine ad ?_|refine dk ?_|refine ah (c1) ?_|refine ai hnk ?_|refine ai h4 ?_|refine ai h5 ?_|refine ai h7 ?_|refine ai h2 ?_|refine aj h3 ?_|refine ai hc ?_|refine aj (by decide) ?_|refine bh j rfl (by simpa using hjl) ?_|refine ax (au (by simpa using hjl)) ?_|refine ax hgu ?_|refine az (au (by simpa using hjl)) ?_|refine az hgu ?_|refine ae (fun _=>?_) (fun _=>?_)|refine aq ?_)
       apply ak [(0,_),(1,_),(2,_),(3,_)] c2b;·exact be
       ·repeat'(first|refine ad ?_|refine dk ?_|refine ae (fun _=>?_) (fun _=>?_)|refine aq ?_)
        apply aw [(16,_),(17,_),(18,_)];exact be
    ·rw[if_neg h3] at hR;by_cases h6:e.kind=6
     ·rw[if_pos h6] at hR;generalize hopn:(w.up j).opn=op at*;cases op
      ·rw[if_neg (by simp)] at hR;subst hR;refine mH 155 Tryz.func58 ?_;repeat'(first|refine ad ?_|refine dk ?_|refine ah (c1) ?_|refine ai hnk ?_|refine ai h4 ?_|refine ai h5 ?_|refine ai h7 ?_|refine ai h2 ?_|refine ai h3 ?_|refine aj h6 ?_|refine bh j rfl (by simpa using hjl) ?_|refine ax (au (by simpa using hjl)) ?_|refine ax hgu ?_|refine az (au (by simpa using hjl)) ?_|refine az hgu ?_|refine ae (fun _=>?_) (fun _=>?_)|refine aq ?_)
       apply aw [(16,_),(17,_),(18,_)];exact be
      ·rw[if_pos rfl] at hR;have c3:=zC (w.up j).po e.n hG.po.ol;have hgb:=kT (w.up j).po e.n;have hw1:(w.setU j ⟨(w.up j).po.grant e.n,(w.up j).opn,(w.up j).cli,(w.up j).rd⟩).B n:=by have h1:=w.bu_setU hjl ⟨(w.up j).po.grant e.n,(w.up j).opn,(w.up j).cli,(w.up j).rd⟩;refine⟨hw.lim,hw.ol,?_⟩;have e1:∀x:Up,(w.setU j x).bo=w.bo:=fun _=>rfl;have e2:∀x:Up,(w.setU j x).bc=w.bc:=fun _=>rfl;unfold Wd.lim at hp;unfold Wd.phi at*;rw[e1,e2];simp only at h1;omega
       have c4:=B0 (w.setU j ⟨(w.up j).po.grant e.n,(w.up j).opn,(w.up j).cli,(w.up j).rd⟩) e.conn ((w.up j).po.gsent e.n) (by omega) hw1;unfold Wd.svBud at hR;rw[hR,hopn] at c4;generalize hgp:(w.up j).po.grant e.n=gp at*;generalize hgs:(w.up j).po.gsent e.n=gs at*;unfold ee bN at c3;refine mH 155 Tryz.func58 ?_;repeat'(first|refine ad ?_|refine dk ?_|refine ah (c1) ?_|refine ah (c3) ?_|refine ai hnk ?_|refine ai h4 ?_|refine ai h5 ?_|refine ai h7 ?_|refine ai h2 ?_|refine ai h3 ?_|refine aj h6 ?_|refine bh j rfl (by simpa using hjl) ?_|refine ax (au (by simpa using hjl)) ?_|refine ax hgu ?_|refine az (au (by simpa using hjl)) ?_|refine az hgu ?_|refine ae (fun _=>?_) (fun _=>?_)|refine aq ?_)
       apply ak [(0,_),(1,_),(2,_),(3,_)] c4;·exact be
       ·repeat'(first|refine ad ?_|refine dk ?_|refine ae (fun _=>?_) (fun _=>?_)|refine aq ?_)
        apply aw [(16,_),(17,_),(18,_)];exact be
     ·rw[if_neg h6] at hR;subst hR;refine mH 155 Tryz.func58 ?_;repeat'(first|refine ad ?_|refine dk ?_|refine ah (c1) ?_|refine ai hnk ?_|refine ai h4 ?_|refine ai h5 ?_|refine ai h7 ?_|refine ai h2 ?_|refine ai h3 ?_|refine ai h6 ?_|refine bh j rfl (by simpa using hjl) ?_|refine ax (au (by simpa using hjl)) ?_|refine ax hgu ?_|refine az (au (by simpa using hjl)) ?_|refine az hgu ?_|refine ae (fun _=>?_) (fun _=>?_)|refine aq ?_)
      apply aw [(16,_),(17,_),(18,_)];exact be
end Go.Proofs.YtgfdbddglhblbaaGreat

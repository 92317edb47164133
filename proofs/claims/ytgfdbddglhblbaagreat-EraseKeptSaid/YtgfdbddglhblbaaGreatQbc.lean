/- A part of the proof of what is stated of the erasing of a mirror. -/
import Derived.Test.YtgfdbddglhblbaaGreatQbb
set_option maxHeartbeats 64000000
namespace Go.Proofs.YtgfdbddglhblbaaGreat
open Go.Eng
attribute [local irreducible] aO
set_option maxRecDepth 100000
theorem Bs {p:Po}(h:ib p)(n x:Int):(x∈(eZ p n).1.id↔x∈p.id∧x≠n)∧(x∈(eZ p n).1.bu↔x∈p.bu∧x≠n):=by
 have n1:=mP h.si;have n2:=mP h.sb;have ap:=h.ap;unfold eZ;split;·rename_i hb;refine⟨⟨fun hx=>⟨hx,fun e=>ap x hx (e▸hb)⟩,fun hx=>hx.1⟩,?_⟩;show x∈p.bu.erase n↔_;rw[n2.mem_erase_iff];exact And.comm
 ·rename_i hb;split;·refine⟨?_,⟨fun hx=>⟨hx,fun e=>hb (e▸hx)⟩,fun hx=>hx.1⟩⟩;show x∈p.id.erase n↔_;rw[n1.mem_erase_iff];exact And.comm
  ·rename_i hi;exact⟨⟨fun hx=>⟨hx,fun e=>hi (e▸hx)⟩,fun hx=>hx.1⟩,⟨fun hx=>⟨hx,fun e=>hb (e▸hx)⟩,fun hx=>hx.1⟩⟩
theorem mo (p:Po)(n:Int):(eZ p n).1.ba=p.ba∧(eZ p n).1.qu=p.qu∧(eZ p n).1.se=p.se:=by
 unfold eZ;split;·exact⟨rfl,rfl,rfl⟩
 ·split<;>exact⟨rfl,rfl,rfl⟩
theorem mm (p:Po)(n:Int):(kK p n).1.ba=p.ba∧(kK p n).1.qu=p.qu∧(kK p n).1.se=p.se:=by unfold kK;split<;>exact⟨rfl,rfl,rfl⟩
theorem A9 {p:Po}(n x:Int)(hb:n∈p.bu)(h:ib p):(x∈(kK p n).1.id↔x=n∨x∈p.id)∧(x∈(kK p n).1.bu↔x∈p.bu∧x≠n):=by have n2:=mP h.sb;unfold kK;rw[if_pos hb];refine⟨dG,?_⟩;show x∈p.bu.erase n↔_;rw[n2.mem_erase_iff];exact And.comm
theorem pz {p:Po}(h:ib p)(hb:p.ba=1000000){i:Int}(hi:i∈p.id∨i∈p.bu):bG i=4:=by
 have hr:p.ba<i∧i≤p.ba+p.se:=hi.elim (h.ri i) (h.rb i);have:=h.se;unfold bG;repeat' split
 all_goals omega
theorem pm {p:Po}(h:ib p)(hb:p.ba=2000000){i:Int}(hi:i∈p.id∨i∈p.bu):bG i=5:=by
 have hr:p.ba<i∧i≤p.ba+p.se:=hi.elim (h.ri i) (h.rb i);have:=h.se;unfold bG;repeat' split
 all_goals omega
theorem Wd.J.uniq {c:bk}{w:Wd}{e:Int}(h:w.J c e){u v:Up}(hu:u∈w.p.ups)(hv:v∈w.p.ups)(hc:u.cli=v.cli)(h0:u.cli≠0):u=v:=by obtain⟨x,hx,a1,a2,_⟩:=h.uc u hu h0;obtain⟨y,hy,b1,b2,_⟩:=h.uc v hv (by rw[←hc];exact h0);have:x=y:=eY h.cn hx hy (by rw[a1,b1,hc]);subst this;exact eY h.un hu hv (by rw[←a2,←b2])
theorem Wd.J.dropU {c:bk}{w:Wd}(h:w.J c 0){j:Nat}{id:Int}(hj:im w.p.ups id=some j)(q:Bool):(w.dropU j id q).J c (w.up j).cli:=by
 obtain⟨hlt,hid⟩:=fE hj;have e0:w.p.ups.getD j .zero=w.p.ups[j]:=cx hlt _;have e1:w.up j=w.p.ups[j]:=e0;rw[e0] at hid;have hm:∀u,u∈(w.dropU j id q).p.ups↔u∈w.p.ups∧u.po.id≠id:=fun u=>by have:=vV (f:=fun x:Up=>x.po.id) h.un hlt (x:=u);rw[show w.p.ups[j].po.id=id from hid] at this;exact this
 have hu0:=h.uk _ (Nr hlt);have hp1:(w.dropU j id q).p.sta=if bG id=5 then w.p.sta else(eZ w.p.sta id).1:=rfl;have hp2:(w.dropU j id q).p.can=if bG id=5 then(eZ w.p.can id).1 else w.p.can:=rfl;have m1:∀x,(x∈(w.dropU j id q).p.sta.id↔x∈w.p.sta.id∧x≠id)∧(x∈(w.dropU j id q).p.sta.bu↔x∈w.p.sta.bu∧x≠id):=by
  intro x;rw[hp1];split
  ·rename_i h5;have k:∀y,(y∈w.p.sta.id∨y∈w.p.sta.bu)→y≠id:=fun y hy e=>by have:=pz h.s.sta h.ba.1 hy;rw[e,h5] at this;omega
   exact⟨⟨fun hx=>⟨hx,k x (.inl hx)⟩,fun hx=>hx.1⟩,⟨fun hx=>⟨hx,k x (.inr hx)⟩,fun hx=>hx.1⟩⟩
  ·exact Bs h.s.sta id x
 have m2:∀x,(x∈(w.dropU j id q).p.can.id↔x∈w.p.can.id∧x≠id)∧(x∈(w.dropU j id q).p.can.bu↔x∈w.p.can.bu∧x≠id):=by
  intro x;rw[hp2];split;·exact Bs h.s.can id x
  ·rename_i h5;have k:∀y,(y∈w.p.can.id∨y∈w.p.can.bu)→y≠id:=fun y hy e=>by have:=pm h.s.can h.ba.2 hy;rw[e] at this;exact h5 this
   exact⟨⟨fun hx=>⟨hx,k x (.inl hx)⟩,fun hx=>hx.1⟩,⟨fun hx=>⟨hx,k x (.inr hx)⟩,fun hx=>hx.1⟩⟩
 refine⟨h.s.dropU j id q,h.cfg,h.cn,EO h.un j,h.ck,fun u hu=>h.uk u ((hm u).1 hu).1,?_,?_,fun u hu=>?_,fun i hi=>?_,fun x hx hne hs=>?_,fun u hu hc=>h.uc u ((hm u).1 hu).1 hc⟩
 ·rw[hp1,hp2];obtain⟨b1,b2⟩:=h.ba;constructor;·split;exact b1;rw[(mo _ _).1];exact b1
  ·split;rw[(mo _ _).1];exact b2;exact b2
 ·rw[hp1,hp2];obtain⟨b1,b2⟩:=h.qu;constructor;·split;exact b1;rw[(mo _ _).2.1];exact b1
  ·split;rw[(mo _ _).2.1];exact b2;exact b2
 ·obtain⟨hu,hne⟩:=(hm u).1 hu;rw[(m1 _).1,(m1 _).2,(m2 _).1,(m2 _).2];rcases h.pl u hu with(g|g)|(g|g);·exact .inl (.inl ⟨g,hne⟩)
  ·exact .inl (.inr ⟨g,hne⟩)
  ·exact .inr (.inl ⟨g,hne⟩)
  ·exact .inr (.inr ⟨g,hne⟩)
 ·rw[(m1 _).1,(m2 _).1] at hi;have hne:i≠id:=hi.elim (fun g=>g.2) (fun g=>g.2);obtain⟨u,hu,g1,g2⟩:=h.il i (hi.elim (fun g=>.inl g.1) (fun g=>.inr g.1));exact⟨u,(hm u).2 ⟨hu,by rw[g1];exact hne⟩,g1,g2⟩
 ·obtain⟨u,hu,l⟩:=h.cu x hx (by have:=(h.ck x hx).id;omega) hs;refine⟨u,(hm u).2 ⟨hu,fun e=>hne ?_⟩,l⟩;have:u=w.p.ups[j]:=eY h.un hu (Nr hlt) (e.trans hid.symm);rw[e1,←this,l.2.1]
theorem Wd.J.drop {c:bk}{w:Wd}(h:w.J c 0){id e:Int}(q:Bool)(he:∀j,im w.p.ups id=some j→(w.up j).cli=e):(w.drop id q).J c e:=by unfold Wd.drop;cases hj:im w.p.ups id with|none=>exact h.up e;|some j=>simp only;rw[←he j hj];exact h.dropU hj q
theorem mT (w:Wd)(id:Int)(q:Bool):(w.drop id q).p.cls=w.p.cls:=by unfold Wd.drop;split<;>rfl
theorem re {c:bk}{w:Wd}{e:Int}(h:w.J c e)(id:Int)(q:Bool)(u:Up):u∈(w.drop id q).p.ups↔u∈w.p.ups∧u.po.id≠id:=by unfold Wd.drop;cases hj:im w.p.ups id with|none=>refine⟨fun hu=>⟨hu,fun e=>?_⟩,fun hu=>hu.1⟩;obtain⟨k,hk⟩:=uO hu;rw[e,hj] at hk;cases hk;|some j=>obtain⟨hlt,hid⟩:=fE hj;rw[cx hlt] at hid;have:=vV (f:=fun x:Up=>x.po.id) h.un hlt (x:=u);rw[show w.p.ups[j].po.id=id from hid] at this;exact this
theorem Wd.J.gone {c:bk}{w:Wd}(h:w.J c 0){x:Cl}(hx:x∈w.p.cls)(q:Bool):∀u,u∈(w.drop x.ex.up q).p.ups→u.cli≠x.po.id:=by intro u hu hc;obtain⟨hu,hne⟩:=(re h _ q u).1 hu;obtain⟨y,hy,g1,g2,g3⟩:=h.uc u hu (by rw[hc];have:=(h.ck x hx).id;omega);have:y=x:=eY h.cn hy hx (by rw[g1,hc]);subst this;exact hne g2.symm
theorem Wd.J.link {c:bk}{w:Wd}{e:Int}(h:w.J c e){x:Cl}(hx:x∈w.p.cls)(hne:x.po.id≠e)(hs:x.ex.st=2∨x.ex.st=3):∃j,im w.p.ups x.ex.up=some j∧j<w.p.ups.length∧CW x (w.up j):=by obtain⟨u,hu,l⟩:=h.cu x hx hne hs;obtain⟨j,hj⟩:=uO hu;have l1:=l.1;rw[l1] at hj;obtain⟨hlt,hid⟩:=fE hj;have e1:w.up j=w.p.ups[j]:=cx hlt _;have:u=w.p.ups[j]:=eY h.un hu (Nr hlt) (by rw[cx hlt] at hid;rw[hid,l1]);exact⟨j,hj,hlt,by rw[e1,←this];exact l⟩
noncomputable def Wd.lose (w:Wd)(k:Nat)(id st:Int):Wd:=(w.drop (w.cl k).ex.up false).fail k id st
theorem Wd.J.lose {c:bk}{w:Wd}(h:w.J c 0){k:Nat}{id:Int}(hk:bM w.p.cls id=some k)(hs:(w.cl k).ex.st=2∨(w.cl k).ex.st=3)(st:Int):(w.lose k id st).J c 0:=by
 obtain⟨hlt,hid⟩:=aR hk;have hid:(w.cl k).po.id=id:=hid;have hm:=w.cl_mem hlt;have hK:=h.ck _ hm;obtain⟨j,hj,hjl,l⟩:=h.link hm (by have:=hK.id;omega) hs;have h1:(w.drop (w.cl k).ex.up false).J c id:=h.drop false fun j' hj'=>by rw[hj] at hj';cases hj';rw[l.2.1,hid]
 have hk1:bM (w.drop (w.cl k).ex.up false).p.cls id=some k:=by rw[eh,hk]
 refine h1.fail hk1 st ?_ (.inr rfl);have:=h.gone hm false;rw[hid] at this;exact this
theorem kz (w:Wd)(id:Int)(q:Bool):(w.hang id q).p.ups=w.p.ups∧(w.hang id q).p.sta=w.p.sta∧(w.hang id q).p.can=w.p.can∧(w.hang id q).p.cfg=w.p.cfg∧(w.hang id q).p.now=w.p.now∧(w.hang id q).p.cls.length≤w.p.cls.length:=by unfold Wd.hang;cases bM w.p.cls id with|none=>exact⟨rfl,rfl,rfl,rfl,rfl,Nat.le_refl _⟩;|some k=>refine⟨rfl,rfl,rfl,rfl,rfl,?_⟩;show(w.p.cls.take k++w.p.cls.drop (k+1)).length≤_;rw[Na,Nj,Nz];omega
theorem Wd.S.hang {w:Wd}(h:w.S)(id:Int)(q:Bool):(w.hang id q).S:=by unfold Wd.hang;cases bM w.p.cls id with|none=>exact h;|some k=>
 refine⟨h.cfg,h.now,h.draw,h.ser,h.ro,h.pl,?_,h.ul,?_,h.ug,h.sta,h.can,h.sh⟩;·have:=h.cl;show(w.p.cls.take k++w.p.cls.drop (k+1)).length≤_;rw[Na,Nj,Nz];omega
 ·intro x hx;rcases Np.1 hx with hx|hx;·exact h.cg x (List.mem_of_mem_take hx)
  ·exact h.cg x (List.mem_of_mem_drop hx)
theorem Wd.J.hang {c:bk}{w:Wd}{e:Int}(h:w.J c e)(id:Int)(q:Bool)(hn:∀u,u∈w.p.ups→u.cli≠id)(he:e=0∨e=id):(w.hang id q).J c 0:=by have hs:=h.s.hang id q;have hr:=kz w id q;cases hk:bM w.p.cls id with
 |none=>
 have e1:w.hang id q=w:=by unfold Wd.hang;rw[hk]
 rw[e1];refine{h with cu:=fun x hx _ hst=>h.cu x hx (fun e2=>?_) hst};rcases he with he|he;·have:=(h.ck x hx).id;omega
 ·obtain⟨k,hk2⟩:=vG hx;rw[e2,he,hk] at hk2;cases hk2;|some k=>
 obtain⟨hlt,hid⟩:=aR hk;rw[cx hlt] at hid;have hm:∀x,x∈(w.hang id q).p.cls↔x∈w.p.cls∧x.po.id≠id:=fun x=>by have:=vV (f:=fun x:Cl=>x.po.id) h.cn hlt (x:=x);rw[show w.p.cls[k].po.id=id from hid] at this;unfold Wd.hang;rw[hk];exact this
 have hcn:((w.hang id q).p.cls.map fun x=>x.po.id).Nodup:=by unfold Wd.hang;rw[hk];exact EO h.cn k
 obtain⟨r1,r2,r3,r4,_⟩:=hr;refine⟨hs,by rw[r4];exact h.cfg,hcn,by rw[r1];exact h.un,fun x hx=>h.ck x ((hm x).1 hx).1,by rw[r1];exact h.uk,by rw[r2,r3];exact h.ba,by rw[r2,r3];exact h.qu,by rw[r1,r2,r3];exact h.pl,by rw[r1,r2,r3];exact h.il,fun x hx _ hst=>?_,fun u hu hc=>?_⟩;·obtain⟨hx,hne⟩:=(hm x).1 hx;rw[r1];exact h.cu x hx (by rcases he with he|he;(have:=(h.ck x hx).id;omega);(rw[he];exact hne)) hst
 ·rw[r1] at hu;obtain⟨x,hx,g1,g2,g3⟩:=h.uc u hu hc;exact⟨x,(hm x).2 ⟨hx,by rw[g1];exact hn u hu⟩,g1,g2,g3⟩
theorem Wd.J.rel {c:bk}{w:Wd}(h:w.J c 0){j:Nat}{id:Int}(hj:im w.p.ups id=some j)(hc:(w.up j).cli≠0)(ho:(w.up j).opn=true)(hd:(w.up j).po.out.dat=[]):(w.rel j id).J c (w.up j).cli:=by
 obtain⟨hlt,hid⟩:=fE hj;have e1:w.up j=w.p.ups[j]:=cx hlt _;have hid:(w.up j).po.id=id:=hid;have hum:=w.up_mem hlt;have hK:=h.uk _ hum;have hs:=h.s.rel hlt id;have hm:∀u,u∈w.p.ups.set j {w.up j with cli:=0}↔u={w.up j with cli:=0}∨(u∈w.p.ups∧u.po.id≠id):=fun u=>by have:=eM (f:=fun x:Up=>x.po.id) h.un hlt (a:={w.up j with cli:=0}) (x:=u);rw[←e1,hid] at this;exact this
 have hnd:((w.p.ups.set j {w.up j with cli:=0}).map fun x=>x.po.id).Nodup:=qV h.un fun _=>by rw[e1]
 have hus:(w.rel j id).p.ups=w.p.ups.set j {w.up j with cli:=0}:=by unfold Wd.rel;split<;>rfl
 have hcs:(w.rel j id).p.cls=w.p.cls:=by unfold Wd.rel;split<;>rfl
 have hcf:(w.rel j id).p.cfg=w.p.cfg:=by unfold Wd.rel;split<;>rfl
 have hni:∀i,i∈w.p.sta.id∨i∈w.p.can.id→i≠id:=by intro i hi e;obtain⟨u,hu,g1,g2⟩:=h.il i hi;have:u=w.up j:=eY h.un hu hum (by rw[g1,hid,e]);rw[this] at g2;exact hc g2
 have hp1:(w.rel j id).p.sta=if(w.up j).po.cls=5 then w.p.sta else(kK w.p.sta id).1:=by unfold Wd.rel;split<;>rfl
 have hp2:(w.rel j id).p.can=if(w.up j).po.cls=5 then(kK w.p.can id).1 else w.p.can:=by unfold Wd.rel;split<;>rfl
 have hcl:=hK.cls;rw[hid] at hcl;have hpl:=h.pl _ hum;rw[hid] at hpl;have m1:∀i,(i∈(w.rel j id).p.sta.id→i=id∨i∈w.p.sta.id)∧((i∈w.p.sta.id∨i∈w.p.sta.bu)→(i∈(w.rel j id).p.sta.id∨i∈(w.rel j id).p.sta.bu)):=by
  intro i;rw[hp1];split;·exact⟨.inr,fun g=>g⟩
  ·rename_i h5;rcases hpl with(g|g)|g;·exact absurd rfl (hni id (.inl g))
   ·have hr:=A9 id i g h.s.sta;rw[hr.1,hr.2];refine⟨fun g=>g,fun g=>?_⟩;by_cases hi:i=id;·exact .inl (.inl hi)
    ·rcases g with g|g;·exact .inl (.inr g)
     ·exact .inr ⟨g,hi⟩
   ·exact absurd (hcl.trans (pm h.s.can h.ba.2 g)) h5
 have m2:∀i,(i∈(w.rel j id).p.can.id→i=id∨i∈w.p.can.id)∧((i∈w.p.can.id∨i∈w.p.can.bu)→(i∈(w.rel j id).p.can.id∨i∈(w.rel j id).p.can.bu)):=by
  intro i;rw[hp2];split
  ·rename_i h5;rcases hpl with g|(g|g);·have:=pz h.s.sta h.ba.1 g;rw[hcl,this] at h5;omega
   ·exact absurd rfl (hni id (.inr g))
   ·have hr:=A9 id i g h.s.can;rw[hr.1,hr.2];refine⟨fun g=>g,fun g=>?_⟩;by_cases hi:i=id;·exact .inl (.inl hi)
    ·rcases g with g|g;·exact .inl (.inr g)
     ·exact .inr ⟨g,hi⟩
  ·exact⟨.inr,fun g=>g⟩
 refine⟨hs,by rw[hcf];exact h.cfg,by rw[hcs];exact h.cn,by rw[hus];exact hnd,by rw[hcs];exact h.ck,fun u hu=>?_,?_,?_,fun u hu=>?_,fun i hi=>?_,fun x hx hne hst=>?_,fun u hu hc2=>?_⟩
 ·rw[hus] at hu;rcases (hm u).1 hu with rfl|⟨hu,_⟩;·exact⟨hK.cls,hK.cap,hK.ocap,fun _=>⟨ho,hd⟩,hK.rt⟩
  ·exact h.uk u hu
 ·rw[hp1,hp2];obtain⟨b1,b2⟩:=h.ba;constructor;·split;exact b1;rw[(mm _ _).1];exact b1
  ·split;rw[(mm _ _).1];exact b2;exact b2
 ·rw[hp1,hp2];obtain⟨b1,b2⟩:=h.qu;constructor;·split;exact b1;rw[(mm _ _).2.1];exact b1
  ·split;rw[(mm _ _).2.1];exact b2;exact b2
 ·rw[hus] at hu;have hp:(u.po.id∈w.p.sta.id∨u.po.id∈w.p.sta.bu)∨(u.po.id∈w.p.can.id∨u.po.id∈w.p.can.bu):=by
   rcases (hm u).1 hu with rfl|⟨hu,_⟩;·rw[show ({w.up j with cli:=0}:Up).po.id=id from hid];exact hpl
   ·exact h.pl u hu
  exact hp.imp (m1 _).2 (m2 _).2
 ·rw[hus];by_cases hi2:i=id;·exact⟨_,(hm _).2 (.inl rfl),by rw[hi2];exact hid,rfl⟩
  ·obtain⟨u,hu,g1,g2⟩:=h.il i (hi.imp (fun g=>((m1 i).1 g).resolve_left hi2) (fun g=>((m2 i).1 g).resolve_left hi2));exact⟨u,(hm u).2 (.inr ⟨hu,by rw[g1];exact hi2⟩),g1,g2⟩
 ·rw[hcs] at hx;obtain⟨u,hu,l⟩:=h.cu x hx (by have:=(h.ck x hx).id;omega) hst;rw[hus];refine⟨u,(hm u).2 (.inr ⟨hu,fun e=>hne ?_⟩),l⟩;have:u=w.up j:=eY h.un hu hum (e.trans hid.symm);rw[←this,l.2.1]
 ·rw[hus] at hu;rw[hcs];rcases (hm u).1 hu with rfl|⟨hu,_⟩;·exact absurd rfl hc2
  ·exact h.uc u hu hc2
theorem EY {x:dl}{u:Up}(h:x.keep u=true):u.po.out.dat=[]:=by unfold dl.keep at h;simp only[Bool.and_eq_true,decide_eq_true_eq] at h;exact List.eq_nil_of_length_eq_zero h.2.2.2.1
def Wd.rpRoom (w:Wd)(k:Nat):Int:=if(w.cl k).ex.hd=true∧(w.cl k).ex.sto=false then max (w.p.cfg.cout-((w.cl k).po.out.dat.length:Int)+(w.cl k).po.bud) 0 else w.p.cfg.maxReply+1
noncomputable def Wd.rpX (w:Wd)(k j:Nat):jQ:=dH (w.up j).rd (w.up j).po.inn.dat w.p.cfg.maxHead w.p.cfg.maxReply (w.rpRoom k)
def Bf (x:jQ):Prop:=x.e≠0∨(x.k=1∧56<x.r.an.fs.length)
instance (x:jQ):Decidable (Bf x):=by unfold Bf;infer_instance
def Up.take (u:Up)(x:jQ):Up:=⟨u.po.eat x.n,u.opn,u.cli,x.r⟩
def sH (r:dm):Bool:=decide (r.fm.kd=3)||decide (r.fm.kd=4)
def dl.answ (x:dl)(r:dm):dl:={x with an:=r.an,sto:=sH r,hd:=x.hd||!sH r}
def dl.part (x:dl)(d:List UInt8):dl:={x with dg:=x.dg.add d,size:=x.size+(d.length:Int),store:=if x.sto then x.store++d else x.store}
noncomputable def vL (c:bk)(x:dl)(r:dm):List UInt8:=ji (rF c.cookie ⟨x.rc,x.rid,x.rnew⟩ x.rq.m r.an r.fm.len x.cl)
noncomputable def Wd.rpHead (w:Wd)(k:Nat)(id:Int)(r:dm):Wd:=if sH r then w.setC k ((w.cl k).exch ((w.cl k).ex.answ r)) else(w.setC k ((w.cl k).exch ((w.cl k).ex.answ r))).put id (vL w.p.cfg (w.cl k).ex r)
def Wd.rpData (w:Wd)(k:Nat)(id:Int)(d:List UInt8):Wd:=if(w.cl k).ex.sto then w.setC k ((w.cl k).exch ((w.cl k).ex.part d)) else(w.setC k ((w.cl k).exch ((w.cl k).ex.part d))).put id d
noncomputable def Wd.rpNone (w:Wd)(k j:Nat)(id room:Int)(x:jQ):Wd×Bool:=if 0<x.n then(w,true) else if room=0∨(w.up j).po.ended=false then(w,false) else if ze x.r then(w.complete k j id,true) else(w.lose k id 502,true)
noncomputable def Wd.reply (w:Wd)(k j:Nat)(id:Int):Wd×Bool:=if Bf (w.rpX k j) then(w.lose k id 502,true)else if(w.rpX k j).k=1 then((w.setU j ((w.up j).take (w.rpX k j))).rpHead k id (w.rpX k j).r,true)else if(w.rpX k j).k=2 then((w.setU j ((w.up j).take (w.rpX k j))).rpData k id (w.rpX k j).dat,true)else if(w.rpX k j).k=3 then((w.setU j ((w.up j).take (w.rpX k j))).complete k j id,true)else if(w.rpX k j).k=0 then(w.setU j ((w.up j).take (w.rpX k j))).rpNone k j id (w.rpRoom k) (w.rpX k j)else(w.setU j ((w.up j).take (w.rpX k j)),true)
theorem Up.Gd.take {u:Up}(h:u.Gd){x:jQ}{b:List UInt8}(hp:dx u.rd b x):(u.take x).Gd:=⟨FB h.po _,hp.g⟩
theorem Wd.up_setU (w:Wd){j:Nat}(hj:j<w.p.ups.length)(u:Up):(w.setU j u).up j=u:=by show(w.p.ups.set j u).getD j .zero=u;simp[hj]
theorem nn (w:Wd)(j:Nat)(u:Up)(h:u.po.id=(w.up j).po.id)(id:Int):im (w.setU j u).p.ups id=im w.p.ups id:=by
 show im (w.p.ups.set j u) id=_;unfold im;have e:∀l:List Up,l.findIdx? (fun c=>decide (c.po.id=id))=(l.map fun c=>c.po.id).findIdx? (fun i=>decide (i=id)):=by intro l;rw[List.findIdx?_map];rfl
 rw[e,e];congr 1;rw[List.map_set];by_cases hk:j<w.p.ups.length
 ·have:u.po.id=(w.p.ups.map fun c=>c.po.id)[j]'(by simpa using hk):=by rw[h];unfold Wd.up;simp[hk]
  rw[this,List.set_getElem_self]
 ·rw[List.set_eq_of_length_le (by simp;omega)]
theorem dl.Gd.answ {x:dl}(h:x.Gd){r:dm}(hr:r.G):(x.answ r).Gd:=⟨h.rq,h.rqn,h.rqm,h.rqt,hr.an,hr.ann,hr.anr,h.size,h.store,h.dg,h.rid,h.ser,h.born⟩
theorem dl.Gd.part {x:dl}(h:x.Gd){d:List UInt8}(hs:x.size+(d.length:Int)≤1000000):(x.part d).Gd:=by
 have h1:=h.size;have h2:=h.store;refine⟨h.rq,h.rqn,h.rqm,h.rqt,h.an,h.ann,h.anr,?_,?_,vW.add_t _ _,h.rid,h.ser,h.born⟩;·show 0≤x.size+(d.length:Int)∧x.size+(d.length:Int)≤1000000;omega
 ·show((if x.sto then x.store++d else x.store).length:Int)≤x.size+(d.length:Int);split;·rw[Na];omega
  ·omega
theorem Cl.Gd.exch {c:Cl}(h:c.Gd){x:dl}(hx:x.Gd)(hb:x.rq.body=c.ex.rq.body):(c.exch x).Gd:=⟨h.po,h.rd,hx,by show(x.rq.body.length:Int)≤_;rw[hb];exact h.body,h.last⟩
theorem G6 {c:bk}(hc:c.Ok){x:dl}(hx:x.Gd){r:dm}(hr:r.G)(hl:0≤r.fm.len∧r.fm.len≤1000000000):br (rF c.cookie ⟨x.rc,x.rid,x.rnew⟩ x.rq.m r.an r.fm.len x.cl).fs≤1000000∧(vL c x r).length≤5000000:=by have h1:=hr.an;have h3:=hc.cookieLen;have h4:=hx.rid;have h5:=hr.anr;have h6:=xy c.cookie ⟨x.rc,x.rid,x.rnew⟩ x.rq.m r.an r.fm.len x.cl (by omega);have e1:(rF c.cookie ⟨x.rc,x.rid,x.rnew⟩ x.rq.m r.an r.fm.len x.cl).rs=r.an.rs:=rfl;simp only at h6;have h7:=jm (rF c.cookie ⟨x.rc,x.rid,x.rnew⟩ x.rq.m r.an r.fm.len x.cl);rw[e1] at h7;unfold vL;omega
theorem I1 {r:dm}{b:List UInt8}{most body room:Int}(he:(dH r b most body room).e=0)(hk:(dH r b most body room).k=1):(dH r b most body room).r.fm.len=(dH r b most body room).r.lf:=by
 unfold dH at*;split at he
 ·rename_i h0;rw[if_pos h0] at hk⊢;unfold kQ at*;split at he;·rename_i h1;rw[if_pos h1] at hk;have hk:(0:Int)=1:=hk;omega
  ·rename_i h1;rw[if_neg h1] at hk⊢;split at he;·rename_i h2;exact absurd he h2
   ·rename_i h2;rw[if_neg h2] at hk⊢;split at he;·rename_i h3;rw[if_pos h3] at hk;have hk:(4:Int)=1:=hk;omega
    ·rename_i h3;rw[if_neg h3] at hk⊢;unfold qT at*;split at he;·rename_i h4;exact absurd he h4
     ·rename_i h4;rw[if_neg h4]
 ·rename_i h0;rw[if_neg h0] at hk⊢;split at he
  ·rename_i h1;rw[if_pos h1] at hk;exfalso;unfold ov nF at hk;repeat' split at hk
   all_goals (first|(have hk:(0:Int)=1:=hk;omega)|(have hk:(2:Int)=1:=hk;omega)|(have hk:(3:Int)=1:=hk;omega))
  ·rename_i h1;rw[if_neg h1] at hk;have hk:(0:Int)=1:=hk;omega
theorem JQ (w:Wd)(k j:Nat)(id:Int){n:Nat}(hs:w.S)(hw:w.B n)(hn:n+20≤10000000000)(hk:bM w.p.cls id=some k)(hj:im w.p.ups (w.cl k).ex.up=some j)(hsz:(w.cl k).ex.size=(w.up j).rd.sz)(_:(w.up j).rd.ph=0→(w.up j).rd.sz=0):aH (CG G) 111 [.op 0 0 0,dI id] (lP w) [.d (.b (w.reply k j id).2)] (jr (w.reply k j id).1):=by
 have c1:=dt w.p id hs.cl;rw[hk,bj] at c1;have c2:=iS w.p (w.cl k).ex.up hs.ul;rw[hj,bj] at c2;obtain⟨hlt,hid⟩:=aR hk;obtain⟨hjl,hjd⟩:=fE hj;have hg:=w.get_cl hlt;have hgu:=w.get_up hjl;have hcg:=hs.cg _ (w.cl_mem hlt);have hug:=hs.ug _ (w.up_mem hjl);have hmr:=hs.cfg.maxReply;have hco:=hs.cfg.cout;have hol:=hcg.po.ol;have hbu:=hcg.po.bud;have hrm:0≤w.rpRoom k∧w.rpRoom k≤2000000:=by unfold Wd.rpRoom;split<;>omega
 have hp:=gM (w.up j).rd (w.up j).po.inn.dat w.p.cfg.maxHead w.p.cfg.maxReply (w.rpRoom k) hug.rd hug.po.il (by omega);have c3:=EX (w.up j).rd (w.up j).po.inn.dat w.p.cfg.maxHead w.p.cfg.maxReply (w.rpRoom k) (by have:=hug.po.il;omega) hug.rd.inn (by omega) (by omega);have hfm:=fun he hk=>I1 (r:=(w.up j).rd) (b:=(w.up j).po.inn.dat) (most:=w.p.cfg.maxHead) (body:=w.p.cfg.maxReply) (room:=w.rpRoom k) he hk;have hX:dH (w.up j).rd (w.up j).po.inn.dat w.p.cfg.maxHead w.p.cfg.maxReply (w.rpRoom k)=w.rpX k j:=rfl;rw[hX] at hp c3 hfm;generalize hR:w.reply k j id=R;unfold Wd.reply at hR;generalize hXv:w.rpX k j=x at*;have c4:=Mt (w.up j).po x.n (by have:=hug.po.il;omega);have c5:=qm w (w.cl k).ex.up false hs hw;have c6:=Bb (w.drop (w.cl k).ex.up false) k id 502 (hs.drop _ _) (hw.drop (by omega) _ _) (by omega) (by rw[eh,hk]);unfold jQ.ds gr bZ at c3;unfold ee bN at c4;unfold dU dD at hg;unfold fo jx at hgu;unfold dw bf at c1 c2;refine mH 286 Tryz.func111 ?_;repeat'(first|refine dk ?_|refine ah (c1) ?_|refine ah (c2) ?_|refine bh k rfl (by simpa using hlt) ?_|refine ax (au (by simpa using hlt)) ?_|refine ax hg ?_|refine az (au (by simpa using hlt)) ?_|refine az hg ?_|refine bh j rfl (by simpa using hjl) ?_|refine ax (au (by simpa using hjl)) ?_|refine ax hgu ?_|refine az (au (by simpa using hjl)) ?_|refine az hgu ?_|refine aq ?_)
 apply bd (fun _:Unit=>True) (fun _=>⟨[(0,.op 0 0 0),(1,dI id),(5,.op 17 0 0),(6,.op 1 k 0),(7,.op 2 j 0),(8,dI (w.rpRoom k))],[(0,some (fG w 1 2 3)),(1,some (.buf 65 (w.p.cls.map dU))),(2,some (.buf 33 (w.p.ups.map fo))),(3,some (.buf 5 (w.out.map bn))),(17,some (.box [dI w.p.cfg.maxHead,dI w.p.cfg.maxBody,dI w.p.cfg.maxReply,dI w.p.cfg.cin,dI w.p.cfg.cout,dI w.p.cfg.clients,dI w.p.cfg.admins,dI w.p.cfg.listeners,dI w.p.cfg.stable,dI w.p.cfg.canary,dI w.p.cfg.shadow,dI w.p.cfg.tee,dI w.p.cfg.idle,dI w.p.cfg.reqd,dI w.p.cfg.shadd,dI w.p.cfg.reports,.d (.sl 1 (w.p.cfg.plan.ws.map (.i .i64))),dI w.p.cfg.plan.ms,dI w.p.cfg.plan.nu,dI w.p.cfg.plan.de,dI w.p.cfg.plan.ho,dI w.p.cfg.plan.wi,.d (.s w.p.cfg.salt),.d (.s w.p.cfg.cookie),.d (.b w.p.cfg.mirror),.d (.sl 1 (w.p.cfg.ignore.map .s))]))],2⟩)
 ·unfold Wd.rpRoom;generalize hhd:(w.cl k).ex.hd=hd at*;generalize hsto:(w.cl k).ex.sto=sto at*;have hol2:=aK (w.cl k).po.out.dat;cases hd
  ·rw[if_neg (by simp)];repeat'(first|refine ad ?_|refine dk ?_|refine bh k rfl (by simpa using hlt) ?_|refine ax (au (by simpa using hlt)) ?_|refine ax hg ?_|refine az (au (by simpa using hlt)) ?_|refine az hg ?_|refine ae (fun _=>?_) (fun _=>?_)|refine aq ?_)
   apply aC () [(17,_)] trivial;exact be
  ·cases sto
   ·rw[if_pos ⟨rfl,rfl⟩];repeat'(first|refine ad ?_|refine dk ?_|refine aq ?_|refine bh k rfl (by simpa using hlt) ?_|refine ax (au (by simpa using hlt)) ?_|refine ax hg ?_|refine az (au (by simpa using hlt)) ?_|refine az hg ?_|refine ae (fun _=>?_) (fun _=>?_)|refine aq ?_)
    apply aC () [(17,_)] trivial;exact be
   ·rw[if_neg (by simp)];repeat'(first|refine ad ?_|refine dk ?_|refine bh k rfl (by simpa using hlt) ?_|refine ax (au (by simpa using hlt)) ?_|refine ax hg ?_|refine az (au (by simpa using hlt)) ?_|refine az hg ?_|refine ae (fun _=>?_) (fun _=>?_)|refine aq ?_)
    apply aC () [(17,_)] trivial;exact be
 ·rintro _ _;repeat'(first|refine dk ?_|refine bh j rfl (by simpa using hjl) ?_|refine ax (au (by simpa using hjl)) ?_|refine ax hgu ?_|refine az (au (by simpa using hjl)) ?_|refine az hgu ?_)
  refine ah c3 (And.intro (dY (by kernel_rfl)) ?_);have hml:(x.r.an.fs.map aL).length=x.r.an.fs.length:=by simp
  by_cases hB:Bf x
  ·rw[if_pos hB] at hR;subst hR;have lose:∀(st:AS),st=st→True:=fun _ _=>trivial;by_cases a1:x.e=0
   ·obtain⟨a2,a3⟩:x.k=1∧56<x.r.an.fs.length:=by
     rcases hB with h|h;·exact absurd a1 h
     ·exact h
    repeat'(first|refine ad ?_|refine dk ?_|refine ai (fun h=>h a1) ?_|refine aj a2 ?_|refine aj (by omega) ?_|refine bh k rfl (by simpa using hlt) ?_|refine ax (au (by simpa using hlt)) ?_|refine ax hg ?_|refine az (au (by simpa using hlt)) ?_|refine az hg ?_|refine ae (fun _=>?_) (fun _=>?_)|refine aq ?_)
    apply ak [(0,_),(1,_),(2,_),(3,_)] c5;·exact be
    ·repeat'(first|refine ad ?_|refine dk ?_|refine ae (fun _=>?_) (fun _=>?_)|refine aq ?_)
     apply ak [(0,_),(1,_),(2,_),(3,_)] c6;·exact be
     ·repeat'(first|refine ad ?_|refine dk ?_|refine ae (fun _=>?_) (fun _=>?_)|refine aq ?_)
      apply aw [(16,_),(17,_),(18,_)];exact be
   ·repeat'(first|refine ad ?_|refine dk ?_|refine aj a1 ?_|refine bh k rfl (by simpa using hlt) ?_|refine ax (au (by simpa using hlt)) ?_|refine ax hg ?_|refine az (au (by simpa using hlt)) ?_|refine az hg ?_|refine ae (fun _=>?_) (fun _=>?_)|refine aq ?_)
    apply ak [(0,_),(1,_),(2,_),(3,_)] c5;·exact be
    ·repeat'(first|refine ad ?_|refine dk ?_|refine ae (fun _=>?_) (fun _=>?_)|refine aq ?_)
     apply ak [(0,_),(1,_),(2,_),(3,_)] c6;·exact be
     ·repeat'(first|refine ad ?_|refine dk ?_|refine ae (fun _=>?_) (fun _=>?_)|refine aq ?_)
      apply aw [(16,_),(17,_),(18,_)];exact be
  ·rw[if_neg hB] at hR;have he:x.e=0:=Nq.1 fun h=>hB (.inl h);have hB2:x.k=1→¬56<x.r.an.fs.length:=fun h1 h2=>hB (.inr ⟨h1,h2⟩);have tkG:=hug.take hp;have s1:=hs.setU j tkG;have b1:=hw.setU (c:=(w.up j).take x) hjl (Int.le_refl _);have g1:=w.up_setU hjl ((w.up j).take x);have k1:bM (w.setU j ((w.up j).take x)).p.cls id=some k:=hk;have j1:im (w.setU j ((w.up j).take x)).p.ups (w.cl k).ex.up=some j:=by rw[nn w j ((w.up j).take x) rfl,hj]
   apply bd (fun _:Unit=>True) (fun _=>⟨[(0,.op 0 0 0),(1,dI id),(5,.op 17 0 0),(6,.op 1 k 0),(7,.op 2 j 0),(8,dI (w.rpRoom k)),(9,.op 18 0 0),(10,.op 19 0 0),(11,dI x.n)],[(0,some (fG w 1 2 3)),(1,some (.buf 65 (w.p.cls.map dU))),(2,some (.buf 33 (w.p.ups.map fo))),(3,some (.buf 5 (w.out.map bn))),(17,some (.box [dI w.p.cfg.maxHead,dI w.p.cfg.maxBody,dI w.p.cfg.maxReply,dI w.p.cfg.cin,dI w.p.cfg.cout,dI w.p.cfg.clients,dI w.p.cfg.admins,dI w.p.cfg.listeners,dI w.p.cfg.stable,dI w.p.cfg.canary,dI w.p.cfg.shadow,dI w.p.cfg.tee,dI w.p.cfg.idle,dI w.p.cfg.reqd,dI w.p.cfg.shadd,dI w.p.cfg.reports,.d (.sl 1 (w.p.cfg.plan.ws.map (.i .i64))),dI w.p.cfg.plan.ms,dI w.p.cfg.plan.nu,dI w.p.cfg.plan.de,dI w.p.cfg.plan.ho,dI w.p.cfg.plan.wi,.d (.s w.p.cfg.salt),.d (.s w.p.cfg.cookie),.d (.b w.p.cfg.mirror),.d (.sl 1 (w.p.cfg.ignore.map .s))])),(18,some (.box [.d (.b x.r.rep),.d (.s x.r.meth),dI x.r.ph,.d (.s x.r.rq.m),.d (.s x.r.rq.t),dI x.r.rq.mi,.d (.sl 2 (x.r.rq.fs.map aL)),.d (.b x.r.rq.fr),.d (.sl 1 (aD x.r.rq.body)),dI x.r.an.st,.d (.s x.r.an.rs),dI x.r.an.mi,.d (.sl 2 (x.r.an.fs.map aL)),.d (.sl 1 (aD x.r.an.body)),dI x.r.fm.kd,dI x.r.fm.len,dI x.r.lf,dI x.r.sz,dI x.r.ck.ph,dI x.r.ck.lf,dI x.r.ck.tr,.d (.sl 1 (aD x.r.ck.ln))])),(19,some (.box [dI x.k,.d (.sl 1 (aD x.dat))]))],2⟩)
   ·by_cases a2:x.k=1
    ·have:=hB2 a2;repeat'(first|refine ad ?_|refine dk ?_|refine ai (fun h=>h he) ?_|refine aj a2 ?_|refine ai (by omega) ?_|refine ae (fun _=>?_) (fun _=>?_)|refine aq ?_)
     apply aC () [(17,_),(18,_),(19,_)] trivial;exact be
    ·repeat'(first|refine ad ?_|refine dk ?_|refine ai (fun h=>h he) ?_|refine ai a2 ?_|refine ae (fun _=>?_) (fun _=>?_)|refine aq ?_)
     apply aC () [(17,_),(18,_),(19,_)] trivial;exact be
   ·rintro _ _;repeat'(first|refine dk ?_|refine ah (c4) ?_|refine bh j rfl (by simpa using hjl) ?_|refine ax (au (by simpa using hjl)) ?_|refine ax hgu ?_|refine az (au (by simpa using hjl)) ?_|refine az hgu ?_)
    refine ad ?_;by_cases h1:x.k=1
    ·rw[if_pos h1] at hR;refine aj h1 ?_;have hanG:=hp.g;have hfl:0≤x.r.fm.len∧x.r.fm.len≤1000000000:=by rw[hfm he h1];exact hp.g.lf
     obtain⟨l1,l2⟩:=G6 hs.cfg hcg.ex hanG hfl;have hxr:=hcg.ex.rid;have hcl:=hs.cfg.cookieLen;have han:=hanG.an;have hrs:=hanG.anr;have f1:=A2 w.p.cfg ⟨(w.cl k).ex.rc,(w.cl k).ex.rid,(w.cl k).ex.rnew⟩ (w.cl k).ex.rq.m x.r.an x.r.fm.len (w.cl k).ex.cl (by omega) ⟨by omega,by omega⟩ (by omega) hxr;have f2:=vz (rF w.p.cfg.cookie ⟨(w.cl k).ex.rc,(w.cl k).ex.rid,(w.cl k).ex.rnew⟩ (w.cl k).ex.rq.m x.r.an x.r.fm.len (w.cl k).ex.cl) (by show x.r.an.rs.length≤_;omega) (by omega);have s2:=s1.setC k (hcg.exch (hcg.ex.answ hanG) rfl);have b2:=b1.setC (c:=(w.cl k).exch ((w.cl k).ex.answ x.r)) (k:=k) hlt (Int.le_refl _);have f3:=sO ((w.setU j ((w.up j).take x)).setC k ((w.cl k).exch ((w.cl k).ex.answ x.r))) id (vL w.p.cfg (w.cl k).ex x.r) s2 b2 (by omega);have hR2:R=(if sH x.r then(w.setU j ((w.up j).take x)).setC k ((w.cl k).exch ((w.cl k).ex.answ x.r)) else((w.setU j ((w.up j).take x)).setC k ((w.cl k).exch ((w.cl k).ex.answ x.r))).put id (vL w.p.cfg (w.cl k).ex x.r),true):=hR.symm;have ekd:sH x.r=(decide (x.r.fm.kd=3)||decide (x.r.fm.kd=4)):=rfl;clear hR;unfold vL at f3 hR2;generalize rF w.p.cfg.cookie ⟨(w.cl k).ex.rc,(w.cl k).ex.rid,(w.cl k).ex.rnew⟩ (w.cl k).ex.rq.m x.r.an x.r.fm.len (w.cl k).ex.cl=af at*;unfold di bi at f1;unfold eF bU at f1 f2;by_cases k3:x.r.fm.kd=3
     ·have ek:sH x.r=true:=by rw[ekd,decide_eq_true k3,Bool.true_or]
      rw[if_pos ek] at hR2;subst hR2;repeat'(first|refine ad ?_|refine dk ?_|refine bh k rfl (by simpa using hlt) ?_|refine ax (au (by simpa using hlt)) ?_|refine ax hg ?_|refine az (au (by simpa using hlt)) ?_|refine az hg ?_|refine aj k3 ?_|refine ae (fun _=>?_) (fun _=>?_)|refine aq ?_)
      apply aw [(16,_),(17,_),(18,_)];((repeat' constructor)<;>(first|refine aI ?_|rfl)<;>first|with_reducible rfl|(simp only[Wd.setC,Wd.setU,aQ,aP,Ns,Cl.exch,Up.take,dl.answ,ek,Bool.not_true,Bool.or_false];rfl)|(congr 1<;>omega)|(congr 1<;>simp;done)|(simp;done)|rfl|skip)
     ·by_cases k4:x.r.fm.kd=4
      ·have ek:sH x.r=true:=by rw[ekd,decide_eq_true k4,Bool.or_true]
       rw[if_pos ek] at hR2;subst hR2;repeat'(first|refine ad ?_|refine dk ?_|refine bh k rfl (by simpa using hlt) ?_|refine ax (au (by simpa using hlt)) ?_|refine ax hg ?_|refine az (au (by simpa using hlt)) ?_|refine az hg ?_|refine ai k3 ?_|refine aj k4 ?_|refine ae (fun _=>?_) (fun _=>?_)|refine aq ?_)
       apply aw [(16,_),(17,_),(18,_)];((repeat' constructor)<;>(first|refine aI ?_|rfl)<;>first|with_reducible rfl|(simp only[Wd.setC,Wd.setU,aQ,aP,Ns,Cl.exch,Up.take,dl.answ,ek,Bool.not_true,Bool.or_false];rfl)|(congr 1<;>omega)|(congr 1<;>simp;done)|(simp;done)|rfl|skip)
      ·have ek:sH x.r=false:=by rw[ekd,decide_eq_false k3,decide_eq_false k4,Bool.false_or]
       rw[if_neg (by rw[ek];simp)] at hR2;subst hR2;repeat'(first|refine ad ?_|refine dk ?_|refine bh k rfl (by simpa using hlt) ?_|refine ax (au (by simpa using hlt)) ?_|refine ax hg ?_|refine az (au (by simpa using hlt)) ?_|refine az hg ?_|refine ah (f1) ?_|refine ai k3 ?_|refine ai k4 ?_|refine ae (fun _=>?_) (fun _=>?_)|refine aq ?_)
       refine aT (ak [] f2 ?_ ?_);·exact aF
       repeat'(first|refine ad ?_|refine dk ?_|refine ae (fun _=>?_) (fun _=>?_)|refine aq ?_)
       apply ak [(0,_),(1,_),(2,_),(3,_)] f3;·((repeat' constructor)<;>(first|refine aI ?_|rfl)<;>first|with_reducible rfl|(simp only[Wd.setC,Wd.setU,aQ,aP,Ns,Cl.exch,Up.take,dl.answ,ek,Bool.not_false,Bool.or_true];rfl)|(congr 1<;>omega)|(congr 1<;>simp;done)|(simp;done)|rfl|skip)
       ·repeat'(first|refine ad ?_|refine dk ?_|refine ae (fun _=>?_) (fun _=>?_)|refine aq ?_)
        apply aw [(16,_),(17,_),(18,_)];exact be
    ·rw[if_neg h1] at hR;refine ai h1 ?_;by_cases h2:x.k=2
     ·rw[if_pos h2] at hR;have hd0:=hp.dat;have hd1:=hp.n.2;have hd2:=hug.po.il;have hd3:=hp.szd he h1;have hd4:=hp.g.sz;have hd5:=hcg.ex.size;have hd6:=hcg.ex.store;have hd7:=hcg.ex.dg;have hdl:=aK x.dat;have hsl:=aK (w.cl k).ex.store;have f1:=EE (w.cl k).ex.dg x.dat (by omega) (by omega);have s2:=s1.setC k (hcg.exch (hcg.ex.part (d:=x.dat) (by omega)) rfl);have b2:=b1.setC (c:=(w.cl k).exch ((w.cl k).ex.part x.dat)) (k:=k) hlt (Int.le_refl _);have f3:=sO ((w.setU j ((w.up j).take x)).setC k ((w.cl k).exch ((w.cl k).ex.part x.dat))) id x.dat s2 b2 (by omega);have hR2:R=(if(w.cl k).ex.sto then(w.setU j ((w.up j).take x)).setC k ((w.cl k).exch ((w.cl k).ex.part x.dat)) else((w.setU j ((w.up j).take x)).setC k ((w.cl k).exch ((w.cl k).ex.part x.dat))).put id x.dat,true):=hR.symm;clear hR;generalize hdg:(w.cl k).ex.dg.add x.dat=dg2 at*;refine aj h2 ?_;repeat'(first|refine ad ?_|refine dk ?_|refine bh k rfl (by simpa using hlt) ?_|refine ax (au (by simpa using hlt)) ?_|refine ax hg ?_|refine az (au (by simpa using hlt)) ?_|refine az hg ?_|refine ah (f1) ?_|refine aq ?_|refine ae (fun _=>?_) (fun _=>?_)|refine aq ?_)
      refine gG (fun hst=>?_) (fun hst=>?_)
      ·rw[if_pos hst] at hR2;subst hR2;repeat'(first|refine ad ?_|refine dk ?_|refine bh k rfl (by simpa using hlt) ?_|refine ax (au (by simpa using hlt)) ?_|refine ax hg ?_|refine az (au (by simpa using hlt)) ?_|refine az hg ?_|refine aB (by simp;omega) ?_|refine ae (fun _=>?_) (fun _=>?_)|refine aq ?_)
       apply aw [(16,_),(17,_),(18,_)];((repeat' constructor)<;>(first|refine aI ?_|rfl)<;>first|with_reducible rfl|(simp only[Wd.setC,Wd.setU,aQ,aP,Ns,Cl.exch,Up.take,dl.part,hst,if_true,cU,List.nil_append,hdg,hdl];rfl)|(congr 1<;>omega)|(congr 1<;>simp;done)|(simp;done)|rfl|skip)
      ·rw[if_neg (by rw[hst];simp)] at hR2;subst hR2;repeat'(first|refine ad ?_|refine dk ?_|refine bh k rfl (by simpa using hlt) ?_|refine ax (au (by simpa using hlt)) ?_|refine ax hg ?_|refine az (au (by simpa using hlt)) ?_|refine az hg ?_|refine ae (fun _=>?_) (fun _=>?_)|refine aq ?_)
       apply ak [(0,_),(1,_),(2,_),(3,_)] f3;·((repeat' constructor)<;>(first|refine aI ?_|rfl)<;>first|with_reducible rfl|(simp only[Wd.setC,Wd.setU,aQ,aP,Ns,Cl.exch,Up.take,dl.part,hst,Bool.false_eq_true,if_false,hdg,hdl];rfl)|(congr 1<;>omega)|(congr 1<;>simp;done)|(simp;done)|rfl|skip)
       ·repeat'(first|refine ad ?_|refine dk ?_|refine ae (fun _=>?_) (fun _=>?_)|refine aq ?_)
        apply aw [(16,_),(17,_),(18,_)];exact be
     ·rw[if_neg h2] at hR;refine ai h2 ?_;by_cases h3:x.k=3
      ·rw[if_pos h3] at hR;subst hR;have f1:=tL (w.setU j ((w.up j).take x)) k j id s1 b1 (by omega) k1 j1;refine aj h3 ?_;repeat'(first|refine ad ?_|refine dk ?_|refine bh k rfl (by simpa using hlt) ?_|refine ax (au (by simpa using hlt)) ?_|refine ax hg ?_|refine az (au (by simpa using hlt)) ?_|refine az hg ?_|refine ae (fun _=>?_) (fun _=>?_)|refine aq ?_)
       apply ak [(0,_),(1,_),(2,_),(3,_)] f1;·((repeat' constructor)<;>(first|refine aI ?_|rfl)<;>first|with_reducible rfl|(simp only[Wd.setU,aP,Ns,Up.take];rfl)|(congr 1<;>omega)|(congr 1<;>simp;done)|(simp;done)|rfl|skip)
       ·repeat'(first|refine ad ?_|refine dk ?_|refine ae (fun _=>?_) (fun _=>?_)|refine aq ?_)
        apply aw [(16,_),(17,_),(18,_)];exact be
      ·rw[if_neg h3] at hR;refine ai h3 ?_;by_cases h0:x.k=0
       ·rw[if_pos h0] at hR;refine aj h0 ?_;unfold Wd.rpNone at hR;rw[g1] at hR;by_cases hn0:0<x.n
        ·rw[if_pos hn0] at hR;subst hR;repeat'(first|refine ad ?_|refine dk ?_|refine aj hn0 ?_|refine ae (fun _=>?_) (fun _=>?_)|refine aq ?_)
         apply aw [(16,_),(17,_),(18,_)];((repeat' constructor)<;>(first|refine aI ?_|rfl)<;>first|with_reducible rfl|(simp only[Wd.setU,aP,Ns,Up.take];rfl)|(congr 1<;>omega)|(congr 1<;>simp;done)|(simp;done)|rfl|skip)
        ·rw[if_neg hn0] at hR;by_cases hr0:w.rpRoom k=0
         ·rw[if_pos (.inl hr0)] at hR;subst hR;repeat'(first|refine ad ?_|refine dk ?_|refine ai hn0 ?_|refine aj hr0 ?_|refine bh j rfl (by simpa using hjl) ?_|refine ax (au (by simpa using hjl)) ?_|refine ax hgu ?_|refine az (au (by simpa using hjl)) ?_|refine az hgu ?_|refine ae (fun _=>?_) (fun _=>?_)|refine aq ?_)
          apply aw [(16,_),(17,_),(18,_)];((repeat' constructor)<;>(first|refine aI ?_|rfl)<;>first|with_reducible rfl|(simp only[Wd.setU,aP,Ns,Up.take];rfl)|(congr 1<;>omega)|(congr 1<;>simp;done)|(simp;done)|rfl|skip)
         ·have f1:=tL (w.setU j ((w.up j).take x)) k j id s1 b1 (by omega) k1 j1;have f2:=BX x.r;have f3:=qm (w.setU j ((w.up j).take x)) (w.cl k).ex.up false s1 b1;have f4:=Bb ((w.setU j ((w.up j).take x)).drop (w.cl k).ex.up false) k id 502 (s1.drop _ _) (b1.drop (by omega) _ _) (by omega) (by rw[eh,k1]);have hR2:R=(if w.rpRoom k=0∨((w.up j).take x).po.ended=false then(w.setU j ((w.up j).take x),false) else if ze x.r then((w.setU j ((w.up j).take x)).complete k j id,true) else(((w.setU j ((w.up j).take x)).drop (w.cl k).ex.up false).fail k id 502,true)):=hR.symm;clear hR c1 c2 c3 c5 c6 hp hfm hX hXv hsz g1 tkG hug hjd s1 b1 j1 k1;unfold gr bZ at f2;generalize w.up j=u at*;obtain⟨⟨pid,pcls,inn,out,bud,en,clo⟩,opn,cli,rd⟩:=u;cases en
          ·rw[if_pos (.inr rfl)] at hR2;subst hR2;repeat'(first|refine ad ?_|refine dk ?_|refine ai hn0 ?_|refine ai hr0 ?_|refine bh j rfl (by simpa using hjl) ?_|refine ax (au (by simpa using hjl)) ?_|refine ax hgu ?_|refine az (au (by simpa using hjl)) ?_|refine az hgu ?_|refine ae (fun _=>?_) (fun _=>?_)|refine aq ?_)
           apply aw [(16,_),(17,_),(18,_)];((repeat' constructor)<;>(first|refine aI ?_|rfl)<;>first|with_reducible rfl|(simp only[Wd.setU,aP,Ns,Up.take];rfl)|(congr 1<;>omega)|(congr 1<;>simp;done)|(simp;done)|rfl|skip)
          ·rw[if_neg (by rintro(h|h);exact hr0 h;cases h)] at hR2;generalize ze x.r=fv at*;cases fv
           ·simp only[Bool.false_eq_true,if_false] at hR2;subst hR2;repeat'(first|refine ad ?_|refine dk ?_|refine ah (f2) ?_|refine ai hn0 ?_|refine ai hr0 ?_|refine bh j rfl (by simpa using hjl) ?_|refine ax (au (by simpa using hjl)) ?_|refine ax hgu ?_|refine az (au (by simpa using hjl)) ?_|refine az hgu ?_|refine bh k rfl (by simpa using hlt) ?_|refine ax (au (by simpa using hlt)) ?_|refine ax hg ?_|refine az (au (by simpa using hlt)) ?_|refine az hg ?_|refine ae (fun _=>?_) (fun _=>?_)|refine aq ?_)
            apply ak [(0,_),(1,_),(2,_),(3,_)] f3;·((repeat' constructor)<;>(first|refine aI ?_|rfl)<;>first|with_reducible rfl|(simp only[Wd.setU,aP,Ns,Up.take];rfl)|(congr 1<;>omega)|(congr 1<;>simp;done)|(simp;done)|rfl|skip)
            ·repeat'(first|refine ad ?_|refine dk ?_|refine ae (fun _=>?_) (fun _=>?_)|refine aq ?_)
             apply ak [(0,_),(1,_),(2,_),(3,_)] f4;·((repeat' constructor)<;>(first|refine aI ?_|rfl)<;>first|with_reducible rfl|(simp only[Wd.setC,Wd.setU,Wd.act,aQ,aP,Ns,Ng,Up.take];rfl)|(congr 1<;>omega)|(congr 1<;>simp;done)|(simp;done)|rfl|skip)
             ·repeat'(first|refine ad ?_|refine dk ?_|refine ae (fun _=>?_) (fun _=>?_)|refine aq ?_)
              apply aw [(16,_),(17,_),(18,_)];exact be
           ·simp only[if_true] at hR2;subst hR2;repeat'(first|refine ad ?_|refine dk ?_|refine ah (f2) ?_|refine ai hn0 ?_|refine ai hr0 ?_|refine bh j rfl (by simpa using hjl) ?_|refine ax (au (by simpa using hjl)) ?_|refine ax hgu ?_|refine az (au (by simpa using hjl)) ?_|refine az hgu ?_|refine bh k rfl (by simpa using hlt) ?_|refine ax (au (by simpa using hlt)) ?_|refine ax hg ?_|refine az (au (by simpa using hlt)) ?_|refine az hg ?_|refine ae (fun _=>?_) (fun _=>?_)|refine aq ?_)
            apply ak [(0,_),(1,_),(2,_),(3,_)] f1;·((repeat' constructor)<;>(first|refine aI ?_|rfl)<;>first|with_reducible rfl|(simp only[Wd.setU,aP,Ns,Up.take];rfl)|(congr 1<;>omega)|(congr 1<;>simp;done)|(simp;done)|rfl|skip)
            ·repeat'(first|refine ad ?_|refine dk ?_|refine ae (fun _=>?_) (fun _=>?_)|refine aq ?_)
             apply aw [(16,_),(17,_),(18,_)];exact be
       ·rw[if_neg h0] at hR;subst hR;refine ai h0 ?_;repeat'(first|refine ad ?_|refine dk ?_|refine ae (fun _=>?_) (fun _=>?_)|refine aq ?_)
        apply aw [(16,_),(17,_),(18,_)];((repeat' constructor)<;>(first|refine aI ?_|rfl)<;>first|with_reducible rfl|(simp only[Wd.setU,aP,Ns,Up.take];rfl)|(congr 1<;>omega)|(congr 1<;>simp;done)|(simp;done)|rfl|skip)
end Go.Proofs.YtgfdbddglhblbaaGreat

/- A part of the proof of what is stated of the erasing of a mirror. -/
import Derived.Test.YtgfdbddglhblbaaGreatQbd
set_option maxHeartbeats 64000000
namespace Go.Proofs.YtgfdbddglhblbaaGreat
open Go.Eng
attribute [local irreducible] aO
set_option maxRecDepth 100000
theorem Wd.J.setU {c:bk}{w:Wd}{e:Int}(h:w.J c e){j:Nat}(hj:j<w.p.ups.length){u:Up}(hid:u.po.id=(w.up j).po.id)(hcli:u.cli=(w.up j).cli)(hopn:(w.up j).opn=true→u.opn=true)(hg:u.Gd)(hK:u.K c)(hsz:u.rd.sz=(w.up j).rd.sz∨(w.up j).cli=e):(w.setU j u).J c e:=by
 have e0:w.up j=w.p.ups[j]:=cx hj _;have hum:=w.up_mem hj;have hm:∀y,y∈(w.setU j u).p.ups↔y=u∨(y∈w.p.ups∧y.po.id≠(w.up j).po.id):=fun y=>by have:=eM (f:=fun x:Up=>x.po.id) h.un hj (a:=u) (x:=y);rw[←e0] at this;exact this
 have old:∀y,y∈w.p.ups→y.po.id=(w.up j).po.id→y=w.up j:=fun y hy e=>eY h.un hy hum e;refine⟨h.s.setU j hg,h.cfg,h.cn,qV h.un (fun _=>by rw[hid,e0]),h.ck,fun y hy=>?_,h.ba,h.qu,fun y hy=>?_,fun i hi=>?_,fun x hx hne hs=>?_,fun y hy hc=>?_⟩
 ·rcases (hm y).1 hy with rfl|⟨hy,_⟩;·exact hK
  ·exact h.uk y hy
 ·rcases (hm y).1 hy with rfl|⟨hy,_⟩;·rw[hid];exact h.pl _ hum
  ·exact h.pl y hy
 ·obtain⟨y,hy,g1,g2⟩:=h.il i hi;by_cases hyi:y.po.id=(w.up j).po.id;·have:=old y hy hyi;subst this;exact⟨u,(hm u).2 (.inl rfl),by rw[hid];exact g1,by rw[hcli];exact g2⟩
  ·exact⟨y,(hm y).2 (.inr ⟨hy,hyi⟩),g1,g2⟩
 ·obtain⟨y,hy,l⟩:=h.cu x hx hne hs;by_cases hyi:y.po.id=(w.up j).po.id
  ·have:=old y hy hyi;subst this;refine⟨u,(hm u).2 (.inl rfl),by rw[hid];exact l.1,by rw[hcli];exact l.2.1,?_,fun h3=>hopn (l.2.2.2 h3)⟩;rcases hsz with hsz|hsz;·rw[hsz];exact l.2.2.1
   ·exact absurd (l.2.1.symm.trans hsz) hne
  ·exact⟨y,(hm y).2 (.inr ⟨hy,hyi⟩),l⟩
 ·rcases (hm y).1 hy with rfl|⟨hy,_⟩;·obtain⟨x,hx,g1,g2,g3⟩:=h.uc _ hum (by rw[←hcli];exact hc);exact⟨x,hx,by rw[hcli];exact g1,by rw[hid];exact g2,g3⟩
  ·exact h.uc y hy hc
theorem Wd.J.setCl {c:bk}{w:Wd}{e:Int}(h:w.J c e){k:Nat}(hk:k<w.p.cls.length){x:Cl}(hid:x.po.id=(w.cl k).po.id)(hg:x.Gd)(hK:x.K c)(hl:∃u,u∈w.p.ups∧CW x u)(huc:∀u,u∈w.p.ups→u.cli=x.po.id→x.ex.up=u.po.id∧(x.ex.st=2∨x.ex.st=3))(he:e=x.po.id):(w.setC k x).J c 0:=by
 have h1:=h.setC hk hid hg hK (fun hne _=>absurd he.symm hne) huc;refine{h1 with cu:=fun y hy _ hs=>?_};by_cases hye:y.po.id=e
 ·have e0:w.cl k=w.p.cls[k]:=cx hk _;rcases (eM (f:=fun x:Cl=>x.po.id) h.cn hk).1 hy with rfl|⟨_,hne⟩;·exact hl
  ·rw[←e0] at hne;exact absurd (by rw[hye,he,hid]) hne
 ·exact h1.cu y hy hye hs
theorem Up.K.take {c:bk}{u:Up}(h:u.K c){y:jQ}(ht:BL c.maxHead c.maxReply y)(he:y.e=0):(u.take y).K c:=⟨h.cls,h.cap,h.ocap,h.idle,ht.t he⟩
theorem wG {c:bk}{w:Wd}(h:w.J c 0){k j:Nat}(_h1:k<w.p.cls.length)(hj:j<w.p.ups.length):dx (w.up j).rd (w.up j).po.inn.dat (w.rpX k j)∧BL c.maxHead c.maxReply (w.rpX k j):=by have hm:=w.up_mem hj;have hG:=h.s.ug _ hm;have hmr:=h.s.cfg.maxReply;refine⟨gM _ _ _ _ _ hG.rd hG.po.il (by omega),?_⟩;have:=Ft (w.up j).rd (w.up j).po.inn.dat w.p.cfg.maxHead w.p.cfg.maxReply (w.rpRoom k) (by rw[h.cfg];exact(h.uk _ hm).rt) hmr.1;unfold Wd.rpX;rw[h.cfg] at this⊢;exact this
theorem Wd.Kp.lose (w:Wd){k:Nat}{id:Int}(hk:bM w.p.cls id=some k)(st:Int):Wd.Kp w (w.lose k id st) k:=by have h1:=Wd.Kp.drop w k (w.cl k).ex.up false;exact h1.trans (.fail _ (by rw[h1.ids,hk]) st)
theorem Wd.rank_lose (w:Wd){k:Nat}{id:Int}(hk:bM w.p.cls id=some k)(st:Int):((w.lose k id st).cl k).rank≤1:=Wd.rank_fail _ (by rw[eh,hk]) st
theorem Wd.B.lose {w:Wd}{n:Nat}(hs:w.S)(b:w.B n)(hl:n+3≤10000000000){k:Nat}{id:Int}(hk:bM w.p.cls id=some k)(st:Int):(w.lose k id st).B (n+3):=(b.drop (by omega) _ _).fail (hs.drop _ _) (by omega) (by rw[eh,hk]) st
theorem Wd.J.reply {c:bk}{w:Wd}(h:w.J c 0){k j:Nat}{id:Int}(hk:bM w.p.cls id=some k)(h3:(w.cl k).ex.st=3)(hc:(w.cl k).po.closing=false)(hj:im w.p.ups (w.cl k).ex.up=some j):Wd.Rd c w (w.reply k j id) k:=by
 obtain⟨hlt,hid⟩:=aR hk;have hid:(w.cl k).po.id=id:=hid;have hm:=w.cl_mem hlt;have hK:=h.ck _ hm;have hG:=h.s.cg _ hm;have hid0:(w.cl k).po.id≠0:=by have:=hK.id;omega
 obtain⟨j',hj',hjl,l⟩:=h.link hm hid0 (.inr h3);rw[hj] at hj';cases hj';have hum:=w.up_mem hjl;have hUK:=h.uk _ hum;have hUG:=h.s.ug _ hum;obtain⟨hp,ht⟩:=wG h hlt hjl;have hr2:(w.cl k).rank=2:=by unfold Cl.rank;rw[if_neg (by rw[hc];simp),if_pos (.inr h3)]
 unfold Wd.reply;generalize hX:w.rpX k j=x at*;split;·exact .mk' (h.lose hk (.inr h3) 502) (.lose w hk 502) fun _=>Wd.mu_rk (.lose w hk 502) (by have:=w.rank_lose hk 502;omega)
 ·rename_i hB;have he:x.e=0:=Nq.1 fun g=>hB (.inl g);have hel:=pB hUG.po x.n hp.n.1 hp.n.2;have hlen:((w.up j).take x).po.inn.dat.length≤(w.up j).po.inn.dat.length:=by show((w.up j).po.eat x.n).inn.dat.length≤_;have:=hp.n;omega
  have kp1:=Wd.Kp.setU w k hjl ((w.up j).take x) hlen;have iu1:=w.inU_setU hjl ((w.up j).take x);have iu2:(((w.setU j ((w.up j).take x)).inU:Nat):Int)=(w.inU:Int)-x.n:=by have:(((w.up j).take x).po.inn.dat.length:Int)=((w.up j).po.inn.dat.length:Int)-x.n:=hel;omega
  have g1:=w.up_setU hjl ((w.up j).take x);have tG:=hUG.take hp;have tK:=hUK.take ht he;have k1:bM (w.setU j ((w.up j).take x)).p.cls id=some k:=hk;have c1:(w.setU j ((w.up j).take x)).cl k=w.cl k:=rfl;have j1:im (w.setU j ((w.up j).take x)).p.ups (w.cl k).ex.up=some j:=by rw[nn w j ((w.up j).take x) rfl,hj]
  have hsz0:x.k≠2→((w.up j).take x).rd.sz=(w.up j).rd.sz:=by
   intro h2;show x.r.sz=(w.up j).rd.sz;by_cases hk1:x.k=1;·rw[hp.szh he hk1,hUK.rt.ph (hp.head he hk1).1]
   ·rw[hp.szd he hk1,ht.dat he h2];simp
  have J1:x.k≠2→(w.setU j ((w.up j).take x)).J c 0:=fun h2=>h.setU hjl (u:=(w.up j).take x) rfl rfl (fun g=>g) tG tK (.inl (hsz0 h2));split
  ·rename_i hk1;have jj:=J1 (by omega);have hn:=(hp.head he hk1).2.2;have j2:=jj.setCx hlt (x:=(w.cl k).exch ((w.cl k).ex.answ x.r)) rfl (hG.exch (hG.ex.answ hp.g) rfl) ⟨hK.id,hK.cap,hK.clo,hK.st,hK.size,hK.rt,hK.rep,hK.hm,hK.ht,hK.hf⟩ rfl rfl rfl;have kp2:=Wd.Kp.setC (w.setU j ((w.up j).take x)) hlt ((w.cl k).exch ((w.cl k).ex.answ x.r)) rfl (Nat.le_refl _);have hR:(w.setU j ((w.up j).take x)).rpHead k id x.r=if sH x.r then(w.setU j ((w.up j).take x)).setC k ((w.cl k).exch ((w.cl k).ex.answ x.r)) else((w.setU j ((w.up j).take x)).setC k ((w.cl k).exch ((w.cl k).ex.answ x.r))).put id (vL w.p.cfg (w.cl k).ex x.r):=rfl;rw[hR];split;·exact .mk' j2 (kp1.trans kp2) fun _=>Wd.mu_lt kp2 (by rw[c1];omega)
   ·have kp3:=Wd.Kp.put _ (k:=k) (id:=id) (by rw[kp2.ids,k1]) (vL w.p.cfg (w.cl k).ex x.r);exact .mk' (j2.put _ _) ((kp1.trans kp2).trans kp3) fun _=>Wd.mu_lt (kp2.trans kp3) (by rw[c1];omega)
  ·rename_i hk1;split
   ·rename_i hk2;have hn:=(hp.data he hk2).2.2;have hszd:=hp.szd he hk1;have hd4:=hp.g.sz;have hd5:=hG.ex.size;have jj:=(h.up id).setU hjl (u:=(w.up j).take x) rfl rfl (fun g=>g) tG tK (.inr (by rw[l.2.1,hid]));have lsz:=l.2.2.1;have j2:=jj.setCl hlt (x:=(w.cl k).exch ((w.cl k).ex.part x.dat)) rfl (hG.exch (hG.ex.part (d:=x.dat) (by omega)) rfl)
     ⟨hK.id,hK.cap,hK.clo,hK.st,fun _ g3=>absurd h3 g3,hK.rt,hK.rep,hK.hm,hK.ht,hK.hf⟩
     ⟨(w.up j).take x,by show _∈w.p.ups.set j _;exact List.mem_iff_getElem.2 ⟨j,by simpa using hjl,by simp⟩,l.1,l.2.1,by show(w.cl k).ex.size+(x.dat.length:Int)=x.r.sz;omega,l.2.2.2⟩
     (fun u hu hcu=>by
      have hcu:u.cli=id:=hcu.trans hid;have e0:w.up j=w.p.ups[j]:=cx hjl _;refine⟨?_,.inr h3⟩;show(w.cl k).ex.up=u.po.id;rcases (eM (f:=fun x:Up=>x.po.id) h.un hjl).1 hu with rfl|⟨hu,hne⟩;·exact l.1.symm
      ·exfalso;have:=h.uniq hu hum (by rw[hcu,l.2.1,hid]) (by rw[hcu,←hid];exact hid0);rw[this,e0] at hne;exact hne rfl) hid.symm;have kp2:=Wd.Kp.setC (w.setU j ((w.up j).take x)) hlt ((w.cl k).exch ((w.cl k).ex.part x.dat)) rfl (Nat.le_refl _);have hR:(w.setU j ((w.up j).take x)).rpData k id x.dat=if(w.cl k).ex.sto then(w.setU j ((w.up j).take x)).setC k ((w.cl k).exch ((w.cl k).ex.part x.dat)) else((w.setU j ((w.up j).take x)).setC k ((w.cl k).exch ((w.cl k).ex.part x.dat))).put id x.dat:=rfl;rw[hR];split;·exact .mk' j2 (kp1.trans kp2) fun _=>Wd.mu_lt kp2 (by rw[c1];omega)
    ·have kp3:=Wd.Kp.put _ (k:=k) (id:=id) (by rw[kp2.ids,k1]) x.dat;exact .mk' (j2.put _ _) ((kp1.trans kp2).trans kp3) fun _=>Wd.mu_lt (kp2.trans kp3) (by rw[c1];omega)
   ·rename_i hk2;have jj:=J1 hk2;have jc:=jj.complete k1 h3 j1;have kpc:=kp1.trans (Wd.Kp.complete (w.setU j ((w.up j).take x)) k1 (j:=j) (by show j<(w.p.ups.set j _).length;rw[List.length_set];exact hjl));have rkc:=Wd.rank_complete (w.setU j ((w.up j).take x)) k1 (j:=j) (by show j<(w.p.ups.set j _).length;rw[List.length_set];exact hjl);split;·exact .mk' jc kpc fun _=>Wd.mu_rk kpc (by omega)
    ·split
     ·unfold Wd.rpNone;split;·rename_i hn;exact .mk' jj kp1 fun _=>Wd.mu_lt (.refl _ _) (by rw[c1];omega)
      ·split;·exact .mk' jj kp1 fun h=>by cases h
       ·split;·exact .mk' jc kpc fun _=>Wd.mu_rk kpc (by omega)
        ·have kpl:=kp1.trans (Wd.Kp.lose (w.setU j ((w.up j).take x)) k1 502);exact .mk' (jj.lose k1 (.inr h3) 502) kpl fun _=>Wd.mu_rk kpl (by have:=Wd.rank_lose (w.setU j ((w.up j).take x)) k1 502;omega)
     ·rename_i hk3 hk0;have hn:1≤x.n:=by
       rcases hp.k with g|g|g|g|g;·exact absurd g hk0
       ·exact absurd g hk1
       ·exact absurd g hk2
       ·exact absurd g hk3
       ·have:=(hp.inter he g).2.2.1;omega
      exact .mk' jj kp1 fun _=>Wd.mu_lt (.refl _ _) (by rw[c1];omega)
theorem Wd.B.reply {c:bk}{w:Wd}(h:w.J c 0){n:Nat}(b:w.B n)(hl:n+4≤10000000000){k j:Nat}{id:Int}(hk:bM w.p.cls id=some k)(h3:(w.cl k).ex.st=3)(hj:im w.p.ups (w.cl k).ex.up=some j):(w.reply k j id).1.B (n+4):=by
 obtain⟨hlt,hid⟩:=aR hk;have hm:=w.cl_mem hlt;have hK:=h.ck _ hm;have hG:=h.s.cg _ hm;obtain⟨j',hj',hjl,l⟩:=h.link hm (by have:=hK.id;omega) (.inr h3);rw[hj] at hj';cases hj';have hUG:=h.s.ug _ (w.up_mem hjl);obtain⟨hp,ht⟩:=wG h hlt hjl;unfold Wd.reply;generalize w.rpX k j=x at*;split;·exact(b.lose h.s (by omega) hk 502).up (by omega) hl
 ·rename_i hB;have he:x.e=0:=Nq.1 fun g=>hB (.inl g);have b1:=b.setU hjl (c:=(w.up j).take x) (Int.le_refl _);have s1:=h.s.setU j (hUG.take hp);have k1:bM (w.setU j ((w.up j).take x)).p.cls id=some k:=hk;have hjl1:j<(w.setU j ((w.up j).take x)).p.ups.length:=by show j<(w.p.ups.set j _).length;rw[List.length_set];exact hjl
  split
  ·have b2:=b1.setC (k:=k) hlt (c:=(w.cl k).exch ((w.cl k).ex.answ x.r)) (Int.le_refl _);have s2:=s1.setC k (hG.exch (hG.ex.answ hp.g) rfl);have hR:(w.setU j ((w.up j).take x)).rpHead k id x.r=if sH x.r then(w.setU j ((w.up j).take x)).setC k ((w.cl k).exch ((w.cl k).ex.answ x.r)) else((w.setU j ((w.up j).take x)).setC k ((w.cl k).exch ((w.cl k).ex.answ x.r))).put id (vL w.p.cfg (w.cl k).ex x.r):=rfl;rw[hR];split;·exact b2.up (by omega) hl
   ·exact(b2.put s2 (by omega) _ _).up (by omega) hl
  ·rename_i hk1;split
   ·have hszd:=hp.szd he hk1;have hd4:=hp.g.sz;have lsz:=l.2.2.1;have b2:=b1.setC (k:=k) hlt (c:=(w.cl k).exch ((w.cl k).ex.part x.dat)) (Int.le_refl _);have s2:=s1.setC k (hG.exch (hG.ex.part (d:=x.dat) (by omega)) rfl);have hR:(w.setU j ((w.up j).take x)).rpData k id x.dat=if(w.cl k).ex.sto then(w.setU j ((w.up j).take x)).setC k ((w.cl k).exch ((w.cl k).ex.part x.dat)) else((w.setU j ((w.up j).take x)).setC k ((w.cl k).exch ((w.cl k).ex.part x.dat))).put id x.dat:=rfl;rw[hR];split;·exact b2.up (by omega) hl
    ·exact(b2.put s2 (by omega) _ _).up (by omega) hl
   ·have bc:=(b1.complete s1 (by omega) k1 hjl1).up (m:=n+4) (by omega) hl;split;·exact bc
    ·split
     ·unfold Wd.rpNone;split;·exact b1.up (by omega) hl
      ·split;·exact b1.up (by omega) hl
       ·split;·exact bc
        ·exact(b1.lose s1 (by omega) k1 502).up (by omega) hl
     ·exact b1.up (by omega) hl
def Wd.jU (w:Wd)(k:Nat):Nat:=(im w.p.ups (w.cl k).ex.up).getD 0
noncomputable def jG:Nat→Wd→Int→Wd|0,w,_=>w|n+1,w,id=>match bM w.p.cls id with|none=>w|some k=>if(w.cl k).po.closing=true then(if(w.cl k).po.out.dat=[] then w.hang id false else w)else if(w.cl k).ex.st=0∧0<(w.cl k).po.out.dat.length then w else if(w.cl k).ex.st=0∨(w.cl k).ex.st=1 then(if(w.request k id).2=true then jG n (w.request k id).1 id else(w.request k id).1)else if(w.cl k).ex.st=2 then w else(if(w.reply k (w.jU k) id).2=true then jG n (w.reply k (w.jU k) id).1 id else(w.reply k (w.jU k) id).1)
theorem Wd.J.st3 {c:bk}{w:Wd}(h:w.J c 0){k:Nat}(hlt:k<w.p.cls.length)(h3:(w.cl k).ex.st=3):im w.p.ups (w.cl k).ex.up=some (w.jU k)∧CW (w.cl k) (w.up (w.jU k))∧w.jU k<w.p.ups.length:=by
 have hm:=w.cl_mem hlt;have hK:=h.ck _ hm;obtain⟨j,hj,hjl,l⟩:=h.link hm (by have:=hK.id;omega) (.inr h3);have:w.jU k=j:=by unfold Wd.jU;rw[hj];rfl
 rw[this];exact⟨hj,l,hjl⟩
structure Wd.Go (c:bk)(w w':Wd)(m:Nat):Prop where
 j:w'.J c 0
 b:w'.B m
 now:w'.p.now=w.p.now
 len:w'.p.cls.length≤w.p.cls.length
 ro:Wd.Rk w w'
theorem pI (w:Wd)(id:Int)(q:Bool):(w.hang id q).p.ro=w.p.ro:=by unfold Wd.hang;cases bM w.p.cls id<;>rfl
theorem Wd.B.hang {w:Wd}{n:Nat}(b:w.B n)(hl:n+1≤10000000000)(id:Int)(q:Bool):(w.hang id q).B (n+1):=by unfold Wd.hang;cases bM w.p.cls id with|none=>exact b.up (by omega) hl;|some k=>
 refine⟨hl,?_,?_⟩;·have:=b.ol;show(w.out++_).length≤_;cases q<;>simp<;>omega
 ·have h2:=b.ph;have h3:=u4 (w.p.cls.map fun u=>u.po.bud.toNat) k;have e1:(w.hangC k id q).bo=w.bo:=by show((w.out++_).map _).sum=_;cases q<;>simp[Wd.bo]
  have e2:(w.hangC k id q).bu=w.bu:=rfl;have e3:(w.hangC k id q).bc≤w.bc:=by show((w.p.cls.take k++w.p.cls.drop (k+1)).map _).sum≤_;rw[Ng,List.map_take,List.map_drop];exact h3
  show(w.hangC k id q).phi≤_;unfold Wd.phi at*;omega
theorem nY {c:bk}(hM:jK c){id:Int}:∀(f:Nat){w:Wd}{n:Nat},w.J c 0→w.B n→n+4*f+1≤10000000000→Wd.Go c w (jG f w id) (n+4*f+1)|0,w,n,h,b,hl=>⟨h,b.up (by omega) hl,rfl,Nat.le_refl _,.refl _⟩|f+1,w,n,h,b,hl=>by have stay:Wd.Go c w w (n+4*(f+1)+1):=⟨h,b.up (by omega) hl,rfl,Nat.le_refl _,.refl _⟩;unfold jG;cases hk:bM w.p.cls id with|none=>exact stay;|some k=>
 obtain⟨hlt,hid⟩:=aR hk;have hid:(w.cl k).po.id=id:=hid;have hK:=h.ck _ (w.cl_mem hlt);simp only;split
 ·rename_i hcl;split;·have hn:=h.noup (w.cl_mem hlt) (by rw[hK.clo hcl];omega);rw[hid] at hn;have hr:=kz w id false;exact⟨h.hang id false hn (.inl rfl),(b.hang (by omega) id false).up (by omega) hl,hr.2.2.2.2.1,hr.2.2.2.2.2,.same hr.2.2.2.1 (pI _ _ _)⟩
  ·exact stay
 ·rename_i hcl;have hcl:(w.cl k).po.closing=false:=by simpa using hcl
  split;·exact stay
  ·split
   ·rename_i h01;have r:=h.request hM hk (by omega) hcl;have rb:=Wd.B.request h hM b (by omega) hk;split;·have g:=nY hM f (id:=id) r.j rb (by omega);exact⟨g.j,g.b.up (by omega) hl,g.now.trans r.now,Nat.le_trans g.len (Nat.le_of_eq r.len),r.ro.trans g.ro⟩
    ·exact⟨r.j,rb.up (by omega) hl,r.now,Nat.le_of_eq r.len,r.ro⟩
   ·split;·exact stay
    ·rename_i h01 h2;have h3:(w.cl k).ex.st=3:=by have:=hK.st;omega
     obtain⟨hj,l,hjl⟩:=h.st3 hlt h3;have r:=h.reply hk h3 hcl hj;have rb:=Wd.B.reply h b (by omega) hk h3 hj;split;·have g:=nY hM f (id:=id) r.j rb (by omega);exact⟨g.j,g.b.up (by omega) hl,g.now.trans r.now,Nat.le_trans g.len (Nat.le_of_eq r.len),r.ro.trans g.ro⟩
     ·exact⟨r.j,rb.up (by omega) hl,r.now,Nat.le_of_eq r.len,r.ro⟩
theorem Lr {c:bk}{w:Wd}(h:w.J c 0)(hM:jK c){k:Nat}(hk:k<w.p.cls.length):(w.rqX k).e=0→(w.rqX k).k=3→(w.cl k).po.cls=1→∀p to fr,fZ (w.poolOf (w.cl k).ex.rc)=some (p,to,fr)→im (w.fw1 (w.cl k).ex.rc p to fr).p.ups to=some ((w.setC k ((w.cl k).take (w.rqX k))).jF k):=by intro he h3 _ p to fr ha;obtain⟨hp,ht⟩:=qM h hk;have j1:=h.take hk hp ht he;have g1:=w.cl_setC hk ((w.cl k).take (w.rqX k));have:=Eb j1 hM k p to fr (by rw[g1];exact ha);rw[g1,xA] at this;exact this
theorem Wd.J.ids {c:bk}{w:Wd}(h:w.J c 0){id:Int}{k:Nat}(hk:bM w.p.cls id=some k):fT id:=by obtain⟨hlt,hid⟩:=aR hk;have:=(h.ck _ (w.cl_mem hlt)).id;have hid:(w.cl k).po.id=id:=hid;rw[hid] at this;exact⟨by omega,by omega⟩
theorem goOnR (w:Wd)(id:Int){c:bk}(hM:jK c){n f:Nat}(h:w.J c 0)(hw:w.B n)(hn:n+4*f+40≤10000000000)(hf:∀k,bM w.p.cls id=some k→w.mu k<f):aH (CG G) 82 [.op 0 0 0,dI id] (lP w) [] (jr (jG f w id)):=by
 generalize hR:jG f w id=R;refine mH 72 Tryz.func82 ?_;apply aA (fun x:Nat×Wd=>x.2.J c 0∧x.1≤f∧x.2.B (n+4*(f-x.1))∧(∀k,bM x.2.p.cls id=some k→x.2.mu k<x.1)∧jG x.1 x.2 id=R) (fun x=>⟨[(0,.op 0 0 0),(1,dI id)],jr x.2,3⟩) (fun x=>x.1) (f,w) ⟨h,Nat.le_refl _,by rw[Nat.sub_self];exact hw,hf,hR⟩ [(16,1),(17,2),(18,3)];·exact aF
 ·rintro⟨m,v⟩ ⟨vj,vm,vb,vmu,vR⟩;simp only at vj vm vb vmu vR;have c1:=dt v.p id vj.s.cl;unfold dw bf at c1;cases hk:bM v.p.cls id with
 |none=>
 rw[hk,da] at c1;have e:R=v:=by rw[←vR];cases m with|zero=>rfl;|succ m=>unfold jG;rw[hk]
 subst e;repeat'(first|refine ad ?_|refine dk ?_|refine ah (c1) ?_|refine aj (by decide) ?_|refine ae (fun _=>?_) (fun _=>?_)|refine aq ?_)
 apply aw [(16,_),(17,_),(18,_)];exact be;|some k=>
 rw[hk,bj] at c1;obtain⟨hlt,hid⟩:=aR hk;have hm:=vmu k hk;obtain⟨m,rfl⟩:∃t,m=t+1:=⟨m-1,by omega⟩;have hg:=v.get_cl hlt;have hK:=vj.ck _ (v.cl_mem hlt);have hi:=vj.ids hk;unfold jG at vR;rw[hk] at vR;simp only at vR;unfold dU dD at hg;have hol:=aK (v.cl k).po.out.dat;by_cases hcl:(v.cl k).po.closing=true
 ·rw[if_pos hcl] at vR;rw[hcl] at hg;by_cases ho:(v.cl k).po.out.dat=[]
  ·rw[if_pos ho] at vR;subst vR;have c2:=ve v id false vj.s vb;have ho2:(v.cl k).po.out.dat.length=0:=by rw[ho];rfl
   repeat'(first|refine ad ?_|refine dk ?_|refine ah (c1) ?_|refine ai (by omega) ?_|refine aj (by omega) ?_|refine bh k rfl (by simpa using hlt) ?_|refine ax (au (by simpa using hlt)) ?_|refine ax hg ?_|refine az (au (by simpa using hlt)) ?_|refine az hg ?_|refine ae (fun _=>?_) (fun _=>?_)|refine aq ?_)
   apply ak [(0,_),(1,_),(2,_),(3,_)] c2;·exact be
   ·repeat'(first|refine ad ?_|refine dk ?_|refine ae (fun _=>?_) (fun _=>?_)|refine aq ?_)
    apply aw [(16,_),(17,_),(18,_)];exact be
  ·rw[if_neg ho] at vR;subst vR;have ho2:(v.cl k).po.out.dat.length≠0:=fun h=>ho (List.eq_nil_of_length_eq_zero h);repeat'(first|refine ad ?_|refine dk ?_|refine ah (c1) ?_|refine ai (by omega) ?_|refine bh k rfl (by simpa using hlt) ?_|refine ax (au (by simpa using hlt)) ?_|refine ax hg ?_|refine az (au (by simpa using hlt)) ?_|refine az hg ?_|refine ae (fun _=>?_) (fun _=>?_)|refine aq ?_)
   apply aw [(16,_),(17,_),(18,_)];exact be
 ·rw[if_neg hcl] at vR;have hcl:(v.cl k).po.closing=false:=by simpa using hcl
  rw[hcl] at hg;by_cases h1:(v.cl k).ex.st=0∧0<(v.cl k).po.out.dat.length
  ·rw[if_pos h1] at vR;subst vR;have h1a:=h1.1;have h1b:=h1.2;repeat'(first|refine ad ?_|refine dk ?_|refine ah (c1) ?_|refine ai (by omega) ?_|refine aj (by omega) ?_|refine bh k rfl (by simpa using hlt) ?_|refine ax (au (by simpa using hlt)) ?_|refine ax hg ?_|refine az (au (by simpa using hlt)) ?_|refine az hg ?_|refine ae (fun _=>?_) (fun _=>?_)|refine aq ?_)
   apply aw [(16,_),(17,_),(18,_)];exact be
  ·rw[if_neg h1] at vR;by_cases h2:(v.cl k).ex.st=0∨(v.cl k).ex.st=1
   ·rw[if_pos h2] at vR;have r:=vj.request hM hk (by omega) hcl;have rb:=Wd.B.request vj hM vb (by omega) hk;have c2:=Cn v k id vj.s vb (by omega) (by have:=vj.len;omega) hi hk hK.rt.ph (Lr vj hM hlt);generalize v.request k id=q at*;obtain⟨v2,go⟩:=q;simp only at vR r rb c2;have ho:(v.cl k).ex.st=0→¬0<(v.cl k).po.out.dat.length:=fun h0 h00=>h1 ⟨h0,h00⟩;by_cases h0:(v.cl k).ex.st=0
    ·have ho0:=ho h0;cases go
     ·simp only[Bool.false_eq_true,if_false] at vR;subst vR;repeat'(first|refine ad ?_|refine dk ?_|refine ah (c1) ?_|refine ai (by omega) ?_|refine aj (by omega) ?_|refine bh k rfl (by simpa using hlt) ?_|refine ax (au (by simpa using hlt)) ?_|refine ax hg ?_|refine az (au (by simpa using hlt)) ?_|refine az hg ?_|refine ae (fun _=>?_) (fun _=>?_)|refine aq ?_)
      apply ak [(0,_),(1,_),(2,_),(3,_)] c2;·exact be
      ·repeat'(first|refine ad ?_|refine dk ?_|refine ae (fun _=>?_) (fun _=>?_)|refine aq ?_)
       apply aw [(16,_),(17,_),(18,_)];exact be
     ·simp only[if_true] at vR;have mu2:v2.mu k<v.mu k:=r.mu rfl;repeat'(first|refine ad ?_|refine dk ?_|refine ah (c1) ?_|refine ai (by omega) ?_|refine aj (by omega) ?_|refine bh k rfl (by simpa using hlt) ?_|refine ax (au (by simpa using hlt)) ?_|refine ax hg ?_|refine az (au (by simpa using hlt)) ?_|refine az hg ?_|refine ae (fun _=>?_) (fun _=>?_)|refine aq ?_)
      apply ak [(0,_),(1,_),(2,_),(3,_)] c2;·exact be
      ·repeat'(first|refine ad ?_|refine dk ?_|refine ae (fun _=>?_) (fun _=>?_)|refine aq ?_)
       apply aG (m,v2) [(16,_),(17,_),(18,_)] ⟨r.j,by show m≤f;omega,Wd.B.up rb (by show n+4*(f-(m+1))+4≤n+4*(f-m);omega) (by show n+4*(f-m)≤10000000000;omega),fun k2 hk2=>by have hk2:bM v2.p.cls id=some k2:=hk2;rw[r.ids,hk] at hk2;cases hk2;show v2.mu k<m;omega,vR⟩ (by show m<m+1;omega);exact aF
    ·have h01:(v.cl k).ex.st=1:=h2.resolve_left h0;cases go
     ·simp only[Bool.false_eq_true,if_false] at vR;subst vR;repeat'(first|refine ad ?_|refine dk ?_|refine ah (c1) ?_|refine ai (by omega) ?_|refine aj (by omega) ?_|refine bh k rfl (by simpa using hlt) ?_|refine ax (au (by simpa using hlt)) ?_|refine ax hg ?_|refine az (au (by simpa using hlt)) ?_|refine az hg ?_|refine ae (fun _=>?_) (fun _=>?_)|refine aq ?_)
      apply ak [(0,_),(1,_),(2,_),(3,_)] c2;·exact be
      ·repeat'(first|refine ad ?_|refine dk ?_|refine ae (fun _=>?_) (fun _=>?_)|refine aq ?_)
       apply aw [(16,_),(17,_),(18,_)];exact be
     ·simp only[if_true] at vR;have mu2:v2.mu k<v.mu k:=r.mu rfl;repeat'(first|refine ad ?_|refine dk ?_|refine ah (c1) ?_|refine ai (by omega) ?_|refine aj (by omega) ?_|refine bh k rfl (by simpa using hlt) ?_|refine ax (au (by simpa using hlt)) ?_|refine ax hg ?_|refine az (au (by simpa using hlt)) ?_|refine az hg ?_|refine ae (fun _=>?_) (fun _=>?_)|refine aq ?_)
      apply ak [(0,_),(1,_),(2,_),(3,_)] c2;·exact be
      ·repeat'(first|refine ad ?_|refine dk ?_|refine ae (fun _=>?_) (fun _=>?_)|refine aq ?_)
       apply aG (m,v2) [(16,_),(17,_),(18,_)] ⟨r.j,by show m≤f;omega,Wd.B.up rb (by show n+4*(f-(m+1))+4≤n+4*(f-m);omega) (by show n+4*(f-m)≤10000000000;omega),fun k2 hk2=>by have hk2:bM v2.p.cls id=some k2:=hk2;rw[r.ids,hk] at hk2;cases hk2;show v2.mu k<m;omega,vR⟩ (by show m<m+1;omega);exact aF
   ·rw[if_neg h2] at vR;by_cases h3:(v.cl k).ex.st=2
    ·rw[if_pos h3] at vR;subst vR;repeat'(first|refine ad ?_|refine dk ?_|refine ah (c1) ?_|refine ai (by omega) ?_|refine aj (by omega) ?_|refine bh k rfl (by simpa using hlt) ?_|refine ax (au (by simpa using hlt)) ?_|refine ax hg ?_|refine az (au (by simpa using hlt)) ?_|refine az hg ?_|refine ae (fun _=>?_) (fun _=>?_)|refine aq ?_)
     apply aw [(16,_),(17,_),(18,_)];exact be
    ·rw[if_neg h3] at vR;have h4:(v.cl k).ex.st=3:=by have:=hK.st;omega
     obtain⟨hj,l,hjl⟩:=vj.st3 hlt h4;have r:=vj.reply hk h4 hcl hj;have rb:=Wd.B.reply vj vb (by omega) hk h4 hj;have hUK:=vj.uk _ (v.up_mem hjl);have c2:=JQ v k (v.jU k) id vj.s vb (by omega) hk hj l.2.2.1 hUK.rt.ph;generalize v.reply k (v.jU k) id=q at*;obtain⟨v2,go⟩:=q;simp only at vR r rb c2;cases go
     ·simp only[Bool.false_eq_true,if_false] at vR;subst vR;repeat'(first|refine ad ?_|refine dk ?_|refine ah (c1) ?_|refine ai (by omega) ?_|refine aj (by omega) ?_|refine bh k rfl (by simpa using hlt) ?_|refine ax (au (by simpa using hlt)) ?_|refine ax hg ?_|refine az (au (by simpa using hlt)) ?_|refine az hg ?_|refine ae (fun _=>?_) (fun _=>?_)|refine aq ?_)
      apply ak [(0,_),(1,_),(2,_),(3,_)] c2;·exact be
      ·repeat'(first|refine ad ?_|refine dk ?_|refine ae (fun _=>?_) (fun _=>?_)|refine aq ?_)
       apply aw [(16,_),(17,_),(18,_)];exact be
     ·simp only[if_true] at vR;have mu2:v2.mu k<v.mu k:=r.mu rfl;repeat'(first|refine ad ?_|refine dk ?_|refine ah (c1) ?_|refine ai (by omega) ?_|refine aj (by omega) ?_|refine bh k rfl (by simpa using hlt) ?_|refine ax (au (by simpa using hlt)) ?_|refine ax hg ?_|refine az (au (by simpa using hlt)) ?_|refine az hg ?_|refine ae (fun _=>?_) (fun _=>?_)|refine aq ?_)
      apply ak [(0,_),(1,_),(2,_),(3,_)] c2;·exact be
      ·repeat'(first|refine ad ?_|refine dk ?_|refine ae (fun _=>?_) (fun _=>?_)|refine aq ?_)
       apply aG (m,v2) [(16,_),(17,_),(18,_)] ⟨r.j,by show m≤f;omega,Wd.B.up rb (by show n+4*(f-(m+1))+4≤n+4*(f-m);omega) (by show n+4*(f-m)≤10000000000;omega),fun k2 hk2=>by have hk2:bM v2.p.cls id=some k2:=hk2;rw[r.ids,hk] at hk2;cases hk2;show v2.mu k<m;omega,vR⟩ (by show m<m+1;omega);exact aF
noncomputable def Wd.abandon (w:Wd)(k:Nat):Wd:=if(w.cl k).ex.st=2∨(w.cl k).ex.st=3 then(w.drop (w.cl k).ex.up false).prim (w.cl k).ex.ser .zero false else w
theorem F5 (w:Wd)(k:Nat)(id:Int){n:Nat}(hs:w.S)(hw:w.B n)(hn:n+10≤10000000000)(hk:bM w.p.cls id=some k):aH (CG G) 80 [.op 0 0 0,dI id] (lP w) [] (jr (w.abandon k)):=by
 have c1:=dt w.p id hs.cl;rw[hk,bj] at c1;obtain⟨hlt,hid⟩:=aR hk;have hg:=w.get_cl hlt;have c2:=qm w (w.cl k).ex.up false hs hw;have c3:=EA (w.drop (w.cl k).ex.up false) (w.cl k).ex.ser .zero false (hs.drop _ _) (hw.drop (by omega) _ _) Sn.zero_gd;unfold Wd.abandon;unfold dU dD at hg;unfold dw bf zg jH at*;by_cases h2:(w.cl k).ex.st=2
 ·rw[if_pos (.inl h2)];refine mH 36 Tryz.func80 ?_;repeat'(first|refine ad ?_|refine dk ?_|refine ah (c1) ?_|refine aj h2 ?_|refine bh k rfl (by simpa using hlt) ?_|refine ax (au (by simpa using hlt)) ?_|refine ax hg ?_|refine az (au (by simpa using hlt)) ?_|refine az hg ?_|refine ae (fun _=>?_) (fun _=>?_)|refine aq ?_)
  apply ak [(0,_),(1,_),(2,_),(3,_)] c2;·exact be
  ·repeat'(first|refine ad ?_|refine dk ?_|refine ae (fun _=>?_) (fun _=>?_)|refine aq ?_)
   apply ak [(0,_),(1,_),(2,_),(3,_)] c3;·exact be
   ·repeat'(first|refine ad ?_|refine dk ?_|refine ae (fun _=>?_) (fun _=>?_)|refine aq ?_)
    apply aw [(16,_),(17,_),(18,_)];exact be
 ·by_cases h3:(w.cl k).ex.st=3
  ·rw[if_pos (.inr h3)];refine mH 36 Tryz.func80 ?_;repeat'(first|refine ad ?_|refine dk ?_|refine ah (c1) ?_|refine ai h2 ?_|refine aj h3 ?_|refine bh k rfl (by simpa using hlt) ?_|refine ax (au (by simpa using hlt)) ?_|refine ax hg ?_|refine az (au (by simpa using hlt)) ?_|refine az hg ?_|refine ae (fun _=>?_) (fun _=>?_)|refine aq ?_)
   apply ak [(0,_),(1,_),(2,_),(3,_)] c2;·exact be
   ·repeat'(first|refine ad ?_|refine dk ?_|refine ae (fun _=>?_) (fun _=>?_)|refine aq ?_)
    apply ak [(0,_),(1,_),(2,_),(3,_)] c3;·exact be
    ·repeat'(first|refine ad ?_|refine dk ?_|refine ae (fun _=>?_) (fun _=>?_)|refine aq ?_)
     apply aw [(16,_),(17,_),(18,_)];exact be
  ·rw[if_neg (fun h=>h.elim h2 h3)];refine mH 36 Tryz.func80 ?_;repeat'(first|refine ad ?_|refine dk ?_|refine ah (c1) ?_|refine ai h2 ?_|refine ai h3 ?_|refine bh k rfl (by simpa using hlt) ?_|refine ax (au (by simpa using hlt)) ?_|refine ax hg ?_|refine az (au (by simpa using hlt)) ?_|refine az hg ?_|refine ae (fun _=>?_) (fun _=>?_)|refine aq ?_)
   apply aw [(16,_),(17,_),(18,_)];exact be
def KQ (l:List Cl)(cls:Int):Nat→Nat|0=>0|i+1=>KQ l cls i+if(l.getD i .zero).po.cls=cls then 1 else 0
def Df (l:List Cl)(id:Int):Nat→Nat|0=>0|i+1=>if(l.getD i .zero).po.id<id then i+1 else Df l id i
theorem Fy (l:List Cl)(cls:Int):∀i,KQ l cls i≤i|0=>Nat.le_refl _|i+1=>by have:=Fy l cls i;unfold KQ;split<;>omega
theorem yL (l:List Cl)(id:Int):∀i,Df l id i≤i|0=>Nat.le_refl _|i+1=>by have:=yL l id i;unfold Df;split<;>omega
def uK (c:bk)(cls:Int):Int:=if cls=1 then c.clients else if cls=2 then c.admins else c.listeners
def ux (c:bk)(cls:Int):Int:=if cls=3 then 1000000 else c.cout+2*c.maxHead+c.maxReply+2000
def oF (w:Wd)(id:Int):Cl:=⟨rx id w.p.cfg.cin (ux w.p.cfg (bG id)),.zero,w.p.now,.zero⟩
def Wd.insC (w:Wd)(id:Int):Wd:=⟨{w.p with cls:=w.p.cls.take (Df w.p.cls id w.p.cls.length)++[oF w id]++w.p.cls.drop (Df w.p.cls id w.p.cls.length)},w.out⟩
def Wd.accept (w:Wd)(id:Int):Wd:=if bG id≠1∧bG id≠2∧bG id≠3 then w else if(bM w.p.cls id).isSome then w else if uK w.p.cfg (bG id)≤(KQ w.p.cls (bG id) w.p.cls.length:Int) then w.act [⟨4,id,0,0,[]⟩]else w.insC id
theorem Jh (w:Wd)(id:Int){n:Nat}(hs:w.S)(hw:w.B n)(hn:n+10≤10000000000)(hcl:w.p.cls.length<1000000):aH (CG G) 56 [.op 0 0 0,dI id] (lP w) [] (jr (w.accept id)):=by
 have c1:=qt id;have c2:=hardR w.p.cfg hs.cfg;have c3:=rU id w.p.cfg.cin (ux w.p.cfg (bG id));have hml:(w.p.cls.map dU).length=w.p.cls.length:=by simp
 have hmo:(w.out.map bn).length=w.out.length:=by simp
 have hol:=hw.ol;have hlim:=hw.lim;generalize hR:w.accept id=R;unfold Wd.accept at hR;unfold di bi ee bN at*;refine aH.mk (n:=133) Tryz.func56 rfl rfl rfl (Nat.le_of_ble_eq_true rfl) rfl (ah c1 (ah c2 ?_));apply bd (fun _:Unit=>bG id=1∨bG id=2∨bG id=3) (fun _=>⟨[(0,.op 0 0 0),(1,dI id),(4,.op 17 0 0),(5,dI (bG id)),(6,dI (uK w.p.cfg (bG id))),(7,dI (ux w.p.cfg (bG id)))],[(0,some (fG w 1 2 3)),(1,some (.buf 65 (w.p.cls.map dU))),(2,some (.buf 33 (w.p.ups.map fo))),(3,some (.buf 5 (w.out.map bn))),(17,some (.box [dI w.p.cfg.maxHead,dI w.p.cfg.maxBody,dI w.p.cfg.maxReply,dI w.p.cfg.cin,dI w.p.cfg.cout,dI w.p.cfg.clients,dI w.p.cfg.admins,dI w.p.cfg.listeners,dI w.p.cfg.stable,dI w.p.cfg.canary,dI w.p.cfg.shadow,dI w.p.cfg.tee,dI w.p.cfg.idle,dI w.p.cfg.reqd,dI w.p.cfg.shadd,dI w.p.cfg.reports,.d (.sl 1 (w.p.cfg.plan.ws.map (.i .i64))),dI w.p.cfg.plan.ms,dI w.p.cfg.plan.nu,dI w.p.cfg.plan.de,dI w.p.cfg.plan.ho,dI w.p.cfg.plan.wi,.d (.s w.p.cfg.salt),.d (.s w.p.cfg.cookie),.d (.b w.p.cfg.mirror),.d (.sl 1 (w.p.cfg.ignore.map .s))]))],2⟩)
 ·unfold uK ux;refine ae (fun a1=>?_) (fun a1=>?_)
  ·rw[a1];repeat'(first|refine ad ?_|refine dk ?_|refine ae (fun _=>?_) (fun _=>?_)|refine aq ?_)
   apply aC () [(17,_)] (.inl rfl);exact be
  ·refine ae (fun a2=>?_) (fun a2=>?_)
   ·rw[a2];repeat'(first|refine ad ?_|refine dk ?_|refine ae (fun _=>?_) (fun _=>?_)|refine aq ?_)
    apply aC () [(17,_)] (.inr (.inl rfl));exact be
   ·refine ae (fun a3=>?_) (fun a3=>?_)
    ·rw[a3];repeat'(first|refine ad ?_|refine dk ?_|refine ae (fun _=>?_) (fun _=>?_)|refine aq ?_)
     apply aC () [(17,_)] (.inr (.inr rfl));exact be
    ·rw[if_pos ⟨a1,a2,a3⟩] at hR;subst hR;repeat'(first|refine ad ?_|refine dk ?_|refine ae (fun _=>?_) (fun _=>?_)|refine aq ?_)
     apply aw [(16,_),(17,_),(18,_)];exact be
 ·rintro _ hcls;rw[if_neg (by omega)] at hR;refine ad ?_;apply aA (fun i:Nat=>i≤w.p.cls.length∧∀(j:Nat)(h:j<w.p.cls.length),j<i→w.p.cls[j].po.id≠id) (fun i=>⟨[(0,.op 0 0 0),(1,dI id),(4,.op 17 0 0),(5,dI (bG id)),(6,dI (uK w.p.cfg (bG id))),(7,dI (ux w.p.cfg (bG id))),(8,dI (KQ w.p.cls (bG id) i:Int)),(9,dI (Df w.p.cls id i:Int)),(10,dI (i:Int))],[(0,some (fG w 1 2 3)),(1,some (.buf 65 (w.p.cls.map dU))),(2,some (.buf 33 (w.p.ups.map fo))),(3,some (.buf 5 (w.out.map bn))),(17,some (.box [dI w.p.cfg.maxHead,dI w.p.cfg.maxBody,dI w.p.cfg.maxReply,dI w.p.cfg.cin,dI w.p.cfg.cout,dI w.p.cfg.clients,dI w.p.cfg.admins,dI w.p.cfg.listeners,dI w.p.cfg.stable,dI w.p.cfg.canary,dI w.p.cfg.shadow,dI w.p.cfg.tee,dI w.p.cfg.idle,dI w.p.cfg.reqd,dI w.p.cfg.shadd,dI w.p.cfg.reports,.d (.sl 1 (w.p.cfg.plan.ws.map (.i .i64))),dI w.p.cfg.plan.ms,dI w.p.cfg.plan.nu,dI w.p.cfg.plan.de,dI w.p.cfg.plan.ho,dI w.p.cfg.plan.wi,.d (.s w.p.cfg.salt),.d (.s w.p.cfg.cookie),.d (.b w.p.cfg.mirror),.d (.sl 1 (w.p.cfg.ignore.map .s))]))],2⟩) (fun i=>w.p.cls.length-i) 0 ⟨Nat.zero_le _,fun j _ hj=>by omega⟩ [(17,_)];·exact be
  ·rintro i ⟨hi,hnn⟩;have hNl:=Fy w.p.cls (bG id) i;have hKl:=yL w.p.cls id i;refine ad ?_;refine ae (fun h1=>?_) (fun h1=>?_)
   ·have hi':i<w.p.cls.length:=by omega
    have hgi:(w.p.cls.map dU)[i]?=some (dU w.p.cls[i]):=BS hi';have hgd:w.p.cls.getD i .zero=w.p.cls[i]:=cx hi' _;have eN:KQ w.p.cls (bG id) (i+1)=KQ w.p.cls (bG id) i+if w.p.cls[i].po.cls=bG id then 1 else 0:=by rw[KQ,hgd]
    have eK:Df w.p.cls id (i+1)=if w.p.cls[i].po.id<id then i+1 else Df w.p.cls id i:=by rw[Df,hgd]
    refine ad (ad (bh i rfl (by omega) (az hgi ?_)));refine ae (fun h2=>?_) (fun h2=>?_)
    ·have hso:(bM w.p.cls id).isSome:=by unfold bM;rw[mv (f:=fun c:Cl=>c.po.id) hi' h2 hnn];rfl
     rw[if_pos hso] at hR;subst hR;repeat'(first|refine ad ?_|refine dk ?_|refine ae (fun _=>?_) (fun _=>?_)|refine aq ?_)
     apply aw [(16,_),(17,_),(18,_)];exact be
    ·have hnx:∀(j:Nat)(h:j<w.p.cls.length),j<i+1→w.p.cls[j].po.id≠id:=by
      intro j h hj;by_cases hji:j<i;·exact hnn j h hji
      ·obtain rfl:j=i:=by omega
       exact h2
     refine ad (bh i rfl (by omega) (az hgi ?_));refine ae (fun h3=>?_) (fun h3=>?_)
     ·rw[if_pos h3] at eN;refine ar ⟨by omega,by omega⟩ (bh i rfl (by omega) (az hgi ?_));refine ae (fun h4=>?_) (fun h4=>?_)
      ·rw[if_pos h4] at eK;repeat'(first|refine ad ?_|refine dk ?_|refine ae (fun _=>?_) (fun _=>?_)|refine aq ?_)
       apply aG (i+1) [(17,_)] ⟨by omega,hnx⟩ (by omega);rw[eN,eK];exact be
      ·rw[if_neg h4] at eK;repeat'(first|refine ad ?_|refine dk ?_|refine ae (fun _=>?_) (fun _=>?_)|refine aq ?_)
       apply aG (i+1) [(17,_)] ⟨by omega,hnx⟩ (by omega);rw[eN,eK];exact be
     ·rw[if_neg h3] at eN;refine bh i rfl (by omega) (az hgi ?_);refine ae (fun h4=>?_) (fun h4=>?_)
      ·rw[if_pos h4] at eK;repeat'(first|refine ad ?_|refine dk ?_|refine ae (fun _=>?_) (fun _=>?_)|refine aq ?_)
       apply aG (i+1) [(17,_)] ⟨by omega,hnx⟩ (by omega);rw[eN,eK];exact be
      ·rw[if_neg h4] at eK;repeat'(first|refine ad ?_|refine dk ?_|refine ae (fun _=>?_) (fun _=>?_)|refine aq ?_)
       apply aG (i+1) [(17,_)] ⟨by omega,hnx⟩ (by omega);rw[eN,eK];exact be
   ·obtain rfl:i=w.p.cls.length:=by omega
    have hno:¬(bM w.p.cls id).isSome:=by unfold bM;rw[mG (f:=fun c:Cl=>c.po.id) fun j hj=>hnn j hj (by omega)];simp
    rw[if_neg hno] at hR;apply bd (fun _:Unit=>R=w.insC id) (fun _=>⟨[(0,.op 0 0 0),(1,dI id),(4,.op 17 0 0),(7,dI (ux w.p.cfg (bG id))),(9,dI (Df w.p.cls id w.p.cls.length:Int))],[(0,some (.box [dI w.p.cfg.maxHead,dI w.p.cfg.maxBody,dI w.p.cfg.maxReply,dI w.p.cfg.cin,dI w.p.cfg.cout,dI w.p.cfg.clients,dI w.p.cfg.admins,dI w.p.cfg.listeners,dI w.p.cfg.stable,dI w.p.cfg.canary,dI w.p.cfg.shadow,dI w.p.cfg.tee,dI w.p.cfg.idle,dI w.p.cfg.reqd,dI w.p.cfg.shadd,dI w.p.cfg.reports,.d (.sl 1 (w.p.cfg.plan.ws.map (.i .i64))),dI w.p.cfg.plan.ms,dI w.p.cfg.plan.nu,dI w.p.cfg.plan.de,dI w.p.cfg.plan.ho,dI w.p.cfg.plan.wi,.d (.s w.p.cfg.salt),.d (.s w.p.cfg.cookie),.d (.b w.p.cfg.mirror),.d (.sl 1 (w.p.cfg.ignore.map .s)),dI w.p.now,dI w.p.draw,dI w.p.ser,dI w.p.ro.st,dI w.p.ro.sg,dI w.p.ro.he,dI w.p.ro.tt,dI w.p.ro.er,dI w.p.ro.ag,.d (.sl 65 (w.p.cls.map dU)),.os 2,dI w.p.sta.ba,dI w.p.sta.qu,dI w.p.sta.se,.d (.sl 1 (w.p.sta.id.map (.i .i64))),.d (.sl 1 (w.p.sta.bu.map (.i .i64))),dI w.p.can.ba,dI w.p.can.qu,dI w.p.can.se,.d (.sl 1 (w.p.can.id.map (.i .i64))),.d (.sl 1 (w.p.can.bu.map (.i .i64))),dI w.p.sh.pool.ba,dI w.p.sh.pool.qu,dI w.p.sh.pool.se,.d (.sl 1 (w.p.sh.pool.id.map (.i .i64))),.d (.sl 1 (w.p.sh.pool.bu.map (.i .i64))),.d (.sl 55 (w.p.sh.jobs.map bI)),dI w.p.sh.rep.cap,dI w.p.sh.rep.ser,.d (.sl 6 (w.p.sh.rep.l.map NH)),.os 3])),(2,some (.buf 33 (w.p.ups.map fo))),(3,some (.buf 5 (w.out.map bn))),(17,some (.box [dI w.p.cfg.maxHead,dI w.p.cfg.maxBody,dI w.p.cfg.maxReply,dI w.p.cfg.cin,dI w.p.cfg.cout,dI w.p.cfg.clients,dI w.p.cfg.admins,dI w.p.cfg.listeners,dI w.p.cfg.stable,dI w.p.cfg.canary,dI w.p.cfg.shadow,dI w.p.cfg.tee,dI w.p.cfg.idle,dI w.p.cfg.reqd,dI w.p.cfg.shadd,dI w.p.cfg.reports,.d (.sl 1 (w.p.cfg.plan.ws.map (.i .i64))),dI w.p.cfg.plan.ms,dI w.p.cfg.plan.nu,dI w.p.cfg.plan.de,dI w.p.cfg.plan.ho,dI w.p.cfg.plan.wi,.d (.s w.p.cfg.salt),.d (.s w.p.cfg.cookie),.d (.b w.p.cfg.mirror),.d (.sl 1 (w.p.cfg.ignore.map .s))]))],2⟩)
    ·refine ae (fun h5=>?_) (fun h5=>?_)
     ·rw[if_pos (by omega)] at hR;subst hR;refine aB (by simp;omega) ?_;repeat'(first|refine ad ?_|refine dk ?_|refine ae (fun _=>?_) (fun _=>?_)|refine aq ?_)
      apply aw [(16,_),(17,_),(18,_)];exact be
     ·rw[if_neg (by omega)] at hR;repeat'(first|refine ad ?_|refine dk ?_|refine ae (fun _=>?_) (fun _=>?_)|refine aq ?_)
      apply aC () [(17,_)] hR.symm;exact be
    ·rintro _ hR2;subst hR2;unfold Wd.insC oF;generalize Df w.p.cls id w.p.cls.length=kk at*;repeat'(first|refine ad ?_|refine dk ?_|refine ah (c3) ?_|refine bnd kk rfl (by omega) ?_|refine aB (by simp;omega) ?_|refine ae (fun _=>?_) (fun _=>?_)|refine aq ?_)
     apply aw [(16,_),(17,_),(18,_)];((repeat' constructor)<;>(first|refine aI ?_|rfl)<;>first|with_reducible rfl|(simp only[Ng,List.map_take,List.map_drop];rfl)|(congr 1<;>omega)|(congr 1<;>simp;done)|(simp;done)|rfl|skip)
end Go.Proofs.YtgfdbddglhblbaaGreat

/- A part of the proof of what is stated of the erasing of a mirror. -/
import Derived.Test.YtgfdbddglhblbaaGreatQbg
import Derived.Test.YtgfdbddglhblbaaGreatQau
import Derived.Test.YtgfdbddglhblbaaGreatQaq
set_option maxHeartbeats 64000000
namespace Go.Proofs.YtgfdbddglhblbaaGreat
open Go.Eng
attribute [local irreducible] aO
set_option maxRecDepth 100000
theorem JL (p:aU)(h1:p.cls.length≤1000000)(h2:p.ups.length≤1000000):aH (CG G) 54 [.d (dw p)] [] [.agg [dI p.cfg.maxHead,dI p.cfg.maxBody,dI p.cfg.maxReply,dI p.cfg.cin,dI p.cfg.cout,dI p.cfg.clients,dI p.cfg.admins,dI p.cfg.listeners,dI p.cfg.stable,dI p.cfg.canary,dI p.cfg.shadow,dI p.cfg.tee,dI p.cfg.idle,dI p.cfg.reqd,dI p.cfg.shadd,dI p.cfg.reports,.d (.sl 1 (p.cfg.plan.ws.map (.i .i64))),dI p.cfg.plan.ms,dI p.cfg.plan.nu,dI p.cfg.plan.de,dI p.cfg.plan.ho,dI p.cfg.plan.wi,.d (.s p.cfg.salt),.d (.s p.cfg.cookie),.d (.b p.cfg.mirror),.d (.sl 1 (p.cfg.ignore.map .s)),dI p.now,dI p.draw,dI p.ser,dI p.ro.st,dI p.ro.sg,dI p.ro.he,dI p.ro.tt,dI p.ro.er,dI p.ro.ag,.os 16,.os 17,dI p.sta.ba,dI p.sta.qu,dI p.sta.se,.d (.sl 1 (p.sta.id.map (.i .i64))),.d (.sl 1 (p.sta.bu.map (.i .i64))),dI p.can.ba,dI p.can.qu,dI p.can.se,.d (.sl 1 (p.can.id.map (.i .i64))),.d (.sl 1 (p.can.bu.map (.i .i64))),dI p.sh.pool.ba,dI p.sh.pool.qu,dI p.sh.pool.se,.d (.sl 1 (p.sh.pool.id.map (.i .i64))),.d (.sl 1 (p.sh.pool.bu.map (.i .i64))),.d (.sl 55 (p.sh.jobs.map bI)),dI p.sh.rep.cap,dI p.sh.rep.ser,.d (.sl 6 (p.sh.rep.l.map NH))]] [(16,some (.buf 65 (p.cls.map dU))),(17,some (.buf 33 (p.ups.map fo)))]:=by
 have l1:(p.cls.map dU).length=p.cls.length:=by simp
 have l2:(p.ups.map fo).length=p.ups.length:=by simp
 unfold dw bf;refine mH 14 Tryz.func54 ?_;repeat'(first|refine ad ?_|refine dk ?_|refine aB (by simp;omega) ?_|refine ae (fun _=>?_) (fun _=>?_)|refine aq ?_)
 apply aw [(16,_),(17,_)];exact aF
noncomputable def kE (w:Wd)(e:Ev):Wd:=if e.kind=8 then w.tick else if e.kind=9 then⟨{w.p with draw:=e.n},w.out⟩else if e.kind=1 then w.accept e.conn else if bG e.conn=1∨bG e.conn=2∨bG e.conn=3 then w.accepted e else if bG e.conn=4∨bG e.conn=5 then w.server e else if bG e.conn=6 then w.mirror e else w
noncomputable def b8 (p:aU)(e:Ev):aU:=(kE ⟨p,[]⟩ e).p
noncomputable def hH (p:aU)(e:Ev):List bC:=oZ (kE ⟨p,[]⟩ e).out
structure aU.I (c:bk)(p:aU)(t:Nat):Prop where
 j:Wd.J c ⟨p,[]⟩ 0
 now:p.now≤t
 len:p.cls.length≤t
theorem aU.I.b {c:bk}{p:aU}{t:Nat}(h:p.I c t)(ht:t≤99):Wd.B ⟨p,[]⟩ 0∧Wd.lim ⟨p,[]⟩:=by
 have h1:=fP (f:=fun x:Cl=>x.po.bud.toNat) (l:=p.cls) 1000000 (fun x hx=>by have:=(h.j.s.cg x hx).po.bud;omega);have h2:=fP (f:=fun x:Up=>x.po.bud.toNat) (l:=p.ups) 1000000 (fun x hx=>by have:=(h.j.s.ug x hx).po.bud;omega);have h3:=h.len;have h4:p.ups.length≤200:=h.j.len;have m1:p.cls.length*1000000≤99*1000000:=Nat.mul_le_mul_right _ (by omega);have m2:p.ups.length*1000000≤200*1000000:=Nat.mul_le_mul_right _ h4;have e:Wd.phi ⟨p,[]⟩≤400000000:=by show 0+(p.cls.map fun c=>c.po.bud.toNat).sum+(p.ups.map fun u=>u.po.bud.toNat).sum≤_;omega
 exact⟨⟨by omega,Nat.zero_le _,by omega⟩,by show Wd.phi ⟨p,[]⟩+1000000≤_;omega⟩
theorem pD {c:bk}{p:aU}{t:Nat}(h:p.I c t)(hM:jK c)(ht:t≤99)(e:Ev)(hn:fT e.n):Wd.Tk c ⟨p,[]⟩ (kE ⟨p,[]⟩ e) 900000000:=by
 obtain⟨b,hp⟩:=h.b ht;have hnow:=h.now;have hlen:=h.len;unfold kE;split;·have:=(tB h.j hM b (by omega) (by show p.now<_;omega) (by show p.cls.length≤_;omega)).2.2;simpa using this
 ·split;·exact⟨h.j.same ⟨h.j.s.cfg,h.j.s.now,hn,h.j.s.ser,h.j.s.ro,h.j.s.pl,h.j.s.cl,h.j.s.ul,h.j.s.cg,h.j.s.ug,h.j.s.sta,h.j.s.can,h.j.s.sh⟩ rfl rfl rfl rfl rfl,⟨by omega,Nat.zero_le _,b.ph⟩,by show p.now≤p.now+1;omega,by show p.cls.length≤p.cls.length+1;omega⟩
  ·split;·have g:=h.j.accept hM b (by omega) (by show p.cls.length<_;omega) e.conn;exact⟨g.j,g.b.up (by omega) (by omega),g.now,g.len⟩
   ·split;·have g:=(sC h.j hM b (by omega) hp e).tk;exact⟨g.j,g.b.up (by omega) (by omega),g.now,g.len⟩
    ·split;·have g:=(yo h.j hM b (by omega) hp e).tk;exact⟨g.j,g.b.up (by omega) (by omega),g.now,g.len⟩
     ·split;·have g:=(xq h.j b (by omega) hp e).tk;exact⟨g.j,g.b.up (by omega) (by omega),g.now,g.len⟩
      ·exact⟨h.j,b.up (by omega) (by omega),by show p.now≤p.now+1;omega,by show p.cls.length≤p.cls.length+1;omega⟩
theorem jB {c:bk}{p:aU}{t:Nat}(h:p.I c t)(hM:jK c)(ht:t≤99)(e:Ev)(hn:fT e.n):(b8 p e).I c (t+1):=by
 have g:=pD h hM ht e hn;have h1:=h.now;have h2:=h.len;have g1:=g.now;have g2:=g.len;refine⟨g.j.out [],?_,?_⟩;·show(kE ⟨p,[]⟩ e).p.now≤_;simp only at g1;push_cast;omega
 ·show(kE ⟨p,[]⟩ e).p.cls.length≤_;simp only at g2;omega
def bk.zero:bk:=⟨0,0,0,0,0,0,0,0,0,0,0,0,0,0,0,0,⟨[],0,0,0,0,0⟩,[],[],false,[]⟩
def Po.zero:Po:=⟨0,0,0,[],[]⟩
def bz.zero:bz:=⟨.zero,[],⟨0,0,[]⟩⟩
def aU.zero:aU:=⟨.zero,0,0,0,qU 0,[],[],.zero,.zero,.zero⟩
theorem Gb (p:aU)(e:Ev){c:bk}{t:Nat}(h:p.I c t)(hM:jK c)(ht:t≤99)(hn:fT e.n)(hb:e.b.length≤1000000):ay (CG G) 28 [dw p,bH e] [dw (b8 p e),bS (hH p e)]:=by
 obtain⟨b,hp⟩:=h.b ht;have hnow:=h.now;have hlen:=h.len;have g:=pD h hM ht e hn;have c0:=JL p h.j.s.cl h.j.s.ul;have c1:=qt e.conn;have cs:=JW (kE ⟨p,[]⟩ e).out (by have:=g.b.ol;omega);unfold b8 hH bS;generalize hR:kE ⟨p,[]⟩ e=R at*;unfold kE at hR;unfold dw bf at*;refine ay.mk_cut (n:=61) Tryz.func28 rfl rfl rfl (Nat.le_of_ble_eq_true rfl) ⟨[(3,.op 19 0 0),(4,.op 20 0 0),(6,.op 21 0 0)],[(19,some (.box [dI e.kind,dI e.conn,dI e.n,.d (.sl 1 (aD e.b))])),(20,some (.box [dI aU.zero.cfg.maxHead,dI aU.zero.cfg.maxBody,dI aU.zero.cfg.maxReply,dI aU.zero.cfg.cin,dI aU.zero.cfg.cout,dI aU.zero.cfg.clients,dI aU.zero.cfg.admins,dI aU.zero.cfg.listeners,dI aU.zero.cfg.stable,dI aU.zero.cfg.canary,dI aU.zero.cfg.shadow,dI aU.zero.cfg.tee,dI aU.zero.cfg.idle,dI aU.zero.cfg.reqd,dI aU.zero.cfg.shadd,dI aU.zero.cfg.reports,.d (.sl 1 (aU.zero.cfg.plan.ws.map (.i .i64))),dI aU.zero.cfg.plan.ms,dI aU.zero.cfg.plan.nu,dI aU.zero.cfg.plan.de,dI aU.zero.cfg.plan.ho,dI aU.zero.cfg.plan.wi,.d (.s aU.zero.cfg.salt),.d (.s aU.zero.cfg.cookie),.d (.b aU.zero.cfg.mirror),.d (.sl 1 (aU.zero.cfg.ignore.map .s)),dI aU.zero.now,dI aU.zero.draw,dI aU.zero.ser,dI aU.zero.ro.st,dI aU.zero.ro.sg,dI aU.zero.ro.he,dI aU.zero.ro.tt,dI aU.zero.ro.er,dI aU.zero.ro.ag,.d (.sl 65 (aU.zero.cls.map dU)),.d (.sl 33 (aU.zero.ups.map fo)),dI aU.zero.sta.ba,dI aU.zero.sta.qu,dI aU.zero.sta.se,.d (.sl 1 (aU.zero.sta.id.map (.i .i64))),.d (.sl 1 (aU.zero.sta.bu.map (.i .i64))),dI aU.zero.can.ba,dI aU.zero.can.qu,dI aU.zero.can.se,.d (.sl 1 (aU.zero.can.id.map (.i .i64))),.d (.sl 1 (aU.zero.can.bu.map (.i .i64))),dI aU.zero.sh.pool.ba,dI aU.zero.sh.pool.qu,dI aU.zero.sh.pool.se,.d (.sl 1 (aU.zero.sh.pool.id.map (.i .i64))),.d (.sl 1 (aU.zero.sh.pool.bu.map (.i .i64))),.d (.sl 55 (aU.zero.sh.jobs.map bI)),dI aU.zero.sh.rep.cap,dI aU.zero.sh.rep.ser,.d (.sl 6 (aU.zero.sh.rep.l.map NH))])),(21,some (fG ⟨p,[]⟩ 16 17 18)),(16,some (.buf 65 (p.cls.map dU))),(17,some (.buf 33 (p.ups.map fo))),(18,some (.buf 5 []))],2⟩ ?_ ?_
 ·unfold bH;refine aT (ak [] c0 ?_ ?_);·exact aF
  repeat'(first|refine ad ?_|refine dk ?_|refine ae (fun _=>?_) (fun _=>?_)|refine aq ?_)
  apply Eng.freeze [(19,_),(20,_),(21,_),(16,_),(17,_),(18,14)];exact aF
 ·apply bd (fun _:Unit=>True) (fun _=>⟨[(4,.op 20 0 0),(6,.op 21 0 0)],[(20,some (.box [dI aU.zero.cfg.maxHead,dI aU.zero.cfg.maxBody,dI aU.zero.cfg.maxReply,dI aU.zero.cfg.cin,dI aU.zero.cfg.cout,dI aU.zero.cfg.clients,dI aU.zero.cfg.admins,dI aU.zero.cfg.listeners,dI aU.zero.cfg.stable,dI aU.zero.cfg.canary,dI aU.zero.cfg.shadow,dI aU.zero.cfg.tee,dI aU.zero.cfg.idle,dI aU.zero.cfg.reqd,dI aU.zero.cfg.shadd,dI aU.zero.cfg.reports,.d (.sl 1 (aU.zero.cfg.plan.ws.map (.i .i64))),dI aU.zero.cfg.plan.ms,dI aU.zero.cfg.plan.nu,dI aU.zero.cfg.plan.de,dI aU.zero.cfg.plan.ho,dI aU.zero.cfg.plan.wi,.d (.s aU.zero.cfg.salt),.d (.s aU.zero.cfg.cookie),.d (.b aU.zero.cfg.mirror),.d (.sl 1 (aU.zero.cfg.ignore.map .s)),dI aU.zero.now,dI aU.zero.draw,dI aU.zero.ser,dI aU.zero.ro.st,dI aU.zero.ro.sg,dI aU.zero.ro.he,dI aU.zero.ro.tt,dI aU.zero.ro.er,dI aU.zero.ro.ag,.d (.sl 65 (aU.zero.cls.map dU)),.d (.sl 33 (aU.zero.ups.map fo)),dI aU.zero.sta.ba,dI aU.zero.sta.qu,dI aU.zero.sta.se,.d (.sl 1 (aU.zero.sta.id.map (.i .i64))),.d (.sl 1 (aU.zero.sta.bu.map (.i .i64))),dI aU.zero.can.ba,dI aU.zero.can.qu,dI aU.zero.can.se,.d (.sl 1 (aU.zero.can.id.map (.i .i64))),.d (.sl 1 (aU.zero.can.bu.map (.i .i64))),dI aU.zero.sh.pool.ba,dI aU.zero.sh.pool.qu,dI aU.zero.sh.pool.se,.d (.sl 1 (aU.zero.sh.pool.id.map (.i .i64))),.d (.sl 1 (aU.zero.sh.pool.bu.map (.i .i64))),.d (.sl 55 (aU.zero.sh.jobs.map bI)),dI aU.zero.sh.rep.cap,dI aU.zero.sh.rep.ser,.d (.sl 6 (aU.zero.sh.rep.l.map NH))])),(21,some (fG R 16 17 18)),(16,some (.buf 65 (R.p.cls.map dU))),(17,some (.buf 33 (R.p.ups.map fo))),(18,some (.buf 5 (R.out.map bn)))],2⟩)
  ·by_cases h8:e.kind=8
   ·rw[if_pos h8] at hR;have cc:=tickR ⟨p,[]⟩ hM h.j b (by omega) (by show p.now<_;omega) (by show p.cls.length≤_;omega);rw[hR] at cc;repeat'(first|refine ad ?_|refine dk ?_|refine aj h8 ?_|refine ae (fun _=>?_) (fun _=>?_)|refine aq ?_)
    apply ak [(0,_),(1,_),(2,_),(3,_)] cc;·exact be
    ·repeat'(first|refine ad ?_|refine dk ?_|refine ae (fun _=>?_) (fun _=>?_)|refine aq ?_)
     apply aC () [(20,_),(21,_),(16,_),(17,_),(18,_)] trivial;exact be
   ·rw[if_neg h8] at hR;by_cases h9:e.kind=9
    ·rw[if_pos h9] at hR;subst hR;repeat'(first|refine ad ?_|refine dk ?_|refine ai h8 ?_|refine aj h9 ?_|refine ae (fun _=>?_) (fun _=>?_)|refine aq ?_)
     apply aC () [(20,_),(21,_),(16,_),(17,_),(18,_)] trivial;exact be
    ·rw[if_neg h9] at hR;by_cases h1:e.kind=1
     ·rw[if_pos h1] at hR;have cc:=Jh ⟨p,[]⟩ e.conn h.j.s b (by omega) (by show p.cls.length<_;omega);rw[hR] at cc;repeat'(first|refine ad ?_|refine dk ?_|refine ai h8 ?_|refine ai h9 ?_|refine aj h1 ?_|refine ae (fun _=>?_) (fun _=>?_)|refine aq ?_)
      apply ak [(0,_),(1,_),(2,_),(3,_)] cc;·exact be
      ·repeat'(first|refine ad ?_|refine dk ?_|refine ae (fun _=>?_) (fun _=>?_)|refine aq ?_)
       apply aC () [(20,_),(21,_),(16,_),(17,_),(18,_)] trivial;exact be
     ·rw[if_neg h1] at hR;by_cases k123:bG e.conn=1∨bG e.conn=2∨bG e.conn=3
      ·rw[if_pos k123] at hR;have cc:=Dp ⟨p,[]⟩ e hM h.j b (by omega) hp hb;rw[hR] at cc;unfold bH at cc;by_cases k1:bG e.conn=1
       ·repeat'(first|refine ad ?_|refine dk ?_|refine ah (c1) ?_|refine ai h8 ?_|refine ai h9 ?_|refine ai h1 ?_|refine aj k1 ?_|refine ae (fun _=>?_) (fun _=>?_)|refine aq ?_)
        apply ak [(0,_),(1,_),(2,_),(3,_)] cc;·exact be
        ·repeat'(first|refine ad ?_|refine dk ?_|refine ae (fun _=>?_) (fun _=>?_)|refine aq ?_)
         apply aC () [(20,_),(21,_),(16,_),(17,_),(18,_)] trivial;exact be
       ·by_cases k2:bG e.conn=2
        ·repeat'(first|refine ad ?_|refine dk ?_|refine ah (c1) ?_|refine ai h8 ?_|refine ai h9 ?_|refine ai h1 ?_|refine ai k1 ?_|refine aj k2 ?_|refine ae (fun _=>?_) (fun _=>?_)|refine aq ?_)
         apply ak [(0,_),(1,_),(2,_),(3,_)] cc;·exact be
         ·repeat'(first|refine ad ?_|refine dk ?_|refine ae (fun _=>?_) (fun _=>?_)|refine aq ?_)
          apply aC () [(20,_),(21,_),(16,_),(17,_),(18,_)] trivial;exact be
        ·have k3:bG e.conn=3:=by omega
         repeat'(first|refine ad ?_|refine dk ?_|refine ah (c1) ?_|refine ai h8 ?_|refine ai h9 ?_|refine ai h1 ?_|refine ai k1 ?_|refine ai k2 ?_|refine aj k3 ?_|refine ae (fun _=>?_) (fun _=>?_)|refine aq ?_)
         apply ak [(0,_),(1,_),(2,_),(3,_)] cc;·exact be
         ·repeat'(first|refine ad ?_|refine dk ?_|refine ae (fun _=>?_) (fun _=>?_)|refine aq ?_)
          apply aC () [(20,_),(21,_),(16,_),(17,_),(18,_)] trivial;exact be
      ·rw[if_neg k123] at hR;have k1:¬bG e.conn=1:=by omega
       have k2:¬bG e.conn=2:=by omega
       have k3:¬bG e.conn=3:=by omega
       by_cases k45:bG e.conn=4∨bG e.conn=5
       ·rw[if_pos k45] at hR;have cc:=H6 ⟨p,[]⟩ e hM h.j b (by omega) hp hb;rw[hR] at cc;unfold bH at cc;by_cases k4:bG e.conn=4
        ·repeat'(first|refine ad ?_|refine dk ?_|refine ah (c1) ?_|refine ai h8 ?_|refine ai h9 ?_|refine ai h1 ?_|refine ai k1 ?_|refine ai k2 ?_|refine ai k3 ?_|refine aj k4 ?_|refine ae (fun _=>?_) (fun _=>?_)|refine aq ?_)
         apply ak [(0,_),(1,_),(2,_),(3,_)] cc;·exact be
         ·repeat'(first|refine ad ?_|refine dk ?_|refine ae (fun _=>?_) (fun _=>?_)|refine aq ?_)
          apply aC () [(20,_),(21,_),(16,_),(17,_),(18,_)] trivial;exact be
        ·have k5:bG e.conn=5:=by omega
         repeat'(first|refine ad ?_|refine dk ?_|refine ah (c1) ?_|refine ai h8 ?_|refine ai h9 ?_|refine ai h1 ?_|refine ai k1 ?_|refine ai k2 ?_|refine ai k3 ?_|refine ai k4 ?_|refine aj k5 ?_|refine ae (fun _=>?_) (fun _=>?_)|refine aq ?_)
         apply ak [(0,_),(1,_),(2,_),(3,_)] cc;·exact be
         ·repeat'(first|refine ad ?_|refine dk ?_|refine ae (fun _=>?_) (fun _=>?_)|refine aq ?_)
          apply aC () [(20,_),(21,_),(16,_),(17,_),(18,_)] trivial;exact be
       ·rw[if_neg k45] at hR;have k4:¬bG e.conn=4:=by omega
        have k5:¬bG e.conn=5:=by omega
        by_cases k6:bG e.conn=6
        ·rw[if_pos k6] at hR;have cc:=Ih ⟨p,[]⟩ e h.j.s b (by omega) hb;rw[hR] at cc;unfold bH at cc;repeat'(first|refine ad ?_|refine dk ?_|refine ah (c1) ?_|refine ai h8 ?_|refine ai h9 ?_|refine ai h1 ?_|refine ai k1 ?_|refine ai k2 ?_|refine ai k3 ?_|refine ai k4 ?_|refine ai k5 ?_|refine aj k6 ?_|refine ae (fun _=>?_) (fun _=>?_)|refine aq ?_)
         apply ak [(0,_),(1,_),(2,_),(3,_)] cc;·exact be
         ·repeat'(first|refine ad ?_|refine dk ?_|refine ae (fun _=>?_) (fun _=>?_)|refine aq ?_)
          apply aC () [(20,_),(21,_),(16,_),(17,_),(18,_)] trivial;exact be
        ·rw[if_neg k6] at hR;subst hR;repeat'(first|refine ad ?_|refine dk ?_|refine ah (c1) ?_|refine ai h8 ?_|refine ai h9 ?_|refine ai h1 ?_|refine ai k1 ?_|refine ai k2 ?_|refine ai k3 ?_|refine ai k4 ?_|refine ai k5 ?_|refine ai k6 ?_|refine ae (fun _=>?_) (fun _=>?_)|refine aq ?_)
         apply aC () [(20,_),(21,_),(16,_),(17,_),(18,_)] trivial;exact be
  ·rintro _ _;repeat'(first|refine ad ?_|refine dk ?_|refine ah (cs) ?_|refine ae (fun _=>?_) (fun _=>?_)|refine aq ?_)
   refine aN ?_;rfl
noncomputable def bO (p:aU)(l:List Ev):aU:=l.foldl b8 p
abbrev tM:=Ev×List bC
def fK (t:tM):D:=.agg [.i .i64 t.1.kind,.i .i64 t.1.conn,.i .i64 t.1.n,.sl 1 (aD t.1.b),.sl 5 (t.2.map bn)]
noncomputable def jW:aU→List Ev→List tM|_,[]=>[]|p,e::l=>(e,hH p e)::jW (b8 p e) l
theorem Cq (p:aU)(l:List Ev)(e:Ev):bO p (l++[e])=b8 (bO p l) e:=by unfold bO;rw[List.foldl_append];rfl
theorem uj:∀(l:List Ev)(p:aU)(e:Ev),jW p (l++[e])=jW p l++[(e,hH (bO p l) e)]|[],_,_=>rfl|x::l,p,e=>by show(x,hH p x)::jW (b8 p x) (l++[e])=_;rw[uj l];rfl
theorem rA:∀(l:List Ev)(p:aU),(jW p l).length=l.length|[],_=>rfl|x::l,p=>by rw[jW,Nb,Nb,rA l]
def Ev.Ok (e:Ev):Prop:=fT e.n∧e.b.length≤1000000
theorem HV {c:bk}(hM:jK c):∀(l:List Ev){p:aU}{t:Nat},p.I c t→t+l.length≤100→(∀e,e∈l→e.Ok)→(bO p l).I c (t+l.length)|[],p,t,h,_,_=>h|e::l,p,t,h,hl,ho=>by rw[Nb] at hl⊢;have:=HV hM l (jB h hM (by omega) e (ho e (by simp)).1) (by omega) fun x hx=>ho x (by simp[hx]);rw[show t+(l.length+1)=t+1+l.length by omega];exact this
theorem Bi {l:List Ev}{i:Nat}(h:i<l.length):(l.map bH)[i]?=some (bH l[i]):=by simp[h]
theorem Oi (p:aU)(l:List Ev){c:bk}{t:Nat}(h:p.I c t)(hM:jK c)(hl:t+l.length≤99)(ho:∀e,e∈l→e.Ok):ay (CG G) 7 [dw p,.sl 4 (l.map bH)] [dw (bO p l),.sl 5 ((jW p l).map fK)]:=by
 have hml:(l.map bH).length=l.length:=by simp
 unfold dw bf;refine ay.mk (n:=35) Tryz.func7 rfl rfl rfl (Nat.le_of_ble_eq_true rfl) (ad ?_);apply aA (fun i:Nat=>i≤l.length) (fun i=>⟨[(1,.d (.sl 4 (l.map bH))),(2,.op 16 0 0),(4,.op 17 0 0),(6,.os 18),(7,dI (i:Int))],[(16,some (.box [dI ((bO p (l.take i)).cfg.maxHead),dI ((bO p (l.take i)).cfg.maxBody),dI ((bO p (l.take i)).cfg.maxReply),dI ((bO p (l.take i)).cfg.cin),dI ((bO p (l.take i)).cfg.cout),dI ((bO p (l.take i)).cfg.clients),dI ((bO p (l.take i)).cfg.admins),dI ((bO p (l.take i)).cfg.listeners),dI ((bO p (l.take i)).cfg.stable),dI ((bO p (l.take i)).cfg.canary),dI ((bO p (l.take i)).cfg.shadow),dI ((bO p (l.take i)).cfg.tee),dI ((bO p (l.take i)).cfg.idle),dI ((bO p (l.take i)).cfg.reqd),dI ((bO p (l.take i)).cfg.shadd),dI ((bO p (l.take i)).cfg.reports),.d (.sl 1 ((bO p (l.take i)).cfg.plan.ws.map (.i .i64))),dI ((bO p (l.take i)).cfg.plan.ms),dI ((bO p (l.take i)).cfg.plan.nu),dI ((bO p (l.take i)).cfg.plan.de),dI ((bO p (l.take i)).cfg.plan.ho),dI ((bO p (l.take i)).cfg.plan.wi),.d (.s (bO p (l.take i)).cfg.salt),.d (.s (bO p (l.take i)).cfg.cookie),.d (.b (bO p (l.take i)).cfg.mirror),.d (.sl 1 ((bO p (l.take i)).cfg.ignore.map .s)),dI ((bO p (l.take i)).now),dI ((bO p (l.take i)).draw),dI ((bO p (l.take i)).ser),dI ((bO p (l.take i)).ro.st),dI ((bO p (l.take i)).ro.sg),dI ((bO p (l.take i)).ro.he),dI ((bO p (l.take i)).ro.tt),dI ((bO p (l.take i)).ro.er),dI ((bO p (l.take i)).ro.ag),.d (.sl 65 ((bO p (l.take i)).cls.map dU)),.d (.sl 33 ((bO p (l.take i)).ups.map fo)),dI ((bO p (l.take i)).sta.ba),dI ((bO p (l.take i)).sta.qu),dI ((bO p (l.take i)).sta.se),.d (.sl 1 ((bO p (l.take i)).sta.id.map (.i .i64))),.d (.sl 1 ((bO p (l.take i)).sta.bu.map (.i .i64))),dI ((bO p (l.take i)).can.ba),dI ((bO p (l.take i)).can.qu),dI ((bO p (l.take i)).can.se),.d (.sl 1 ((bO p (l.take i)).can.id.map (.i .i64))),.d (.sl 1 ((bO p (l.take i)).can.bu.map (.i .i64))),dI ((bO p (l.take i)).sh.pool.ba),dI ((bO p (l.take i)).sh.pool.qu),dI ((bO p (l.take i)).sh.pool.se),.d (.sl 1 ((bO p (l.take i)).sh.pool.id.map (.i .i64))),.d (.sl 1 ((bO p (l.take i)).sh.pool.bu.map (.i .i64))),.d (.sl 55 ((bO p (l.take i)).sh.jobs.map bI)),dI ((bO p (l.take i)).sh.rep.cap),dI ((bO p (l.take i)).sh.rep.ser),.d (.sl 6 ((bO p (l.take i)).sh.rep.l.map NH))])),(17,some (.box [dI aU.zero.cfg.maxHead,dI aU.zero.cfg.maxBody,dI aU.zero.cfg.maxReply,dI aU.zero.cfg.cin,dI aU.zero.cfg.cout,dI aU.zero.cfg.clients,dI aU.zero.cfg.admins,dI aU.zero.cfg.listeners,dI aU.zero.cfg.stable,dI aU.zero.cfg.canary,dI aU.zero.cfg.shadow,dI aU.zero.cfg.tee,dI aU.zero.cfg.idle,dI aU.zero.cfg.reqd,dI aU.zero.cfg.shadd,dI aU.zero.cfg.reports,.d (.sl 1 (aU.zero.cfg.plan.ws.map (.i .i64))),dI aU.zero.cfg.plan.ms,dI aU.zero.cfg.plan.nu,dI aU.zero.cfg.plan.de,dI aU.zero.cfg.plan.ho,dI aU.zero.cfg.plan.wi,.d (.s aU.zero.cfg.salt),.d (.s aU.zero.cfg.cookie),.d (.b aU.zero.cfg.mirror),.d (.sl 1 (aU.zero.cfg.ignore.map .s)),dI aU.zero.now,dI aU.zero.draw,dI aU.zero.ser,dI aU.zero.ro.st,dI aU.zero.ro.sg,dI aU.zero.ro.he,dI aU.zero.ro.tt,dI aU.zero.ro.er,dI aU.zero.ro.ag,.d (.sl 65 (aU.zero.cls.map dU)),.d (.sl 33 (aU.zero.ups.map fo)),dI aU.zero.sta.ba,dI aU.zero.sta.qu,dI aU.zero.sta.se,.d (.sl 1 (aU.zero.sta.id.map (.i .i64))),.d (.sl 1 (aU.zero.sta.bu.map (.i .i64))),dI aU.zero.can.ba,dI aU.zero.can.qu,dI aU.zero.can.se,.d (.sl 1 (aU.zero.can.id.map (.i .i64))),.d (.sl 1 (aU.zero.can.bu.map (.i .i64))),dI aU.zero.sh.pool.ba,dI aU.zero.sh.pool.qu,dI aU.zero.sh.pool.se,.d (.sl 1 (aU.zero.sh.pool.id.map (.i .i64))),.d (.sl 1 (aU.zero.sh.pool.bu.map (.i .i64))),.d (.sl 55 (aU.zero.sh.jobs.map bI)),dI aU.zero.sh.rep.cap,dI aU.zero.sh.rep.ser,.d (.sl 6 (aU.zero.sh.rep.l.map NH))])),(18,some (.buf 5 ((jW p (l.take i)).map fK)))],3⟩) (fun i=>l.length-i) 0 (Nat.zero_le _) [(16,_),(17,_),(18,_)];·exact aF
 ·intro i hi;have hI:=HV hM (l.take i) h (by rw[Nj];omega) (fun e he=>ho e (List.mem_of_mem_take he));have htl:(l.take i).length=i:=by rw[Nj];omega
  rw[htl] at hI;have hrl:((jW p (l.take i)).map fK).length=i:=by rw[Nl,rA,htl]
  refine ad ?_;refine ae (fun h1=>?_) (fun h1=>?_)
  ·have hi':i<l.length:=by omega
   have hgi:(l.map bH)[i]?=some (.agg [.i .i64 l[i].kind,.i .i64 l[i].conn,.i .i64 l[i].n,.sl 1 (aD l[i].b)]):=Bi hi';have he:=ho _ (Nr hi');have e1:bO p (l.take (i+1))=b8 (bO p (l.take i)) l[i]:=by rw[Nh hi',Cq]
   have e2:jW p (l.take (i+1))=jW p (l.take i)++[(l[i],hH (bO p (l.take i)) l[i])]:=by rw[Nh hi',uj]
   have c1:=Gb (bO p (l.take i)) l[i] hI hM (by omega) he.1 he.2;generalize l[i]=e at*;generalize bO p (l.take i)=q at*;generalize jW p (l.take i)=ts at*;generalize b8 q e=q2 at*;generalize hH q e=sa at*;unfold dw bf bS bH at c1;repeat'(first|refine ad ?_|refine dk ?_|refine ao i rfl hgi ?_|refine ah (c1) ?_|refine aB (by simp only[Nb,Nf];omega) ?_|refine ae (fun _=>?_) (fun _=>?_)|refine aq ?_)
   apply aG (i+1) [(16,_),(17,_),(18,_)] (by omega) (by omega);rw[e1,e2];((repeat' constructor)<;>(first|refine aI ?_|rfl)<;>first|exact oT|skip);all_goals simp[fK]
  ·obtain rfl:i=l.length:=by omega
   rw[ND];repeat'(first|refine ad ?_|refine dk ?_|refine ae (fun _=>?_) (fun _=>?_)|refine aq ?_)
   rfl
structure CfN (c:bk):Prop where
 m:jK c
 pl:1≤c.plan.ws.length
 rep:c.reports≤5
def iz (c:bk):aU:=⟨c,0,0,0,qU 0,[],[],oD 1000000 c.stable,oD 2000000 c.canary,zJ c⟩
theorem Om (c:bk)(h:c.Ok):ay (CG G) 6 [di c] [dw (iz c),.i .i64 0]:=by
 have c1:=uG c h;have c2:=Hr 1000000 c.stable;have c3:=Hr 2000000 c.canary;have c4:=AC c;unfold iz;generalize oD 1000000 c.stable=p1 at*;generalize oD 2000000 c.canary=p2 at*;generalize zJ c=s at*;unfold o8 at c2 c3;unfold bJ aZ at c4;unfold di bi dw bf at*;refine mD 21 Tryz.func6 ?_;repeat'(first|refine ad ?_|refine dk ?_|refine ah (c1) ?_|refine ah (c2) ?_|refine ah (c3) ?_|refine ah (c4) ?_|refine ai (fun h=>h rfl) ?_|refine ae (fun _=>?_) (fun _=>?_)|refine aq ?_)
 refine aN ?_;rfl
theorem Ol {c:bk}(h:CfN c):(iz c).I c 0:=by
 have hk:=h.m.ok;have p1:=qx 1000000 c.stable;have p2:=qx 2000000 c.canary;have p3:=qx 3000000 c.shadow;refine⟨⟨⟨hk,by show(0:Int)≤0∧(0:Int)≤100000;omega,by show fT 0;exact⟨by omega,by omega⟩,by show(0:Int)≤0∧(0:Int)≤1000000000;omega,yY (by show(0:Int)≤0;omega) h.pl (by omega),h.pl,by show 0≤1000000;omega,by show 0≤1000000;omega,fun x hx=>(by cases hx),fun x hx=>(by cases hx),p1,p2,?_⟩,rfl,List.nodup_nil,List.nodup_nil,fun x hx=>(by cases hx),fun x hx=>(by cases hx),?_,?_,fun x hx=>(by cases hx),?_,fun x hx=>(by cases hx),fun x hx=>(by cases hx)⟩,by show(0:Int)≤0;omega,Nat.le_refl _⟩;·have hr:=h.rep;have hsh:=hk.shadow;exact⟨p3,rfl,by show((0:Nat):Int)≤0;omega,fun j hj=>(by cases hj),⟨by show 0≤mS c.reports∧mS c.reports≤10000;unfold mS;omega,by show(0:Int)≤0∧(0:Int)≤1000000000;omega,by show((0:Nat):Int)≤mS c.reports;unfold mS;omega⟩,by show mS c.reports≤5;unfold mS;omega,fun x hx=>(by cases hx)⟩
 ·exact⟨by show min (max (1000000:Int) 0) 1000000000=1000000;omega,by show min (max (2000000:Int) 0) 1000000000=2000000;omega⟩
 ·have h1:=hk.stable;have h2:=hk.canary;exact⟨by show min (max c.stable 0) 1000≤100;omega,by show min (max c.canary 0) 1000≤100;omega⟩
 ·intro i hi;rcases hi with hi|hi;·cases hi
  ·cases hi
theorem bR (l:List Int)(i:Nat)(n:Int)(hi:i≤l.length)(hl:l.length≤1000000)(hn:1≤n∧n≤1000000):∃(r i':Nat),(r:Int)<n∧i'≤l.length∧aH (CG G) 42 [.op 0 0 0,dI n] (aE l i) [dI (r:Int)] (aE l i'):=⟨i0 l i n,bQ l i,cB l i n hn.1,(b6 hi).2,ip l i n hi (by omega) ⟨hn.1,by omega⟩⟩
theorem yb {a b:List Int}(h:∀j,j<a.length→b.getD j 0=a.getD j 0):∀n,n≤a.length→rh b n=rh a n|0,_=>rfl|n+1,hn=>by rw[lg,lg,yb h n (by omega)];congr 1;unfold Ca;rw[h n (by omega)];cases n with|zero=>simp;|succ m=>rw[show m+1-1=m from rfl,h m (by omega)]
theorem xW (l:List Int):∀(k i:Nat)(w:Int)(acc:List Int),0≤w→w+3300*k≤10000→rh acc acc.length=true→(acc.length=0∨acc.getD (acc.length-1) 0=w)→rh (fY l k i w acc).1 (fY l k i w acc).1.length=true
 |0,_,_,_,_,_,h,_=>h|k+1,i,w,acc,h0,h1,h,hlast=>by
  have hv:=cB l i 3300 (by decide);rw[fY];refine xW l k (bQ l i) _ _ (by omega) (by push_cast at h1;omega) ?_ (.inr ?_)
  ·rw[Na,Nb,Nf,lg,yb (a:=acc) (fun j hj=>by simp[List.getD_eq_getElem?_getD,List.getElem?_append,hj]) acc.length (Nat.le_refl _),h,Bool.true_and];unfold Ca;have e:(acc++[w+1+(i0 l i 3300:Int)]).getD acc.length 0=w+1+(i0 l i 3300:Int):=by simp[List.getD_eq_getElem?_getD]
   rw[e];apply decide_eq_true;push_cast at h1;refine⟨by omega,?_⟩;rcases hlast with hz|hz;·exact .inl hz
   ·by_cases hz0:acc.length=0;·exact .inl hz0
    ·right;have:(acc++[w+1+(i0 l i 3300:Int)]).getD (acc.length-1) 0=acc.getD (acc.length-1) 0:=by
      have hlt:acc.length-1<acc.length:=by omega
      simp[List.getD_eq_getElem?_getD,List.getElem?_append,hlt]
     rw[this,hz];omega
  ·simp[List.getD_eq_getElem?_getD]
theorem Ck (l:List Int)(i:Nat):gk (fy l i).1=true:=by have h1:=cB l i 3 (by decide);have h2:=cB l (bQ l i) 3 (by decide);have h3:=cB l (bQ l (bQ l i)) 4 (by decide);have h4:=cB l (bQ l (bQ l (bQ l i))) 3 (by decide);have h5:=cB l (bQ l (bQ l (bQ l (bQ l i)))) 4 (by decide);have h6:=cB l (wu l i) 3 (by decide);have hl:=lW l i;have hw:rh (fy l i).1.ws (fy l i).1.ws.length=true:=xW l _ _ 0 [] (by decide) (by omega) rfl (.inl rfl);unfold gk wOk;rw[hw];simp only[fy] at hl⊢;simp only[Bool.and_true,Bool.and_eq_true];refine⟨⟨⟨⟨⟨?_,?_⟩,?_⟩,?_⟩,?_⟩,?_⟩<;>exact decide_eq_true (by omega)
def salts:List (List UInt8):=[[],[115]]
def L4:List UInt8:=[99,111,104,111,114,116]
def ignB:List (List UInt8):=[[69,84,97,103],[120,45,98]]
theorem planPos (l:List Int)(i:Nat)(hi:i≤l.length):(fy l i).2≤l.length:=by have h:∀j,j≤l.length→bQ l j≤l.length:=fun j hj=>(b6 hj).2;exact(tV l _ _ _ _ (h _ (h _ (h _ (h _ (h _ (h _ hi))))))).2
theorem planE (l:List Int)(i:Nat)(hi:i≤l.length)(hl:l.length≤1000000):∃(p:Pl)(i':Nat),gk p=true∧p.ws.length≤3∧1≤p.ws.length∧(∀a,a∈p.ws→0≤a∧a≤20000)∧i'≤l.length∧aH (CG G) 43 [.op 0 0 0] (aE l i) [.d (sr p)] (aE l i'):=⟨(fy l i).1,(fy l i).2,Ck l i,(lW l i).2,(lW l i).1,zL l i,planPos l i hi,Ll l i hi (by omega)⟩
theorem ofE (l:List Int)(i:Nat)(m:List (List UInt8))(hi:i≤l.length)(hl:l.length≤1000000)(hm:1≤m.length∧m.length≤1000000):∃(x:List UInt8)(i':Nat),x∈m∧i'≤l.length∧aH (CG G) 44 [.op 0 0 0,.d (bP m)] (aE l i) [.d (.s x)] (aE l i'):=⟨D4 l i m,bQ l i,pA l i m hm.1,(b6 hi).2,ofV l i m hi (by omega) hm⟩
theorem Iy (l:List Int)(i:Nat)(hi:i≤l.length)(hl:l.length≤1000000):∃(c:bk)(i':Nat),CfN c∧i'≤l.length∧aH (CG G) 23 [.op 0 0 0] (aE l i) [.d (di c)] (aE l i'):=by
 obtain⟨r1,i1,h1,g1,c1⟩:=bR l i 200 hi hl (by omega);obtain⟨r2,i2,h2,g2,c2⟩:=bR l i1 50 g1 hl (by omega);obtain⟨r3,i3,h3,g3,c3⟩:=bR l i2 80 g2 hl (by omega);obtain⟨r4,i4,h4,g4,c4⟩:=bR l i3 100 g3 hl (by omega);obtain⟨r5,i5,h5,g5,c5⟩:=bR l i4 3 g4 hl (by omega);obtain⟨r6,i6,h6,g6,c6⟩:=bR l i5 2 g5 hl (by omega);obtain⟨r7,i7,h7,g7,c7⟩:=bR l i6 2 g6 hl (by omega);obtain⟨r8,i8,h8,g8,c8⟩:=bR l i7 4 g7 hl (by omega);obtain⟨r9,i9,h9,g9,c9⟩:=bR l i8 4 g8 hl (by omega);obtain⟨r10,i10,h10,g10,c10⟩:=bR l i9 4 g9 hl (by omega);obtain⟨r11,i11,h11,g11,c11⟩:=bR l i10 1200 g10 hl (by omega);obtain⟨r12,i12,h12,g12,c12⟩:=bR l i11 9 g11 hl (by omega);obtain⟨r13,i13,h13,g13,c13⟩:=bR l i12 9 g12 hl (by omega);obtain⟨r14,i14,h14,g14,c14⟩:=bR l i13 9 g13 hl (by omega);obtain⟨r15,i15,h15,g15,c15⟩:=bR l i14 6 g14 hl (by omega);obtain⟨pl,i16,p1,p2,p3,p4,g16,c16⟩:=planE l i15 g15 hl;obtain⟨sa,i17,hsa,g17,c17⟩:=ofE l i16 salts g16 hl (by decide);obtain⟨r18,i18,h18,g18,c18⟩:=bR l i17 5 g17 hl (by omega);obtain⟨r19,i19,h19,g19,c19⟩:=bR l i18 60 g18 hl (by omega);obtain⟨r20,i20,h20,g20,c20⟩:=bR l i19 2 g19 hl (by omega);have hsl:sa.length≤1:=by
  rcases List.mem_cons.1 hsa with rfl|h;·exact Nat.zero_le _
  ·rw[Nx.1 h];exact Nat.le_refl _
 have ok:∀(mir:Bool)(ig:List (List UInt8)),ig.length≤16→(∀x,x∈ig→eX x=true∧x.length≤1000)→CfN ⟨100+r1,r2,r3,100+r1+r19,1+r4,1+r5,1+r6,1+r7,r8,r9,r10,r11,1+r12,1+r13,1+r14,r15,pl,sa,L4,mir,ig⟩:=by intro mir ig hg1 hg2;refine⟨⟨⟨by simp only;omega,by simp only;omega,by simp only;omega,by simp only;omega,by simp only;omega,by simp only;omega,by simp only;omega,by simp only;omega,by simp only;omega,by simp only;omega,by simp only;omega,by simp only;omega,by simp only;omega,by simp only;omega,by simp only;omega,by simp only;omega,p1,by simp only;omega,p4,by simp only;omega,by show eX L4=true;decide,by show L4.length≤64;decide,hg1,hg2⟩,by simp only;omega,by simp only;omega⟩,p3,by simp only;omega⟩
 have hz0:(r20:Int)=0∨¬(r20:Int)=0:=by omega
 have hm0:0<(r18:Int)∨¬0<(r18:Int):=by omega
 unfold bP at c17;unfold sr at c16;rcases hz0 with hz|hz
 ·rcases hm0 with hm|hm
  ·refine⟨_,i20,ok true ignB (by decide) (by decide),g20,?_⟩;unfold di bi;refine mH 63 Tryz.func23 ?_;repeat'(first|refine ad ?_|refine dk ?_|refine aq ?_)
   refine ak [(0,0)] (c1) ?_ ?_;·(try simp only[aE]);exact aF
   repeat'(first|refine ad ?_|refine dk ?_|refine aq ?_)
   refine ak [(0,0)] (c2) ?_ ?_;·(try simp only[aE]);exact aF
   repeat'(first|refine ad ?_|refine dk ?_|refine aq ?_)
   refine ak [(0,0)] (c3) ?_ ?_;·(try simp only[aE]);exact aF
   repeat'(first|refine ad ?_|refine dk ?_|refine aq ?_)
   refine ak [(0,0)] (c4) ?_ ?_;·(try simp only[aE]);exact aF
   repeat'(first|refine ad ?_|refine dk ?_|refine aq ?_)
   refine ak [(0,0)] (c5) ?_ ?_;·(try simp only[aE]);exact aF
   repeat'(first|refine ad ?_|refine dk ?_|refine aq ?_)
   refine ak [(0,0)] (c6) ?_ ?_;·(try simp only[aE]);exact aF
   repeat'(first|refine ad ?_|refine dk ?_|refine aq ?_)
   refine ak [(0,0)] (c7) ?_ ?_;·(try simp only[aE]);exact aF
   repeat'(first|refine ad ?_|refine dk ?_|refine aq ?_)
   refine ak [(0,0)] (c8) ?_ ?_;·(try simp only[aE]);exact aF
   repeat'(first|refine ad ?_|refine dk ?_|refine aq ?_)
   refine ak [(0,0)] (c9) ?_ ?_;·(try simp only[aE]);exact aF
   repeat'(first|refine ad ?_|refine dk ?_|refine aq ?_)
   refine ak [(0,0)] (c10) ?_ ?_;·(try simp only[aE]);exact aF
   repeat'(first|refine ad ?_|refine dk ?_|refine aq ?_)
   refine ak [(0,0)] (c11) ?_ ?_;·(try simp only[aE]);exact aF
   repeat'(first|refine ad ?_|refine dk ?_|refine aq ?_)
   refine ak [(0,0)] (c12) ?_ ?_;·(try simp only[aE]);exact aF
   repeat'(first|refine ad ?_|refine dk ?_|refine aq ?_)
   refine ak [(0,0)] (c13) ?_ ?_;·(try simp only[aE]);exact aF
   repeat'(first|refine ad ?_|refine dk ?_|refine aq ?_)
   refine ak [(0,0)] (c14) ?_ ?_;·(try simp only[aE]);exact aF
   repeat'(first|refine ad ?_|refine dk ?_|refine aq ?_)
   refine ak [(0,0)] (c15) ?_ ?_;·(try simp only[aE]);exact aF
   repeat'(first|refine ad ?_|refine dk ?_|refine aq ?_)
   refine ak [(0,0)] (c16) ?_ ?_;·(try simp only[aE]);exact aF
   repeat'(first|refine ad ?_|refine dk ?_|refine aq ?_)
   refine ak [(0,0)] (c17) ?_ ?_;·(try simp only[aE]);exact aF
   repeat'(first|refine ad ?_|refine dk ?_|refine aq ?_)
   refine ak [(0,0)] (c18) ?_ ?_;·(try simp only[aE]);exact aF
   repeat'(first|refine ad ?_|refine dk ?_|refine aq ?_)
   refine aj hm ?_;repeat'(first|refine ad ?_|refine dk ?_|refine aq ?_)
   refine ak [(0,0)] (c19) ?_ ?_;·(try simp only[aE]);exact aF
   repeat'(first|refine ad ?_|refine dk ?_|refine aq ?_)
   refine ak [(0,0)] (c20) ?_ ?_;·(try simp only[aE]);exact aF
   repeat'(first|refine ad ?_|refine dk ?_|refine aq ?_)
   refine aj hz ?_;repeat'(first|refine ad ?_|refine dk ?_|refine aq ?_)
   apply aw [];simp only[aE];exact aF
  ·refine⟨_,i20,ok false ignB (by decide) (by decide),g20,?_⟩;unfold di bi;refine mH 63 Tryz.func23 ?_;repeat'(first|refine ad ?_|refine dk ?_|refine aq ?_)
   refine ak [(0,0)] (c1) ?_ ?_;·(try simp only[aE]);exact aF
   repeat'(first|refine ad ?_|refine dk ?_|refine aq ?_)
   refine ak [(0,0)] (c2) ?_ ?_;·(try simp only[aE]);exact aF
   repeat'(first|refine ad ?_|refine dk ?_|refine aq ?_)
   refine ak [(0,0)] (c3) ?_ ?_;·(try simp only[aE]);exact aF
   repeat'(first|refine ad ?_|refine dk ?_|refine aq ?_)
   refine ak [(0,0)] (c4) ?_ ?_;·(try simp only[aE]);exact aF
   repeat'(first|refine ad ?_|refine dk ?_|refine aq ?_)
   refine ak [(0,0)] (c5) ?_ ?_;·(try simp only[aE]);exact aF
   repeat'(first|refine ad ?_|refine dk ?_|refine aq ?_)
   refine ak [(0,0)] (c6) ?_ ?_;·(try simp only[aE]);exact aF
   repeat'(first|refine ad ?_|refine dk ?_|refine aq ?_)
   refine ak [(0,0)] (c7) ?_ ?_;·(try simp only[aE]);exact aF
   repeat'(first|refine ad ?_|refine dk ?_|refine aq ?_)
   refine ak [(0,0)] (c8) ?_ ?_;·(try simp only[aE]);exact aF
   repeat'(first|refine ad ?_|refine dk ?_|refine aq ?_)
   refine ak [(0,0)] (c9) ?_ ?_;·(try simp only[aE]);exact aF
   repeat'(first|refine ad ?_|refine dk ?_|refine aq ?_)
   refine ak [(0,0)] (c10) ?_ ?_;·(try simp only[aE]);exact aF
   repeat'(first|refine ad ?_|refine dk ?_|refine aq ?_)
   refine ak [(0,0)] (c11) ?_ ?_;·(try simp only[aE]);exact aF
   repeat'(first|refine ad ?_|refine dk ?_|refine aq ?_)
   refine ak [(0,0)] (c12) ?_ ?_;·(try simp only[aE]);exact aF
   repeat'(first|refine ad ?_|refine dk ?_|refine aq ?_)
   refine ak [(0,0)] (c13) ?_ ?_;·(try simp only[aE]);exact aF
   repeat'(first|refine ad ?_|refine dk ?_|refine aq ?_)
   refine ak [(0,0)] (c14) ?_ ?_;·(try simp only[aE]);exact aF
   repeat'(first|refine ad ?_|refine dk ?_|refine aq ?_)
   refine ak [(0,0)] (c15) ?_ ?_;·(try simp only[aE]);exact aF
   repeat'(first|refine ad ?_|refine dk ?_|refine aq ?_)
   refine ak [(0,0)] (c16) ?_ ?_;·(try simp only[aE]);exact aF
   repeat'(first|refine ad ?_|refine dk ?_|refine aq ?_)
   refine ak [(0,0)] (c17) ?_ ?_;·(try simp only[aE]);exact aF
   repeat'(first|refine ad ?_|refine dk ?_|refine aq ?_)
   refine ak [(0,0)] (c18) ?_ ?_;·(try simp only[aE]);exact aF
   repeat'(first|refine ad ?_|refine dk ?_|refine aq ?_)
   refine ai hm ?_;repeat'(first|refine ad ?_|refine dk ?_|refine aq ?_)
   refine ak [(0,0)] (c19) ?_ ?_;·(try simp only[aE]);exact aF
   repeat'(first|refine ad ?_|refine dk ?_|refine aq ?_)
   refine ak [(0,0)] (c20) ?_ ?_;·(try simp only[aE]);exact aF
   repeat'(first|refine ad ?_|refine dk ?_|refine aq ?_)
   refine aj hz ?_;repeat'(first|refine ad ?_|refine dk ?_|refine aq ?_)
   apply aw [];simp only[aE];exact aF
 ·rcases hm0 with hm|hm
  ·refine⟨_,i20,ok true [] (by decide) (by decide),g20,?_⟩;unfold di bi;refine mH 63 Tryz.func23 ?_;repeat'(first|refine ad ?_|refine dk ?_|refine aq ?_)
   refine ak [(0,0)] (c1) ?_ ?_;·(try simp only[aE]);exact aF
   repeat'(first|refine ad ?_|refine dk ?_|refine aq ?_)
   refine ak [(0,0)] (c2) ?_ ?_;·(try simp only[aE]);exact aF
   repeat'(first|refine ad ?_|refine dk ?_|refine aq ?_)
   refine ak [(0,0)] (c3) ?_ ?_;·(try simp only[aE]);exact aF
   repeat'(first|refine ad ?_|refine dk ?_|refine aq ?_)
   refine ak [(0,0)] (c4) ?_ ?_;·(try simp only[aE]);exact aF
   repeat'(first|refine ad ?_|refine dk ?_|refine aq ?_)
   refine ak [(0,0)] (c5) ?_ ?_;·(try simp only[aE]);exact aF
   repeat'(first|refine ad ?_|refine dk ?_|refine aq ?_)
   refine ak [(0,0)] (c6) ?_ ?_;·(try simp only[aE]);exact aF
   repeat'(first|refine ad ?_|refine dk ?_|refine aq ?_)
   refine ak [(0,0)] (c7) ?_ ?_;·(try simp only[aE]);exact aF
   repeat'(first|refine ad ?_|refine dk ?_|refine aq ?_)
   refine ak [(0,0)] (c8) ?_ ?_;·(try simp only[aE]);exact aF
   repeat'(first|refine ad ?_|refine dk ?_|refine aq ?_)
   refine ak [(0,0)] (c9) ?_ ?_;·(try simp only[aE]);exact aF
   repeat'(first|refine ad ?_|refine dk ?_|refine aq ?_)
   refine ak [(0,0)] (c10) ?_ ?_;·(try simp only[aE]);exact aF
   repeat'(first|refine ad ?_|refine dk ?_|refine aq ?_)
   refine ak [(0,0)] (c11) ?_ ?_;·(try simp only[aE]);exact aF
   repeat'(first|refine ad ?_|refine dk ?_|refine aq ?_)
   refine ak [(0,0)] (c12) ?_ ?_;·(try simp only[aE]);exact aF
   repeat'(first|refine ad ?_|refine dk ?_|refine aq ?_)
   refine ak [(0,0)] (c13) ?_ ?_;·(try simp only[aE]);exact aF
   repeat'(first|refine ad ?_|refine dk ?_|refine aq ?_)
   refine ak [(0,0)] (c14) ?_ ?_;·(try simp only[aE]);exact aF
   repeat'(first|refine ad ?_|refine dk ?_|refine aq ?_)
   refine ak [(0,0)] (c15) ?_ ?_;·(try simp only[aE]);exact aF
   repeat'(first|refine ad ?_|refine dk ?_|refine aq ?_)
   refine ak [(0,0)] (c16) ?_ ?_;·(try simp only[aE]);exact aF
   repeat'(first|refine ad ?_|refine dk ?_|refine aq ?_)
   refine ak [(0,0)] (c17) ?_ ?_;·(try simp only[aE]);exact aF
   repeat'(first|refine ad ?_|refine dk ?_|refine aq ?_)
   refine ak [(0,0)] (c18) ?_ ?_;·(try simp only[aE]);exact aF
   repeat'(first|refine ad ?_|refine dk ?_|refine aq ?_)
   refine aj hm ?_;repeat'(first|refine ad ?_|refine dk ?_|refine aq ?_)
   refine ak [(0,0)] (c19) ?_ ?_;·(try simp only[aE]);exact aF
   repeat'(first|refine ad ?_|refine dk ?_|refine aq ?_)
   refine ak [(0,0)] (c20) ?_ ?_;·(try simp only[aE]);exact aF
   repeat'(first|refine ad ?_|refine dk ?_|refine aq ?_)
   refine ai hz ?_;repeat'(first|refine ad ?_|refine dk ?_|refine aq ?_)
   apply aw [];simp only[aE];exact aF
  ·refine⟨_,i20,ok false [] (by decide) (by decide),g20,?_⟩;unfold di bi;refine mH 63 Tryz.func23 ?_;repeat'(first|refine ad ?_|refine dk ?_|refine aq ?_)
   refine ak [(0,0)] (c1) ?_ ?_;·(try simp only[aE]);exact aF
   repeat'(first|refine ad ?_|refine dk ?_|refine aq ?_)
   refine ak [(0,0)] (c2) ?_ ?_;·(try simp only[aE]);exact aF
   repeat'(first|refine ad ?_|refine dk ?_|refine aq ?_)
   refine ak [(0,0)] (c3) ?_ ?_;·(try simp only[aE]);exact aF
   repeat'(first|refine ad ?_|refine dk ?_|refine aq ?_)
   refine ak [(0,0)] (c4) ?_ ?_;·(try simp only[aE]);exact aF
   repeat'(first|refine ad ?_|refine dk ?_|refine aq ?_)
   refine ak [(0,0)] (c5) ?_ ?_;·(try simp only[aE]);exact aF
   repeat'(first|refine ad ?_|refine dk ?_|refine aq ?_)
   refine ak [(0,0)] (c6) ?_ ?_;·(try simp only[aE]);exact aF
   repeat'(first|refine ad ?_|refine dk ?_|refine aq ?_)
   refine ak [(0,0)] (c7) ?_ ?_;·(try simp only[aE]);exact aF
   repeat'(first|refine ad ?_|refine dk ?_|refine aq ?_)
   refine ak [(0,0)] (c8) ?_ ?_;·(try simp only[aE]);exact aF
   repeat'(first|refine ad ?_|refine dk ?_|refine aq ?_)
   refine ak [(0,0)] (c9) ?_ ?_;·(try simp only[aE]);exact aF
   repeat'(first|refine ad ?_|refine dk ?_|refine aq ?_)
   refine ak [(0,0)] (c10) ?_ ?_;·(try simp only[aE]);exact aF
   repeat'(first|refine ad ?_|refine dk ?_|refine aq ?_)
   refine ak [(0,0)] (c11) ?_ ?_;·(try simp only[aE]);exact aF
   repeat'(first|refine ad ?_|refine dk ?_|refine aq ?_)
   refine ak [(0,0)] (c12) ?_ ?_;·(try simp only[aE]);exact aF
   repeat'(first|refine ad ?_|refine dk ?_|refine aq ?_)
   refine ak [(0,0)] (c13) ?_ ?_;·(try simp only[aE]);exact aF
   repeat'(first|refine ad ?_|refine dk ?_|refine aq ?_)
   refine ak [(0,0)] (c14) ?_ ?_;·(try simp only[aE]);exact aF
   repeat'(first|refine ad ?_|refine dk ?_|refine aq ?_)
   refine ak [(0,0)] (c15) ?_ ?_;·(try simp only[aE]);exact aF
   repeat'(first|refine ad ?_|refine dk ?_|refine aq ?_)
   refine ak [(0,0)] (c16) ?_ ?_;·(try simp only[aE]);exact aF
   repeat'(first|refine ad ?_|refine dk ?_|refine aq ?_)
   refine ak [(0,0)] (c17) ?_ ?_;·(try simp only[aE]);exact aF
   repeat'(first|refine ad ?_|refine dk ?_|refine aq ?_)
   refine ak [(0,0)] (c18) ?_ ?_;·(try simp only[aE]);exact aF
   repeat'(first|refine ad ?_|refine dk ?_|refine aq ?_)
   refine ai hm ?_;repeat'(first|refine ad ?_|refine dk ?_|refine aq ?_)
   refine ak [(0,0)] (c19) ?_ ?_;·(try simp only[aE]);exact aF
   repeat'(first|refine ad ?_|refine dk ?_|refine aq ?_)
   refine ak [(0,0)] (c20) ?_ ?_;·(try simp only[aE]);exact aF
   repeat'(first|refine ad ?_|refine dk ?_|refine aq ?_)
   refine ai hz ?_;repeat'(first|refine ad ?_|refine dk ?_|refine aq ?_)
   apply aw [];simp only[aE];exact aF
theorem n14_l:∀x,x∈Mv→x.length≤15:=by decide
theorem v11_l:∀x,x∈HY→x.length≤40:=by decide
theorem LG (l:List Int)(i:Nat):(wP l i).1.length+(wP l i).2.length+1≤56:=by unfold wP;have h1:=n14_l _ (pA l i Mv (by decide));have h2:=v11_l _ (pA l (bQ l i) HY (by decide));have h3:=fM (D4 l (bQ l i) HY);simp only;omega
theorem BW (l:List Int):∀(n i:Nat)(o:List bB),i≤l.length→br (jM l n i o).2≤br o+56*n∧(jM l n i o).2.length=o.length+n∧(jM l n i o).1≤l.length|0,i,o,h=>⟨Nat.le_refl _,rfl,h⟩|n+1,i,o,h=>by have h0:=BW l n (bQ l (bQ l i)) (o++[wP l i]) (b6 (b6 h).2).2;have h1:=LG l i;rw[b7,ez,Na,NA] at h0;simp only[jM];omega
theorem Mn (l:List Int)(i:Nat)(most:Int)(hi:i≤l.length)(hl:l.length≤9223372036854775807)(hm:0≤most∧most≤1000000):aH (CG G) 92 [.op 0 0 0,dI most] (aE l i) [.os 16] ((16,some (.buf 2 ((yg l i most).2.map aL)))::aE l (yg l i most).1):=by
 unfold yg;have hr:=cB l i (most+1) (by omega);have hx:=ip l i (most+1) hi hl (by omega);generalize hg:i0 l i (most+1)=r at hx hr;have hn:=b6 hi;generalize hfin:jM l r (bQ l i) []=fin;refine aH.mk (n:=21) Tryz.func92 rfl rfl rfl (Nat.le_of_ble_eq_true rfl) rfl (ad (ar ⟨by omega,by omega⟩ ?_));refine ak [(0,0)] hx ?_ ?_;·exact aF
 apply aA (fun x:Nat×Nat×List bB=>x.2.1≤l.length∧x.2.2.length+x.1≤1000000∧jM l x.1 x.2.1 x.2.2=fin) (fun x=>⟨[(0,.op 0 0 0),(5,.os 16),(6,dI (x.1:Int))],(16,some (.buf 2 (x.2.2.map aL)))::aE l x.2.1,2⟩) (fun x=>x.1) (r,bQ l i,[]) ⟨hn.2,by simp;omega,hfin⟩ [(16,_)];·simp only[aE];exact aF
 ·rintro⟨k,j,o⟩ ⟨h1,h2,h3⟩;simp only at h1 h2 h3;refine ad ?_;refine ae (fun h=>?_) (fun h=>?_)
  ·obtain⟨k,rfl⟩:∃q,k=q+1:=⟨k-1,by omega⟩;have h7:=Me l j h1 hl;simp only[jM] at h3;generalize wP l j=f at h7 h3;unfold aL at h7;refine ad ?_;refine ak [(0,0)] h7 ?_ ?_;·exact aF
   refine aB (by simp;omega) (ar ⟨by omega,by omega⟩ ?_);apply aG (k,bQ l (bQ l j),o++[f]) [(16,_)] ⟨(b6 (b6 h1).2).2,by simp;omega,h3⟩ (by simp only;omega);simp only[aE];((repeat' constructor)<;>(first|refine aI ?_|rfl)<;>first|exact oT|skip);all_goals (simp[aL])
  ·obtain rfl:k=0:=by omega
   simp only[jM] at h3;subst h3;apply aw [(16,_)];simp only[aE];exact aF
theorem Kv (l:List Int)(i:Nat)(most:Nat)(hi:i≤l.length)(hl:l.length≤1000000)(hm:most≤100):∃(fs:List bB)(i':Nat),br fs≤56*most∧fs.length≤most∧i'≤l.length∧aH (CG G) 92 [.op 0 0 0,dI (most:Int)] (aE l i) [.os 16] ((16,some (.buf 2 (fs.map aL)))::aE l i'):=by
 have hr:=cB l i ((most:Int)+1) (by omega);have z:br []=0:=rfl;have hw:=BW l (i0 l i ((most:Int)+1)) (bQ l i) [] (b6 hi).2;rw[z,Nf] at hw;refine⟨(yg l i most).2,(yg l i most).1,?_,?_,?_,Mn l i most hi (by omega) (by omega)⟩;·show br (jM l _ _ []).2≤_;omega
 ·show(jM l _ _ []).2.length≤_;omega
 ·exact hw.2.2
theorem y8 (l:List Int)(i:Nat)(most:Nat)(hi:i≤l.length)(hl:l.length≤1000000)(hm:most≤100):∃(b:List UInt8)(i':Nat),b.length≤most∧i'≤l.length∧aH (CG G) 66 [.op 0 0 0,dI (most:Int)] (aE l i) [.os 16] ((16,some (.buf 1 (aD b)))::aE l i'):=by have hr:=cB l i ((most:Int)+1) (by omega);refine⟨(qi l i most).1,(qi l i most).2,?_,(Hz l _ _ [] (b6 hi).2).2,MO l i most hi (by omega) (by omega)⟩;show(D6 l _ _ []).1.length≤_;rw[BQ,Nf];omega
theorem idE (l:List Int)(i:Nat)(hi:i≤l.length)(hl:l.length≤1000000):∃(s:List UInt8)(i':Nat),s.length≤256∧i'≤l.length∧aH (CG G) 97 [.op 0 0 0] (aE l i) [.d (.s s)] (aE l i'):=by
 obtain⟨r,i1,hr,hi1,c1⟩:=bR l i 8 hi hl (by omega);have c2:=Gu (r:Int) 7 ⟨by omega,by omega⟩ ⟨by omega,by omega⟩;refine⟨_,i1,ud (r:Int) 7,hi1,?_⟩;unfold qk;refine mH 6 Tryz.func97 ?_;refine ak [(0,0)] (c1) ?_ ?_;·(try simp only[aE]);exact aF
 refine ah (c2) ?_;apply aw [];simp only[aE];exact aF
def KB:List (List UInt8):=[[71,69,84],[71,69,84],[80,79,83,84],[72,69,65,68],[80,85,84]]
def KY:List (List UInt8):=[[47],[47,97,63,98],[47,114,111,108,108,111,117,116],[47,114,101,112,111,114,116,115]]
structure wN (q:eL):Prop where
 m:q.m.length≤10
 t:q.t.length≤10
 fs:br q.fs≤1000
 fn:q.fs.length≤100
 mi:q.mi=0∨q.mi=1
 b:q.body.length≤30
end Go.Proofs.YtgfdbddglhblbaaGreat

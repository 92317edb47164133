/- A part of the proof of what is stated of the erasing of a mirror. -/
import Derived.Test.YtgfdbddglhblbaaGreatQaw
set_option maxHeartbeats 64000000
namespace Go.Proofs.YtgfdbddglhblbaaGreat
open Go.Eng
attribute [local irreducible] aO
set_option maxRecDepth 100000
structure dm.G (r:dm):Prop where
 rq:br r.rq.fs≤100000
 rqn:r.rq.fs.length≤64
 rqm:r.rq.m.length≤100000
 rqt:r.rq.t.length≤100000
 rqb:r.rq.body=[]an:br r.an.fs≤100000
 ann:r.an.fs.length≤64
 anr:r.an.rs.length≤100000
 anb:r.an.body=[]lf:0≤r.lf∧r.lf≤1000000000
 sz:0≤r.sz∧r.sz≤1000000
 two:r.fm.kd=2→r.sz+r.lf≤1000000
 ck:r.ck.Ok
theorem dm.G.inn {r:dm}(h:r.G):r.In:=⟨h.lf,by have:=h.sz;omega,h.ck⟩
theorem dm.zero_g:dm.zero.G:=⟨by decide,by decide,by decide,by decide,rfl,by decide,by decide,by decide,rfl,by decide,by decide,by decide,pG⟩
theorem w7 (m:List UInt8):(rL m).G:=⟨by show br []≤_;decide,by show([]:List bB).length≤_;decide,by show([]:List UInt8).length≤_;decide,by show([]:List UInt8).length≤_;decide,rfl,by show br []≤_;decide,by show([]:List bB).length≤_;decide,by show([]:List UInt8).length≤_;decide,rfl,by show(0:Int)≤0∧(0:Int)≤_;decide,by show(0:Int)≤0∧(0:Int)≤_;decide,fun h=>by have h:(0:Int)=2:=h;omega,pG⟩
theorem sf (mi:Int)(fs:List bB)(none:Int):0≤(eC mi fs none).1.len∧(eC mi fs none).1.len≤1000000000:=by
 unfold eC;repeat' split
 all_goals first|(simp only;omega)|skip
 exact tI (by decide) (by decide) _
theorem Am (m:List UInt8)(a:iZ):0≤(gY m a).1.len∧(gY m a).1.len≤1000000000:=by
 unfold gY;split;·exact⟨by decide,by decide⟩
 ·exact sf _ _ _
theorem tR {l:List (List UInt8)}{n:Nat}(h:aX l≤n):(l.headD []).length≤n:=by cases l with|nil=>simp;|cons x r=>
 have e:aX (x::r)=x.length+1+aX r:=by simp[aX]
 simp only[List.headD_cons];omega
structure FQ (b:List UInt8)(q:eL):Prop where
 fs:br q.fs≤b.length
 n:q.fs.length≤64
 m:q.m.length≤b.length
 t:q.t.length≤b.length
 body:q.body=[]
theorem yE (s:List UInt8):(df s).1.m.length≤s.length∧(df s).1.t.length≤s.length∧(df s).1.body=[]:=by
 have hm:∀x,x∈bm 32 s→x.length≤s.length:=fun x hx=>dz hx;unfold df;split
 ·rename_i a b c h;rw[h] at hm;have h1:=hm a (by simp);have h2:=hm b (by simp);split;·exact⟨Nat.zero_le _,Nat.zero_le _,rfl⟩
  ·split;·exact⟨h1,h2,rfl⟩
   ·exact⟨Nat.zero_le _,Nat.zero_le _,rfl⟩
 ·exact⟨Nat.zero_le _,Nat.zero_le _,rfl⟩
theorem tX (b:List UInt8):FQ b (fA b).1:=by
 have z:FQ b eL.zero:=⟨Nat.zero_le _,Nat.zero_le _,Nat.zero_le _,Nat.zero_le _,rfl⟩;unfold fA;split;·exact z
 ·rename_i h1;have h1:=ep (Nq.1 h1);split;·exact z
  ·split;·exact z
   ·split;·exact z
    ·have h2:=hY ((bq b).1.drop 1);have h3:=ld (bq b).1 1;have h4:=tR h1.2;have h5:=yE ((bq b).1.headD []);exact⟨by show br (dZ ((bq b).1.drop 1)).1≤_;omega,h2.2,by show(df ((bq b).1.headD [])).1.m.length≤_;omega,by show(df ((bq b).1.headD [])).1.t.length≤_;omega,h5.2.2⟩
structure F9 (b:List UInt8)(a:iZ):Prop where
 fs:br a.fs≤b.length
 n:a.fs.length≤64
 rs:a.rs.length≤b.length
 body:a.body=[]
theorem CX (s:List UInt8):(jI s).1.rs.length≤s.length∧(jI s).1.body=[]:=by
 unfold jI;split;·exact⟨Nat.zero_le _,rfl⟩
 ·split;·exact⟨Nat.zero_le _,rfl⟩
  ·exact⟨by show(s.drop 13).length≤_;rw[Nz];omega,rfl⟩
theorem DI (b:List UInt8):F9 b (gc b).1:=by
 have z:F9 b iZ.zero:=⟨Nat.zero_le _,Nat.zero_le _,Nat.zero_le _,rfl⟩;unfold gc;split;·exact z
 ·rename_i h1;have h1:=ep (Nq.1 h1);split;·exact z
  ·split;·exact z
   ·have h2:=hY ((bq b).1.drop 1);have h3:=ld (bq b).1 1;have h4:=tR h1.2;have h5:=CX ((bq b).1.headD []);exact⟨by show br (dZ ((bq b).1.drop 1)).1≤_;omega,h2.2,by show(jI ((bq b).1.headD [])).1.rs.length≤_;omega,h5.2⟩
structure dx (r:dm)(b:List UInt8)(x:jQ):Prop where
 g:x.r.G
 n:0≤x.n∧x.n≤(b.length:Int)dat:(x.dat.length:Int)≤x.n
 k:x.k=0∨x.k=1∨x.k=2∨x.k=3∨x.k=4
 head:x.e=0→x.k=1→r.ph=0∧x.r.ph=1∧4≤x.n
 data:x.e=0→x.k=2→r.ph=1∧x.r.ph=1∧1≤x.n
 done:x.e=0→x.k=3→r.ph=1
 none:x.e=0→x.k=0→x.r.ph=r.ph
 inter:x.e=0→x.k=4→r.ph=0∧x.r.ph=0∧4≤x.n∧r.rep=true
 rep:x.e=0→x.r.rep=r.rep
 szh:x.e=0→x.k=1→x.r.sz=0
 szd:x.e=0→x.k≠1→x.r.sz=r.sz+(x.dat.length:Int)
theorem dx.bad {r:dm}{b:List UInt8}{e:Int}(h:e≠0):dx r b (.bad e):=⟨dm.zero_g,⟨by show(0:Int)≤0;omega,by show(0:Int)≤_;omega⟩,by show((0:Nat):Int)≤0;omega,.inl rfl,fun h1=>absurd h1 h,fun h1=>absurd h1 h,fun h1=>absurd h1 h,fun h1=>absurd h1 h,fun h1=>absurd h1 h,fun h1=>absurd h1 h,fun h1=>absurd h1 h,fun h1=>absurd h1 h⟩
theorem dx.stay {r:dm}{b:List UInt8}(h:r.G):dx r b ⟨r,0,[],0,0⟩:=⟨h,⟨Int.le_refl _,by show(0:Int)≤_;omega⟩,by show((0:Nat):Int)≤0;omega,.inl rfl,fun _ h1=>by have h1:(0:Int)=1:=h1;omega,fun _ h1=>by have h1:(0:Int)=2:=h1;omega,fun _ h1=>by have h1:(0:Int)=3:=h1;omega,fun _ _=>rfl,fun _ h1=>by have h1:(0:Int)=4:=h1;omega,fun _=>rfl,fun _ h1=>by have h1:(0:Int)=1:=h1;omega,fun _ _=>by show r.sz=r.sz+((0:Nat):Int);omega⟩
theorem FV {r:dm}(hr:r.G){b:List UInt8}(hb:b.length≤100000):(dO r b).1.G∧0≤(dO r b).2.1.len∧(dO r b).2.1.len≤1000000000∧(dO r b).1.rep=r.rep:=by
 have h1:=tX b;have h2:=DI b;have an:({r with an:=(gc b).1}:dm).G:=⟨hr.rq,hr.rqn,hr.rqm,hr.rqt,hr.rqb,by have:=h2.fs;show br (gc b).1.fs≤_;omega,h2.n,by have:=h2.rs;show(gc b).1.rs.length≤_;omega,h2.body,hr.lf,hr.sz,hr.two,hr.ck⟩;have rq:∀f:Bool,({r with rq:={(fA b).1 with fr:=f}}:dm).G:=fun f=>⟨by have:=h1.fs;show br (fA b).1.fs≤_;omega,h1.n,by have:=h1.m;show(fA b).1.m.length≤_;omega,by have:=h1.t;show(fA b).1.t.length≤_;omega,h1.body,hr.an,hr.ann,hr.anr,hr.anb,hr.lf,hr.sz,hr.two,hr.ck⟩;unfold dO;split
 ·simp only;split;·have:=Am r.meth (gc b).1;exact⟨an,this.1,this.2,rfl⟩
  ·exact⟨an,by show(0:Int)≤0;omega,by show(0:Int)≤_;omega,rfl⟩
 ·simp only;split;·have:=sf (fA b).1.mi (fA b).1.fs 1;exact⟨rq _,this.1,this.2,rfl⟩
  ·exact⟨rq _,by show(0:Int)≤0;omega,by show(0:Int)≤_;omega,rfl⟩
theorem zH (r:dm)(b:List UInt8)(most body:Int)(hr:r.G)(h0:r.ph=0)(hb:b.length≤100000)(hbo:0≤body∧body≤1000000):dx r b (kQ r b most body):=by
 unfold kQ;split;·exact dx.stay hr
 ·split;·rename_i h;exact dx.bad h
  ·rename_i h4 h5;obtain⟨n,hn,hn4,hnl⟩:=md b most (Nq.1 h5);split;·rename_i hi;rw[hn];exact⟨hr,⟨by show(0:Int)≤(n:Int);omega,by show(n:Int)≤_;omega⟩,by show((0:Nat):Int)≤(n:Int);omega,.inr (.inr (.inr (.inr rfl))),fun _ h1=>by have h1:(4:Int)=1:=h1;omega,fun _ h1=>by have h1:(4:Int)=2:=h1;omega,fun _ h1=>by have h1:(4:Int)=3:=h1;omega,fun _ h1=>by have h1:(4:Int)=0:=h1;omega,fun _ _=>⟨h0,h0,by show(4:Int)≤(n:Int);omega,hi.1⟩,fun _=>rfl,fun _ h1=>by have h1:(4:Int)=1:=h1;omega,fun _ _=>by show r.sz=r.sz+((0:Nat):Int);omega⟩
   ·rw[hn,Int.toNat_natCast];have htl:(b.take n).length≤100000:=by rw[Nj];omega
    obtain⟨hg,hl1,hl2,hrp⟩:=FV hr htl;generalize dO r (b.take n)=fx at*;obtain⟨X,F,E⟩:=fx;simp only at*;unfold qT;split;·rename_i he;exact dx.bad he
    ·rename_i he;have he:iF F body E=0:=Nq.1 he;have h2:F.kd=2→F.len≤body:=by
      intro hk;unfold iF at he;split at he;·cases he
      ·rename_i hn;by_cases hgt:body<F.len;·exact absurd ⟨he,hk,hgt⟩ hn
       ·omega
     refine⟨⟨hg.rq,hg.rqn,hg.rqm,hg.rqt,hg.rqb,hg.an,hg.ann,hg.anr,hg.anb,⟨hl1,hl2⟩,⟨Int.le_refl _,by show(0:Int)≤_;omega⟩,fun hk=>by have:=h2 hk;show 0+F.len≤_;omega,pG⟩,⟨by show(0:Int)≤(n:Int);omega,by show(n:Int)≤_;omega⟩,by show((0:Nat):Int)≤(n:Int);omega,.inr (.inl rfl),fun _ _=>⟨h0,rfl,by show(4:Int)≤(n:Int);omega⟩,fun _ h1=>by have h1:(1:Int)=2:=h1;omega,fun _ h1=>by have h1:(1:Int)=3:=h1;omega,fun _ h1=>by have h1:(1:Int)=0:=h1;omega,fun _ h1=>by have h1:(1:Int)=4:=h1;omega,fun _=>hrp,fun _ _=>rfl,fun _ h1=>absurd rfl h1⟩
theorem Cd (r:dm)(b:List UInt8)(body room:Int)(hr:r.G)(h0:r.ph=1)(hb:b.length≤100000)(hbo:0≤body∧body≤1000000)(hro:0≤room):dx r b (ov r b body room):=by
 have hlf:=hr.lf;have hsz:=hr.sz;unfold ov;split
 ·split;·exact⟨⟨hr.rq,hr.rqn,hr.rqm,hr.rqt,hr.rqb,hr.an,hr.ann,hr.anr,hr.anb,hr.lf,hr.sz,hr.two,hr.ck⟩,⟨Int.le_refl _,by show(0:Int)≤_;omega⟩,by show((0:Nat):Int)≤0;omega,.inr (.inr (.inr (.inl rfl))),fun _ h1=>by have h1:(3:Int)=1:=h1;omega,fun _ h1=>by have h1:(3:Int)=2:=h1;omega,fun _ _=>h0,fun _ h1=>by have h1:(3:Int)=0:=h1;omega,fun _ h1=>by have h1:(3:Int)=4:=h1;omega,fun _=>rfl,fun _ h1=>by have h1:(3:Int)=1:=h1;omega,fun _ _=>by show r.sz=r.sz+((0:Nat):Int);omega⟩
  ·rename_i h1 h2;have hk2:r.fm.kd=2:=by omega
   have h3:=hr.two hk2;split;·exact dx.stay hr
   ·rename_i h4;have k0:0≤gR r b room:=by unfold gR;omega
    have kb:gR r b room≤(b.length:Int):=by unfold gR;omega
    have kl:gR r b room≤r.lf:=by unfold gR;omega
    generalize gR r b room=k at*;refine⟨⟨hr.rq,hr.rqn,hr.rqm,hr.rqt,hr.rqb,hr.an,hr.ann,hr.anr,hr.anb,⟨by show 0≤r.lf-k;omega,by show r.lf-k≤_;omega⟩,⟨by show 0≤r.sz+k;omega,by show r.sz+k≤_;omega⟩,fun _=>by show r.sz+k+(r.lf-k)≤_;omega,hr.ck⟩,⟨k0,kb⟩,by show((b.take k.toNat).length:Int)≤k;rw[Nj];omega,.inr (.inr (.inl rfl)),fun _ h1=>by have h1:(2:Int)=1:=h1;omega,fun _ _=>⟨h0,h0,by show 1≤k;omega⟩,fun _ h1=>by have h1:(2:Int)=3:=h1;omega,fun _ h1=>by have h1:(2:Int)=0:=h1;omega,fun _ h1=>by have h1:(2:Int)=4:=h1;omega,fun _=>rfl,fun _ h1=>by have h1:(2:Int)=1:=h1;omega,fun _ _=>by show r.sz+k=r.sz+((b.take k.toNat).length:Int);rw[Nj];omega⟩
 ·split
  ·rename_i h1 h2;have hp:=pj (min room (body+1-r.sz)) b r.ck [] 0 hr.ck;generalize fu (min room (body+1-r.sz)) r.ck [] b 0=f at*;unfold nF;split;·rename_i he;exact dx.bad he
   ·rename_i he;have he:jp r f body=0:=Nq.1 he;have hfe:f.e=0∧r.sz+(f.out.length:Int)≤body:=by
     unfold jp at he;split at he;·cases he
     ·rename_i hn;refine⟨he,?_⟩;by_cases hgt:body<r.sz+(f.out.length:Int);·exact absurd ⟨he,hgt⟩ hn
      ·omega
    have hn:=hp.n;have hgr:=hp.grow hfe.1;simp only[Nf,Nat.zero_add,Nat.add_zero] at hn hgr;have g:∀ph:Int,({r with ck:=f.c,sz:=r.sz+(f.out.length:Int),ph:=ph}:dm).G:=fun ph=>⟨hr.rq,hr.rqn,hr.rqm,hr.rqt,hr.rqb,hr.an,hr.ann,hr.anr,hr.anb,hr.lf,⟨by show 0≤r.sz+(f.out.length:Int);omega,by show r.sz+(f.out.length:Int)≤_;omega⟩,fun hk=>absurd hk (by show¬r.fm.kd=2;omega),hp.ok⟩;split;·rename_i h5;exact⟨g r.ph,⟨by show(0:Int)≤(f.n:Int);omega,by show(f.n:Int)≤_;omega⟩,by show(f.out.length:Int)≤(f.n:Int);omega,.inr (.inr (.inl rfl)),fun _ h1=>by have h1:(2:Int)=1:=h1;omega,fun _ _=>⟨h0,h0,by show(1:Int)≤(f.n:Int);omega⟩,fun _ h1=>by have h1:(2:Int)=3:=h1;omega,fun _ h1=>by have h1:(2:Int)=0:=h1;omega,fun _ h1=>by have h1:(2:Int)=4:=h1;omega,fun _=>rfl,fun _ h1=>by have h1:(2:Int)=1:=h1;omega,fun _ _=>rfl⟩
    ·split;·exact⟨g 2,⟨by show(0:Int)≤(f.n:Int);omega,by show(f.n:Int)≤_;omega⟩,by show((0:Nat):Int)≤(f.n:Int);omega,.inr (.inr (.inr (.inl rfl))),fun _ h1=>by have h1:(3:Int)=1:=h1;omega,fun _ h1=>by have h1:(3:Int)=2:=h1;omega,fun _ _=>h0,fun _ h1=>by have h1:(3:Int)=0:=h1;omega,fun _ h1=>by have h1:(3:Int)=4:=h1;omega,fun _=>rfl,fun _ h1=>by have h1:(3:Int)=1:=h1;omega,fun _ _=>by show r.sz+(f.out.length:Int)=r.sz+((0:Nat):Int);omega⟩
     ·exact⟨g r.ph,⟨by show(0:Int)≤(f.n:Int);omega,by show(f.n:Int)≤_;omega⟩,by show((0:Nat):Int)≤(f.n:Int);omega,.inl rfl,fun _ h1=>by have h1:(0:Int)=1:=h1;omega,fun _ h1=>by have h1:(0:Int)=2:=h1;omega,fun _ h1=>by have h1:(0:Int)=3:=h1;omega,fun _ _=>rfl,fun _ h1=>by have h1:(0:Int)=4:=h1;omega,fun _=>rfl,fun _ h1=>by have h1:(0:Int)=1:=h1;omega,fun _ _=>by show r.sz+(f.out.length:Int)=r.sz+((0:Nat):Int);omega⟩
  ·rename_i h1 h2;split;·exact dx.stay hr
   ·rename_i h3;have kb:fU r b body room≤(b.length:Int):=by unfold fU;omega
    split;·exact dx.bad (by decide)
    ·rename_i h4;generalize fU r b body room=k at*;refine⟨⟨hr.rq,hr.rqn,hr.rqm,hr.rqt,hr.rqb,hr.an,hr.ann,hr.anr,hr.anb,hr.lf,⟨by show 0≤r.sz+k;omega,by show r.sz+k≤_;omega⟩,fun hk=>absurd hk (by show¬r.fm.kd=2;omega),hr.ck⟩,⟨by show 0≤k;omega,kb⟩,by show((b.take k.toNat).length:Int)≤k;rw[Nj];omega,.inr (.inr (.inl rfl)),fun _ h1=>by have h1:(2:Int)=1:=h1;omega,fun _ _=>⟨h0,h0,by show 1≤k;omega⟩,fun _ h1=>by have h1:(2:Int)=3:=h1;omega,fun _ h1=>by have h1:(2:Int)=0:=h1;omega,fun _ h1=>by have h1:(2:Int)=4:=h1;omega,fun _=>rfl,fun _ h1=>by have h1:(2:Int)=1:=h1;omega,fun _ _=>by show r.sz+k=r.sz+((b.take k.toNat).length:Int);rw[Nj];omega⟩
theorem gM (r:dm)(b:List UInt8)(most body room:Int)(hr:r.G)(hb:b.length≤100000)(hbo:0≤body∧body≤1000000):dx r b (dH r b most body room):=by
 unfold dH;split;·rename_i h;exact zH r b most body hr h hb hbo
 ·split;·rename_i h;exact Cd r b body _ hr h hb hbo (by omega)
  ·exact dx.stay hr
structure cH.Q (p:cH):Prop where
 inn:p.inn.ok=true
 icap:p.inn.cap≤100000
 out:p.out.ok=true
 bud:0≤p.bud∧p.bud≤1000000
theorem cH.Q.il {p:cH}(h:p.Q):p.inn.dat.length≤100000:=by have h1:=p.inn.ok_iff.1 h.inn;have h2:=h.icap;omega
theorem cH.Q.ol {p:cH}(h:p.Q):p.out.dat.length≤1000000:=by have h1:=p.out.ok_iff.1 h.out;omega
theorem cH.zero_q:cH.zero.Q:=⟨by decide,by decide,by decide,by decide⟩
structure Sn.Gd (s:Sn):Prop where
 len:s.fs.length≤64
 nms:aX (s.fs.map (·.1))≤100000
structure cX.Gd (j:cX):Prop where
 po:j.po.Q
 rd:j.rd.G
 dg:j.dg.t.length≤64
 sh:j.sh.Gd
 pr:j.pr.Gd
def Sn.zero:Sn:=⟨0,[],0,[]⟩
def vW.zero:vW:=⟨⟨0,0,0,0,0,0,0,0⟩,0,[]⟩
def cX.zero:cX:=⟨0,0,0,false,.zero,.zero,.zero,false,false,.zero,.zero⟩
def bz.at (s:bz)(k:Nat):cX:=s.jobs.getD k cX.zero
structure bz.J (s:bz):Prop where
 sm:s.Sm
 jobs:∀j,j∈s.jobs→j.Gd
theorem iU {s:bz}{id:Int}{k:Nat}(h:jt s.jobs id=some k):s.jobs[k]?=some (s.at k)∧k<s.jobs.length∧(s.at k).conn=id∧id≠0:=by
 unfold jt at h;split at h;·cases h
 ·rename_i h0;obtain⟨hlt,h1,_⟩:=List.findIdx?_eq_some_iff_getElem.1 h;unfold bz.at;refine⟨by simp[hlt],hlt,?_,h0⟩;simpa[hlt] using h1
def cnF (s:bz)(id:Int):bz:=match jt s.jobs id with|none=>s|some k=>s.set k {s.at k with opn:=true}
theorem zs (s:bz)(id:Int)(h:s.Sm):ay (CG G) 86 [bJ s,.i .i64 id] [bJ (cnF s id),bS []]:=by have hjl:=h.jobs;have c1:=CR s id (by omega);unfold cnF bS;cases hj:jt s.jobs id with
 |none=>
 rw[hj,da] at c1;unfold bJ aZ at*;refine ay.mk (n:=24) Tryz.func86 rfl rfl rfl (Nat.le_of_ble_eq_true rfl) (ah c1 (ad (aj (by decide) ?_)));repeat'(first|refine ad ?_|refine dk ?_|refine ae (fun _=>?_) (fun _=>?_)|refine aq ?_)
 rfl;|some k=>
 rw[hj,bj] at c1;obtain⟨g1,g2,g3,g4⟩:=iU hj;have hg:(s.jobs.map bI)[k]?=some (bI (s.at k)):=by simp[g1]
 have c2:=zK s k {s.at k with opn:=true} g2 (by omega);have hml:(s.jobs.map bI).length=s.jobs.length:=by simp
 simp only;generalize s.set k {s.at k with opn:=true}=t at*;generalize s.at k=j at*;unfold bJ aZ at*;refine ay.mk (n:=24) Tryz.func86 rfl rfl rfl (Nat.le_of_ble_eq_true rfl) (ah c1 (ad (ai (by omega) (ao k rfl hg ?_))));repeat'(first|refine ad ?_|refine dk ?_|refine ah (c2) ?_|refine ae (fun _=>?_) (fun _=>?_)|refine aq ?_)
 rfl
def E0 (s:bz)(id:Int):bz×List bC:=match jt s.jobs id with|none=>(s,[])|some k=>if(s.at k).opn then(s,[]) else(s.endJ k (s.at k) 4,dS (s.at k) true)
theorem Hk (s:bz)(id:Int)(h:s.Sm):ay (CG G) 87 [bJ s,.i .i64 id] [bJ (E0 s id).1,bS (E0 s id).2]:=by have hjl:=h.jobs;have c1:=CR s id (by omega);unfold E0 bS;cases hj:jt s.jobs id with
 |none=>
 rw[hj,da] at c1;unfold bJ aZ at*;refine ay.mk (n:=26) Tryz.func87 rfl rfl rfl (Nat.le_of_ble_eq_true rfl) (ah c1 (ad (aj (by decide) ?_)));repeat'(first|refine ad ?_|refine dk ?_|refine ae (fun _=>?_) (fun _=>?_)|refine aq ?_)
 rfl;|some k=>
 rw[hj,bj] at c1;obtain⟨g1,g2,g3,g4⟩:=iU hj;have hg:(s.jobs.map bI)[k]?=some (bI (s.at k)):=by simp[g1]
 have c2:=s7 s k 4 true h (s.at k) g1;have hml:(s.jobs.map bI).length=s.jobs.length:=by simp
 simp only;unfold bS at c2;generalize s.endJ k (s.at k) 4=t at*;generalize s.at k=j at*;obtain⟨exc,conn,born,opn,po,rd,dg,jhs,jhp,sh,pr⟩:=j;simp only at*;unfold bJ aZ at*;cases opn;all_goals
 refine ay.mk (n:=26) Tryz.func87 rfl rfl rfl (Nat.le_of_ble_eq_true rfl) (ah c1 ?_);repeat refine ad ?_
 refine ai (by omega) (ao k rfl hg ?_);repeat'(first|refine ad ?_|refine dk ?_|refine ah (c2) ?_|refine ae (fun _=>?_) (fun _=>?_)|refine aq ?_)
 rfl
def ES (s:bz)(id:Int):bz×List bC:=match jt s.jobs id with|none=>(s,[])|some k=>(s.endJ k (s.at k) 4,dS (s.at k) true)
theorem goneR (s:bz)(id:Int)(h:s.Sm):ay (CG G) 91 [bJ s,.i .i64 id] [bJ (ES s id).1,bS (ES s id).2]:=by have hjl:=h.jobs;have c1:=CR s id (by omega);unfold ES bS;cases hj:jt s.jobs id with
 |none=>
 rw[hj,da] at c1;unfold bJ aZ at*;refine ay.mk (n:=18) Tryz.func91 rfl rfl rfl (Nat.le_of_ble_eq_true rfl) (ah c1 (ad (aj (by decide) ?_)));repeat'(first|refine ad ?_|refine dk ?_|refine ae (fun _=>?_) (fun _=>?_)|refine aq ?_)
 rfl;|some k=>
 rw[hj,bj] at c1;obtain⟨g1,g2,g3,g4⟩:=iU hj;have c2:=s7 s k 4 true h (s.at k) g1;simp only;unfold bS at c2;generalize s.endJ k (s.at k) 4=t at*;generalize s.at k=j at*;unfold bJ aZ at*;refine ay.mk (n:=18) Tryz.func91 rfl rfl rfl (Nat.le_of_ble_eq_true rfl) (ah c1 (ad (ai (by omega) ?_)));repeat'(first|refine ad ?_|refine dk ?_|refine ah (c2) ?_|refine ae (fun _=>?_) (fun _=>?_)|refine aq ?_)
 rfl
def CZ (s:bz)(id n:Int):bz×List bC:=match jt s.jobs id with|none=>(s,[])|some k=>if(s.at k).opn then(s.set k {s.at k with po:=(s.at k).po.grant n},if(s.at k).po.gsent n=[] then[] else[⟨3,id,0,0,(s.at k).po.gsent n⟩]) else(s,[])
theorem Ix (s:bz)(id n:Int)(h:s.J):ay (CG G) 90 [bJ s,.i .i64 id,.i .i64 n] [bJ (CZ s id n).1,bS (CZ s id n).2]:=by have hjl:=h.sm.jobs;have c1:=CR s id (by omega);unfold CZ bS;cases hj:jt s.jobs id with
 |none=>
 rw[hj,da] at c1;unfold bJ aZ at*;refine ay.mk (n:=52) Tryz.func90 rfl rfl rfl (Nat.le_of_ble_eq_true rfl) (ah c1 (ad (aj (by decide) ?_)));repeat'(first|refine ad ?_|refine dk ?_|refine ae (fun _=>?_) (fun _=>?_)|refine aq ?_)
 rfl;|some k=>
 rw[hj,bj] at c1;obtain⟨g1,g2,g3,g4⟩:=iU hj;have hg:(s.jobs.map bI)[k]?=some (bI (s.at k)):=by simp[g1]
 have hG:=h.jobs (s.at k) (Ni g1);have c2:=zC (s.at k).po n (by have:=hG.po.ol;omega);have c3:=zK s k {s.at k with po:=(s.at k).po.grant n} g2 (by omega);have hml:(s.jobs.map bI).length=s.jobs.length:=by simp
 have hsl:=aK ((s.at k).po.gsent n);simp only;generalize s.set k {s.at k with po:=(s.at k).po.grant n}=t at*;generalize (s.at k).po.gsent n=snt at*;generalize (s.at k).po.grant n=po at*;generalize s.at k=j at*;obtain⟨exc,conn,born,opn,jpo,rd,dg,jhs,jhp,sh,pr⟩:=j;simp only at*;unfold bJ aZ ee bN at*;cases opn
 ·refine ay.mk (n:=52) Tryz.func90 rfl rfl rfl (Nat.le_of_ble_eq_true rfl) (ah c1 (ad (ai (by omega) (ao k rfl hg ?_))));repeat'(first|refine ad ?_|refine dk ?_|refine ae (fun _=>?_) (fun _=>?_)|refine aq ?_)
  rfl
 ·refine ay.mk (n:=52) Tryz.func90 rfl rfl rfl (Nat.le_of_ble_eq_true rfl) (ah c1 (ad (ai (by omega) (ao k rfl hg (ao k rfl hg (ah c2 (ah c3 (ad ?_))))))));refine ae (fun g=>?_) (fun g=>?_)
  ·rw[if_pos rfl,if_pos (List.eq_nil_of_length_eq_zero (by omega))];repeat'(first|refine ad ?_|refine dk ?_|refine ae (fun _=>?_) (fun _=>?_)|refine aq ?_)
   rfl
  ·rw[if_pos rfl,if_neg (by rintro rfl;exact g rfl)];repeat'(first|refine ad ?_|refine dk ?_|refine ae (fun _=>?_) (fun _=>?_)|refine aq ?_)
   rfl
def uV (a:iZ)(ign:List (List UInt8))(size:Int)(sum:List UInt8):Sn:=⟨a.st,kF a.fs ign,size,sum⟩
def cX.got (j:cX)(ign:List (List UInt8)):cX:={j with hs:=true,sh:=uV j.rd.an ign j.rd.sz j.dg.sum}
def cX.cut (j:cX):cX:=if j.conn=0 then j else j.off
theorem JX {s:bz}{k:Nat}{j:cX}(hk:s.jobs[k]?=some j):(s.hang k j).jobs[k]?=some j.cut:=by
 have hlt:k<s.jobs.length:=(Nc.1 hk).1;unfold bz.hang cX.cut;split;·exact hk
 ·simp[hlt]
noncomputable def yU (s:bz)(k:Nat)(j:cX)(ign:List (List UInt8)):bz×List bC:=(((s.set k (j.got ign)).hang k (j.got ign)).cmp k (j.got ign).cut,dS (j.got ign) false)
theorem G5 {s:bz}(h:s.Sm)(k:Nat)(j:cX):(s.set k j).Sm:=⟨h.pool,by show(s.jobs.set k j).length≤_;rw[List.length_set];exact h.jobs,h.rep⟩
theorem Gv {c:bk}(h:c.Ok){l:List bB}(h1:l.length≤64)(h2:br l≤100000):FOk l c.ignore:=by have hi:=h.ignoreLen;exact FOk.small (by omega) (by omega) (by omega) (fun n hn=>by have:=(h.ignore n hn).2;omega)
theorem zk (p:List bB):(qd p).length≤p.length:=by unfold qd;rw[Nl];have:=iO (p.map (·.1));rw[Nl] at this;exact this
theorem tc (l:List bB)(ign:List Nm):(kF l ign).length≤l.length:=by unfold kF;refine Nat.le_trans (zk _) ?_;unfold sq fJ;rw[Nl];exact Nat.le_trans (NC _ _) (NC _ _)
theorem Is (l:List Nm)(s:Nm):aX (ml l s)≤aX l+s.length+1:=by induction l with|nil=>simp[ml,aX];|cons x r ih=>
 unfold ml;split;·rw[ca,ca];omega
 ·split;·omega
  ·rw[ca];omega
theorem tD (p:List Nm):∀a:List Nm,aX (p.foldl ml a)≤aX a+aX p:=by induction p with|nil=>intro a;simp[aX];|cons x r ih=>intro a;have h1:=ih (ml a x);have h2:=Is a x;rw[List.foldl_cons,ca];omega
theorem Hd (l:List bB):aX (l.map (·.1))≤br l:=by induction l with|nil=>exact Nat.le_refl _;|cons f r ih=>rw[Nw,ca,dj];omega
theorem uz (l:List bB)(ign:List Nm):aX ((kF l ign).map (·.1))≤br l:=by
 unfold kF qd;rw[List.map_map];have e:(List.map ((fun x:bB=>x.1)∘LZ (sq (fJ l ign))) (NI ((sq (fJ l ign)).map (·.1))))=NI ((sq (fJ l ign)).map (·.1)):=by
  conv=>rhs;rw[←List.map_id (NI ((sq (fJ l ign)).map (·.1)))]
  rfl
 rw[e];have h1:=tD ((sq (fJ l ign)).map (·.1)) [];have h2:=Hd (sq (fJ l ign));rw[BM] at h2;have h3:br (fJ l ign)≤br l:=Nat.le_trans (dL _ _) (dL _ _);have h0:aX []=0:=rfl;unfold NI;omega
theorem wj {a:iZ}(h1:a.fs.length≤64)(h2:br a.fs≤100000)(ign:List Nm)(size:Int)(sum:List UInt8):(uV a ign size sum).Gd:=⟨Nat.le_trans (tc _ _) h1,Nat.le_trans (uz _ _) h2⟩
theorem GZ (s:bz)(c:bk)(k:Nat)(j:cX)(h:s.Sm)(hc:c.Ok)(hj:j.Gd)(hk:s.jobs[k]?=some j):ay (CG G) 119 [bJ s,di c,.i .i64 (k:Int)] [bJ (yU s k j c.ignore).1,bS (yU s k j c.ignore).2]:=by
 have hlt:k<s.jobs.length:=(Nc.1 hk).1;have hjl:=h.jobs;have hml:(s.jobs.map bI).length=s.jobs.length:=by simp
 have hg:(s.jobs.map bI)[k]?=some (bI j):=by simp[hk]
 have c1:=Kb j.rd.an.fs c.ignore (Gv hc hj.rd.ann hj.rd.an);have c2:=KR j.dg (by have:=hj.dg;omega);have c3:=zK s k (j.got c.ignore) hlt (by omega);have hk2:(s.set k (j.got c.ignore)).jobs[k]?=some (j.got c.ignore):=by show(s.jobs.set k (j.got c.ignore))[k]?=_;simp[hlt]
 have c4:=KC (s.set k (j.got c.ignore)) k false (G5 h k _) (j.got c.ignore) hk2;have hk3:=JX hk2;have sg:=wj hj.rd.ann hj.rd.an c.ignore j.rd.sz j.dg.sum;have c5:=cmpR ((s.set k (j.got c.ignore)).hang k (j.got c.ignore)) k (bz.hang_sm (G5 h k _) k _) (j.got c.ignore).cut hk3 (by have:=hj.pr.len;unfold cX.cut;split<;>(show j.pr.fs.length≤_;omega)) (by have:=sg.len;unfold cX.cut;split<;>(show(uV j.rd.an c.ignore j.rd.sz j.dg.sum).fs.length≤_;omega));unfold yU bS at*;simp only;generalize ((s.set k (j.got c.ignore)).hang k (j.got c.ignore)).cmp k (j.got c.ignore).cut=t at*;generalize (s.set k (j.got c.ignore)).hang k (j.got c.ignore)=u at*;generalize s.set k (j.got c.ignore)=v at*;generalize dS (j.got c.ignore) false=al at*;unfold cX.got uV at c3;generalize kF j.rd.an.fs c.ignore=nf at*;generalize j.dg.sum=sm at*;unfold bJ aZ di bi bP at*;refine ay.mk (n:=48) Tryz.func119 rfl rfl rfl (Nat.le_of_ble_eq_true rfl) (ao k rfl hg ?_);repeat'(first|refine ad ?_|refine dk ?_|refine ah (c1) ?_|refine ah (c2) ?_|refine ah (c3) ?_|refine ah (c4) ?_|refine ah (c5) ?_|refine ae (fun _=>?_) (fun _=>?_)|refine aq ?_)
 rfl
noncomputable def EK (s:bz)(c:bk)(id:Int):bz×List bC:=match jt s.jobs id with|none=>(s,[])|some k=>if(s.at k).opn=false then(s,[]) else if ze (s.at k).rd then yU s k (s.at k) c.ignore else(s.endJ k (s.at k) 5,dS (s.at k) false)
theorem endSR (s:bz)(c:bk)(id:Int)(h:s.J)(hc:c.Ok):ay (CG G) 89 [bJ s,di c,.i .i64 id] [bJ (EK s c id).1,bS (EK s c id).2]:=by have hjl:=h.sm.jobs;have c1:=CR s id (by omega);unfold EK;cases hj:jt s.jobs id with
 |none=>
 rw[hj,da] at c1;unfold bS;unfold bJ aZ di bi at*;refine ay.mk (n:=42) Tryz.func89 rfl rfl rfl (Nat.le_of_ble_eq_true rfl) (ah c1 (ad (aj (by decide) ?_)));repeat'(first|refine ad ?_|refine dk ?_|refine ae (fun _=>?_) (fun _=>?_)|refine aq ?_)
 rfl;|some k=>
 rw[hj,bj] at c1;obtain⟨g1,g2,g3,g4⟩:=iU hj;have hg:(s.jobs.map bI)[k]?=some (bI (s.at k)):=by simp[g1]
 have hG:=h.jobs (s.at k) (Ni g1);have c2:=BX (s.at k).rd;have c3:=GZ s c k (s.at k) h.sm hc hG g1;have c4:=s7 s k 5 false h.sm (s.at k) g1;have hml:(s.jobs.map bI).length=s.jobs.length:=by simp
 simp only;unfold bS at*;generalize s.endJ k (s.at k) 5=t at*;generalize dS (s.at k) false=al at*;generalize yU s k (s.at k) c.ignore=kn at*;obtain⟨kn1,kn2⟩:=kn;generalize hfv:ze (s.at k).rd=fv at*;generalize s.at k=j at*;obtain⟨exc,conn,born,opn,jpo,rd,dg,jhs,jhp,sh,pr⟩:=j;simp only at*;unfold bJ aZ di bi gr bZ at*;cases opn
 ·refine ay.mk (n:=42) Tryz.func89 rfl rfl rfl (Nat.le_of_ble_eq_true rfl) (ah c1 (ad (ai (by omega) (ao k rfl hg ?_))));repeat'(first|refine ad ?_|refine dk ?_|refine ae (fun _=>?_) (fun _=>?_)|refine aq ?_)
  rfl
 ·cases fv;all_goals
   refine ay.mk (n:=42) Tryz.func89 rfl rfl rfl (Nat.le_of_ble_eq_true rfl) (ah c1 ?_);repeat refine ad ?_
   refine ai (by omega) (ao k rfl hg ?_);repeat refine ad ?_
   refine ao k rfl hg (ah c2 ?_);repeat'(first|refine ad ?_|refine dk ?_|refine ah (c3) ?_|refine ah (c4) ?_|refine ae (fun _=>?_) (fun _=>?_)|refine aq ?_)
   rfl
structure dl where
 st:Int
 ser:Int
 born:Int
 up:Int
 rc:Int
 rid:List UInt8
 rnew:Bool
 rq:eL
 cl:Bool
 hd:Bool
 sto:Bool
 an:iZ
 store:List UInt8
 size:Int
 dg:vW
structure Cl where
 po:cH
 rd:dm
 last:Int
 ex:dl
structure Up where
 po:cH
 opn:Bool
 cli:Int
 rd:dm
structure aU where
 cfg:bk
 now:Int
 draw:Int
 ser:Int
 ro:Ro
 cls:List Cl
 ups:List Up
 sta:Po
 can:Po
 sh:bz
structure Wd where
 p:aU
 out:List bC
def dD (c:Cl):List D:=[.i .i64 c.po.id,.i .i64 c.po.cls,.i .i64 c.po.inn.cap,.sl 1 (aD c.po.inn.dat),.i .i64 c.po.out.cap,.sl 1 (aD c.po.out.dat),.i .i64 c.po.bud,.b c.po.ended,.b c.po.closing,.b c.rd.rep,.s c.rd.meth,.i .i64 c.rd.ph,.s c.rd.rq.m,.s c.rd.rq.t,.i .i64 c.rd.rq.mi,.sl 2 (c.rd.rq.fs.map aL),.b c.rd.rq.fr,.sl 1 (aD c.rd.rq.body),.i .i64 c.rd.an.st,.s c.rd.an.rs,.i .i64 c.rd.an.mi,.sl 2 (c.rd.an.fs.map aL),.sl 1 (aD c.rd.an.body),.i .i64 c.rd.fm.kd,.i .i64 c.rd.fm.len,.i .i64 c.rd.lf,.i .i64 c.rd.sz,.i .i64 c.rd.ck.ph,.i .i64 c.rd.ck.lf,.i .i64 c.rd.ck.tr,.sl 1 (aD c.rd.ck.ln),.i .i64 c.last,.i .i64 c.ex.st,.i .i64 c.ex.ser,.i .i64 c.ex.born,.i .i64 c.ex.up,.i .i64 c.ex.rc,.s c.ex.rid,.b c.ex.rnew,.s c.ex.rq.m,.s c.ex.rq.t,.i .i64 c.ex.rq.mi,.sl 2 (c.ex.rq.fs.map aL),.b c.ex.rq.fr,.sl 1 (aD c.ex.rq.body),.b c.ex.cl,.b c.ex.hd,.b c.ex.sto,.i .i64 c.ex.an.st,.s c.ex.an.rs,.i .i64 c.ex.an.mi,.sl 2 (c.ex.an.fs.map aL),.sl 1 (aD c.ex.an.body),.sl 1 (aD c.ex.store),.i .i64 c.ex.size,.i .u32 c.ex.dg.s.x0,.i .u32 c.ex.dg.s.x1,.i .u32 c.ex.dg.s.x2,.i .u32 c.ex.dg.s.x3,.i .u32 c.ex.dg.s.x4,.i .u32 c.ex.dg.s.x5,.i .u32 c.ex.dg.s.x6,.i .u32 c.ex.dg.s.x7,.i .i64 c.ex.dg.n,.sl 1 (aD c.ex.dg.t)]
def dU (c:Cl):D:=.agg (dD c)
def jx (u:Up):List D:=[.i .i64 u.po.id,.i .i64 u.po.cls,.i .i64 u.po.inn.cap,.sl 1 (aD u.po.inn.dat),.i .i64 u.po.out.cap,.sl 1 (aD u.po.out.dat),.i .i64 u.po.bud,.b u.po.ended,.b u.po.closing,.b u.opn,.i .i64 u.cli,.b u.rd.rep,.s u.rd.meth,.i .i64 u.rd.ph,.s u.rd.rq.m,.s u.rd.rq.t,.i .i64 u.rd.rq.mi,.sl 2 (u.rd.rq.fs.map aL),.b u.rd.rq.fr,.sl 1 (aD u.rd.rq.body),.i .i64 u.rd.an.st,.s u.rd.an.rs,.i .i64 u.rd.an.mi,.sl 2 (u.rd.an.fs.map aL),.sl 1 (aD u.rd.an.body),.i .i64 u.rd.fm.kd,.i .i64 u.rd.fm.len,.i .i64 u.rd.lf,.i .i64 u.rd.sz,.i .i64 u.rd.ck.ph,.i .i64 u.rd.ck.lf,.i .i64 u.rd.ck.tr,.sl 1 (aD u.rd.ck.ln)]
def fo (u:Up):D:=.agg (jx u)
def bf (p:aU):List D:=[.i .i64 p.cfg.maxHead,.i .i64 p.cfg.maxBody,.i .i64 p.cfg.maxReply,.i .i64 p.cfg.cin,.i .i64 p.cfg.cout,.i .i64 p.cfg.clients,.i .i64 p.cfg.admins,.i .i64 p.cfg.listeners,.i .i64 p.cfg.stable,.i .i64 p.cfg.canary,.i .i64 p.cfg.shadow,.i .i64 p.cfg.tee,.i .i64 p.cfg.idle,.i .i64 p.cfg.reqd,.i .i64 p.cfg.shadd,.i .i64 p.cfg.reports,.sl 1 (p.cfg.plan.ws.map (.i .i64)),.i .i64 p.cfg.plan.ms,.i .i64 p.cfg.plan.nu,.i .i64 p.cfg.plan.de,.i .i64 p.cfg.plan.ho,.i .i64 p.cfg.plan.wi,.s p.cfg.salt,.s p.cfg.cookie,.b p.cfg.mirror,.sl 1 (p.cfg.ignore.map .s),.i .i64 p.now,.i .i64 p.draw,.i .i64 p.ser,.i .i64 p.ro.st,.i .i64 p.ro.sg,.i .i64 p.ro.he,.i .i64 p.ro.tt,.i .i64 p.ro.er,.i .i64 p.ro.ag,.sl 65 (p.cls.map dU),.sl 33 (p.ups.map fo),.i .i64 p.sta.ba,.i .i64 p.sta.qu,.i .i64 p.sta.se,.sl 1 (p.sta.id.map (.i .i64)),.sl 1 (p.sta.bu.map (.i .i64)),.i .i64 p.can.ba,.i .i64 p.can.qu,.i .i64 p.can.se,.sl 1 (p.can.id.map (.i .i64)),.sl 1 (p.can.bu.map (.i .i64)),.i .i64 p.sh.pool.ba,.i .i64 p.sh.pool.qu,.i .i64 p.sh.pool.se,.sl 1 (p.sh.pool.id.map (.i .i64)),.sl 1 (p.sh.pool.bu.map (.i .i64)),.sl 55 (p.sh.jobs.map bI),.i .i64 p.sh.rep.cap,.i .i64 p.sh.rep.ser,.sl 6 (p.sh.rep.l.map NH)]
def dw (p:aU):D:=.agg (bf p)
abbrev fG (w:Wd)(a b c:Nat):aS:=.box [dI w.p.cfg.maxHead,dI w.p.cfg.maxBody,dI w.p.cfg.maxReply,dI w.p.cfg.cin,dI w.p.cfg.cout,dI w.p.cfg.clients,dI w.p.cfg.admins,dI w.p.cfg.listeners,dI w.p.cfg.stable,dI w.p.cfg.canary,dI w.p.cfg.shadow,dI w.p.cfg.tee,dI w.p.cfg.idle,dI w.p.cfg.reqd,dI w.p.cfg.shadd,dI w.p.cfg.reports,.d (.sl 1 (w.p.cfg.plan.ws.map (.i .i64))),dI w.p.cfg.plan.ms,dI w.p.cfg.plan.nu,dI w.p.cfg.plan.de,dI w.p.cfg.plan.ho,dI w.p.cfg.plan.wi,.d (.s w.p.cfg.salt),.d (.s w.p.cfg.cookie),.d (.b w.p.cfg.mirror),.d (.sl 1 (w.p.cfg.ignore.map .s)),dI w.p.now,dI w.p.draw,dI w.p.ser,dI w.p.ro.st,dI w.p.ro.sg,dI w.p.ro.he,dI w.p.ro.tt,dI w.p.ro.er,dI w.p.ro.ag,.os a,.os b,dI w.p.sta.ba,dI w.p.sta.qu,dI w.p.sta.se,.d (.sl 1 (w.p.sta.id.map (.i .i64))),.d (.sl 1 (w.p.sta.bu.map (.i .i64))),dI w.p.can.ba,dI w.p.can.qu,dI w.p.can.se,.d (.sl 1 (w.p.can.id.map (.i .i64))),.d (.sl 1 (w.p.can.bu.map (.i .i64))),dI w.p.sh.pool.ba,dI w.p.sh.pool.qu,dI w.p.sh.pool.se,.d (.sl 1 (w.p.sh.pool.id.map (.i .i64))),.d (.sl 1 (w.p.sh.pool.bu.map (.i .i64))),.d (.sl 55 (w.p.sh.jobs.map bI)),dI w.p.sh.rep.cap,dI w.p.sh.rep.ser,.d (.sl 6 (w.p.sh.rep.l.map NH)),.os c]
abbrev lP (w:Wd):List (Nat×Option aS):=[(0,some (fG w 1 2 3)),(1,some (.buf 65 (w.p.cls.map dU))),(2,some (.buf 33 (w.p.ups.map fo))),(3,some (.buf 5 (w.out.map bn)))]
abbrev NR (w:Wd):List (Nat×Option aS):=[(0,some (fG w 1 2 16)),(1,some (.buf 65 (w.p.cls.map dU))),(2,some (.buf 33 (w.p.ups.map fo))),(16,some (.buf 5 (w.out.map bn)))]
theorem BS {l:List Cl}{i:Nat}(h:i<l.length):(l.map dU)[i]?=some (dU l[i]):=by simp[h]
theorem wS {l:List Up}{i:Nat}(h:i<l.length):(l.map fo)[i]?=some (fo l[i]):=by simp[h]
theorem bX {l:List bC}{i:Nat}(h:i<l.length):(l.map bn)[i]?=some (bn l[i]):=by simp[h]
def bM (l:List Cl)(id:Int):Option Nat:=l.findIdx? fun c=>decide (c.po.id=id)
def im (l:List Up)(id:Int):Option Nat:=l.findIdx? fun c=>decide (c.po.id=id)
theorem mv {α:Type}{l:List α}{f:α→Int}{id:Int}{i:Nat}(hi:i<l.length)(he:f l[i]=id)(hn:∀(j:Nat)(h:j<l.length),j<i→f l[j]≠id):l.findIdx? (fun c=>decide (f c=id))=some i:=by rw[List.findIdx?_eq_some_iff_getElem];refine⟨hi,by simpa using he,fun j hj=>?_⟩;have:=hn j (by omega) hj;simpa using this
theorem mG {α:Type}{l:List α}{f:α→Int}{id:Int}(hn:∀(j:Nat)(h:j<l.length),f l[j]≠id):l.findIdx? (fun c=>decide (f c=id))=none:=by rw[List.findIdx?_eq_none_iff];intro x hx;obtain⟨j,hj,rfl⟩:=List.getElem_of_mem hx;simpa using hn j hj
theorem Fc {α:Type}{l:List α}{f:α→Int}{id:Int}{i:Nat}(h:l.findIdx? (fun c=>decide (f c=id))=some i):∃hi:i<l.length,f l[i]=id:=by obtain⟨hlt,h1,_⟩:=List.findIdx?_eq_some_iff_getElem.1 h;exact⟨hlt,by simpa using h1⟩
theorem dt (p:aU)(id:Int)(h:p.cls.length≤1000000):ay (CG G) 76 [dw p,.i .i64 id] [.i .i64 (EL (bM p.cls id))]:=by
 have hl:(p.cls.map dU).length=p.cls.length:=by simp
 unfold dw bf bM;refine ay.mk (n:=23) Tryz.func76 rfl rfl rfl (Nat.le_of_ble_eq_true rfl) (ad ?_);apply aA (fun i:Nat=>i≤p.cls.length∧∀(j:Nat)(h:j<p.cls.length),j<i→p.cls[j].po.id≠id) (fun i=>⟨[(1,dI id),(2,.op 16 0 0),(5,dI (i:Int))],[(16,some (.box [dI p.cfg.maxHead,dI p.cfg.maxBody,dI p.cfg.maxReply,dI p.cfg.cin,dI p.cfg.cout,dI p.cfg.clients,dI p.cfg.admins,dI p.cfg.listeners,dI p.cfg.stable,dI p.cfg.canary,dI p.cfg.shadow,dI p.cfg.tee,dI p.cfg.idle,dI p.cfg.reqd,dI p.cfg.shadd,dI p.cfg.reports,.d (.sl 1 (p.cfg.plan.ws.map (.i .i64))),dI p.cfg.plan.ms,dI p.cfg.plan.nu,dI p.cfg.plan.de,dI p.cfg.plan.ho,dI p.cfg.plan.wi,.d (.s p.cfg.salt),.d (.s p.cfg.cookie),.d (.b p.cfg.mirror),.d (.sl 1 (p.cfg.ignore.map .s)),dI p.now,dI p.draw,dI p.ser,dI p.ro.st,dI p.ro.sg,dI p.ro.he,dI p.ro.tt,dI p.ro.er,dI p.ro.ag,.d (.sl 65 (p.cls.map dU)),.d (.sl 33 (p.ups.map fo)),dI p.sta.ba,dI p.sta.qu,dI p.sta.se,.d (.sl 1 (p.sta.id.map (.i .i64))),.d (.sl 1 (p.sta.bu.map (.i .i64))),dI p.can.ba,dI p.can.qu,dI p.can.se,.d (.sl 1 (p.can.id.map (.i .i64))),.d (.sl 1 (p.can.bu.map (.i .i64))),dI p.sh.pool.ba,dI p.sh.pool.qu,dI p.sh.pool.se,.d (.sl 1 (p.sh.pool.id.map (.i .i64))),.d (.sl 1 (p.sh.pool.bu.map (.i .i64))),.d (.sl 55 (p.sh.jobs.map bI)),dI p.sh.rep.cap,dI p.sh.rep.ser,.d (.sl 6 (p.sh.rep.l.map NH))]))],2⟩) (fun i=>p.cls.length-i) 0 ⟨Nat.zero_le _,fun j _ hj=>by omega⟩ [(16,_)];·exact aF
 ·rintro i ⟨hi,hn⟩;refine ad ?_;refine ae (fun h1=>?_) (fun h1=>?_)
  ·have hi':i<p.cls.length:=by omega
   refine ad (ao i rfl (BS hi') ?_);refine ae (fun h2=>?_) (fun h2=>?_)
   ·rw[mv (f:=fun c:Cl=>c.po.id) hi' h2 hn];repeat'(first|refine ad ?_|refine dk ?_|refine ae (fun _=>?_) (fun _=>?_)|refine aq ?_)
    rfl
   ·repeat'(first|refine ad ?_|refine dk ?_|refine ae (fun _=>?_) (fun _=>?_)|refine aq ?_)
    apply aG (i+1) [(16,_)] ⟨by omega,fun j h hj=>by
     by_cases hji:j<i;·exact hn j h hji
     ·obtain rfl:j=i:=by omega
      exact h2⟩ (by omega);exact aF
  ·rw[mG (f:=fun c:Cl=>c.po.id) fun j hj=>hn j hj (by omega)];repeat'(first|refine ad ?_|refine dk ?_|refine ae (fun _=>?_) (fun _=>?_)|refine aq ?_)
   rfl
theorem iS (p:aU)(id:Int)(h:p.ups.length≤1000000):ay (CG G) 83 [dw p,.i .i64 id] [.i .i64 (EL (im p.ups id))]:=by
 have hl:(p.ups.map fo).length=p.ups.length:=by simp
 unfold dw bf im;refine ay.mk (n:=23) Tryz.func83 rfl rfl rfl (Nat.le_of_ble_eq_true rfl) (ad ?_);apply aA (fun i:Nat=>i≤p.ups.length∧∀(j:Nat)(h:j<p.ups.length),j<i→p.ups[j].po.id≠id) (fun i=>⟨[(1,dI id),(2,.op 16 0 0),(5,dI (i:Int))],[(16,some (.box [dI p.cfg.maxHead,dI p.cfg.maxBody,dI p.cfg.maxReply,dI p.cfg.cin,dI p.cfg.cout,dI p.cfg.clients,dI p.cfg.admins,dI p.cfg.listeners,dI p.cfg.stable,dI p.cfg.canary,dI p.cfg.shadow,dI p.cfg.tee,dI p.cfg.idle,dI p.cfg.reqd,dI p.cfg.shadd,dI p.cfg.reports,.d (.sl 1 (p.cfg.plan.ws.map (.i .i64))),dI p.cfg.plan.ms,dI p.cfg.plan.nu,dI p.cfg.plan.de,dI p.cfg.plan.ho,dI p.cfg.plan.wi,.d (.s p.cfg.salt),.d (.s p.cfg.cookie),.d (.b p.cfg.mirror),.d (.sl 1 (p.cfg.ignore.map .s)),dI p.now,dI p.draw,dI p.ser,dI p.ro.st,dI p.ro.sg,dI p.ro.he,dI p.ro.tt,dI p.ro.er,dI p.ro.ag,.d (.sl 65 (p.cls.map dU)),.d (.sl 33 (p.ups.map fo)),dI p.sta.ba,dI p.sta.qu,dI p.sta.se,.d (.sl 1 (p.sta.id.map (.i .i64))),.d (.sl 1 (p.sta.bu.map (.i .i64))),dI p.can.ba,dI p.can.qu,dI p.can.se,.d (.sl 1 (p.can.id.map (.i .i64))),.d (.sl 1 (p.can.bu.map (.i .i64))),dI p.sh.pool.ba,dI p.sh.pool.qu,dI p.sh.pool.se,.d (.sl 1 (p.sh.pool.id.map (.i .i64))),.d (.sl 1 (p.sh.pool.bu.map (.i .i64))),.d (.sl 55 (p.sh.jobs.map bI)),dI p.sh.rep.cap,dI p.sh.rep.ser,.d (.sl 6 (p.sh.rep.l.map NH))]))],2⟩) (fun i=>p.ups.length-i) 0 ⟨Nat.zero_le _,fun j _ hj=>by omega⟩ [(16,_)];·exact aF
 ·rintro i ⟨hi,hn⟩;refine ad ?_;refine ae (fun h1=>?_) (fun h1=>?_)
  ·have hi':i<p.ups.length:=by omega
   refine ad (ao i rfl (wS hi') ?_);refine ae (fun h2=>?_) (fun h2=>?_)
   ·rw[mv (f:=fun c:Up=>c.po.id) hi' h2 hn];repeat'(first|refine ad ?_|refine dk ?_|refine ae (fun _=>?_) (fun _=>?_)|refine aq ?_)
    rfl
   ·repeat'(first|refine ad ?_|refine dk ?_|refine ae (fun _=>?_) (fun _=>?_)|refine aq ?_)
    apply aG (i+1) [(16,_)] ⟨by omega,fun j h hj=>by
     by_cases hji:j<i;·exact hn j h hji
     ·obtain rfl:j=i:=by omega
      exact h2⟩ (by omega);exact aF
  ·rw[mG (f:=fun c:Up=>c.po.id) fun j hj=>hn j hj (by omega)];repeat'(first|refine ad ?_|refine dk ?_|refine ae (fun _=>?_) (fun _=>?_)|refine aq ?_)
   rfl
def GL (l:List cX)(e:Int):Option Nat:=l.findIdx? fun j=>decide (j.exc=e)
def cX.prim (j:cX)(sn:Sn):cX:={j with hp:=true,pr:=sn}
noncomputable def yH (s:bz)(e:Int)(sn:Sn)(complete:Bool):bz×List bC:=match GL s.jobs e with|none=>(s,[])|some k=>if complete=false then(s.endJ k (s.at k) 7,dS (s.at k) false) else((s.set k ((s.at k).prim sn)).cmp k ((s.at k).prim sn),[])
theorem GW (s:bz)(e:Int)(sn:Sn)(complete:Bool)(h:s.J)(hsn:sn.Gd):ay (CG G) 137 [bJ s,.i .i64 e,zg sn,.b complete] [bJ (yH s e sn complete).1,bS (yH s e sn complete).2]:=by
 have hjl:=h.sm.jobs;have hml:(s.jobs.map bI).length=s.jobs.length:=by simp
 have fnd:∀(i:Nat)(hi:i<s.jobs.length),(∀(j:Nat)(h:j<s.jobs.length),j<i→s.jobs[j].exc≠e)→s.jobs[i].exc=e→GL s.jobs e=some i:=by intro i hi hn he;unfold GL;rw[List.findIdx?_eq_some_iff_getElem];refine⟨hi,by simpa using he,fun j hj=>?_⟩;have:=hn j (by omega) hj;simpa using this
 have nofnd:(∀(j:Nat)(h:j<s.jobs.length),s.jobs[j].exc≠e)→GL s.jobs e=none:=by intro hn;unfold GL;rw[List.findIdx?_eq_none_iff];intro x hx;obtain⟨j,hj,rfl⟩:=List.getElem_of_mem hx;simpa using hn j hj
 unfold bS zg jH;cases complete
 ·refine ay.mk (n:=49) Tryz.func137 rfl rfl rfl (Nat.le_of_ble_eq_true rfl) (ad ?_);apply aA (fun i:Nat=>i≤s.jobs.length∧∀(j:Nat)(h:j<s.jobs.length),j<i→s.jobs[j].exc≠e) (fun i=>⟨[(1,dI e),(3,.d (.b false)),(4,.op 16 0 0),(6,.op 17 0 0),(8,.op 18 0 0),(10,dI (i:Int))],[(16,some (.box [dI s.pool.ba,dI s.pool.qu,dI s.pool.se,.d (.sl 1 (s.pool.id.map (.i .i64))),.d (.sl 1 (s.pool.bu.map (.i .i64))),.d (.sl 55 (s.jobs.map bI)),dI s.rep.cap,dI s.rep.ser,.d (.sl 6 (s.rep.l.map NH))])),(17,some (.box [dI sn.st,.d (.sl 2 (sn.fs.map aL)),dI sn.sz,.d (.sl 1 (aD sn.sum))])),(18,some (.box [dI 0,dI 0,dI 0,.d (.sl 1 []),.d (.sl 1 []),.d (.sl 55 []),dI 0,dI 0,.d (.sl 6 [])]))],2⟩) (fun i=>s.jobs.length-i) 0 ⟨Nat.zero_le _,fun j _ hj=>by omega⟩ [(16,_),(17,_),(18,_)];·exact aF
  ·rintro i ⟨hi,hn⟩;refine ad ?_;refine ae (fun h1=>?_) (fun h1=>?_)
   ·have hi':i<s.jobs.length:=by omega
    have hgk:s.jobs[i]?=some s.jobs[i]:=No hi';have hg:=j7 hi';have hG:=h.jobs _ (Nr hi');refine ad (ad (ao i rfl hg ?_));refine ae (fun h2=>?_) (fun h2=>?_)
    ·repeat'(first|refine ad ?_|refine dk ?_|refine ae (fun _=>?_) (fun _=>?_)|refine aq ?_)
     apply aG (i+1) [(16,_),(17,_),(18,_)] ⟨by omega,fun j h hj=>by
      by_cases hji:j<i;·exact hn j h hji
      ·obtain rfl:j=i:=by omega
       exact h2⟩ (by omega);exact aF
    ·have he:=fnd i hi' hn (Nq.1 h2);have hat:s.at i=s.jobs[i]:=by unfold bz.at;simp[hi']
     unfold yH;rw[he];simp only[hat];have c1:=s7 s i 7 false h.sm s.jobs[i] hgk;unfold bS bJ aZ at*;try rw[if_pos rfl]
     generalize s.endJ i s.jobs[i] 7=t at*;generalize dS s.jobs[i] false=ac at*;repeat'(first|refine ad ?_|refine dk ?_|refine ah (c1) ?_|refine ae (fun _=>?_) (fun _=>?_)|refine aq ?_)
     rfl
   ·have he:=nofnd fun j hj=>hn j hj (by omega);unfold yH;rw[he];repeat'(first|refine ad ?_|refine dk ?_|refine ae (fun _=>?_) (fun _=>?_)|refine aq ?_)
    rfl
 ·refine ay.mk (n:=49) Tryz.func137 rfl rfl rfl (Nat.le_of_ble_eq_true rfl) (ad ?_);apply aA (fun i:Nat=>i≤s.jobs.length∧∀(j:Nat)(h:j<s.jobs.length),j<i→s.jobs[j].exc≠e) (fun i=>⟨[(1,dI e),(3,.d (.b true)),(4,.op 16 0 0),(6,.op 17 0 0),(8,.op 18 0 0),(10,dI (i:Int))],[(16,some (.box [dI s.pool.ba,dI s.pool.qu,dI s.pool.se,.d (.sl 1 (s.pool.id.map (.i .i64))),.d (.sl 1 (s.pool.bu.map (.i .i64))),.d (.sl 55 (s.jobs.map bI)),dI s.rep.cap,dI s.rep.ser,.d (.sl 6 (s.rep.l.map NH))])),(17,some (.box [dI sn.st,.d (.sl 2 (sn.fs.map aL)),dI sn.sz,.d (.sl 1 (aD sn.sum))])),(18,some (.box [dI 0,dI 0,dI 0,.d (.sl 1 []),.d (.sl 1 []),.d (.sl 55 []),dI 0,dI 0,.d (.sl 6 [])]))],2⟩) (fun i=>s.jobs.length-i) 0 ⟨Nat.zero_le _,fun j _ hj=>by omega⟩ [(16,_),(17,_),(18,_)];·exact aF
  ·rintro i ⟨hi,hn⟩;refine ad ?_;refine ae (fun h1=>?_) (fun h1=>?_)
   ·have hi':i<s.jobs.length:=by omega
    have hgk:s.jobs[i]?=some s.jobs[i]:=No hi';have hg:=j7 hi';have hG:=h.jobs _ (Nr hi');refine ad (ad (ao i rfl hg ?_));refine ae (fun h2=>?_) (fun h2=>?_)
    ·repeat'(first|refine ad ?_|refine dk ?_|refine ae (fun _=>?_) (fun _=>?_)|refine aq ?_)
     apply aG (i+1) [(16,_),(17,_),(18,_)] ⟨by omega,fun j h hj=>by
      by_cases hji:j<i;·exact hn j h hji
      ·obtain rfl:j=i:=by omega
       exact h2⟩ (by omega);exact aF
    ·have he:=fnd i hi' hn (Nq.1 h2);have hat:s.at i=s.jobs[i]:=by unfold bz.at;simp[hi']
     unfold yH;rw[he];simp only[hat];have c2:=zK s i (s.jobs[i].prim sn) hi' (by omega);have hk2:(s.set i (s.jobs[i].prim sn)).jobs[i]?=some (s.jobs[i].prim sn):=by show(s.jobs.set i _)[i]?=_;simp[hi']
     have c3:=cmpR (s.set i (s.jobs[i].prim sn)) i ⟨h.sm.pool,by show(s.jobs.set i _).length≤_;rw[List.length_set];exact hjl,h.sm.rep⟩ (s.jobs[i].prim sn) hk2 (by have:=hsn.len;show sn.fs.length≤_;omega) (by have:=hG.sh.len;show s.jobs[i].sh.fs.length≤_;omega);try rw[if_neg (by decide)]
     generalize (s.set i (s.jobs[i].prim sn)).cmp i (s.jobs[i].prim sn)=t at*;unfold cX.prim at*;generalize s.jobs[i]=j at*;generalize s.set i {j with hp:=true,pr:=sn}=u at*;unfold bJ aZ at*;refine ad (ao i rfl hg ?_);repeat'(first|refine ad ?_|refine dk ?_|refine ah (c2) ?_|refine ah (c3) ?_|refine ae (fun _=>?_) (fun _=>?_)|refine aq ?_)
     rfl
   ·have he:=nofnd fun j hj=>hn j hj (by omega);unfold yH;rw[he];repeat'(first|refine ad ?_|refine dk ?_|refine ae (fun _=>?_) (fun _=>?_)|refine aq ?_)
    rfl
def mn (lim:Int):Nat→Nat→bz→List bC→bz×List bC|0,_,s,out=>(s,out)|n+1,k,s,out=>if(s.at k).hs=true∨lim<(s.at k).born then mn lim n (k+1) s out else mn lim n k (s.endJ k (s.at k) 6) (out++dS (s.at k) false)
def D5 (s:bz)(lim:Int):bz×List bC:=mn lim s.jobs.length 0 s []
theorem u0 {n:Int}(h:0≤n∧n≤1000000000):0≤qA n∧qA n≤1000000000:=by unfold qA;split<;>omega
theorem D7.add_ok {r:D7}(h:r.Ok)(exc rea:Int)(a b:Bool)(f:List Nm):(r.add exc rea a b f).Ok:=by have h1:=h.cap;have h2:=h.len;refine⟨h.cap,u0 h.ser,?_⟩;show((xB r.cap (r.l++[_])).length:Int)≤r.cap;unfold xB;rw[Nz,Na];simp only[Nb,Nf];omega
theorem bz.fin_sm {s:bz}(h:s.Sm)(k:Nat)(exc rea:Int)(a b:Bool)(f:List Nm):(s.fin k exc rea a b f).Sm:=by refine⟨h.pool,?_,D7.add_ok h.rep _ _ _ _ _⟩;have:=h.jobs;show(s.jobs.take k++s.jobs.drop (k+1)).length≤_;rw[Na,Nj,Nz];omega
theorem bz.hang_len (s:bz)(k:Nat)(j:cX):(s.hang k j).jobs.length=s.jobs.length:=by unfold bz.hang;split<;>simp
theorem bz.endJ_len {s:bz}{k:Nat}(hk:k<s.jobs.length)(j:cX)(rea:Int):(s.endJ k j rea).jobs.length+1=s.jobs.length:=by have h:=s.hang_len k j;show((s.hang k j).jobs.take k++(s.hang k j).jobs.drop (k+1)).length+1=_;rw[Na,Nj,Nz];omega
theorem bz.endJ_sm {s:bz}(h:s.Sm)(k:Nat)(j:cX)(rea:Int):(s.endJ k j rea).Sm:=bz.fin_sm (bz.hang_sm h k j) _ _ _ _ _ _
theorem nU (j:cX)(g:Bool):(dS j g).length≤1:=by unfold dS;split<;>simp
theorem HR {s:bz}{k:Nat}(h:k<s.jobs.length):s.jobs[k]?=some (s.at k):=by unfold bz.at;simp[h]
theorem LQ (s:bz)(c:bk)(now:Int)(h:s.Sm)(hc:c.Ok)(hn:0≤now∧now≤1000000000):ay (CG G) 73 [bJ s,di c,.i .i64 now] [bJ (D5 s (now-c.shadd)).1,bS (D5 s (now-c.shadd)).2]:=by
 have hsd:=hc.shadd;have hjl:=h.jobs;unfold bS;refine ay.mk (n:=50) Tryz.func73 rfl rfl rfl (Nat.le_of_ble_eq_true rfl) (ad ?_);apply aA (fun x:Nat×bz×List bC=>x.1≤x.2.1.jobs.length∧x.2.1.Sm∧x.2.2.length+x.2.1.jobs.length≤s.jobs.length∧mn (now-c.shadd) (x.2.1.jobs.length-x.1) x.1 x.2.1 x.2.2=D5 s (now-c.shadd)) (fun x=>⟨[(2,dI now),(3,.op 16 0 0),(4,.op 17 0 0),(6,.op 18 0 0),(8,.os 19),(9,dI (x.1:Int))],[(16,some (.box [dI x.2.1.pool.ba,dI x.2.1.pool.qu,dI x.2.1.pool.se,.d (.sl 1 (x.2.1.pool.id.map (.i .i64))),.d (.sl 1 (x.2.1.pool.bu.map (.i .i64))),.d (.sl 55 (x.2.1.jobs.map bI)),dI x.2.1.rep.cap,dI x.2.1.rep.ser,.d (.sl 6 (x.2.1.rep.l.map NH))])),(17,some (.box [dI c.maxHead,dI c.maxBody,dI c.maxReply,dI c.cin,dI c.cout,dI c.clients,dI c.admins,dI c.listeners,dI c.stable,dI c.canary,dI c.shadow,dI c.tee,dI c.idle,dI c.reqd,dI c.shadd,dI c.reports,.d (.sl 1 (c.plan.ws.map (.i .i64))),dI c.plan.ms,dI c.plan.nu,dI c.plan.de,dI c.plan.ho,dI c.plan.wi,.d (.s c.salt),.d (.s c.cookie),.d (.b c.mirror),.d (.sl 1 (c.ignore.map .s))])),(18,some (.box [dI 0,dI 0,dI 0,.d (.sl 1 []),.d (.sl 1 []),.d (.sl 55 []),dI 0,dI 0,.d (.sl 6 [])])),(19,some (.buf 5 (x.2.2.map bn)))],2⟩) (fun x=>x.2.1.jobs.length-x.1) (0,s,[]) ⟨Nat.zero_le _,h,by simp,rfl⟩ [(16,_),(17,_),(18,_),(19,_)];·exact aF
 ·rintro⟨k,t,out⟩ ⟨hk,ht,ho,hh⟩;simp only at hk ht ho hh;have hml:(t.jobs.map bI).length=t.jobs.length:=by simp
  refine ad ?_;refine ae (fun h1=>?_) (fun h1=>?_)
  ·have hk':k<t.jobs.length:=by simp only at h1;omega
   have hg:(t.jobs.map bI)[k]?=some (bI (t.at k)):=by simp[HR hk']
   have c1:=s7 t k 6 false ht (t.at k) (HR hk');have el:=bz.endJ_len hk' (t.at k) 6;have es:=bz.endJ_sm ht k (t.at k) 6;have al:=nU (t.at k) false;rw[show t.jobs.length-k=(t.jobs.length-(k+1))+1 by omega,mn] at hh;unfold bS at c1;generalize t.endJ k (t.at k) 6=u at*;generalize dS (t.at k) false=ac at*;generalize t.at k=j at*;obtain⟨exc,conn,born,opn,po,rd,dg,jhs,jhp,sh,pr⟩:=j;simp only at*;cases jhs
   ·refine ad (ao k rfl hg (ao k rfl hg (ar ⟨by omega,by omega⟩ ?_)));refine ae (fun h2=>?_) (fun h2=>?_)
    ·rw[if_pos (.inr h2)] at hh;repeat'(first|refine ad ?_|refine dk ?_|refine ae (fun _=>?_) (fun _=>?_)|refine aq ?_)
     apply aG (k+1,t,out) [(16,_),(17,_),(18,_),(19,_)] ⟨show k+1≤t.jobs.length by omega,ht,ho,hh⟩ (show t.jobs.length-(k+1)<t.jobs.length-k by omega);exact aF
    ·rw[if_neg (by rintro(h|h);cases h;exact h2 h)] at hh;unfold bJ aZ at c1;repeat'(first|refine ad ?_|refine dk ?_|refine ah (c1) ?_|refine ae (fun _=>?_) (fun _=>?_)|refine aq ?_)
     refine aB (by simp;omega) ?_;repeat'(first|refine ad ?_|refine dk ?_|refine ae (fun _=>?_) (fun _=>?_)|refine aq ?_)
     apply aG (k,u,out++ac) [(16,_),(17,_),(18,_),(19,_)] ⟨show k≤u.jobs.length by omega,es,show(out++ac).length+u.jobs.length≤s.jobs.length by rw[Na];omega,by show mn (now-c.shadd) (u.jobs.length-k) k u (out++ac)=_;rw[show u.jobs.length-k=t.jobs.length-(k+1) by omega];exact hh⟩ (show u.jobs.length-k<t.jobs.length-k by omega);((repeat' constructor)<;>(first|refine aI ?_|rfl)<;>first|exact oT|skip);all_goals simp
   ·rw[if_pos (.inl rfl)] at hh;refine ad (ao k rfl hg ?_);repeat'(first|refine ad ?_|refine dk ?_|refine ae (fun _=>?_) (fun _=>?_)|refine aq ?_)
    apply aG (k+1,t,out) [(16,_),(17,_),(18,_),(19,_)] ⟨show k+1≤t.jobs.length by omega,ht,ho,hh⟩ (show t.jobs.length-(k+1)<t.jobs.length-k by omega);exact aF
  ·obtain rfl:k=t.jobs.length:=by simp only at h1;omega
   rw[show t.jobs.length-t.jobs.length=0 by omega,mn] at hh;rw[←hh];repeat'(first|refine ad ?_|refine dk ?_|refine ae (fun _=>?_) (fun _=>?_)|refine aq ?_)
   rfl
end Go.Proofs.YtgfdbddglhblbaaGreat

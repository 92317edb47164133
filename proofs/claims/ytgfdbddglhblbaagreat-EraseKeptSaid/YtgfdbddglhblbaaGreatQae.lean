/- A part of the proof of what is stated of the erasing of a mirror. -/
import Derived.Test.YtgfdbddglhblbaaGreatQad
set_option maxHeartbeats 64000000
namespace Go.Eng
theorem lK (b:Nat):∀(vs:List Value)(o:Nat)(w:World)(arr:Array Value)(T:TypeId)(fz:Nat×Nat),w.heap[b]?=some (.cells arr T fz)→∃arr',(w.setCells b o vs).heap[b]?=some (.cells arr' T fz)∧arr'.size=arr.size∧(∀i,i≠b→(w.setCells b o vs).heap[i]?=w.heap[i]?)∧(w.setCells b o vs).heap.size=w.heap.size∧(w.setCells b o vs).os=w.os∧(w.setCells b o vs).tape=w.tape∧(w.setCells b o vs).output=w.output∧∀j,arr'[j]?=if o≤j∧j<o+vs.length∧j<arr.size then vs[j-o]? else arr[j]?:=by intro vs;induction vs with
 |nil=>intro o w arr T fz h;exact⟨arr,h,rfl,(fun _ _=>rfl),rfl,rfl,rfl,rfl,fun j=>by rw[if_neg];simp;omega⟩;|cons v r ih=>
 intro o w arr T fz h;have h1:(w.setCell ⟨b,o,none⟩ v).heap[b]?=some (.cells (arr.setIfInBounds o v) T fz):=by have hlt:b<w.heap.size:=(Array.getElem?_eq_some_iff.1 h).1;have hg:=(Array.getElem?_eq_some_iff.1 h).2;simp only[World.setCell];rw[Array.getElem?_modify,if_pos rfl,h];rfl
 obtain⟨arr',h2,h3,h4,h5,h6,h7,h8,h9⟩:=ih (o+1) _ _ T fz h1;refine⟨arr',h2,by simpa using h3,fun i hi=>?_,h5.trans (by simp[World.setCell]),h6,h7,h8,fun j=>?_⟩;·rw[World.setCells,h4 i hi];simp[World.setCell,Array.getElem?_modify,Ne.symm hi]
 ·rw[h9 j];simp only[Array.size_setIfInBounds,Nb];by_cases hj:j=o
  ·subst hj;rw[if_neg (by omega)];by_cases hs:j<arr.size;·rw[if_pos (by omega)];simp[hs]
   ·rw[if_neg (by omega)];simp[hs]
  ·by_cases hj2:o+1≤j∧j<o+1+r.length∧j<arr.size;·rw[if_pos hj2,if_pos (by omega),show j-o=(j-(o+1))+1 by omega];simp
   ·rw[if_neg hj2,if_neg (by omega),Array.getElem?_setIfInBounds_ne (fun e=>hj e.symm)]
theorem tu {w:World}{b:Nat}{arr:Array Value}{T:TypeId}{fz:Nat×Nat}(h:w.heap[b]?=some (.cells arr T fz)){o:Nat}(hn:¬(fz.1≤o∧o<fz.2)):w.frozen? ⟨b,o,none⟩=false:=by
 obtain⟨lo,hi⟩:=fz;simp only[World.frozen?,h];simp only at hn;by_cases h1:lo≤o
 ·by_cases h2:o<hi;·exact absurd ⟨h1,h2⟩ hn
  ·simp[h2]
 ·simp[h1]
section
variable {C:cq}{n:Nat}{o:Oper}{nm:Nat}{st:AS}{K:KO}
structure Ii {β:Type}(xs:List β)(i:Nat)(K:β→Prop):Prop where out:∃x,xs[i]?=some x∧K x
theorem ax {β:Type}{xs:List β}{i:Nat}{K:β→Prop}{x:β}(h:xs[i]?=some x)(h1:K x):Ii xs i K:=⟨x,h,h1⟩
def GB (sz:Nat)(ti:iQ)(x:D)(j:Nat)(d:D)(K:D→Prop):Prop:=match j,Nat.beq ti.size sz with
 |0,true=>match Nat.beq d.cells.length sz,d.cells.all D.one with|true,true=>K d|_,_=>False
 |j,_=>uo x.cells fun xs=>uo d.cells fun ds=>match Nat.beq ds.length ti.size,d.cells.all D.one with|true,true=>sM xs j ds fun r=>w8 r (fun r=>match r.all D.one with|true=>K (.agg r)|false=>False) False|_,_=>False
structure BH (ds:List D)(n sz m:Nat)(K:List D→Prop):Prop where out:∃ys,ys.flatMap D.cells=ds∧ds.length=n∧ys.length=m∧(∀y,y∈ys→y.wd sz)∧K ys
theorem rQ {k:IntKind}{l:List Int}{n m:Nat}{K:List D→Prop}(hl:l.length=n)(hm:l.length=m)(h1:K (l.map (.i k))):BH (l.map (.i k)) n 1 m K:=⟨_,nV l,by simpa using hl,by simpa using hm,fun y hy=>by obtain⟨z,_,rfl⟩:=List.mem_map.1 hy;exact⟨rfl,fun c hc=>by simp[D.cells] at hc;subst hc;rfl⟩,h1⟩
def inN (l:List Nat)(x:Nat):Bool:=match l with|[]=>false|y::r=>match Nat.beq y x with|true=>true|false=>inN r x
theorem Jo {l:List Nat}{x:Nat}(h:inN l x=false):x∉l:=by induction l with|nil=>simp;|cons y r ih=>
 simp only[inN] at h;split at h;·cases h
 ·rename_i hb;intro hm;rcases List.mem_cons.1 hm with rfl|hm;·simp at hb
  ·exact ih h hm
def yP (C:cq)(st:AS)(T:TypeId)(p v:AV)(K:KO):Prop:=aW C.tab T fun ti=>match p with
 |.op k i j=>iH st k fun en=>match en with
  |.box cs T0=>match i with
   |0=>rY v fun new=>match Nat.beq new.length ti.size with
    |true=>sM cs j new fun r=>K .any [(k,some (.box r T0))] [k]|false=>False
   |_=>False
  |.buf sz xs T0=>nM st v fun d us=>match us with
   |[]=>Ii xs i fun x=>GB sz ti x j d fun y=>K .any [(k,some (.buf sz (xs.set i y) T0))] [k]|us=>match inN us k with
    |false=>Ii xs i fun x=>GB sz ti x j d fun y=>K .any ((k,some (.buf sz (xs.set i y) T0))::us.map fun u=>(u,none)) (k::us)|true=>False
  |.arr sz xs=>match ti.kd with
   |.array _ _=>match i,j with
    |0,0=>nM st v fun d us=>match us,d with|[],.agg ds=>BH ds ti.size sz xs.length fun ys=>K .any [(k,some (.arr sz ys))] [k]|_,_=>False
    |_,_=>False
   |_=>nM st v fun d us=>match us with
    |[]=>Ii xs i fun x=>GB sz ti x j d fun y=>K .any [(k,some (.arr sz (xs.set i y)))] [k]|_=>False
  |_=>False
 |_=>False
theorem je {P:Program}{T:TypeId}{ti:iQ}(ht:eD P T ti){w:World}{b o:Nat}{arr:Array Value}{U:TypeId}{fz:Nat×Nat}{v:Value}(hh:w.heap[b]?=some (.cells arr U fz))(hsz:v.cells.size=ti.size)(hb:o+ti.size≤arr.size)(hn:∀j,j<ti.size→¬(fz.1≤o+j∧o+j<fz.2))(h1:∀u,u∈v.cells→u.oneCell'=true):(storeVar T ⟨b,o,none⟩ v).run P w=.ok () (w.setCells b o v.cells.toList):=by
 have:=run_storeCells_cells (P:=P) b o v.cells.toList 0 w (fun j hj=>by
 rw[eP hh];have:o+j<arr.size:=by simp at hj;omega
 simp[this]) (fun j hj=>by have:=hn j (by simp at hj;omega);exact tu hh (by simpa using this)) (fun u hu=>h1 u (by simpa using hu));simp only[Nat.add_zero] at this;simp only[storeVar,Sem.run_bind,kG ht,Result.andThen_ok,hsz,ne_eq,not_true,if_false];exact this
theorem qv {w:World}{α:Nat→dh}{X:Nat→Prop}{p:Nat→Prop}{k:Nat}{e0 e:aS}{arr:Array Value}{U:TypeId}{fz:Nat×Nat}{cap:Nat}(hB:J4 w α X (α k) e0 arr U fz cap){i j:Nat}{new:List Value}(hsz:e.sz=e0.sz)(hlen:e.len=e0.len)(hb:i*e0.sz+j+new.length≤cap*e0.sz)(hw:e.wide)(hv:∀x,x∈e.vars→x.ok p)(hkind:∀sz xs T,e=.buf sz xs T→∃xs0 T0,e0=.buf sz xs0 T0)(hty:∀U,e.ty=some U→e0.ty=some U)(hbox:∀cs V,e=.box cs V→∃cs0 V0,e0=.box cs0 V0)(hcell:∀a m c,e.cell a m=some c→m<e0.sz)(hcell0:∀a m c,e.cell a m=some c→a<e0.len)(hnew:∀a m c,e.cell a m=some c→(i*e0.sz+j≤a*e0.sz+m∧a*e0.sz+m<i*e0.sz+j+new.length)→∃u,new[a*e0.sz+m-(i*e0.sz+j)]?=some u∧co w α X c u)(aI:∀a m c,e.cell a m=some c→¬(i*e0.sz+j≤a*e0.sz+m∧a*e0.sz+m<i*e0.sz+j+new.length)→e0.cell a m=some c):∃arr',qc w (w.setCells (α k).blk ((α k).off+i*(α k).sz+j) new) α X p (α k) e (α k).hv arr' U fz cap:=by
 obtain⟨arr',h1,h2,h3,h4,h5,h6,h7,h8⟩:=lK (α k).blk new ((α k).off+i*(α k).sz+j) w arr U fz hB.heap;have hz:=hB.hsz;refine⟨arr',h1,h3,h4,h5,h6,h7,by rw[hsz];exact hz,by rw[hlen];exact hB.len,by rw[hsz,h2];exact hB.bnd,by rw[hsz];exact hB.nf,hw,fun a m c hc=>?_,hv,fun sz xs T he=>?_,hB.hone,fun V h=>⟨(hB.ty V (hty V h)).1,(hB.ty V (hty V h)).2.1,fun cs V' he=>?_⟩⟩
 ·rw[hsz,h8,hz];have hm:=hcell a m c hc;have ha:=hcell0 a m c hc;have hq:a*e0.sz+m<cap*e0.sz:=by have h9:(a+1)*e0.sz≤cap*e0.sz:=Nat.mul_le_mul_right _ (Nat.le_trans ha hB.len);rw[Nat.add_mul] at h9;omega
  have hbd:=hB.bnd;by_cases hin:i*e0.sz+j≤a*e0.sz+m∧a*e0.sz+m<i*e0.sz+j+new.length;·rw[if_pos (by omega)];obtain⟨u,h9,h10⟩:=hnew a m c hc hin;refine⟨u,?_,h10⟩;rw[←h9];congr 1;omega
  ·rw[if_neg (by omega)];exact hB.rd a m c (aI a m c hc hin)
 ·obtain⟨xs0,T0,rfl⟩:=hkind sz xs T he;subst he;have:=hB.hv sz xs0 _ rfl;simp only[aS.len] at hlen;rw[this,hlen]
 ·obtain⟨cs0,V0,rfl⟩:=hbox cs V' he;subst he;have:=(hB.ty V (hty V h)).2.2 cs0 V0 rfl;rw[h2,this];exact hsz.symm
theorem nv {T:TypeId}{p v:Operand}(ho:o.op=.store T p v){a:Act}{w w':World}{b:Addr}(hp:a.eval p=.pointer (some b))(h:(storeVar T b (a.eval v)).run C.P w=.ok () w'){next:Act→World→Prop}{Q:Exit→Act→World→Prop}(hn:next (a.put o.dst undef) w'):o.wp C.P a w next Q:=Gk (by simp[execOp,ho,hp,Instr.storeAt,Instr.sureAddr,h]) hn
theorem na {l:List D}(h:l.all D.one=true):∀d,d∈l→d.one=true:=List.all_eq_true.1 h
theorem wC {a b:Option D}(h:a.map AV.d=b.map AV.d):a=b:=by
 cases a<;>cases b<;>simp at h;·rfl
 ·rw[h]
theorem pW {sz:Nat}{ti:iQ}{x:D}{j:Nat}{d:D}{K:D→Prop}(h:GB sz ti x j d K):∃y,K y∧(x.wd sz→y.wd sz∧j+ti.size≤sz∧d.cells.length=ti.size∧(∀c,c∈d.cells→c.one=true)∧∀m,y.cells[m]?=if j≤m∧m<j+ti.size then d.cells[m-j]? else x.cells[m]?):=by
 unfold GB at h;split at h
 ·rename_i hb;have hb:=Nd hb;split at h
  ·rename_i hl hall;have hl:=Nd hl;refine⟨d,h,fun hx=>⟨⟨hl,na hall⟩,by omega,by omega,na hall,fun m=>?_⟩⟩;by_cases hm:m<ti.size;·rw[if_pos (by omega)];rfl
   ·rw[if_neg (by omega),List.getElem?_eq_none (by omega),List.getElem?_eq_none (by rw[hx.1];omega)]
  ·cases h
 ·replace h:=k8 h;replace h:=k8 h;split at h
  ·rename_i hl hall;have hl:=Nd hl;obtain⟨r,h,h1,h2,h3⟩:=rG h;rcases tm h with⟨r',rfl,h9⟩|h9
   ·split at h9
    ·rename_i hr;simp only[Nl] at hl h1 h2;refine⟨.agg r',h9,fun hx=>⟨⟨h1.trans hx.1,na hr⟩,by rw[←hx.1];omega,hl,na hall,fun m=>?_⟩⟩;have h4:=h3 m;show r'[m]?=_;rw[Nl,hl] at h4;simp only[List.getElem?_map] at h4;split at h4;·rename_i hin;rw[if_pos hin];exact wC h4
     ·rename_i hin;rw[if_neg hin];exact wC h4
    ·cases h9
   ·cases h9
  ·cases h
theorem Br {w:World}{X:Nat→Prop}{d:D}{v:Value}(h:Rd w X d v)(hone:∀c,c∈d.cells→c.one=true):v.cells.size=d.cells.length∧(∀(j:Nat)(c:D),d.cells[j]?=some c→∃u,v.cells[j]?=some u∧Rd w X c u)∧∀u,u∈v.cells→u.oneCell'=true:=by cases h with
 |agg cs vs hl hc=>
 refine⟨hl.symm,fun j c hj=>?_,fun u hu=>?_⟩
 ·have hlt:j<vs.size:=by rw[←hl];exact(Nc.1 hj).1
  exact⟨vs[j],by simp[Value.cells,hlt],hc j c _ hj (by simp[hlt])⟩
 ·obtain⟨j,hj,rfl⟩:=Array.mem_iff_getElem.1 hu;have hj':j<cs.length:=by rw[hl];exact hj
  exact(hc j cs[j] _ (by simp[hj']) (by simp[Value.cells])).one (hone _ (by simp[D.cells]));|x v=>have:=hone (.x v) (by simp[D.cells]);rw[nR (this:v.oneCell'=true)];refine⟨rfl,fun j c hj=>?_,fun u hu=>by simp at hu;subst hu;exact this⟩;cases j with|zero=>simp[D.cells] at hj;subst hj;exact⟨v,rfl,.x v⟩;|succ j=>simp[D.cells] at hj
 |b t=>refine⟨rfl,fun j c hj=>?_,fun u hu=>by simp[Value.cells] at hu;subst hu;rfl⟩;cases j with|zero=>simp[D.cells] at hj;subst hj;exact⟨_,rfl,.b t⟩;|succ j=>simp[D.cells] at hj
 |i k m=>refine⟨rfl,fun j c hj=>?_,fun u hu=>by simp[Value.cells] at hu;subst hu;rfl⟩;cases j with|zero=>simp[D.cells] at hj;subst hj;exact⟨_,rfl,.i k m⟩;|succ j=>simp[D.cells] at hj
 |s l=>refine⟨rfl,fun j c hj=>?_,fun u hu=>by simp[Value.cells] at hu;subst hu;rfl⟩;cases j with|zero=>simp[D.cells] at hj;subst hj;exact⟨_,rfl,.s l⟩;|succ j=>simp[D.cells] at hj
 |slnil sz=>refine⟨rfl,fun j c hj=>?_,fun u hu=>by simp[Value.cells] at hu;subst hu;rfl⟩;cases j with|zero=>simp[D.cells] at hj;subst hj;exact⟨_,rfl,.slnil sz⟩;|succ j=>simp[D.cells] at hj
 |sle sz a cap=>refine⟨rfl,fun j c hj=>?_,fun u hu=>by simp[Value.cells] at hu;subst hu;rfl⟩;cases j with|zero=>simp[D.cells] at hj;subst hj;exact⟨_,rfl,.sle sz a cap⟩;|succ j=>simp[D.cells] at hj
 |sl sz xs blk off m cap arr T fz f h1 h2 h3 h4 h5 h6 h7=>refine⟨rfl,fun j c hj=>?_,fun u hu=>by simp[Value.cells] at hu;subst hu;rfl⟩;cases j with|zero=>simp[D.cells] at hj;subst hj;exact⟨_,rfl,.sl sz xs blk off m cap arr T fz f h1 h2 h3 h4 h5 h6 h7⟩;|succ j=>simp[D.cells] at hj
theorem au {xs:List D}{i a:Nat}{x y:D}(h:(xs.set i y)[a]?=some x):(a=i∧x=y)∨(a≠i∧xs[a]?=some x):=by
 by_cases hia:i=a
 ·subst hia;have hl:=(Nc.1 h).1;have h2:i<xs.length:=by simpa using hl
  rw[List.getElem?_set_self h2] at h;exact .inl ⟨rfl,by cases h;rfl⟩
 ·rw[List.getElem?_set_ne hia] at h;exact .inr ⟨fun e=>hia e.symm,h⟩
theorem qy {T:TypeId}{p v:Operand}(ho:o.op=.store T p v){ti:iQ}(hti:look C.tab T=some ti){k i j sz:Nat}{xs:List D}{x y d:D}(e0 e:aS){T0:Option TypeId}(he0:e0=.buf sz xs T0∧e=.buf sz (xs.set i y) T0∨e0=.arr sz xs∧e=.arr sz (xs.set i y)){X0:Nat→Prop}{F:Fr}{w0:World}{q:Nat→Prop}{α:Nat→dh}{S:SS}{a:Act}{w:World}(hs:dn C.G X0 F w0 n q α S a w)(hSk:S.own k=some e0)(hrp:co w α (XX α S.own X0) (.op k i j) (a.eval p))(hrv:Rd w (XX α S.own X0) d (a.eval v))(hx:xs[i]?=some x)(hy:x.wd sz→y.wd sz∧j+ti.size≤sz∧d.cells.length=ti.size∧(∀c,c∈d.cells→c.one=true)∧∀m,y.cells[m]?=if j≤m∧m<j+ti.size then d.cells[m-j]? else x.cells[m]?):(α k).nil=false∧∃w' hv arr T fz cap,qc w w' α (XX α S.own X0) q (α k) e hv arr T fz cap∧(true=true→hv=(α k).hv)∧(∀next Q,(∀u,(AV.any=.any∨u=hv)→next (a.put o.dst u) w')→o.wp C.P a w next Q):=by
 have hcell0:e0.cell=fun i j=>(xs[i]?).bind fun x=>(x.cells[j]?).map .d:=by rcases he0 with⟨rfl,_⟩|⟨rfl,_⟩<;>rfl
 have hcell:e.cell=fun a j=>((xs.set i y)[a]?).bind fun x=>(x.cells[j]?).map .d:=by rcases he0 with⟨_,rfl⟩|⟨_,rfl⟩<;>rfl
 have hsz0:e0.sz=sz:=by rcases he0 with⟨rfl,_⟩|⟨rfl,_⟩<;>rfl
 have hsz:e.sz=sz:=by rcases he0 with⟨_,rfl⟩|⟨_,rfl⟩<;>rfl
 have hlen0:e0.len=xs.length:=by rcases he0 with⟨rfl,_⟩|⟨rfl,_⟩<;>rfl
 have hlen:e.len=xs.length:=by rcases he0 with⟨_,rfl⟩|⟨_,rfl⟩<;>simp[aS.len]
 have hwide0:e0.wide→∀(j:Nat)(x:D),xs[j]?=some x→x.wd sz:=by rcases he0 with⟨rfl,_⟩|⟨rfl,_⟩<;>exact fun h=>h
 have hwide:(∀(j:Nat)(x:D),(xs.set i y)[j]?=some x→x.wd sz)→e.wide:=by rcases he0 with⟨_,rfl⟩|⟨_,rfl⟩<;>exact fun h=>h
 have hnilE:∀{w:World}{α:Nat→dh}{X:Nat→Prop},lj w α X k e0→(α k).nil=false∧∃arr U fz cap,J4 w α X (α k) e0 arr U fz cap:=by
  intro w α X h;rcases he0 with⟨rfl,_⟩|⟨rfl,_⟩
  ·rcases h with⟨_,⟨sz',_,he⟩,_⟩|h;·cases he;simp at hx
   ·exact h
  ·rcases h with⟨_,⟨sz',_,he⟩,_⟩|h;·cases he
   ·exact h
 obtain⟨hnil,arr,U,fz,cap,hB⟩:=hnilE (hs.own k _ hSk);refine⟨hnil,?_⟩;generalize hp:a.eval p=pv at hrp;cases hrp;obtain⟨hy1,hy2,hy3,hy4,hy5⟩:=hy (hwide0 hB.wid i x hx);obtain⟨hv1,hv2,hv3⟩:=Br hrv hy4;have hi:i<xs.length:=(Nc.1 hx).1;have hzz:=hB.hsz;have hle:i*sz+sz≤cap*sz:=by have:=hB.len;rw[hlen0] at this;have h9:(i+1)*sz≤cap*sz:=Nat.mul_le_mul_right _ (by omega);rw[Nat.add_mul] at h9;omega
 have hbd:=hB.bnd;rw[hsz0] at hbd hzz;have hsplit:∀(a b m:Nat),m<sz→j<sz∨True→(a=i→b=m→True):=fun _ _ _ _ _ _ _=>trivial;have hrow:∀(a m:Nat),m<sz→(i*sz+j≤a*sz+m∧a*sz+m<i*sz+j+ti.size)→a=i∧j≤m∧m<j+ti.size∧a*sz+m-(i*sz+j)=m-j:=by
  intro a m hm hin;have:a=i:=by
   rcases Nat.lt_trichotomy a i with h|h|h;·exfalso;have h9:(a+1)*sz≤i*sz:=Nat.mul_le_mul_right _ h;rw[Nat.add_mul] at h9;omega
   ·exact h
   ·exfalso;have h9:(i+1)*sz≤a*sz:=Nat.mul_le_mul_right _ h;rw[Nat.add_mul] at h9;omega
  subst this;omega
 have hvsz:(a.eval v).cells.toList.length=ti.size:=by simp[hv1,hy3]
 obtain⟨arr',hW⟩:=qv (p:=q) (i:=i) (j:=j) (new:=(a.eval v).cells.toList) (e:=e) hB (by rw[hsz,hsz0]) (by rw[hlen,hlen0]) (by rw[hsz0,hvsz];omega)
  (hwide fun a' x' hx'=>by
   rcases au hx' with⟨_,rfl⟩|⟨_,hx'⟩;·exact hy1
   ·exact hwide0 hB.wid a' x' hx')
  (by rcases he0 with⟨_,rfl⟩|⟨_,rfl⟩<;>exact fun x hx=>by cases hx)
  (fun sz' xs' T' h=>by rcases he0 with⟨rfl,rfl⟩|⟨_,rfl⟩<;>cases h;exact⟨_,_,rfl⟩)
  (fun U h=>by rcases he0 with⟨rfl,rfl⟩|⟨_,rfl⟩;exact h;cases h)
  (fun cs V h=>by rcases he0 with⟨_,rfl⟩|⟨_,rfl⟩<;>cases h)
  (fun a' m c hc=>by
   rw[hcell] at hc;simp only[Nu,Nk] at hc;obtain⟨x',hx',c',hc',_⟩:=hc;have hw':x'.wd sz:=by
    rcases au hx' with⟨_,rfl⟩|⟨_,hx'⟩;·exact hy1
    ·exact hwide0 hB.wid a' x' hx'
   rw[hsz0,←hw'.1];exact(Nc.1 hc').1)
  (fun a' m c hc=>by rw[hcell] at hc;simp only[Nu] at hc;obtain⟨x',hx',_⟩:=hc;have:=(Nc.1 hx').1;rw[hlen0];simpa using this)
  (fun a' m c hc hin=>by
   rw[hsz0,hvsz] at hin;rw[hcell] at hc;simp only[Nu,Nk] at hc;obtain⟨x',hx',c',hc',rfl⟩:=hc;have hmsz:m<sz:=by
    have hw':x'.wd sz:=by
     rcases au hx' with⟨_,rfl⟩|⟨_,hx'⟩;·exact hy1
     ·exact hwide0 hB.wid a' x' hx'
    rw[←hw'.1];exact(Nc.1 hc').1
   obtain⟨rfl,h4,h5,h6⟩:=hrow a' m hmsz hin;rcases au hx' with⟨_,rfl⟩|⟨hne,_⟩;case inr=>exact absurd rfl hne
   rw[hy5 m,if_pos ⟨h4,h5⟩] at hc';obtain⟨u,h7,h8⟩:=hv2 _ _ hc';refine⟨u,?_,.d _ _ h8⟩;rw[hsz0,h6,Array.getElem?_toList];exact h7)
  (fun a' m c hc hin=>by
   rw[hsz0,hvsz] at hin;rw[hcell] at hc;rw[hcell0];simp only[Nu,Nk] at hc⊢;obtain⟨x',hx',c',hc',rfl⟩:=hc;rcases au hx' with⟨rfl,rfl⟩|⟨_,hx'⟩;·rw[hy5 m,if_neg (by omega)] at hc';exact⟨x,hx,c',hc',rfl⟩
   ·exact⟨x',hx',c',hc',rfl⟩);refine⟨_,_,arr',U,fz,cap,hW,fun _=>rfl,fun next Q hn=>?_⟩;refine nv ho hp (je (C.ty hti) hB.heap (by rw[hv1,hy3]) (by rw[hzz];omega) (fun m hm=>hB.nf.2 _ (by omega) (by rw[hsz0,hzz];omega)) hv3) (hn _ (.inl rfl))
theorem rM {T:TypeId}{p v:Operand}(ho:o.op=.store T p v){ti:iQ}(hti:look C.tab T=some ti){k i j sz:Nat}{xs:List D}{x y d:D}{va:AV}{us:List Nat}(e0 e:aS){T0:Option TypeId}(he0:e0=.buf sz xs T0∧e=.buf sz (xs.set i y) T0∨e0=.arr sz xs∧e=.arr sz (xs.set i y))(hus:us=[])(h1:Ev st.ss.env p (.op k i j))(h2:Ev st.ss.env v va)(hen:st.ss.own k=some e0)(htd:IF st va d us)(hx:xs[i]?=some x)(hy:x.wd sz→y.wd sz∧j+ti.size≤sz∧d.cells.length=ti.size∧(∀c,c∈d.cells→c.one=true)∧∀m,y.cells[m]?=if j≤m∧m<j+ti.size then d.cells[m-j]? else x.cells[m]?):cr C n o nm st [k] .any [(k,some e)]:=by
 subst hus;have hm1:p∈o.op.operands:=by rw[ho];simp[Op.operands]
 have hm2:v∈o.op.operands:=by rw[ho];simp[Op.operands]
 refine cr.write (e0:=e0) (e:=e) (k:=k) true (by simp) hen (.inl rfl) fun X0 F w0 q α S a w hs he ho'=>?_;exact qy ho hti e0 e he0 hs (ho' k (by simp) _ hen) ((h1.to hm1 he).read hs)
  (htd.rd w α _ (XX α S.own X0) (a.eval v) ((h2.to hm2 he).read hs) (fun k hk=>by cases hk) (fun _ h=>h) (fun k hk=>by cases hk)) hx hy
theorem Hm {us:List Nat}{u:Nat}(h:u∈us):look (us.map fun u=>(u,(none:Option aS))) u=some none:=by
 rcases dy (β:=aS) us u with h1|⟨h1,_⟩;·exfalso;induction us with|nil=>cases h;|cons x l ih=>
  simp only[Nw,look] at h1;split at h1;·cases h1
  ·rename_i hb;rcases List.mem_cons.1 h with rfl|h;·simp at hb
   ·exact ih h h1
 ·exact h1
theorem yp {T:TypeId}{p v:Operand}(ho:o.op=.store T p v){ti:iQ}(hti:look C.tab T=some ti){k i j sz:Nat}{xs:List D}{x y d:D}{va:AV}{us:List Nat}(e0 e:aS){T0:Option TypeId}(he0:e0=.buf sz xs T0∧e=.buf sz (xs.set i y) T0∨e0=.arr sz xs∧e=.arr sz (xs.set i y))(hus:k∉us)(h1:Ev st.ss.env p (.op k i j))(h2:Ev st.ss.env v va)(hen:st.ss.own k=some e0)(htd:IF st va d us)(hx:xs[i]?=some x)(hy:x.wd sz→y.wd sz∧j+ti.size≤sz∧d.cells.length=ti.size∧(∀c,c∈d.cells→c.one=true)∧∀m,y.cells[m]?=if j≤m∧m<j+ti.size then d.cells[m-j]? else x.cells[m]?):cr C n o nm st (k::us) .any ((k,some e)::us.map fun u=>(u,none)):=by
 have hm1:p∈o.op.operands:=by rw[ho];simp[Op.operands]
 have hm2:v∈o.op.operands:=by rw[ho];simp[Op.operands]
 have hlk:∀c oe,look (us.map fun u=>(u,(none:Option aS))) c=some oe→c∈us∧oe=none:=by
  intro c oe hl;rcases dy (β:=aS) us c with h|⟨h,hm⟩;·rw[h] at hl;cases hl
  ·rw[h] at hl;cases hl;exact⟨hm,rfl⟩
 refine⟨fun c oe hl=>?_,fun X0 F w0 q α S a w Q next hs he ho' hp hd hn=>?_⟩
 ·simp only[look] at hl;split at hl;·rename_i hb;exact .inl (by rw[Nd hb];exact List.mem_cons_self)
  ·exact .inl (Nv _ (hlk c oe hl).1)
 have hSk:=ho' k List.mem_cons_self _ hen;let S2:SS:=S.upd none .any (us.map fun u=>(u,none));have aI:∀c e,S2.own c=some e→c∉us∧S.own c=some e:=by
  intro c e hk;simp only[S2,SS.upd] at hk;rcases dy (β:=aS) us c with h|⟨h,hm⟩;·rw[h] at hk;refine⟨fun hm=>?_,hk⟩;rw[Hm hm] at h;cases h
  ·rw[h] at hk;cases hk
 have hS2:dn C.G X0 F w0 n q α S2 (a.put none undef) w:=by
  refine hs.upd _ (fun k hk=>hk) α w none (fun _ h=>by cases h) _ _ undef (fun _ _=>rfl) (Nat.le_refl _) rfl rfl rfl (fun _ _ _=>rfl) ?_ ?_ ?_ ?_ ?_ .any;·intro c e hl;cases (hlk c _ hl).2
  ·intro c e hl;cases (hlk c _ hl).2
  ·intro c e k' e' hl;cases (hlk c _ hl).2
  ·intro _ c e hl;cases (hlk c _ hl).2
  ·intro _;exact .any _
 have hS2:dn C.G X0 F w0 n q α S2 a w:=hS2;have hk2:S2.own k=some e0:=by
  simp only[S2,SS.upd];rcases dy (β:=aS) us k with h|⟨_,hm⟩;·rw[h];exact hSk
  ·exact absurd hm hus
 have hrv:Rd w (XX α S2.own X0) d (a.eval v):=by
  refine htd.rd w α _ _ (a.eval v) ((h2.to hm2 he).read hs) (fun c hc e hce=>hs.own c e (ho' c (Nv _ hc) e hce)) ?_ ?_
  ·rintro b (⟨c,e,hk,hnil,rfl⟩|hx);·exact .inl ⟨c,e,(aI c e hk).2,hnil,rfl⟩
   ·exact .inr hx
  ·rintro c hc hnil (⟨k',e',hk',hnil',hb⟩|hx);·obtain⟨e,he'⟩:=htd.ent c hc;have hSc:=ho' c (Nv _ hc) e he';obtain⟨hn1,hn2⟩:=aI k' e' hk';have:=hs.inj k' e' c e hn2 hSc hnil' hnil hb;subst this;exact hn1 hc
   ·obtain⟨e,he'⟩:=htd.ent c hc;exact(hs.mine c e (ho' c (Nv _ hc) e he') hnil).2 hx
 have hrp:co w α (XX α S2.own X0) (.op k i j) (a.eval p):=by have h3:=(h1.to hm1 he).read hs;generalize a.eval p=pv at h3;cases h3;exact .op _ _ _
 obtain⟨hnil,w',hv,arr,U,fz,cap,hM,hsm,hrun⟩:=qy ho hti e0 e he0 hS2 hk2 hrp hrv hx hy;refine hrun _ _ fun u hu=>?_;obtain⟨α',h⟩:=hS2.write hp true hk2 hnil hM hsm o.dst hd .any u (.inl rfl) (.inl rfl);refine hn α' u w' ?_;have hSS:S2.upd o.dst .any (kJ true k nm e)=S.upd o.dst .any ((k,some e)::us.map fun u=>(u,none)):=by
  simp only[S2,SS.upd,kJ,SS.mk.injEq];constructor;·funext t;simp
  ·funext c;simp only[look];cases Nat.beq c k<;>rfl
 rw[←hSS];exact h
theorem wF {T:TypeId}{p v:Operand}(ho:o.op=.store T p v){ti:iQ}(hti:look C.tab T=some ti){k sz:Nat}{xs ys ds:List D}{va:AV}(h1:Ev st.ss.env p (.op k 0 0))(h2:Ev st.ss.env v va)(hen:st.ss.own k=some (.arr sz xs))(htd:IF st va (.agg ds) [])(hfl:ys.flatMap D.cells=ds)(hln:ds.length=ti.size)(hyl:ys.length=xs.length)(hyw:∀y,y∈ys→y.wd sz):cr C n o nm st [k] .any [(k,some (.arr sz ys))]:=by
 have hm1:p∈o.op.operands:=by rw[ho];simp[Op.operands]
 have hm2:v∈o.op.operands:=by rw[ho];simp[Op.operands]
 have hall:∀y,y∈ys→y.cells.length=sz:=fun y hy=>(hyw y hy).1;have hget:∀(a m:Nat)(y c:D),ys[a]?=some y→y.cells[m]?=some c→ds[a*sz+m]?=some c:=fun a m y c hy hc=>by
  have hm:m<sz:=by rw[←hall y (Ni hy)];exact(Nc.1 hc).1
  rw[←hfl,qK hall a m y hy hm];exact hc
 have hdl:ds.length=ys.length*sz:=by rw[←hfl];clear hfl hget hyl;induction ys with|nil=>simp;|cons y r ih=>rw[List.flatMap_cons,Na,hall y (by simp),ih (fun x hx=>hyw x (Nv _ hx)) (fun x hx=>hall x (Nv _ hx)),Nb,Nat.succ_mul];omega
 refine cr.write (e0:=.arr sz xs) (e:=.arr sz ys) (k:=k) true (by simp) hen (.inl rfl) fun X0 F w0 q α S a w hs he ho'=>?_;have hSk:=ho' k (by simp) _ hen;rcases hs.own k _ hSk with⟨_,⟨sz',_,he'⟩,_⟩|⟨hnil,arr,U,fz,cap,hB⟩;·cases he'
 refine⟨hnil,?_⟩;have hrp:=(h1.to hm1 he).read hs;generalize hp:a.eval p=pv at hrp;cases hrp;have hrv:=htd.rd w α _ (XX α S.own X0) (a.eval v) ((h2.to hm2 he).read hs) (fun k hk=>by cases hk) (fun _ h=>h) (fun k hk=>by cases hk);have hone:∀c,c∈(D.agg ds).cells→c.one=true:=fun c hc=>by have hc:c∈ds:=hc;rw[←hfl] at hc;obtain⟨y,hy,hcy⟩:=List.mem_flatMap.1 hc;exact(hyw y hy).2 c hcy
 obtain⟨hv1,hv2,hv3⟩:=Br hrv hone;have hv1:(a.eval v).cells.size=ds.length:=hv1;have hzz:=hB.hsz;have hbd:=hB.bnd;have hcl:=hB.len;simp only[aS.sz,aS.len] at hzz hbd hcl;have hle:ys.length*sz≤cap*sz:=Nat.mul_le_mul_right _ (by omega);obtain⟨arr',hW⟩:=qv (p:=q) (i:=0) (j:=0) (new:=(a.eval v).cells.toList) (e:=.arr sz ys) hB rfl (by simp[aS.len,hyl]) (by simp only[aS.sz,Array.length_toList,hv1];omega)
  (fun j x hx=>hyw x (Ni hx)) (fun c hc=>by cases hc) (fun sz xs _ h=>by cases h) (fun U h=>by cases h) (fun cs' V h=>by cases h)
  (fun a' m c hc=>by simp only[aS.cell,Nu,Nk] at hc;obtain⟨y,hy,c',hc',_⟩:=hc;simp only[aS.sz];rw[←hall y (Ni hy)];exact(Nc.1 hc').1)
  (fun a' m c hc=>by simp only[aS.cell,Nu] at hc;obtain⟨y,hy,_⟩:=hc;have:=(Nc.1 hy).1;simp only[aS.len];omega)
  (fun a' m c hc hin=>by simp only[aS.cell,Nu,Nk] at hc;obtain⟨y,hy,c',hc',rfl⟩:=hc;obtain⟨u,h5,h6⟩:=hv2 _ _ (show(D.agg ds).cells[a'*sz+m]?=some c' from hget a' m y c' hy hc');refine⟨u,?_,.d _ _ h6⟩;simp only[aS.sz,Nat.zero_mul,Nat.zero_add,Nat.sub_zero];rw[Array.getElem?_toList];exact h5)
  (fun a' m c hc hin=>by exfalso;simp only[aS.cell,Nu,Nk] at hc;obtain⟨y,hy,c',hc',_⟩:=hc;have:=(Nc.1 (hget a' m y c' hy hc')).1;simp only[aS.sz,Nat.zero_mul,Nat.zero_add,Array.length_toList,hv1] at hin;omega);refine⟨_,_,arr',U,fz,cap,hW,fun _=>rfl,fun next Q hn=>?_⟩;refine nv ho hp (je (C.ty hti) hB.heap (by rw[hv1,hln]) (by omega) (fun m hm=>hB.nf.2 _ (by omega) (by simp only[aS.sz];omega)) hv3) (hn _ (.inl rfl))
theorem C5 {T:TypeId}{p v:Operand}(ho:o.op=.store T p v)(h:fF st p fun a=>lA C st T v fun b=>yP C st T a b K):∃out upd rd,K out upd rd∧cr C n o nm st rd out upd:=by
 replace h:=bx h;obtain⟨pa,h1,h⟩:=h;replace h:=gf h;obtain⟨va,h2,h⟩:=h;have hm1:p∈o.op.operands:=by rw[ho];simp[Op.operands]
 have hm2:v∈o.op.operands:=by rw[ho];simp[Op.operands]
 unfold yP at h;replace h:=aJ h;obtain⟨ti,hti,h⟩:=h;split at h
 ·rename_i k i j;replace h:=cQ h;obtain⟨en,hen,h⟩:=h;split at h
  ·rename_i cs T0;split at h
   ·replace h:=lZ h;obtain⟨new,h,hnew⟩:=h;split at h
    ·rename_i hlen;have hlen:=Nd hlen;replace h:=rG h;obtain⟨r,h,hr1,hr2,hr3⟩:=h;refine⟨_,_,_,h,cr.write (e0:=.box cs T0) (e:=.box r T0) (k:=k) true (by simp) hen (.inl rfl) fun X0 F w0 q α S a w hs he ho'=>?_⟩;have hSk:=ho' k (by simp) _ hen;rcases hs.own k _ hSk with⟨_,⟨sz',_,he'⟩,_⟩|⟨hnil,arr,U,fz,cap,hB⟩;·cases he'
     refine⟨hnil,?_⟩;have hrp:=(h1.to hm1 he).read hs;generalize hp:a.eval p=pv at hrp;cases hrp;have hv:=h2.to hm2 he;obtain⟨hv1,hv2⟩:=hnew.rd w α _ _ (hv.read hs);have hzz:=hB.hsz;have hbd:=hB.bnd;have hcl:=hB.len;simp only[aS.sz,aS.len] at hzz hbd hcl;have hle:cs.length≤cap*cs.length:=Nat.le_mul_of_pos_left _ hcl;have hvone:∀u,u∈(a.eval v).cells→u.oneCell'=true:=by intro u hu;obtain⟨m,hm,rfl⟩:=Array.mem_iff_getElem.1 hu;obtain⟨u',h5,_,h7⟩:=hv2 m (new[m]'(by rw[←hv1];exact hm)) (by simp);simp[hm] at h5;rw[h5];exact h7
     obtain⟨arr',hW⟩:=qv (p:=q) (i:=0) (j:=j) (new:=(a.eval v).cells.toList) (e:=.box r T0) hB hr1 rfl (by simp only[aS.sz,Array.length_toList,hv1];omega)
      (fun c hc=>by
       obtain⟨m,hm⟩:=List.mem_iff_getElem?.1 (show c∈r from hc);rw[hr3 m] at hm;split at hm;·exact hnew.one c (Ni hm)
       ·exact hB.wid c (Ni hm))
      (fun c hc=>by
       obtain⟨m,hm⟩:=List.mem_iff_getElem?.1 (show c∈r from hc);rw[hr3 m] at hm;split at hm;·exact hnew.ok q (hv.ok hs) c (Ni hm)
       ·exact(hs.oko k _ hSk).2 c (Ni hm))
      (fun sz xs _ h=>by cases h) (fun U h=>h) (fun cs' V _=>⟨_,_,rfl⟩)
      (fun a' m c hc=>by
       simp only[aS.cell] at hc;split at hc;·have:=(Nc.1 hc).1;simp only[aS.sz];omega
       ·cases hc)
      (fun a' m c hc=>by
       simp only[aS.cell] at hc;split at hc;·simp only[aS.len];omega
       ·cases hc)
      (fun a' m c hc hin=>by
       simp only[aS.cell] at hc;split at hc;·rename_i ha;subst ha;simp only[aS.sz,Nat.zero_mul,Nat.zero_add,Array.length_toList,hv1] at hin⊢;rw[hr3 m,if_pos hin] at hc;obtain⟨u,h5,h6,_⟩:=hv2 _ _ hc;exact⟨u,by rw[Array.getElem?_toList];exact h5,h6⟩
       ·cases hc)
      (fun a' m c hc hin=>by
       simp only[aS.cell] at hc⊢;split at hc;·rename_i ha;subst ha;simp only[aS.sz,Nat.zero_mul,Nat.zero_add,Array.length_toList,hv1] at hin;rw[hr3 m,if_neg hin] at hc;simpa using hc
       ·cases hc);refine⟨_,_,arr',U,fz,cap,hW,fun _=>rfl,fun next Q hn=>?_⟩;refine nv ho hp (je (C.ty hti) hB.heap (by rw[hv1,hlen]) (by omega) (fun m hm=>hB.nf.2 _ (by omega) (by simp only[aS.sz];omega)) hvone) (hn _ (.inl rfl))
    ·cases h
   ·cases h
  ·rename_i sz xs T0;replace h:=iV h;obtain⟨d,us,h,htd⟩:=h;split at h;·obtain⟨x,hx,h⟩:=h;replace h:=pW h;obtain⟨y,h,hy⟩:=h;exact⟨_,_,_,h,rM ho hti (.buf sz xs _) (.buf sz (xs.set i y) _) (.inl ⟨rfl,rfl⟩) rfl h1 h2 hen htd hx hy⟩
   ·split at h;·rename_i hni;obtain⟨x,hx,h⟩:=h;replace h:=pW h;obtain⟨y,h,hy⟩:=h;exact⟨_,_,_,h,yp ho hti (.buf sz xs _) (.buf sz (xs.set i y) _) (.inl ⟨rfl,rfl⟩) (Jo hni) h1 h2 hen htd hx hy⟩
    ·cases h
  ·rename_i sz xs;split at h
   ·split at h
    ·replace h:=iV h;obtain⟨d,us,h,htd⟩:=h;split at h;·obtain⟨ys,hfl,hln,hyl,hyw,h⟩:=h;exact⟨_,_,_,h,wF ho hti h1 h2 hen htd hfl hln hyl hyw⟩
     ·cases h
    ·cases h
   ·replace h:=iV h;obtain⟨d,us,h,htd⟩:=h;split at h;·obtain⟨x,hx,h⟩:=h;replace h:=pW h;obtain⟨y,h,hy⟩:=h;exact⟨_,_,_,h,rM (T0:=none) ho hti (.arr sz xs) (.arr sz (xs.set i y)) (.inr ⟨rfl,rfl⟩) rfl h1 h2 hen htd hx hy⟩
    ·cases h
  ·cases h
 ·cases h
end
end Go.Eng
namespace Go.Eng
structure Ik (b n:Nat)(K:Prop):Prop where out:(n≤68719476736∨n≤140737488355328∧n*b≤140737488355328)∧K
theorem aB {b n:Nat}{K:Prop}(h:n≤68719476736)(h1:K):Ik b n K:=⟨.inl h,h1⟩
theorem mj {b n:Nat}{K:Prop}(h:n≤140737488355328)(hb:n*b≤140737488355328)(h1:K):Ik b n K:=⟨.inr ⟨h,hb⟩,h1⟩
theorem wE {b n:Nat}(hb:b≤2048)(h:n≤68719476736∨n≤140737488355328∧n*b≤140737488355328):n≤140737488355328∧n*b≤140737488355328:=by
 rcases h with h|h;·refine⟨by omega,?_⟩;calc n*b≤68719476736*2048:=Nat.mul_le_mul h hb
  _=140737488355328:=by decide
 ·exact h
section
variable {C:cq}{n:Nat}{o:Oper}{nm:Nat}{st:AS}{K:KO}
def LW (C:cq)(st:AS)(sz:Nat)(T:TypeId)(x:AV)(K:List D→List Nat→Prop):Prop:=aW C.tab T fun ti=>match ti.kd with
 |.slice _=>match x with
  |.d (.sl s ys)=>match Nat.beq s sz with|true=>K ys []|false=>False
  |.nl _=>K [] []|.os k=>iH st k fun e=>match e with|.buf s ys _=>(match Nat.beq s sz with|true=>K ys [k]|false=>False)|_=>False
  |_=>False
 |.str=>match x,sz with
  |.d (.s l),1=>K (aD l) []|_,_=>False
 |_=>False
structure tg (P:Program)(sz:Nat)(T:TypeId)(v:Value)(ys:List D)(w:World)(X:Nat→Prop)(nw:List Value):Prop where
 src:Src P sz T v ys.length nw w
 wid:∀(j:Nat)(y:D),ys[j]?=some y→y.wd sz
 rd:∀(j m:Nat)(y c:D),ys[j]?=some y→y.cells[m]?=some c→∃u,nw[j*sz+m]?=some u∧Rd w X c u
theorem Bj {P:Program}{w:World}{X:Nat→Prop}{sz e':Nat}{T:TypeId}(hk:P.underlying T=some (.slice e')){ys:List D}{blk off cap:Nat}{arr:Array Value}{U:TypeId}{fz:Nat×Nat}{f:Nat→Nat→Value}(hh:w.heap[blk]?=some (.cells arr U fz))(hw:∀(j:Nat)(x:D),ys[j]?=some x→x.wd sz)(h1:∀(j m:Nat)(x c:D),ys[j]?=some x→x.cells[m]?=some c→arr[off+j*sz+m]?=some (f j m))(h2:∀(j m:Nat)(x c:D),ys[j]?=some x→x.cells[m]?=some c→Rd w X c (f j m)):∃nw,tg P sz T (.slice (some ⟨blk,off,none⟩) ys.length cap) ys w X nw:=by
 have hdm:∀i,i<ys.length*sz→∃y c,ys[i/sz]?=some y∧y.cells[i%sz]?=some c∧i/sz*sz+i%sz=i:=by
  intro i hi;have hpos:0<sz:=by
   rcases Nat.eq_zero_or_pos sz with h|h;·rw[h] at hi;omega
   ·exact h
  have hq:i/sz<ys.length:=Nat.div_lt_of_lt_mul (by rw[Nat.mul_comm];exact hi);have hy:ys[i/sz]?=some ys[i/sz]:=by simp[hq]
  have hwd:=hw _ _ hy;have hm:i%sz<ys[i/sz].cells.length:=by rw[hwd.1];exact Nat.mod_lt _ hpos
  exact⟨_,_,hy,by rw[No hm],by rw[Nat.mul_comm];exact Nat.div_add_mod i sz⟩
 let nw:=(List.range (ys.length*sz)).map fun i=>arr.getD (off+i) undef;have hnw:∀i,i<ys.length*sz→nw[i]?=some (arr.getD (off+i) undef):=by intro i hi;simp[nw,hi]
 have hval:∀(j m:Nat)(y c:D),ys[j]?=some y→y.cells[m]?=some c→arr[off+(j*sz+m)]?=some (f j m):=by intro j m y c hy hc;have:=h1 j m y c hy hc;rw[←this];congr 1;omega
 refine⟨nw,Src.ofSlice w hk _ _ _ nw (by simp[nw]) (fun i u hu=>?_) (fun u hu=>?_),hw,fun j m y c hy hc=>?_⟩
 ·have hi:i<ys.length*sz:=by have:=(Nc.1 hu).1;simpa[nw] using this
  obtain⟨y,c,hy,hc,he⟩:=hdm i hi;have h3:=hval _ _ y c hy hc;rw[he] at h3;rw[hnw i hi] at hu;cases hu;rw[Addr.add_mk,eP hh,h3];simp[Array.getD_eq_getD_getElem?,h3]
 ·obtain⟨i,hi⟩:=List.mem_iff_getElem?.1 hu;have hlt:i<ys.length*sz:=by have:=(Nc.1 hi).1;simpa[nw] using this
  obtain⟨y,c,hy,hc,he⟩:=hdm i hlt;have h3:=hval _ _ y c hy hc;rw[he] at h3;rw[hnw i hlt] at hi;cases hi;rw[Array.getD_eq_getD_getElem?,h3];exact(h2 _ _ y c hy hc).one ((hw _ _ hy).2 c (Ni hc))
 ·have hj:j<ys.length:=(Nc.1 hy).1;have hm:m<sz:=by rw[←(hw _ _ hy).1];exact(Nc.1 hc).1
  have hlt:j*sz+m<ys.length*sz:=by have h9:(j+1)*sz≤ys.length*sz:=Nat.mul_le_mul_right _ hj;rw[Nat.add_mul] at h9;omega
  refine⟨_,hnw _ hlt,?_⟩;have h3:=hval j m y c hy hc;rw[Array.getD_eq_getD_getElem?,h3];exact h2 _ _ y c hy hc
theorem Fm {P:Program}{w:World}{X:Nat→Prop}{sz e':Nat}{T:TypeId}(hk:P.underlying T=some (.slice e')){ys:List D}{v:Value}(h:Rd w X (.sl sz ys) v):∃nw,tg P sz T v ys w X nw:=by cases h with|slnil=>exact⟨[],Src.ofNil w hk 0,fun j y hy=>by simp at hy,fun j m y c hy=>by simp at hy⟩;|sle _ a cap=>exact⟨[],Src.ofSlice w hk a 0 cap [] (by simp) (fun j u h=>by simp at h) (fun u h=>by cases h),fun j y hy=>by simp at hy,fun j m y c hy=>by simp at hy⟩;|sl _ _ blk off len cap arr U fz f hh hX hl hc hw h1 h2=>subst hl;exact Bj hk hh hw h1 h2
theorem Jk {P:Program}{w:World}{α:Nat→dh}{X:Nat→Prop}{sz e' k:Nat}{T:TypeId}(hk:P.underlying T=some (.slice e')){ys:List D}{T0:Option TypeId}(h:lj w α X k (.buf sz ys T0)):∃nw,tg P sz T (α k).hv ys w X nw:=by
 rcases h with⟨_,⟨sz',_,he⟩,hv⟩|⟨hnil,arr,U,fz,cap,hB⟩;·cases he;rw[hv];exact⟨[],Src.ofNil w hk 0,fun j y hy=>by simp at hy,fun j m y c hy=>by simp at hy⟩
 ·rw[hB.hv sz ys _ rfl];have hval:∀(j m:Nat)(x c:D),ys[j]?=some x→x.cells[m]?=some c→arr[(α k).off+j*sz+m]?=some (arr.getD ((α k).off+j*sz+m) undef)∧Rd w X c (arr.getD ((α k).off+j*sz+m) undef):=by intro j m x c hx hc;obtain⟨v,hv,hr⟩:=hB.rd j m _ (kM (e:=.buf sz ys _) rfl hx hc);simp only[aS.sz] at hv;simp[Array.getD_eq_getD_getElem?,hv,hr.dinv]
  exact Bj (f:=fun j m=>arr.getD ((α k).off+j*sz+m) undef) hk hB.heap hB.wid (fun j m x c hx hc=>(hval j m x c hx hc).1) fun j m x c hx hc=>(hval j m x c hx hc).2
theorem Fg {sz:Nat}{T:TypeId}{x:AV}{K:List D→List Nat→Prop}(h:LW C st sz T x K):∃ys us,K ys us∧∀{G X0 F w0 n p α S a w},dn G X0 F w0 n p α S a w→(∀k,k∈us→∀e,st.ss.own k=some e→S.own k=some e)→∀v,co w α (XX α S.own X0) x v→∃nw,tg C.P sz T v ys w (XX α S.own X0) nw:=by
 unfold LW at h;replace h:=aJ h;obtain⟨ti,hti,h⟩:=h;split at h
 ·rename_i e hk;have hu:=cM (C.ty hti) hk;split at h
  ·rename_i s ys;split at h;·rename_i hs;obtain rfl:=Nd hs;refine⟨_,_,h,fun hs _ v hr=>?_⟩;exact Fm (P:=C.P) hu hr.dinv
   ·cases h
  ·refine⟨_,_,h,fun hs _ v hr=>?_⟩;cases hr;exact Fm (P:=C.P) hu (Rd.slnil sz)
  ·rename_i k;replace h:=cQ h;obtain⟨en,hen,h⟩:=h;split at h
   ·split at h;·rename_i hs;obtain rfl:=Nd hs;refine⟨_,_,h,fun hs ho v hr=>?_⟩;cases hr;exact Jk (P:=C.P) hu (hs.own k _ (ho k (by simp) _ hen))
    ·cases h
   ·cases h
  ·cases h
 ·rename_i hk;have hu:=lu (C.ty hti) hk;split at h
  ·rename_i l;refine⟨_,_,h,fun{G X0 F w0 n p α S a w} hs _ v hr=>?_⟩;rw[hr.dinv.sinv];refine⟨byteCells ⟨l.toArray⟩,⟨?_,?_,?_⟩⟩;·have:=Src.ofString (P:=C.P) w hu ⟨l.toArray⟩;rw[iv] at this;simpa[aD] using this
   ·intro j d hd;obtain⟨c,_,rfl⟩:=fB hd;exact⟨rfl,fun c hc=>by simp[D.cells] at hc;subst hc;rfl⟩
   ·intro j m d c hd hc;obtain⟨b,hb,rfl⟩:=fB hd;cases m with|zero=>simp[D.cells] at hc;subst hc;exact⟨_,by simp[byteCells,hb],.i _ _⟩;|succ m=>simp[D.cells] at hc
  ·cases h
 ·cases h
theorem gW (z:Array Value)(m:Nat):(Builtin.zeroCells z m).size=m*z.size:=by simp[Builtin.zeroCells]
theorem HD {xs ys:List D}{sz:Nat}{ol nw:List Value}{P:D→Value→Prop}(hol:ol.length=xs.length*sz)(h1:∀(j m:Nat)(x c:D),xs[j]?=some x→x.cells[m]?=some c→∃u,ol[j*sz+m]?=some u∧P c u)(h2:∀(j m:Nat)(x c:D),ys[j]?=some x→x.cells[m]?=some c→∃u,nw[j*sz+m]?=some u∧P c u)(j m:Nat)(x c:D)(hx:(xs++ys)[j]?=some x)(hc:x.cells[m]?=some c):∃u,(ol++nw)[j*sz+m]?=some u∧P c u:=by
 by_cases hj:j<xs.length;·rw[List.getElem?_append_left hj] at hx;obtain⟨u,h3,h4⟩:=h1 j m x c hx hc;exact⟨u,by rw[List.getElem?_append_left (Nc.1 h3).1];exact h3,h4⟩
 ·rw[List.getElem?_append_right (by omega)] at hx;obtain⟨u,h3,h4⟩:=h2 _ m x c hx hc;refine⟨u,?_,h4⟩;have:xs.length*sz≤j*sz:=Nat.mul_le_mul_right _ (by omega);rw[List.getElem?_append_right (by rw[hol];omega),hol,←h3];congr 1;rw[Nat.sub_mul];omega
theorem ry {P:Program}{w:World}{α:Nat→dh}{X:Nat→Prop}{p:Nat→Prop}{T Tx ty e:TypeId}{te:iQ}(hu:P.underlying T=some (.slice e))(hte:eD P e te)(hz:te.zero.length=te.size)(_:te.bytes≤2048){base:Option Addr}{sCap:Nat}{xs ys:List D}{ol nw:List Value}{v:Value}(hsrc:tg P te.size Tx v ys w X nw)(aI:(Builtin.firstCells te.size xs.length (.slice base xs.length sCap)).run P w.drew=.ok ol.toArray w.drew)(hol:ol.length=xs.length*te.size)(hwx:∀(j:Nat)(x:D),xs[j]?=some x→x.wd te.size)(h1:∀(j m:Nat)(x c:D),xs[j]?=some x→x.cells[m]?=some c→∃u,ol[j*te.size+m]?=some u∧Rd w X c u){T1:Option TypeId}(hT1:∀U,T1=some U→U=e)(hg:sCap<xs.length+ys.length)(hle:xs.length+ys.length≤140737488355328∧(xs.length+ys.length)*te.bytes≤140737488355328):∃w' hv arr cap,Ec w w' α X p (.buf te.size (xs++ys) T1) hv arr e (0,0) cap∧(Builtin.append_ #[T,Tx] ty #[.slice base xs.length sCap,v]).run P w=.ok hv w':=by
 obtain⟨⟨i,hi,his,hib,z,hzz,hzl⟩,_⟩:=hte;have hzsz:z.cells.size=te.size:=by have:=(kR hzl).1;simp at this;omega
 have hfit:Builtin.nextslicecap (xs.length+ys.length) sCap*i.bytes≤281474976710656:=by have h3:=Room.nextslicecap_le' hg;rw[hib];calc _≤(2*(xs.length+ys.length))*te.bytes:=Nat.mul_le_mul_right _ (by omega)
   _=2*((xs.length+ys.length)*te.bytes):=Nat.mul_assoc _ _ _
   _≤281474976710656:=by omega
 have hrun:=run_append_grow_src (P:=P) w T Tx ty e i z hu hi hzz base xs.length sCap ol (by rw[his];exact aI) v ys.length nw (by rw[his];exact hsrc.src) hg (by omega) hfit;have hcap:xs.length+ys.length≤grownCap w (xs.length+ys.length) sCap e:=by simp[grownCap,Question.cut]
 have hnl:=hsrc.src.newsLen;refine⟨_,_,(ol++nw).toArray++Builtin.zeroCells z.cells (grownCap w (xs.length+ys.length) sCap e-(xs.length+ys.length)),grownCap w (xs.length+ys.length) sCap e,?_,hrun⟩;refine⟨rfl,rfl,rfl,rfl,by simpa[aS.len] using hcap,?_,⟨Nat.le_refl _,fun o _=>by simp⟩,?_,?_,(fun x hx=>by cases hx),?_,rfl,fun U h=>⟨(hT1 U h).symm,fun cs V h=>by cases h⟩⟩;·simp only[aS.sz,Array.size_append,List.size_toArray,Na,hol,hnl,gW,hzsz];rw[←Nat.add_mul,←Nat.add_mul];exact Nat.mul_le_mul_right _ (by omega)
 ·intro j x hx;by_cases hj:j<xs.length;·rw[List.getElem?_append_left hj] at hx;exact hwx j x hx
  ·rw[List.getElem?_append_right (by omega)] at hx;exact hsrc.wid _ x hx
 ·intro j m c hc;simp only[aS.cell,Nu,Nk] at hc;obtain⟨x,hx,y,hy,rfl⟩:=hc;obtain⟨u,h3,h4⟩:=HD hol h1 hsrc.rd j m x y hx hy;refine⟨u,?_,.d _ _ h4⟩;have hlt:=(Nc.1 h3).1;rw[Array.getElem?_append_left (by simpa[aS.sz] using hlt)];simpa[aS.sz] using h3
 ·intro sz xs' _ h;cases h;simp
theorem I7 {G:List Gl}{X0:Nat→Prop}{F:Fr}{w0:World}{n nm:Nat}{q:Nat→Prop}{α:Nat→dh}{S:SS}{a:Act}{w:World}(hs:dn G X0 F w0 n q α S a w)(hp:∀k,oo nm k→¬q k){P:Program}{T Tx ty e:TypeId}{te:iQ}(hu:P.underlying T=some (.slice e))(hte:eD P e te)(hz:te.zero.length=te.size)(hby:te.bytes≤2048){k:Nat}{xs ys:List D}{nw:List Value}{v:Value}{T0 T1:Option TypeId}(hT1:∀U,T1=some U→U=e∧T0=some U)(hSk:S.own k=some (.buf te.size xs T0))(hsrc:tg P te.size Tx v ys w (XX α S.own X0) nw)(hle:xs.length+ys.length≤140737488355328∧(xs.length+ys.length)*te.bytes≤140737488355328)(dst:Option Nat)(hd:∀d,dst=some d→d<n):∃α' v' w',(Builtin.append_ #[T,Tx] ty #[(α k).hv,v]).run P w=.ok v' w'∧dn G X0 F w0 n (fun k=>q k∨oo nm k) α' (S.upd dst (.os (16*nm)) [(16*nm,some (.buf te.size (xs++ys) T1)),(k,none)]) (a.put dst v') w':=by
 rcases hs.own k _ hSk with⟨hnil,⟨sz',_,he⟩,hv⟩|⟨hnil,arr,U,fz,cap,hB⟩
 ·cases he;rw[hv];by_cases hy:ys.length=0
  ·have hys:ys=[]:=List.eq_nil_of_length_eq_zero hy;subst hys;have hn0:nw=[]:=List.eq_nil_of_length_eq_zero (by have:=hsrc.src.newsLen;simpa using this);subst hn0;obtain⟨⟨i,hi,his,_⟩,_⟩:=hte;have hrun:(Builtin.append_ #[T,Tx] ty #[.slice none 0 0,v]).run P w=.ok (.slice none 0 0) w:=by have hc:=hsrc.src.cells;rcases hsrc.src.kind with⟨e',hk⟩|hk<;>simp[Builtin.append_,run_underlying hu,run_underlying hk,sizeOf,typeInfo,hi,his,hsrc.src.len];all_goals (first|simpa using hc|(simp at hc;simp[hc]))
   obtain⟨α',h⟩:=hs.nilrow hp te.size T1 [k] dst hd;exact⟨α',_,w,hrun,h⟩
  ·obtain⟨w',hv',arr,cap,hM,hrun⟩:=ry (α:=α) (p:=q) (ty:=ty) (xs:=[]) (base:=none) (sCap:=0) (ol:=[]) hu hte hz hby hsrc (run_firstCells_none _ _ _ _ _) (by simp) (fun j x hx=>by simp at hx) (fun j m x c hx=>by simp at hx)
    (fun U h=>(hT1 U h).1) (by simp;omega) (by simpa using hle);obtain⟨α',h⟩:=hs.make hp hM [k] dst hd (.os (16*nm)) (.inl rfl);exact⟨α',_,w',hrun,h⟩
 ·rw[hB.hv te.size xs _ rfl];have hzz:=hB.hsz;simp only[aS.sz] at hzz;have hbd:=hB.bnd;simp only[aS.sz] at hbd;by_cases hroom:xs.length+ys.length≤cap
  ·obtain⟨⟨i,hi,his,_⟩,_⟩:=hte;have hnl:=hsrc.src.newsLen;have hfits:(xs.length+ys.length)*te.size≤cap*te.size:=Nat.mul_le_mul_right _ hroom;rw[Nat.add_mul] at hfits;have hrun:=run_append_room_src (P:=P) w T Tx ty e i hu hi (α k).blk (α k).off xs.length cap v ys.length nw (by rw[his];exact hsrc.src) hroom
    (fun j hj=>by
     rw[his,eP hB.heap];have:(α k).off+xs.length*te.size+j<arr.size:=by omega
     simp[this])
    (fun j hj=>by rw[his];exact tu hB.heap (hB.nf.2 _ (by omega) (by simp only[aS.sz];omega)));rw[his] at hrun;obtain⟨arr',h1,h2,h3,h4,h5,h6,h7,h8⟩:=lK (α k).blk nw ((α k).off+xs.length*te.size) w arr U fz hB.heap;have hW:qc w (w.setCells (α k).blk ((α k).off+xs.length*te.size) nw) α (XX α S.own X0) q (α k) (.buf te.size (xs++ys) T1) (.slice (some ⟨(α k).blk,(α k).off,none⟩) (xs.length+ys.length) cap) arr' U fz cap:=by
    refine⟨h1,h3,h4,h5,h6,h7,hzz,by simpa[aS.len] using hroom,by simp only[aS.sz];rw[h2];exact hbd,hB.nf,?_,?_,(fun x hx=>by cases hx),?_,rfl,fun V h=>⟨(hB.ty V (hT1 V h).2).1,(hB.ty V (hT1 V h).2).2.1,fun cs V h=>by cases h⟩⟩
    ·intro j x hx;by_cases hj:j<xs.length;·rw[List.getElem?_append_left hj] at hx;exact hB.wid j x hx
     ·rw[List.getElem?_append_right (by omega)] at hx;exact hsrc.wid _ x hx
    ·intro j m c hc;simp only[aS.cell,Nu,Nk] at hc;obtain⟨x,hx,y,hy,rfl⟩:=hc;simp only[aS.sz];rw[h8];by_cases hj:j<xs.length
     ·rw[List.getElem?_append_left hj] at hx;have hm:m<te.size:=by rw[←(hB.wid j x hx).1];exact(Nc.1 hy).1
      have h9:(j+1)*te.size≤xs.length*te.size:=Nat.mul_le_mul_right _ hj;rw[Nat.add_mul] at h9;rw[if_neg (by omega)];exact hB.rd j m _ (kM (e:=.buf te.size xs _) rfl hx hy)
     ·rw[List.getElem?_append_right (by omega)] at hx;obtain⟨u,h10,h11⟩:=hsrc.rd _ m x y hx hy;have hlt:=(Nc.1 h10).1;have h12:xs.length*te.size≤j*te.size:=Nat.mul_le_mul_right _ (by omega);have h13:(j-xs.length)*te.size=j*te.size-xs.length*te.size:=Nat.sub_mul _ _ _;rw[if_pos (by omega)];refine⟨u,?_,.d _ _ h11⟩;rw[←h10];congr 1;omega
    ·intro sz xs' _ h;cases h;simp
   obtain⟨α',h⟩:=hs.write hp false hSk hnil hW (fun h=>by cases h) dst hd (.os (16*nm)) (.slice (some ⟨(α k).blk,(α k).off,none⟩) (xs.length+ys.length) cap) (.inr ⟨rfl,rfl⟩) (.inr rfl);exact⟨α',_,_,hrun,h⟩
  ·have hval:∀(j m:Nat)(x c:D),xs[j]?=some x→x.cells[m]?=some c→arr[(α k).off+j*te.size+m]?=some (arr.getD ((α k).off+j*te.size+m) undef)∧Rd w (XX α S.own X0) c (arr.getD ((α k).off+j*te.size+m) undef):=by intro j m x c hx hc;obtain⟨v,hv,hr⟩:=hB.rd j m _ (kM (e:=.buf te.size xs _) rfl hx hc);simp only[aS.sz] at hv;simp[Array.getD_eq_getD_getElem?,hv,hr.dinv]
   have hcl:=hB.len;simp only[aS.len] at hcl;have hxsz:xs.length*te.size≤cap*te.size:=Nat.mul_le_mul_right _ hcl;let ol:=(List.range (xs.length*te.size)).map fun i=>arr.getD ((α k).off+i) undef;obtain⟨w',hv',L2,cap2,hM,hrun⟩:=ry (α:=α) (p:=q) (ty:=ty) (xs:=xs) (base:=some ⟨(α k).blk,(α k).off,none⟩) (sCap:=cap) (ol:=ol) hu hte hz hby hsrc
    (run_firstCells_some w.drew te.size xs.length ⟨(α k).blk,(α k).off,none⟩ xs.length cap ol (by simp[ol]) (fun j u hj=>by
     have hlt:j<xs.length*te.size:=by have:=(Nc.1 hj).1;simpa[ol] using this
     rw[Addr.add_mk];have hh:w.drew.heap[(α k).blk]?=some (.cells arr U fz):=hB.heap;rw[eP hh];simp[ol,hlt] at hj;rw[←hj];have:(α k).off+j<arr.size:=by omega
     simp[this])) (by simp[ol]) hB.wid
    (fun j m x c hx hc=>by
     obtain⟨h1,h2⟩:=hval j m x c hx hc;have hm:m<te.size:=by rw[←(hB.wid j x hx).1];exact(Nc.1 hc).1
     have hj:=(Nc.1 hx).1;have h9:(j+1)*te.size≤xs.length*te.size:=Nat.mul_le_mul_right _ hj;rw[Nat.add_mul] at h9;refine⟨arr.getD ((α k).off+(j*te.size+m)) undef,?_,by rw[←Nat.add_assoc];exact h2⟩;simp only[ol,List.getElem?_map];rw[List.getElem?_range (by omega)];rfl) (fun U h=>(hT1 U h).1) (by omega) hle;obtain⟨α',h⟩:=hs.make hp hM [k] dst hd (.os (16*nm)) (.inl rfl);exact⟨α',_,w',hrun,h⟩
end
end Go.Eng

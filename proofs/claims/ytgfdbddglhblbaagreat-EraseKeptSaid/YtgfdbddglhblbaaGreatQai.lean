/- A part of the proof of what is stated of the erasing of a mirror. -/
import Derived.Test.YtgfdbddglhblbaaGreatQah
import Derived.Deep.LoopGhost
import Derived.Scope
set_option maxHeartbeats 64000000
namespace Go.Eng
open Go.RowKit (Below)
def wI (C:cq)(st:AS)(nm:Nat)(S T:TypeId)(a:AV)(K:KO):Prop:=aW C.tab S fun tS=>aW C.tab T fun tT=>match tS.kd,tT.kd with|.slice _,.str=>L7 C st S T a K|.str,.slice _=>MD C nm S T a K|.slice _,.slice _=>BT C nm st S T a K|_,_=>Fh C T a fun r=>K r [] []
def rW (C : cq) (st : AS) (nm : Nat) (_oT : TypeId) (b : Builtin) (as : List Operand) (ts : List TypeId) (K : KO) : Prop :=
  match b with
  | .len => match as, ts with
    | [x], [T] => fF st x fun a => aW C.tab T fun ti => match MI ti.kd a with | true => lenK st a fun m rd => K (.d (.i .i64 (m : Int))) [] rd | false => False
    | _, _ => False
  | .append => match as, ts with
    | [s, x], [T, Tx] => lA C st T s fun a => lA C st Tx x fun b => uH C st nm T Tx a b K
    | _, _ => False
  | .max => NS st as fun as => pH true as fun r => K r [] []
  | .min => NS st as fun as => pH false as fun r => K r [] []
  | _ => False
def zd (C:cq)(T:TypeId)(f:Nat)(a:AV)(K:AV→Prop):Prop:=aW C.tab T fun ti=>match ti.kd with
 |.struct os=>nE os f fun x=>aW C.tab x.2 fun te=>match a with
  |.d (.agg ds)=>uo ds fun cs=>(match te.agg with|true=>iX cs x.1 te.size fun r=>kN r K|false=>nE cs x.1 fun c=>K c)|.agg cs=>(match te.agg with|true=>iX cs x.1 te.size fun r=>kN r K|false=>nE cs x.1 fun c=>K c)|_=>False
 |_=>False
def opK (C : cq) (o : Oper) (nm : Nat) (st : AS) (K : KO) : Prop :=
  match o.op with
  | .move x => lA C st o.type x fun a => K a [] []
  | .assign x => lA C st o.type x fun a => vO nm a K
  | .pick c x y => fF st c fun vc => xR vc fun t => LO t (fF st x fun a => K a [] []) (fF st y fun a => K a [] [])
  | .alloc T => yR C nm T K
  | .box T x => lA C st T x fun a => Lm C nm T a K
  | .build T ps => yX C st T ps.toList fun r => K r [] []
  | .buildSlice T len ps => NS st (Ar ps.toList) fun as => match KS as with | true => HE C st nm T len ps.toList as K | false => K6 C st nm T len ps.toList K
  | .load T x => fF st x fun a => tO C st T a fun r rd => K r [] rd
  | .store T p v => fF st p fun a => lA C st T v fun b => yP C st T a b K
  | .nilCheck x => fF st x fun a => L5 a fun r => K r [] []
  | .binOp op T x y _ => fF st x fun a => fF st y fun b => Ax C st op T a b fun r rd => K r [] rd
  | .unOp op _ x => fF st x fun a => unK op a fun r => K r [] []
  | .convert S T x => fF st x fun a => wI C st nm S T a K
  | .slice T x lo hi none => fF st x fun a => D2 st lo fun l => D2 st hi fun r => pi C nm st T a l r K
  | .fieldAddr T x f => fF st x fun a => Ac C T f a fun r => K r [] []
  | .indexAddr T x ix => fF st x fun a => fF st ix fun i => Af C st T a i fun r rd => K r [] rd
  | .index T x ix => fF st x fun a => fF st ix fun i => G3 C T a i fun r => K r [] []
  | .extract x i => fF st x fun a => ET a i fun r => K r [] []
  | .call c => match c.callee with
    | .builtin b => rW C st nm o.type b c.args.toList c.argTypes.toList K
    | .value x => fnK st x fun f pre post => NS st c.args.toList fun as => JU pre as post fun as => goK C st nm f as K
    | _ => False
  | .makeFunc fn first captured => NS st first.toList fun as => NS st captured.toList fun bs => K (.fn fn as bs) [] []
  | .field T x f => fF st x fun a => zd C T f a fun r => K r [] []
  | _ => False
theorem arr1 {β:Type}{a:Array β}{x:β}(h:a.toList=[x]):a=#[x]:=by cases a;simp at h;rw[h]
theorem L2 {β:Type}{a:Array β}{x y:β}(h:a.toList=[x,y]):a=#[x,y]:=by cases a;simp at h;rw[h]
section
variable {C:cq}{n:Nat}{o:Oper}{nm:Nat}{st:AS}{K:KO}
theorem xJ {c:Call}{b:Builtin}(ho:o.op=.call c)(hc:c.callee=.builtin b)(h:rW C st nm o.type b c.args.toList c.argTypes.toList K):∃out upd rd,K out upd rd∧cr C n o nm st rd out upd:=by
 unfold rW at h;split at h
 ·split at h;·rename_i x T ha hT;exact II ho hc (arr1 ha) (arr1 hT) h
  ·cases h
 ·split at h;·rename_i s x T Tx ha hT;exact zM ho hc (L2 ha) (L2 hT) h
  ·cases h
 ·exact qw true ho hc h
 ·exact qw false ho hc h
 ·cases h
theorem Cp {T:TypeId}{x:Operand}{f:Nat}(ho:o.op=.field T x f)(h:fF st x fun a=>zd C T f a fun r=>K r [] []):∃out upd rd,K out upd rd∧cr C n o nm st rd out upd:=by
 replace h:=bx h;obtain⟨va,h1,h⟩:=h;have hmem:x∈o.op.operands:=by rw[ho];simp[Op.operands]
 unfold zd at h;replace h:=aJ h;obtain⟨ti,hti,h⟩:=h;split at h
 ·rename_i os hk;replace h:=fD h;obtain⟨y,hy,h⟩:=h;replace h:=aJ h;obtain⟨te,hte,h⟩:=h;obtain⟨fs,hu,hofs⟩:=l9 (C.ty hti) hk;obtain⟨fd,_,hf1,hf2,hf3,_,_⟩:=tE hofs f hy;have hfd:fs[f]?=some fd:=by rw[←Array.getElem?_toList];exact hf1
  have run:∀(w:World)(vs:Array Value)(v:Value),(part y.2 vs y.1).run C.P w=.ok v w→∀a:Act,a.eval x=.agg vs→(execOp a.eval o).run C.P w=.ok (.value v) w:=by intro w vs v hv a ha;simp[execOp,ho,ha,Instr.field,underlying,hu,hfd,hf2,hf3,asAgg,hv]
  have key:∀(cs:List AV),(match te.agg with|true=>iX cs y.1 te.size fun r=>kN r fun r=>K r [] []|false=>nE cs y.1 fun c=>K c [] [])→∃out,K out [] []∧(∀p,(∀c,c∈cs→c.ok p)→out.ok p)∧∀(w:World)(α:Nat→dh)(X:Nat→Prop)(vs:Array Value),cs.length=vs.size→(∀(j:Nat)(c:AV)(v:Value),cs[j]?=some c→vs[j]?=some v→co w α X c v)→∃v,(part y.2 vs y.1).run C.P w=.ok v w∧co w α X out v:=by intro cs h;cases hag:te.agg with
   |true=>
    rw[hag] at h;replace h:=ll h;obtain⟨r,hr1,hr2,h⟩:=h;replace h:=lM h;obtain⟨av,h,hok,hrd⟩:=h;refine⟨av,h,fun p hp=>hok p fun c hc=>?_,fun w α X vs hl hc=>?_⟩;·obtain⟨m,hm⟩:=List.mem_iff_getElem?.1 hc;exact hp c (Ni (hr2 m c hm))
    ·refine⟨_,my (C.ty hte) w vs y.1 hag,hrd w α X _ ?_ fun m c v h1 h2=>?_⟩
     ·have hle:te.size=0∨y.1+te.size≤vs.size:=by
       rcases Nat.eq_zero_or_pos te.size with h0|h0;·exact .inl h0
       ·have:=(Nc.1 (hr2 (te.size-1) _ (No (by omega)))).1;exact .inr (by omega)
      rw[hr1];simp;omega
     ·simp only[Array.getElem?_extract] at h2;split at h2;·exact hc _ c v (hr2 m c h1) h2
      ·cases h2;|false=>
    rw[hag] at h;replace h:=fD h;obtain⟨c,hc,h⟩:=h;refine⟨c,h,fun p hp=>hp c (Ni hc),fun w α X vs hl hcs=>?_⟩;have hlt:y.1<vs.size:=by rw[←hl];exact(Nc.1 hc).1
    exact⟨vs[y.1],mO (C.ty hte) w vs _ hag (Array.getElem?_eq_getElem hlt),hcs _ c _ hc (Array.getElem?_eq_getElem hlt)⟩
  split at h;·rename_i ds;replace h:=k8 h;obtain⟨out,h,hok,hrd⟩:=key _ h;refine⟨_,_,_,h,cr.pure fun X0 F w0 p α S a w hs he _=>?_⟩;have hr:=((h1.to hmem he).read hs).dinv;generalize hv:a.eval x=v at hr;cases hr with|agg _ vs hl hc=>
    obtain⟨v,h2,h3⟩:=hrd w α (XX α S.own X0) vs (by simpa using hl) fun j c v hj hv=>by simp only[List.getElem?_map,Nk] at hj;obtain⟨d,hd,rfl⟩:=hj;exact .d _ _ (hc j d v hd hv)
    exact⟨v,run w vs v h2 a hv,h3,hok p fun c hc=>by obtain⟨d,_,rfl⟩:=List.mem_map.1 hc;exact .d d⟩
  ·rename_i cs;obtain⟨out,h,hok,hrd⟩:=key _ h;refine⟨_,_,_,h,cr.pure fun X0 F w0 p α S a w hs he _=>?_⟩;have hr:=(h1.to hmem he).read hs;have hkk:=(h1.to hmem he).ok hs;generalize hv:a.eval x=v at hr;cases hr with|agg _ vs hl hc=>obtain⟨v,h2,h3⟩:=hrd w α (XX α S.own X0) vs hl hc;cases hkk with|agg _ hkk=>exact⟨v,run w vs v h2 a hv,h3,hok p hkk⟩
  ·cases h
 ·cases h
theorem Js (h : opK C o nm st K) : ∃ out upd rd, K out upd rd ∧ cr C n o nm st rd out upd := by
  unfold opK at h
  split at h
  · rename_i x ho; exact Gm ho h
  · rename_i x ho; exact zy ho h
  · rename_i c x y ho; exact He ho h
  · rename_i T ho; exact Ch ho h
  · rename_i T x ho; exact IT ho h
  · rename_i T ps ho; exact Co ho h
  · rename_i T len ps ho
    replace h := j9 h; obtain ⟨as, has, h⟩ := h
    split at h
    · exact Gq ho has h
    · exact Ji ho h
  · rename_i T x ho; exact EP ho h
  · rename_i T p v ho; exact C5 ho h
  · rename_i x ho; exact J3 ho h
  · rename_i op T x y T' ho; exact DL ho h
  · rename_i op T x ho; exact M5 ho h
  · rename_i S T x ho
    obtain ⟨av, hb, h⟩ := kP h
    unfold wI at h
    replace h := aJ h; obtain ⟨tS, htS, h⟩ := h
    replace h := aJ h; obtain ⟨tT, htT, h⟩ := h
    split at h
    · exact IL ho (hb _ h)
    · exact It ho (hb _ h)
    · exact Ey ho (hb (fun a => BT C nm st S T a K) h)
    · exact E9 ho ⟨tS, htS⟩ (hb (fun a => Fh C T a fun r => K r [] []) h)
  · rename_i T x lo hi ho; exact Ak ho h
  · rename_i T x f ho; exact Ci ho h
  · rename_i T x ix ho; exact DW ho h
  · rename_i T x ix ho; exact DZ ho h
  · rename_i x i ho; exact Fq ho h
  · rename_i c ho
    split at h
    · rename_i b hc; exact xJ ho hc h
    · rename_i f hc; exact FG ho hc h
    · cases h
  · rename_i fn first captured ho; exact Eh ho h
  · rename_i T x f ho; exact Cp ho h
  · cases h
end
structure Fp where
 i:Nat
 o:Oper
 rd:List Nat
 wr:List Nat
def CH (n:Nat)(d:Option Nat)(K:Prop):Prop:=match d with|none=>K|some d=>match Nat.blt d n with|true=>K|false=>False
theorem wZ {n:Nat}{d:Option Nat}{K:Prop}(h:CH n d K):K∧∀x,d=some x→x<n:=by
 unfold CH at h;split at h;·exact⟨h,fun x hx=>by cases hx⟩
 ·split at h;·rename_i hb;exact⟨h,fun x hx=>by cases hx;have:=hb;simp[Nat.blt] at this;omega⟩
  ·cases h
def J5 (l m:List (Nat×Option aS))(K:List (Nat×Option aS)→Prop):Prop:=match l with|[]=>K m|x::r=>J5 r m fun r=>K (x::r)
theorem w6 {l m:List (Nat×Option aS)}{K:List (Nat×Option aS)→Prop}(h:J5 l m K):K (l++m):=by induction l generalizing K with|nil=>exact h;|cons x r ih=>exact ih (K:=fun r=>K (x::r)) h
def uq (st:AS)(dst:Option Nat)(out:AV)(upd:List (Nat×Option aS))(K:AS→Prop):Prop:=match st with|⟨env,own,nx⟩=>match dst,upd with|some d,[]=>K ⟨(d,out)::env,own,nx⟩|some d,[x]=>K ⟨(d,out)::env,x::own,nx⟩|some d,[x,y]=>K ⟨(d,out)::env,x::y::own,nx⟩|some d,l=>J5 l own fun own=>K ⟨(d,out)::env,own,nx⟩|none,[x]=>K ⟨env,x::own,nx⟩|none,l=>J5 l own fun own=>K ⟨env,own,nx⟩
def AQ (st:AS)(n:Nat)(K:AS→Prop):Prop:=match st with|⟨env,own,nx⟩=>match nx+n with|0=>K ⟨env,own,0⟩|m+1=>K ⟨env,own,m+1⟩
theorem tz {st:AS}{n:Nat}{K:AS→Prop}(h:AQ st n K):K ⟨st.env,st.own,st.nx+n⟩:=by
 obtain⟨env,own,nx⟩:=st;simp only[AQ] at h;split at h;·rename_i h0;simp only[h0];exact h
 ·rename_i h0;simp only[h0];exact h
theorem ut {st:AS}{dst:Option Nat}{out:AV}{upd:List (Nat×Option aS)}{K:AS→Prop}(h:uq st dst out upd K):∃st',K st'∧st'.ss=st.ss.upd dst out upd∧st'.nx=st.nx:=by
 have e1:∀d,(AS.mk ((d,out)::st.env) (upd++st.own) st.nx).ss=st.ss.upd (some d) out upd:=by
  intro d;simp only[AS.ss,SS.upd,SS.mk.injEq];constructor
  ·funext t;simp only[look];by_cases hd:d=t;·subst hd;simp
   ·have:Nat.beq t d=false:=by cases hb:Nat.beq t d with|false=>rfl;|true=>exact absurd (Nd hb).symm hd
    simp[this,hd]
  ·funext k;rw[jq];cases look upd k<;>simp
 have e2:(AS.mk st.env (upd++st.own) st.nx).ss=st.ss.upd none out upd:=by
  simp only[AS.ss,SS.upd,SS.mk.injEq];constructor;·funext t;simp
  ·funext k;rw[jq];cases look upd k<;>simp
 obtain⟨env,own,nx⟩:=st;simp only[uq] at h;split at h;·exact⟨_,h,e1 _,rfl⟩
 ·exact⟨_,h,e1 _,rfl⟩
 ·exact⟨_,h,e1 _,rfl⟩
 ·exact⟨_,w6 h,e1 _,rfl⟩
 ·exact⟨_,h,e2,rfl⟩
 ·exact⟨_,w6 h,e2,rfl⟩
def uW:Value→Bool|.tuple vs=>Nat.beq vs.size 0|_=>false
theorem zA {v:Value}(h:uW v=true):v=undef:=by
 unfold uW at h;split at h;·rename_i vs;rw[Array.eq_empty_of_size_eq_zero (Nd h)];rfl
 ·cases h
def vw (all:List Oper)(st:AS)(o:Oper)(run skip:Prop):Prop:=match o.guard with
 |none=>run|some (g,want)=>nE all g fun og=>match og.dst with
 |some d=>aW st.env d fun a=>match a with
  |.d (.b t)=>LO t (match want with|true=>run|false=>skip) (match want with|true=>skip|false=>run)|.d (.x v)=>match uW v with|true=>skip|false=>False
  |_=>False
 |none=>False
def nmK (n:Nat)(K:Nat→Prop):Prop:=match n with|0=>K 0|m+1=>K (m+1)
theorem JY {n:Nat}{K:Nat→Prop}(h:nmK n K):K n:=by unfold nmK at h;split at h<;>exact h
def atK (st:AS)(i:Nat)(K:Nat→Prop):Prop:=match st with|⟨_,_,nx⟩=>nmK (nx+i) K
theorem JS {st:AS}{i:Nat}{K:Nat→Prop}(h:atK st i K):K (st.nx+i):=JY h
def LX (C:cq)(n:Nat)(all:List Oper)(o:Oper)(rest:Nat→AS→List Fp→(AS→List Fp→Prop)→Prop)(i:Nat)(st:AS)(fps:List Fp)(K:AS→List Fp→Prop):Prop:=vw all st o
 (CH n o.dst (atK st i fun nm=>opK C o nm st fun out upd rd=>uq st o.dst out upd fun st'=>rest (i+1) st' (⟨i,o,rd,upd.map (·.1)⟩::fps) K))
 (CH n o.dst (uq st o.dst (.d (.x undef)) [] fun st'=>rest (i+1) st' (⟨i,o,[],[]⟩::fps) K))
noncomputable def Dq (C:cq)(n:Nat)(all:List Oper)(l:List Oper):Nat→AS→List Fp→(AS→List Fp→Prop)→Prop:=List.rec (motive:=fun _=>Nat→AS→List Fp→(AS→List Fp→Prop)→Prop) (fun _ st fps K=>K st fps) (fun o _ rest=>LX C n all o rest) l
theorem Cs (C:cq)(n:Nat)(all:List Oper)(o:Oper)(r:List Oper)(i:Nat)(st:AS)(fps:List Fp)(K:AS→List Fp→Prop):Dq C n all (o::r) i st fps K=vw all st o
 (CH n o.dst (atK st i fun nm=>opK C o nm st fun out upd rd=>uq st o.dst out upd fun st'=>Dq C n all r (i+1) st' (⟨i,o,rd,upd.map (·.1)⟩::fps) K))
 (CH n o.dst (uq st o.dst (.d (.x undef)) [] fun st'=>Dq C n all r (i+1) st' (⟨i,o,[],[]⟩::fps) K)):=rfl
def jJ (ops:Array Oper)(o:Oper)(st:AS):List (Nat×AV):=(o.looksAt ops).filterMap fun t=>(look st.env t).map fun a=>(t,a)
def Ia (st:AS)(rd:List Nat):List (Nat×aS):=rd.filterMap fun k=>(st.ss.own k).map fun e=>(k,e)
theorem gK {ops:Array Oper}{o:Oper}{st:AS}{t:Nat}{av:AV}:(t,av)∈jJ ops o st↔t∈o.looksAt ops∧look st.env t=some av:=by
 unfold jJ;rw[List.mem_filterMap];constructor;·rintro⟨t',h1,h2⟩;cases hl:look st.env t' with|none=>simp[hl] at h2;|some a=>simp[hl] at h2;obtain⟨rfl,rfl⟩:=h2;exact⟨h1,hl⟩
 ·rintro⟨h1,h2⟩;exact⟨t,h1,by simp[h2]⟩
theorem pY {st:AS}{rd:List Nat}{k:Nat}{e:aS}:(k,e)∈Ia st rd↔k∈rd∧st.ss.own k=some e:=by
 unfold Ia;rw[List.mem_filterMap];constructor;·rintro⟨t',h1,h2⟩;cases hl:st.ss.own t' with|none=>simp[hl] at h2;|some a=>simp[hl] at h2;obtain⟨rfl,rfl⟩:=h2;exact⟨h1,hl⟩
 ·rintro⟨h1,h2⟩;exact⟨k,h1,by simp[h2]⟩
theorem sN {ops:Array Oper}{o:Oper}{t:Nat}(h:Operand.tmp t∈o.op.operands):t∈o.looksAt ops:=by unfold Oper.looksAt;exact List.mem_append_left _ (List.mem_filterMap.2 ⟨.tmp t,Array.mem_toList_iff.2 h,rfl⟩)
theorem xp {ops:Array Oper}{o:Oper}{g:Nat}{w:Bool}{og:Oper}{d:Nat}(hg:o.guard=some (g,w))(ho:ops[g]?=some og)(hd:og.dst=some d):d∈o.looksAt ops:=by unfold Oper.looksAt;refine List.mem_append_right _ ?_;simp[hg,ho,hd]
def Jj (ops:Array Oper)(f:Fp)(r:dJ):Prop:=ops[f.i]?=some f.o∧(∀t av,(t,av)∈r.ins→t∈f.o.looksAt ops)∧(∀k e,(k,e)∈r.fp→k∈f.rd)∧∀k,(look r.upd k).isSome=true→k∈f.wr
theorem sK {β:Type}{l:List (Nat×β)}{k:Nat}(h:(look l k).isSome=true):k∈l.map (·.1):=by cases hl:look l k with|none=>rw[hl] at h;cases h;|some v=>exact List.mem_map.2 ⟨(k,v),iP hl,rfl⟩
theorem Cj {C:cq}{ops:Array Oper}{n i:Nat}{o:Oper}{st:AS}{rd:List Nat}{out:AV}{upd:List (Nat×Option aS)}(hi:ops[i]?=some o)(hd:∀x,o.dst=some x→x<n)(hw:∀{X0 F w0 p α S a w},dn C.G X0 F w0 n p α S a w→(∀t av,(t,av)∈jJ ops o st→S.env t=some av)→Region.wanted o (yielded ops a.tmps)=true)(hv:cr C n o (st.nx+i) st rd out upd):pU C.P C.G ops n st.nx i ⟨jJ ops o st,Ia st rd,out,upd⟩:=by
 intro X0 F w0 p α S a w Q K hs hpre hp hK;unfold wpOp;simp only[hi];rw[if_pos (hw hs hpre.1)];refine .inl (hv.2 X0 F w0 p α S a w Q K hs (fun t ht av hav=>hpre.1 t av (gK.2 ⟨sN ht,hav⟩)) (fun k hk e he=>hpre.2 k e (pY.2 ⟨hk,he⟩)) hp hd fun α' v w' hS=>?_);have hdst:fC ops i=o.dst:=by simp[fC,hi]
 exact hK α' _ w' (by rw[hdst];exact hS)
theorem z6 {C:cq}{ops:Array Oper}{n i:Nat}{o:Oper}{st:AS}(hi:ops[i]?=some o)(hd:∀x,o.dst=some x→x<n)(hw:∀{X0 F w0 p α S a w},dn C.G X0 F w0 n p α S a w→(∀t av,(t,av)∈jJ ops o st→S.env t=some av)→Region.wanted o (yielded ops a.tmps)=false):pU C.P C.G ops n st.nx i ⟨jJ ops o st,[],.d (.x undef),[]⟩:=by
 intro X0 F w0 p α S a w Q K hs hpre hp hK;unfold wpOp;simp only[hi];rw[if_neg (by rw[hw hs hpre.1];simp)];have hdst:fC ops i=o.dst:=by simp[fC,hi]
 refine hK α _ w ?_;rw[hdst];exact(hs.pure o.dst hd (.d (.x undef)) undef (.d _ _ (.x _)) (.d _)).mono fun k hk=>.inl hk
theorem y9 {C:cq}{n:Nat}{ops:Array Oper}{st:AS}{o:Oper}{run skip:Prop}(h:vw ops.toList st o run skip):(run∧∀{X0 F w0 p α S a w},dn C.G X0 F w0 n p α S a w→(∀t av,(t,av)∈jJ ops o st→S.env t=some av)→Region.wanted o (yielded ops a.tmps)=true)∨(skip∧∀{X0 F w0 p α S a w},dn C.G X0 F w0 n p α S a w→(∀t av,(t,av)∈jJ ops o st→S.env t=some av)→Region.wanted o (yielded ops a.tmps)=false):=by
 unfold vw at h;split at h;·rename_i hg;exact .inl ⟨h,fun _ _=>by simp[Region.wanted,hg]⟩
 ·rename_i g want hg;replace h:=fD h;obtain⟨og,hog,h⟩:=h;rw[Array.getElem?_toList] at hog;split at h
  ·rename_i d hd;replace h:=aJ h;obtain⟨av,hav,h⟩:=h;have hmem:∀{S:SS},(∀t av,(t,av)∈jJ ops o st→S.env t=some av)→S.env d=some av:=fun hS=>hS d av (gK.2 ⟨xp hg hog hd,hav⟩);split at h
   ·rename_i t;have hy:∀{X0 F w0 p α S a w},dn C.G X0 F w0 n p α S a w→(∀t' av,(t',av)∈jJ ops o st→S.env t'=some av)→Region.wanted o (yielded ops a.tmps)=(t==want):=by
     intro X0 F w0 p α S a w hs hS;have hr:=(hs.env d _ (hmem hS)).dinv.binv;have:a.tmps[d]?=some (.bool t):=by rw[Array.getD_eq_getD_getElem?] at hr;cases hx:a.tmps[d]? with|none=>rw[hx] at hr;cases hr;|some v=>rw[hx] at hr;exact congrArg some hr
     simp[Region.wanted,hg,yielded,hog,hd,this]
    rcases h.out with⟨rfl,h⟩|⟨rfl,h⟩
    ·split at h;·exact .inl ⟨h,fun hs hS=>by rw[hy hs hS];rfl⟩
     ·exact .inr ⟨h,fun hs hS=>by rw[hy hs hS];rfl⟩
    ·split at h;·exact .inr ⟨h,fun hs hS=>by rw[hy hs hS];rfl⟩
     ·exact .inl ⟨h,fun hs hS=>by rw[hy hs hS];rfl⟩
   ·rename_i v0;split at h;case h_2=>cases h
    rename_i hud;have hud:=zA hud;refine .inr ⟨h,fun{X0 F w0 p α S a w} hs hS=>?_⟩;have hr:=(hs.env d _ (hmem hS)).dinv;generalize hgd:a.tmps.getD d undef=v at hr;cases hr;rw[hud] at hgd;have:yielded ops a.tmps g=none:=by simp only[yielded,hog,hd,Option.bind_some];rw[Array.getD_eq_getD_getElem?] at hgd;cases hx:a.tmps[d]? with|none=>rfl;|some v=>rw[hx] at hgd;simp at hgd;rw[hgd];rfl
    simp[Region.wanted,hg,this]
   ·cases h
  ·cases h
theorem FH {C:cq}{n:Nat}{ops:Array Oper}:∀(l:List Oper)(i:Nat)(st:AS)(fps:List Fp)(K:AS→List Fp→Prop),(∀j,l[j]?=ops[i+j]?)→Dq C n ops.toList l i st fps K→∃(st':AS)(fs:List Fp)(rs:List (Nat×dJ)),K st' (fs.reverse++fps)∧st'.nx=st.nx∧lH ops st.ss rs st'.ss∧(∀x,x∈rs→pU C.P C.G ops n st.nx x.1 x.2)∧rs.map (·.1)=List.range' i l.length∧fs.length=rs.length∧∀(j:Nat)(f:Fp)(x:Nat×dJ),fs[j]?=some f→rs[j]?=some x→f.i=x.1∧Jj ops f x.2:=by intro l;induction l with
 |nil=>intro i st fps K _ h;exact⟨st,[],[],h,rfl,rfl,(fun x hx=>by cases hx),rfl,rfl,fun j f x hf=>by simp at hf⟩;|cons o r ih=>
 intro i st fps K hl h;have hi:ops[i]?=some o:=by have:=hl 0;simpa using this.symm
 have hdst:fC ops i=o.dst:=by simp[fC,hi]
 have step:∀(st1:AS)(f:Fp)(x:dJ),st1.nx=st.nx→f.i=i→x.pre st.ss→st1.ss=st.ss.upd o.dst x.out x.upd→pU C.P C.G ops n st.nx i x→Jj ops f x→Dq C n ops.toList r (i+1) st1 (f::fps) K→∃(st':AS)(fs:List Fp)(rs:List (Nat×dJ)),K st' (fs.reverse++fps)∧st'.nx=st.nx∧lH ops st.ss rs st'.ss∧(∀x,x∈rs→pU C.P C.G ops n st.nx x.1 x.2)∧rs.map (·.1)=List.range' i (o::r).length∧fs.length=rs.length∧∀(j:Nat)(f:Fp)(x:Nat×dJ),fs[j]?=some f→rs[j]?=some x→f.i=x.1∧Jj ops f x.2:=by
  intro st1 f x hnx hfi hpre hss hval hfp h;obtain⟨st',fs,rs,h1,h2,h3,h4,h5,h6,h7⟩:=ih (i+1) st1 (f::fps) K (fun j=>by have h9:=hl (j+1);rw[show i+(j+1)=i+1+j by omega] at h9;simpa using h9) h;refine⟨st',f::fs,(i,x)::rs,by simpa using h1,h2.trans hnx,⟨hpre,by rw[hdst,←hss];exact h3⟩,fun y hy=>?_,?_,by simp[h6],fun j g y hg hy=>?_⟩
  ·rcases List.mem_cons.1 hy with rfl|hy;·exact hval
   ·rw[←hnx];exact h4 y hy
  ·simp[h5,List.range'_succ]
  ·cases j with|zero=>simp at hg hy;subst hg hy;exact⟨hfi,hfp⟩;|succ j=>exact h7 j g y (by simpa using hg) (by simpa using hy)
 rw[Cs] at h;rcases y9 (C:=C) (n:=n) h with⟨h,hw⟩|⟨h,hw⟩;·replace h:=wZ h;obtain⟨h,hd⟩:=h;replace h:=Js (n:=n) (JS h);obtain⟨out,upd,rd,h,hv⟩:=h;replace h:=ut h;obtain⟨st1,h,hss,hnx⟩:=h;refine step st1 _ ⟨jJ ops o st,Ia st rd,out,upd⟩ hnx rfl ⟨fun t av ht=>(gK.1 ht).2,fun k e hk=>(pY.1 hk).2⟩ hss (Cj hi hd hw hv) ⟨hi,fun t av ht=>(gK.1 ht).1,fun k e hk=>(pY.1 hk).1,fun k hk=>sK hk⟩ h
 ·replace h:=wZ h;obtain⟨h,hd⟩:=h;replace h:=ut h;obtain⟨st1,h,hss,hnx⟩:=h;refine step st1 _ ⟨jJ ops o st,[],.d (.x undef),[]⟩ hnx rfl ⟨fun t av ht=>(gK.1 ht).2,fun k e hk=>by cases hk⟩ hss (z6 hi hd hw) ⟨hi,fun t av ht=>(gK.1 ht).1,(fun k e hk=>by cases hk),fun k hk=>by simp[look] at hk⟩ h
end Go.Eng
namespace Go.Eng
open Go.RowKit (Below)
def vF (ops:Array Oper)(x y:Fp):Bool:=jN x.o.dst.toList (y.o.looksAt ops)||jN x.o.dst.toList y.o.dst.toList||jN y.o.dst.toList (x.o.looksAt ops)||jN x.wr (y.rd++y.wr)||jN y.wr x.rd
def uB (l:List Oper)(f x:Nat)(o:Oper):Bool:=f.rec (fun _=>false) (fun _ ih o=>o.after.toList.any fun e=>Region.binds .any e&&(Nat.beq e.on x||match l[e.on]? with|some o'=>ih o'|none=>false)) o
def ED (ops:Array Oper)(x y:Fp):Bool:=(y.o.after.toList.any fun e=>Nat.beq e.on x.i&&Region.binds .any e)||uB ops.toList 4 x.i y.o
theorem qZ {ops:Array Oper}{x:Nat}:∀(f:Nat){j:Nat}{o:Oper},ops[j]?=some o→uB ops.toList f x o=true→lY ops x j
 |0,_,_,_,h=>by simp[uB] at h;|f+1,j,o,ho,h=>by
  have h:(o.after.toList.any fun e=>Region.binds .any e&&(Nat.beq e.on x||match ops.toList[e.on]? with|some o'=>uB ops.toList f x o'|none=>false))=true:=h;obtain⟨e,he,h1⟩:=List.any_eq_true.1 h;simp only[Bool.and_eq_true,Bool.or_eq_true] at h1;have he:e∈o.after:=by simpa using he
  rcases h1 with⟨h1,h2|h2⟩;·rw[←Nd h2];exact .edge ho he h1
  ·split at h2;·rename_i o' ho';exact .step ho he h1 (qZ f (by simpa using ho') h2)
   ·cases h2
def yV (ops:Array Oper):List Fp→Bool|[]=>true|y::r=>(r.all fun x=>!vF ops x y||ED ops x y)&&yV ops r
def tP (l:List Oper)(i:Nat):Bool:=match l with|[]=>true|o::r=>(o.after.toList.all fun e=>!Region.binds .any e||Nat.blt e.on i)&&tP r (i+1)
theorem C0 {l:List Oper}{i:Nat}(h:tP l i=true):∀j o,l[j]?=some o→∀e∈o.after,Region.binds .any e=true→e.on<i+j:=by induction l generalizing i with|nil=>intro j o hj;simp at hj;|cons x r ih=>intro j o hj e he hb;simp only[tP,Bool.and_eq_true] at h;cases j with|zero=>simp at hj;subst hj;have:=List.all_eq_true.1 h.1 e (by simpa using he);simp[hb,Nat.blt] at this;omega;|succ j=>have:=ih h.2 j o (by simpa using hj) e he hb;omega
structure zF (C:cq)(ops:Array Oper)(fps:List Fp):Prop where out:(C.P.follows .mixedOrders&&yV ops fps&&tP ops.toList 0)=true
theorem dY {C:cq}{ops:Array Oper}{fps:List Fp}(h:(C.P.follows .mixedOrders&&yV ops fps&&tP ops.toList 0)=true):zF C ops fps:=⟨h⟩
noncomputable def LH (C:cq)(n:Nat)(ops:Array Oper)(draw:Bool)(st:AS)(K:AS→Prop):Prop:=Dq C n ops.toList ops.toList 0 st [] fun st' fps=>match draw with|true=>zF C ops fps∧AQ st' ops.toList.length K|false=>AQ st' ops.toList.length K
theorem Ee {ops:Array Oper}{fs:List Fp}{rs:List (Nat×dJ)}(hlen:fs.length=rs.length)(h:∀(j:Nat)(f:Fp)(x:Nat×dJ),fs[j]?=some f→rs[j]?=some x→f.i=x.1∧Jj ops f x.2)(hp:rs.Pairwise fun x y=>x.1<y.1)(hs:yV ops fs.reverse=true):rs.Pairwise (Ha ops):=by
 have key:∀(l:List Fp),yV ops l=true→l.Pairwise fun y x=>vF ops x y=true→ED ops x y=true:=by intro l;induction l with|nil=>intro _;exact List.Pairwise.nil;|cons y r ih=>intro h;simp only[yV,Bool.and_eq_true] at h;refine List.pairwise_cons.2 ⟨fun x hx hc=>?_,ih h.2⟩;have:=List.all_eq_true.1 h.1 x hx;simpa[hc] using this
 have hpw:=List.pairwise_reverse.1 (key _ hs);rw[List.pairwise_iff_getElem] at hpw hp⊢;intro i j hi hj hij;have hi':i<fs.length:=by omega
 have hj':j<fs.length:=by omega
 have h1:=h i fs[i] rs[i] (by simp) (by simp);have h2:=h j fs[j] rs[j] (by simp) (by simp);have h3:=hpw i j hi' hj' hij;refine⟨hp i j hi hj hij,?_⟩;obtain⟨e1,a1,b1,c1,d1⟩:=h1;obtain⟨e2,a2,b2,c2,d2⟩:=h2;have hd1:fC ops rs[i].1=fs[i].o.dst:=by rw[←e1];simp[fC,a1]
 have hd2:fC ops rs[j].1=fs[j].o.dst:=by rw[←e2];simp[fC,a2]
 cases hc:vF ops fs[i] fs[j] with|true=>
 have he:=h3 hc;have ho:ops[rs[j].1]?=some fs[j].o:=by rw[←e2];exact a2
 unfold ED at he;rcases Bool.or_eq_true_iff.1 he with he|he;·obtain⟨e,he1,he2⟩:=List.any_eq_true.1 he;simp only[Bool.and_eq_true] at he2;refine .inr ?_;rw[←e1,←Nd he2.1];exact .edge ho (by simpa using he1) he2.2
 ·refine .inr ?_;rw[←e1];exact qZ 4 ho he;|false=>
 refine .inl ?_;rw[hd1,hd2];simp only[vF,Bool.or_eq_false_iff] at hc;obtain⟨⟨⟨⟨q1,q2⟩,q3⟩,q4⟩,q5⟩:=hc;have no:∀{l m:List Nat}{x:Nat},jN l m=false→x∈l→x∉m:=by intro l m x h hx hm;have:=sV.2 ⟨x,hx,hm⟩;rw[h] at this;cases this
 refine⟨fun d hd=>⟨fun av hm=>no q1 (by rw[hd];simp) (b2 d av hm),fun hd'=>no q2 (x:=d) (by rw[hd];simp) (by rw[hd'];simp)⟩,fun d hd av hm=>no q3 (by rw[hd];simp) (b1 d av hm),fun k hk=>⟨fun e he=>?_,?_⟩,fun k hk e he=>?_⟩;·exact no q4 (d1 k hk) (List.mem_append_left _ (c2 k e he))
 ·cases hl:look rs[j].2.upd k with|none=>rfl;|some oe=>exact absurd (List.mem_append_right _ (d2 k (by rw[hl];rfl))) (no q4 (d1 k hk))
 ·exact no q5 (d2 k hk) (c1 k e he)
theorem z0 {C:cq}{n id:Nat}{ops:Array Oper}{draw:Bool}{st:AS}{K:AS→Prop}{X0:Nat→Prop}{F:Fr}{w0:World}{α:Nat→dh}{a:Act}{w:World}{Q:Exit→Act→World→Prop}(hs:dn C.G X0 F w0 n (b9 st) α st.ss a w)(h:LH C n ops draw st K)(hq:∀st' α' a' w',K st'→dn C.G X0 F w0 n (b9 st') α' st'.ss a' w'→Q .normal a' w'):(Code.region id ops draw).wp C.P Q a w:=by
 unfold LH at h;obtain⟨st',fs,rs,h,hnx,hch,hval,hix,hlen,hfp⟩:=FH ops.toList 0 st [] _ (fun j=>by simp) h;rw[List.append_nil] at h;have hN:∀k,b9 st k→PD st.nx (fun _=>False) k:=fun k hk=>.inl hk;have hpair:rs.Pairwise fun x y=>x.1<y.1:=by
  have:(rs.map (·.1)).Pairwise (·<·):=by rw[hix];exact List.pairwise_lt_range'
  exact(List.pairwise_map.1 this)
 have hlt:∀x,x∈rs→x.1<ops.size:=by intro x hx;have:x.1∈rs.map (·.1):=List.mem_map.2 ⟨x,hx,rfl⟩;rw[hix,List.mem_range'] at this;obtain⟨i,hi,he⟩:=this;simp at hi;omega
 have hall:∀j,j<ops.size→∃x,x∈rs∧x.1=j:=by
  intro j hj;have:j∈rs.map (·.1):=by rw[hix,List.mem_range'];exact⟨j,by simpa using hj,by omega⟩
  obtain⟨x,hx,he⟩:=List.mem_map.1 this;exact⟨x,hx,he⟩
 have fin:∀st2:AS,st2.ss=st'.ss→st2.nx=st.nx+ops.toList.length→K st2→∀α' a' w',dn C.G X0 F w0 n (PD st.nx fun j=>False∨∃x,x∈rs∧x.1=j) α' st'.ss a' w'→Q .normal a' w':=by
  intro st2 h1 h2 hk α' a' w' hS;refine hq st2 α' a' w' hk ?_;rw[h1];refine hS.mono ?_;rintro k (hk|⟨j,hj|⟨x,hx,hxj⟩,hf⟩);·simp only[b9,h2];omega
  ·exact hj.elim
  ·have:=hlt x hx;simp only[b9,h2,oo,Array.length_toList] at*;omega
 cases draw with|false=>refine wp_region ?_;have h:=tz h;rw[hnx] at h;have:=Cr (Q:=Q) rs st.ss (fun _=>False) α a w hval hch hpair (fun _ _ h=>h) (hs.mono hN) (fin ⟨st'.env,st'.own,st.nx+ops.toList.length⟩ rfl rfl h);rw[hix] at this;simpa[List.range_eq_range'] using this;|true=>
  obtain⟨hd,h⟩:=h;replace h:=tz h;rw[hnx] at h;replace hd:=hd.out;simp only[Bool.and_eq_true] at hd;obtain⟨⟨hm,hsep⟩,hback⟩:=hd;refine wp_region_any hm ?_;have hsd:dn C.G X0 F w0 n (PD st.nx fun _=>False) α st.ss a {w with drawn:=w.drawn+1}:=by have:=hs.mono hN;exact⟨this.size,this.defers,fun t av ht=>co.mono (w:=w) (w':={w with drawn:=w.drawn+1}) (p:=fun _=>True) (X:=XX α st.ss.own X0) (X':=XX α st.ss.own X0) (α:=α) (α':=α) (fun b o (hb:w.heap[b]?=some o) hn=>⟨hb,hn⟩) (fun _ _=>rfl) (this.env t av ht) ((this.ok t av ht).mono fun _ _=>trivial),this.ok,fun k e hk=>lj.mono (w:=w) (w':={w with drawn:=w.drawn+1}) (p:=fun _=>True) (X:=XX α st.ss.own X0) (X':=XX α st.ss.own X0) (α:=α) (α':=α) (fun b o (hb:w.heap[b]?=some o) hn=>⟨hb,hn⟩) (fun _ _=>rfl) trivial (fun x hx=>((this.oko k e hk).2 x hx).mono fun _ _=>trivial) (fun _=>rfl) (this.own k e hk),this.oko,this.inj,this.mine,this.x0,this.fr,this.grow,this.os,this.tape,this.output,this.gl,this.fix,this.nil0⟩
  refine DN (S':=st'.ss) (N:=st.nx) (fun j o hj=>by have:=C0 hback j o (by simpa using hj);simpa using this) ops.size rs _ st.ss (fun _=>False) α a _ ?_ (by simp) ?_ hlt ?_ hval hch (Ee hlen hfp hpair hsep) (fun _ _ h=>h) hsd (fin ⟨st'.env,st'.own,st.nx+ops.toList.length⟩ rfl rfl h)
  ·have:rs.length=ops.size:=by have:=congrArg List.length hix;simpa using this
   omega
  ·intro j hj;simp only[Array.getD_eq_getD_getElem?,Array.getElem?_replicate,hj,if_true,Option.getD_some,true_iff];exact hall j hj
  ·intro j o hj hg;have hlt:j<ops.size:=(Array.getElem?_eq_some_iff.1 hj).1;simp[Array.getD_eq_getD_getElem?,hlt] at hg
end Go.Eng
namespace Go.Eng
open Go.RowKit (Below)
structure Ma {ι:Type}(inv:ι→Prop)(s:ι→AS)(st':AS):Prop where out:∃(y:ι)(ρ:List (Nat×Nat)),inv y∧D8 ρ st' (s y)
structure Jb (A:(AS→Prop)→AS→Prop)(B:AS→Prop)(st:AS):Prop where out:A B st∨∃(ι:Type)(inv:ι→Prop)(s:ι→AS),A (Ma inv s) st∧∀y,inv y→B (s y)
structure AA {ι:Type}(inv:ι→Prop)(s:ι→AS)(μ:ι→Nat)(x:ι)(st':AS):Prop where out:∃(y:ι)(ρ:List (Nat×Nat)),inv y∧μ y<μ x∧D8 ρ st' (s y)
structure HH (A:(AS→Prop)→AS→Prop)(st:AS):Prop where out:∃(ι:Type)(inv:ι→Prop)(s:ι→AS)(μ:ι→Nat)(x0:ι)(ρ:List (Nat×Nat)),inv x0∧D8 ρ st (s x0)∧∀x,inv x→A (AA inv s μ x) (s x)
theorem ad {A:(AS→Prop)→AS→Prop}{B:AS→Prop}{st:AS}(h:A B st):Jb A B st:=⟨.inl h⟩
theorem bd {A:(AS→Prop)→AS→Prop}{B:AS→Prop}{st:AS}{ι:Type}(inv:ι→Prop)(s:ι→AS)(h:A (Ma inv s) st)(h1:∀y,inv y→B (s y)):Jb A B st:=⟨.inr ⟨ι,inv,s,h,h1⟩⟩
theorem aC {ι:Type}{inv:ι→Prop}{s:ι→AS}{st':AS}(y:ι)(ρ:List (Nat×Nat))(hi:inv y)(h:D8 ρ st' (s y)):Ma inv s st':=⟨y,ρ,hi,h⟩
theorem aA {A:(AS→Prop)→AS→Prop}{st:AS}{ι:Type}(inv:ι→Prop)(s:ι→AS)(μ:ι→Nat)(x0:ι)(h0:inv x0)(ρ:List (Nat×Nat))(h:D8 ρ st (s x0))(h1:∀x,inv x→A (AA inv s μ x) (s x)):HH A st:=⟨ι,inv,s,μ,x0,ρ,h0,h,h1⟩
theorem aG {ι:Type}{inv:ι→Prop}{s:ι→AS}{μ:ι→Nat}{x:ι}{st':AS}(y:ι)(ρ:List (Nat×Nat))(hi:inv y)(h:μ y<μ x)(h1:D8 ρ st' (s y)):AA inv s μ x st':=⟨y,ρ,hi,h,h1⟩
def yh:Code→Bool|.cond ..|.block ..|.loop ..=>true|.seq a b=>yh a||yh b|.scope b=>yh b|_=>false
def WP:Type:=(AS→Prop)→(Nat→AS→Prop)→(AS→Prop)→AS→Prop
def H4 (big:Bool)(A B:WP)(Kn:AS→Prop)(Ke:Nat→AS→Prop)(Kr:AS→Prop)(st:AS):Prop:=match big with|false=>A (fun s=>B Kn Ke Kr s) Ke Kr st|true=>Jb (fun K s=>A K Ke Kr s) (fun s=>B Kn Ke Kr s) st
structure KZ (a b:Prop):Prop where out:a∧b
theorem Lh {a b:Prop}(h1:a)(h2:b):KZ a b:=⟨h1,h2⟩
def Bz (v:AV)(a b:Prop):Prop:=match v with|.ab=>KZ a b|v=>xR v fun t=>LO t a b
theorem DV {v:AV}{a b:Prop}(h:Bz v a b):∃t,(∀w α X u,co w α X v u→t=none∨u=.bool (t.getD false))∧match t with|none=>v=.ab∧a∧b|some true=>a|some false=>b:=by
 unfold Bz at h;split at h;·exact⟨none,fun _ _ _ _ _=>.inl rfl,rfl,h.out⟩
 ·unfold xR at h;split at h;·rename_i t _;refine⟨some t,fun w α X u hr=>.inr hr.dinv.binv,?_⟩;rcases h.out with⟨rfl,h⟩|⟨rfl,h⟩<;>exact h
  ·cases h
def G4 (c:Operand)(A B:WP)(Kn:AS→Prop)(Ke:Nat→AS→Prop)(Kr:AS→Prop)(st:AS):Prop:=fF st c fun v=>Bz v (A Kn Ke Kr st) (B Kn Ke Kr st)
def C4 (id:Nat)(A:WP)(Kn:AS→Prop)(Ke:Nat→AS→Prop)(Kr:AS→Prop)(st:AS):Prop:=A Kn (fun i s=>match Nat.beq i id with|true=>Kn s|false=>Ke i s) Kr st
def HT (A:WP)(_:AS→Prop)(Ke:Nat→AS→Prop)(Kr:AS→Prop)(st:AS):Prop:=HH (fun K s=>A K Ke Kr s) st
noncomputable def oc (C:cq)(n:Nat)(c:Code):WP:=Code.rec (motive:=fun _=>WP)
 (fun Kn _ _ st=>Kn st)
 (fun _ ops draw Kn _ _ st=>LH C n ops draw st Kn)
 (fun a _ A B=>H4 (yh a) A B)
 (fun c _ _ A B=>G4 c A B)
 (fun id _ A=>C4 id A)
 (fun _ A=>HT A)
 (fun _ _ _ _ _ _=>fun _ _ _ _=>False)
 (fun id _ Ke _ st=>Ke id st)
 (fun _ A=>A)
 (fun _ Kn _ _ st=>Kn st)
 (fun _ _ _ _ _=>False)
 (fun _ _ Kr st=>Kr st)
 (fun _ _ _ _ _=>False) c
theorem JH (C:cq)(n:Nat)(a b:Code)(Kn:AS→Prop)(Ke:Nat→AS→Prop)(Kr:AS→Prop)(st:AS):oc C n (.seq a b) Kn Ke Kr st=(match yh a with|false=>oc C n a (fun s=>oc C n b Kn Ke Kr s) Ke Kr st|true=>Jb (fun K s=>oc C n a K Ke Kr s) (fun s=>oc C n b Kn Ke Kr s) st):=rfl
theorem Hh (C:cq)(n:Nat)(c:Operand)(a b:Code)(Kn:AS→Prop)(Ke:Nat→AS→Prop)(Kr:AS→Prop)(st:AS):oc C n (.cond c a b) Kn Ke Kr st=fF st c fun v=>Bz v (oc C n a Kn Ke Kr st) (oc C n b Kn Ke Kr st):=rfl
theorem CD (C:cq)(n:Nat)(id:Nat)(b:Code)(Kn:AS→Prop)(Ke:Nat→AS→Prop)(Kr:AS→Prop)(st:AS):oc C n (.block id b) Kn Ke Kr st=oc C n b Kn (fun i s=>match Nat.beq i id with|true=>Kn s|false=>Ke i s) Kr st:=rfl
theorem GJ (C:cq)(n:Nat)(b:Code)(Kn:AS→Prop)(Ke:Nat→AS→Prop)(Kr:AS→Prop)(st:AS):oc C n (.loop b) Kn Ke Kr st=HH (fun K s=>oc C n b K Ke Kr s) st:=rfl
theorem ew {C:cq}{n:Nat}{X0:Nat→Prop}{F:Fr}{w0:World}(hF:∀k l,F.fix k=some l→k<16):∀(c:Code)(Kn:AS→Prop)(Ke:Nat→AS→Prop)(Kr:AS→Prop)(st:AS)(α:Nat→dh)(a:Act)(w:World)(Q:Exit→Act→World→Prop),oc C n c Kn Ke Kr st→dn C.G X0 F w0 n (b9 st) α st.ss a w→(∀st' α' a' w',Kn st'→dn C.G X0 F w0 n (b9 st') α' st'.ss a' w'→Q .normal a' w')→(∀i st' α' a' w',Ke i st'→dn C.G X0 F w0 n (b9 st') α' st'.ss a' w'→Q (.exit i) a' w')→(∀st' α' a' w',Kr st'→dn C.G X0 F w0 n (b9 st') α' st'.ss a' w'→Q .ret a' w')→c.wp C.P Q a w:=by intro c;induction c with
 |skip=>intro Kn Ke Kr st α a w Q h hs hn _ _;exact wp_skip (hn st α a w h hs);|region id ops draw=>intro Kn Ke Kr st α a w Q h hs hn _ _;exact z0 hs h hn;|seq x y ihx ihy=>
  intro Kn Ke Kr st α a w Q h hs hn he hr;have hon:∀(B:AS→Prop),(∀st' α' a' w',B st'→dn C.G X0 F w0 n (b9 st') α' st'.ss a' w'→y.wp C.P Q a' w')→oc C n x B Ke Kr st→(Code.seq x y).wp C.P Q a w:=by
   intro B hB h;refine wp_seq (ihx B Ke Kr st α a w _ h hs ?_ ?_ ?_);·intro st' α' a' w' hk hs';exact hB st' α' a' w' hk hs'
   ·intro i st' α' a' w' hk hs';exact he i st' α' a' w' hk hs'
   ·intro st' α' a' w' hk hs';exact hr st' α' a' w' hk hs'
  have hy:∀st' α' a' w',oc C n y Kn Ke Kr st'→dn C.G X0 F w0 n (b9 st') α' st'.ss a' w'→y.wp C.P Q a' w':=fun st' α' a' w' hk hs'=>ihy Kn Ke Kr st' α' a' w' Q hk hs' hn he hr;rw[JH] at h;split at h;·exact hon _ hy h
  ·rcases h.out with h|⟨ι,inv,s,h,h1⟩;·exact hon _ hy h
   ·refine hon _ (fun st' α' a' w' hk hs'=>?_) h;obtain⟨z,ρ,hz,hle⟩:=hk.out;have hs'':=hle.sim hs' hF;exact hy _ _ a' w' (h1 z hz) hs'';|cond c x y ihx ihy=>intro Kn Ke Kr st α a w Q h hs hn he hr;rw[Hh] at h;replace h:=bx h;obtain⟨av,h1,h⟩:=h;obtain⟨t,ht,h⟩:=DV h;match t,ht,h with
  |none,_,⟨hab,ha,hb⟩=>subst hab;have hrd:=h1.read hs;generalize hv:a.eval c=v at hrd;cases hrd with|ab t=>refine wp_cond hv ?_;cases t with|true=>exact ihx Kn Ke Kr st α a w Q ha hs hn he hr;|false=>exact ihy Kn Ke Kr st α a w Q hb hs hn he hr
  |some true,ht,h=>refine wp_cond ((ht w _ _ _ (h1.read hs)).resolve_left (fun e=>by cases e)) ?_;exact ihx Kn Ke Kr st α a w Q h hs hn he hr;|some false,ht,h=>refine wp_cond ((ht w _ _ _ (h1.read hs)).resolve_left (fun e=>by cases e)) ?_;exact ihy Kn Ke Kr st α a w Q h hs hn he hr
 |block id b ih=>
  intro Kn Ke Kr st α a w Q h hs hn he hr;rw[CD] at h;refine wp_block (ih _ _ _ st α a w _ h hs ?_ ?_ ?_);·intro st' α' a' w' hk hs';exact hn st' α' a' w' hk hs'
  ·intro i st' α' a' w' hk hs';simp only[Exit.inBlock];cases hb:Nat.beq i id with|true=>simp only[hb] at hk;rw[if_pos (Nd hb)];exact hn st' α' a' w' hk hs';|false=>simp only[hb] at hk;rw[if_neg (fun e=>by subst e;simp at hb)];exact he i st' α' a' w' hk hs'
  ·intro st' α' a' w' hk hs';exact hr st' α' a' w' hk hs';|loop b ih=>
  intro Kn Ke Kr st α a w Q h hs hn he hr;rw[GJ] at h;obtain⟨ι,inv,s,μ,x0,ρ,h0,hle,h⟩:=h.out;refine wp_loop_ghost (fun m a w=>∃x α,inv x∧μ x=m∧dn C.G X0 F w0 n (b9 (s x)) α (s x).ss a w) (μ x0) ?_ ?_;·have hs':=hle.sim hs hF;exact⟨x0,_,h0,rfl,hs'⟩
  ·rintro m a w ⟨x,α,hx,rfl,hsx⟩;refine ih _ Ke Kr (s x) α a w _ (h x hx) hsx ?_ ?_ ?_;·rintro st' α' a' w' ⟨y,ρ,hy,hlt,hle⟩ hs';have hs'':=hle.sim hs' hF;exact⟨μ y,hlt,y,_,hy,rfl,hs''⟩
   ·intro i st' α' a' w' hk hs';exact he i st' α' a' w' hk hs'
   ·intro st' α' a' w' hk hs';exact hr st' α' a' w' hk hs';|exit id=>intro Kn Ke Kr st α a w Q h hs _ he _;exact wp_exit (he id st α a w h hs);|label l=>intro Kn Ke Kr st α a w Q h hs hn _ _;exact wp_label (hn st α a w h hs);|ret=>intro Kn Ke Kr st α a w Q h hs _ _ hr;exact wp_ret (hr st α a w h hs);|rangeFunc f ps x y _ _=>intro Kn Ke Kr st α a w Q h;exact h.elim;|scope b ih=>
  intro Kn Ke Kr st α a w Q h hs hn he hr;refine wp_scope_straight (ih Kn Ke Kr st α a w _ h hs ?_ ?_ ?_);·intro st' α' a' w' hk hs';exact hn st' α' a' w' hk hs'
  ·intro i st' α' a' w' hk hs';exact he i st' α' a' w' hk hs'
  ·intro st' α' a' w' hk hs';exact hr st' α' a' w' hk hs';|goto l=>intro Kn Ke Kr st α a w Q h;exact h.elim;|refuse s=>intro Kn Ke Kr st α a w Q h;exact h.elim
def rvK (C:cq)(st:AS)(r:ResultVar)(K:D→Prop):Prop:=match r with|.tmp t=>aW st.env t fun a=>nM st a fun d _=>K d|.cell t T=>aW st.env t fun p=>tO C st T p fun a _=>nM st a fun d _=>K d
def Jm (C:cq)(st:AS):List ResultVar→(List D→Prop)→Prop|[],K=>K []|r::l,K=>rvK C st r fun d=>Jm C st l fun ds=>K (d::ds)
def oM (tmps:Array Value):ResultVar→Sem Value|.tmp t=>pure (tmps.getD t undef)|.cell a t=>do loadVar t (←asAddr (tmps.getD a undef))
theorem IG {C:cq}{n:Nat}{st:AS}{r:ResultVar}{K:D→Prop}(h:rvK C st r K):∃d,K d∧∀{X0 F w0 α a w},dn C.G X0 F w0 n (b9 st) α st.ss a w→∃v,(oM a.tmps r).run C.P w=.ok v w∧Rd w X0 d v:=by
 have fin:∀{av:AV}{K:D→Prop},(nM st av fun d _=>K d)→∃d,K d∧∀{X0 F w0 α a w v},dn C.G X0 F w0 n (b9 st) α st.ss a w→co w α (XX α st.ss.own X0) av v→Rd w X0 d v:=by intro av K h;obtain⟨d,us,h,ht⟩:=iV h;refine⟨d,h,fun{X0 F w0 α a w v} hs hr=>ht.rd w α _ X0 v hr (fun k _ e he=>hs.own k e he) (fun b hb=>.inr hb) fun k hk hnil hx=>?_⟩;obtain⟨e,he⟩:=ht.ent k hk;exact(hs.mine k e he hnil).2 hx
 cases r with|tmp t=>simp only[rvK] at h;replace h:=aJ h;obtain⟨av,hl,h⟩:=h;obtain⟨d,hk,hr⟩:=fin h;exact⟨d,hk,fun{X0 F w0 α a w} hs=>⟨_,rfl,hr hs (hs.env t av hl)⟩⟩;|cell t T=>simp only[rvK] at h;replace h:=aJ h;obtain⟨p,hl,h⟩:=h;obtain⟨av,rd,h,hrun⟩:=ny (n:=n) h;obtain⟨d,hk,hr⟩:=fin h;refine⟨d,hk,fun{X0 F w0 α a w} hs=>?_⟩;obtain⟨v,⟨b,hb,hv⟩,hrv,_⟩:=hrun hs (fun k _ e he=>he) (hs.env t p hl);refine⟨v,?_,hr hs hrv⟩;simp[oM,hb,asAddr,hv]
theorem xP {C:cq}{n:Nat}{st:AS}{rs:List ResultVar}{K:List D→Prop}(h:Jm C st rs K):∃ds,K ds∧∀{X0 F w0 α a w},dn C.G X0 F w0 n (b9 st) α st.ss a w→∃vs,(rs.mapM (oM a.tmps)).run C.P w=.ok vs w∧ds.length=vs.length∧∀(j:Nat)(d:D)(v:Value),ds[j]?=some d→vs[j]?=some v→Rd w X0 d v:=by induction rs generalizing K with|nil=>exact⟨[],h,fun{X0 F w0 α a w} hs=>⟨[],by simp,rfl,by simp⟩⟩;|cons r l ih=>
 simp only[Jm] at h;obtain⟨d,h,hr⟩:=IG (n:=n) h;obtain⟨ds,h,hrs⟩:=ih h;refine⟨d::ds,h,fun{X0 F w0 α a w} hs=>?_⟩;obtain⟨v,hv,hd⟩:=hr hs;obtain⟨vs,hvs,hl,hds⟩:=hrs hs;refine⟨v::vs,?_,by simp[hl],fun j d' v' h1 h2=>?_⟩;·simp[List.mapM_cons,hv,hvs]
 ·cases j with|zero=>simp at h1 h2;subst h1 h2;exact hd;|succ j=>exact hds j d' v' (by simpa using h1) (by simpa using h2)
theorem iu {P:Program}{fn:Func}{tmps:Array Value}{w:World}{vs:List Value}(h:(fn.results.toList.mapM (oM tmps)).run P w=.ok vs w):∃v,(results fn tmps).run P w=.ok v w∧(∀x,vs=[x]→v=x)∧(vs.length≠1→v=.tuple vs.toArray):=by
 have e:(results fn tmps)=(do let vs←(fn.results.mapM (oM tmps));pure (if h:vs.size=1 then vs[0] else .tuple vs)):=by unfold results;congr 1
 rw[Array.mapM_eq_mapM_toList] at e;rw[e];by_cases hl:vs.length=1
 ·obtain⟨x,rfl⟩:∃x,vs=[x]:=by match vs,hl with|[x],_=>exact⟨x,rfl⟩
  exact⟨x,by simp[h],fun y hy=>by cases hy;rfl,fun hn=>absurd rfl hn⟩
 ·exact⟨.tuple vs.toArray,by simp[h,hl],fun y hy=>by subst hy;simp at hl,fun _=>rfl⟩
def qW:Nat→List D→List (Nat×AV)|_,[]=>[]|i,d::ds=>(i,.d d)::qW (i+1) ds
theorem jY:∀(ds:List D)(i t:Nat)(av:AV),look (qW i ds) t=some av→∃d,i≤t∧ds[t-i]?=some d∧av=.d d
 |[],i,t,av,h=>by simp[qW,look] at h;|d::ds,i,t,av,h=>by
  simp only[qW,look] at h;split at h;·rename_i hb;have:=Nd hb;subst this;cases h;exact⟨d,Nat.le_refl _,by simp,rfl⟩
  ·obtain⟨d',h1,h2,h3⟩:=jY ds (i+1) t av h;refine⟨d',by omega,?_,h3⟩;rw[show t-i=(t-(i+1))+1 by omega];simpa using h2
def jL (ds:List D):AS:=⟨qW 0 ds,[],1⟩
def x9 (C:cq)(rs:List ResultVar)(out:List D)(st:AS):Prop:=Jm C st rs fun ds=>ds=out
theorem tC {C:cq}{fn:Func}{n:Nat}{ds:List D}{w:World}{X:Nat→Prop}{vs:Array Value}(hn:fn.ntmps=n)(hle:ds.length≤n)(hX:∀b,X b→b<w.heap.size)(hG:∀x,x∈C.G→x.g<w.heap.size∧¬X x.g∧zT w X x)(hl:ds.length=vs.size)(hd:∀(j:Nat)(d:D)(v:Value),ds[j]?=some d→vs[j]?=some v→Rd w X d v):dn C.G X ⟨fun _=>False,fun _=>none,[]⟩ w n (b9 (jL ds)) (fun _=>⟨0,0,0,true,.slice none 0 0⟩) (jL ds).ss {tmps:=vs++Array.replicate (fn.ntmps-vs.size) undef,defers:=[]} w:=by
 refine⟨by simp[hn];omega,rfl,fun t av ht=>?_,fun t av ht=>?_,fun k e hk=>?_,fun k e hk=>?_,fun k e k' e' hk=>?_,fun k e hk=>?_,hX,fun _ _ _=>rfl,Nat.le_refl _,rfl,rfl,rfl,fun x hx=>?_,(fun k l hk=>by cases hk),⟨rfl,rfl,by show 14/16<1;decide⟩⟩
 ·obtain⟨d,_,h2,rfl⟩:=jY ds 0 t av ht;simp only[Nat.sub_zero] at h2;have hlt:t<vs.size:=by rw[←hl];exact(Nc.1 h2).1
  refine .d d _ ((hd t d ((vs++Array.replicate (fn.ntmps-vs.size) undef).getD t undef) h2 ?_).mono fun b o hb hn=>⟨hb,?_⟩);·simp[Array.getD_eq_getD_getElem?,Array.getElem?_append,hlt]
  ·rintro(⟨k,e,hk,_⟩|hx);·simp[jL,AS.ss,look] at hk
   ·exact hn hx
 ·obtain⟨d,_,h2,rfl⟩:=jY ds 0 t av ht;exact .d d
 ·simp[jL,AS.ss,look] at hk
 ·simp[jL,AS.ss,look] at hk
 ·simp[jL,AS.ss,look] at hk
 ·simp[jL,AS.ss,look] at hk
 ·obtain⟨h1,h2,h3⟩:=hG x hx;refine⟨h1,id,h2,?_⟩;obtain⟨arr,T,fz,h4,hsz,h5,h6⟩:=h3;refine⟨arr,T,fz,h4,hsz,h5,fun j m d c hj hm=>?_⟩;obtain⟨v,hv,hr⟩:=h6 j m d c hj hm;exact⟨v,hv,hr.mono fun b o hb hn=>⟨hb,fun h=>hn (h.elim id False.elim)⟩⟩
theorem DP {X:Nat→Prop}{w':World}{rs:List D}{us:List Value}{v:Value}(hlen:rs.length=us.length)(hrd:∀(j:Nat)(d:D)(v:Value),rs[j]?=some d→us[j]?=some v→Rd w' X d v)(he1:∀x,us=[x]→v=x)(he2:us.length≠1→v=.tuple us.toArray):co w' (fun _=>⟨0,0,0,false,.bool false⟩) X (gP rs) v:=by
 unfold gP;split
 ·rename_i r;obtain⟨u,rfl⟩:∃u,us=[u]:=by match us,hlen with|[x],_=>exact⟨x,rfl⟩
  rw[he1 u rfl];exact .d r u (hrd 0 r u rfl rfl)
 ·rename_i hne;have:us.length≠1:=by intro h;rw[←hlen] at h;match rs,h with|[x],_=>exact hne x rfl
  rw[he2 this];refine .tup _ _ (by simp[hlen]) fun j c v h1 h2=>?_;simp only[List.getElem?_map,Nk] at h1;obtain⟨d,h1,rfl⟩:=h1;exact .d d v (hrd j d v h1 (by simpa using h2))
theorem ay.mk {C:cq}{f:FuncId}{fn:Func}{body:Code}{n:Nat}{ds rs:List D}(hf:C.P.funcs[f]?=some fn)(h1:(fn.name== "runtime.NumGoroutine")=false)(hb:fn.body=some body)(hn:fn.ntmps=n)(hle:ds.length≤n)(h:oc C n body (x9 C fn.results.toList rs) (fun _ _=>False) (x9 C fn.results.toList rs) (jL ds)):ay C f ds rs:=by
 refine⟨⟨fn,hf,h1,by simp[hb]⟩,fun w X vs hX hG hl hd=>calls_of_wp hf hb ?_⟩;have hs:=tC (n:=n) (fn:=fn) hn hle hX hG hl hd;have fin:∀st' α' a' w',x9 C fn.results.toList rs st'→dn C.G X ⟨fun _=>False,fun _=>none,[]⟩ w n (b9 st') α' st'.ss a' w'→a'.defers=[]∧∃v,(results fn a'.tmps).run C.P w'=.ok v w'∧∃v',Ending.returned v=.returned v'∧co w' (fun _=>⟨0,0,0,false,.bool false⟩) X (gP rs) v'∧Below w.heap.size w w':=by
  intro st' α' a' w' hk hs';obtain⟨out,rfl,hrun⟩:=xP (n:=n) hk;obtain⟨us,hus,hlen,hrd⟩:=hrun hs';obtain⟨v,hv,he1,he2⟩:=iu hus;refine⟨hs'.defers,v,hv,v,rfl,?_,?_⟩
  ·unfold gP;split
   ·rename_i r;obtain⟨u,rfl⟩:∃u,us=[u]:=by match us,hlen with|[x],_=>exact⟨x,rfl⟩
    rw[he1 u rfl];exact .d r u (hrd 0 r u rfl rfl)
   ·rename_i hne;have:us.length≠1:=by intro h;rw[←hlen] at h;match out,h with|[x],_=>exact hne x rfl
    rw[he2 this];refine .tup _ _ (by simp[hlen]) fun j c v h1 h2=>?_;simp only[List.getElem?_map,Nk] at h1;obtain⟨d,h1,rfl⟩:=h1;exact .d d v (hrd j d v h1 (by simpa using h2))
  ·exact⟨hs'.os,hs'.tape,hs'.output,hs'.grow,fun b hb=>hs'.fr b hb id⟩
 refine ew (fun _ _ h=>by cases h) body _ _ _ (jL ds) _ _ w _ h hs ?_ ?_ ?_;·intro st' α' a' w' hk hs';exact fin st' α' a' w' hk hs'
 ·intro i st' α' a' w' hk;exact hk.elim
 ·intro st' α' a' w' hk hs';exact fin st' α' a' w' hk hs'
end Go.Eng

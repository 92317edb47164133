/- A part of the proof of what is stated of the erasing of a mirror. -/
import Derived.Test.YtgfdbddglhblbaaGreatQaa
import Derived.Laws.Entries
import Derived.Laws.Cells
import Derived.Laws.Strings
set_option maxHeartbeats 64000000
namespace Go.Eng
def LO (t:Bool)(A B:Prop):Prop:=match t with|true=>A|false=>B
theorem LO.out {t:Bool}{A B:Prop}(h:LO t A B):(t=true∧A)∨(t=false∧B):=by
 cases t;·exact .inr ⟨rfl,h⟩
 ·exact .inl ⟨rfl,h⟩
structure f9 (p:Bool)(K:Bool→Prop):Prop where out:K p
theorem ae {q:Prop} [Decidable q]{K:Bool→Prop}(h1:q→K true)(h2:¬q→K false):f9 (decide q) K:=by
 constructor;by_cases h:q;·rw[decide_eq_true h];exact h1 h
 ·rw[decide_eq_false h];exact h2 h
theorem aj {q:Prop} [Decidable q]{K:Bool→Prop}(h:q)(h1:K true):f9 (decide q) K:=by constructor;rw[decide_eq_true h];exact h1
theorem ai {q:Prop} [Decidable q]{K:Bool→Prop}(h:¬q)(h1:K false):f9 (decide q) K:=by constructor;rw[decide_eq_false h];exact h1
theorem Gh {p:Bool}{K:Bool→Prop}(h:K p):f9 p K:=⟨h⟩
theorem bE {p:Bool}(t:Bool){K:Bool→Prop}(h:p=t)(h1:K t):f9 p K:=⟨by rw[h];exact h1⟩
structure vY (k:IntKind)(e:Int)(K:Int→Prop):Prop where out:K (k.wrap e)
theorem cY {k:IntKind}{e:Int}{K:Int→Prop}(h:K (k.wrap e)):vY k e K:=⟨h⟩
theorem gJ {e:Int}(h1:-9223372036854775808≤e)(h2:e≤9223372036854775807):IntKind.i64.wrap e=e:=by
 have hb:(IntKind.i64.wrap e)=e:=by simp only[IntKind.wrap];rw[show ((2:Int)^(IntKind.i64.bits-1))=9223372036854775808 from by decide,show((2:Int)^IntKind.i64.bits)=18446744073709551616 from by decide];simp[IntKind.signed];omega
 exact hb
theorem ar {e:Int}{K:Int→Prop}(h:-9223372036854775808≤e∧e≤9223372036854775807)(h1:K e):vY .i64 e K:=by constructor;rw[gJ h.1 h.2];exact h1
theorem bW {k:IntKind}{e:Int}{K:Int→Prop}(r:Int)(h:k.wrap e=r)(h1:K r):vY k e K:=by constructor;rw[h];exact h1
structure zq (y:Int)(K:Prop):Prop where out:y≠0∧K
theorem eV {y:Int}{K:Prop}(h:y≠0)(h1:K):zq y K:=⟨h,h1⟩
structure Ja (i:Int)(n:Nat)(K:Nat→Prop):Prop where out:∃j:Nat,i=(j:Int)∧j<n∧K j
theorem bh {i:Int}{n:Nat}{K:Nat→Prop}(j:Nat)(h:i=(j:Int))(h1:j<n)(h2:K j):Ja i n K:=⟨j,h,h1,h2⟩
structure Ei (m n:Nat)(K:Prop):Prop where out:m=n∧K
theorem bL {m n:Nat}{K:Prop}(h:m=n)(h1:K):Ei m n K:=⟨h,h1⟩
structure IR {β:Type}(i:Int)(l:List β)(K:Nat→β→Prop):Prop where out:∃(j:Nat)(x:β),i=(j:Int)∧l[j]?=some x∧K j x
theorem ao {β:Type}{i:Int}{l:List β}{K:Nat→β→Prop}(j:Nat){x:β}(h:i=(j:Int))(h1:l[j]?=some x)(h2:K j x):IR i l K:=⟨j,x,h,h1,h2⟩
structure Ab (i:Int)(n:Nat)(K:Nat→Prop):Prop where out:∃j:Nat,i=(j:Int)∧j≤n∧K j
theorem bnd {i:Int}{n:Nat}{K:Nat→Prop}(j:Nat)(h:i=(j:Int))(h1:j≤n)(h2:K j):Ab i n K:=⟨j,h,h1,h2⟩
def xR (a:AV)(K:Bool→Prop):Prop:=match a with|.d (.b t)=>K t|_=>False
def nC (a:AV)(K:IntKind→Int→Prop):Prop:=match a with|.d (.i k n)=>K k n|_=>False
def cF (op:BinOp)(k:IntKind)(x y:Int):Int:=match op with|.and=>k.wrap (BitVec.ofInt k.bits x&&&BitVec.ofInt k.bits y).toNat|.or=>k.wrap (BitVec.ofInt k.bits x|||BitVec.ofInt k.bits y).toNat|.xor=>k.wrap (BitVec.ofInt k.bits x^^^BitVec.ofInt k.bits y).toNat|_=>k.wrap (BitVec.ofInt k.bits x&&&~~~BitVec.ofInt k.bits y).toNat
def EF (op:BinOp)(k:IntKind)(x y:Int)(K:AV→Prop):Prop:=match op with|.add=>vY k (x+y) fun r=>K (.d (.i k r))|.sub=>vY k (x-y) fun r=>K (.d (.i k r))|.mul=>vY k (x*y) fun r=>K (.d (.i k r))|.quo=>zq y (vY k (x.tdiv y) fun r=>K (.d (.i k r)))|.rem=>zq y (K (.d (.i k (x.tmod y))))|.and=>K (.d (.i k (cF .and k x y)))|.or=>K (.d (.i k (cF .or k x y)))|.xor=>K (.d (.i k (cF .xor k x y)))|.andNot=>K (.d (.i k (cF .andNot k x y)))|.eql=>f9 (decide (x=y)) fun t=>K (.d (.b t))|.neq=>f9 (decide (x≠y)) fun t=>K (.d (.b t))|.lss=>f9 (decide (x<y)) fun t=>K (.d (.b t))|.leq=>f9 (decide (x≤y)) fun t=>K (.d (.b t))|.gtr=>f9 (decide (y<x)) fun t=>K (.d (.b t))|.geq=>f9 (decide (y≤x)) fun t=>K (.d (.b t))|_=>False
def Hf (op:BinOp)(k:IntKind)(x y:Int)(K:AV→Prop):Prop:=match op with|.shl=>0≤y∧vY k (x*2^(min y.toNat k.bits)) fun r=>K (.d (.i k r))|.shr=>0≤y∧K (.d (.i k (x.fdiv (2^(min y.toNat k.bits)))))|_=>False
structure LenK (n:Nat)(K:Prop):Prop where out:n≤9223372036854775807∧K
theorem bg {n:Nat}{K:Prop}(h:n≤9223372036854775807)(h1:K):LenK n K:=⟨h,h1⟩
def Hq (op:BinOp)(x y:List UInt8)(K:AV→Prop):Prop:=match op with|.add=>LenK (x.length+y.length) (K (.d (.s (x++y))))|.eql=>f9 (decide (x=y)) fun t=>K (.d (.b t))|.neq=>f9 (decide (x≠y)) fun t=>K (.d (.b t))|.lss=>f9 (Op.bytesLess x y) fun t=>K (.d (.b t))|.leq=>f9 (Op.bytesLess x y||x==y) fun t=>K (.d (.b t))|.gtr=>f9 (!(Op.bytesLess x y||x==y)) fun t=>K (.d (.b t))|.geq=>f9 (!Op.bytesLess x y) fun t=>K (.d (.b t))|_=>False
def vC (op:BinOp):Bool:=match op with|.shl|.shr=>true|_=>false
def xH (C:cq)(T:TypeId)(op:BinOp)(a b:AV)(K:AV→Prop):Prop:=match a,b with
 |.d (.i k x),.d (.i k' y)=>match vC op with
  |true=>Hf op k x y K|false=>match xN k k' with|true=>EF op k x y K|false=>False
 |.d (.s x),.d (.s y)=>Hq op x y K|.d (.b x),.d (.b y)=>aW C.tab T fun ti=>match ti.kd with
  |.bool=>match op with
   |.eql=>f9 (x==y) fun t=>K (.d (.b t))|.neq=>f9 (x !=y) fun t=>K (.d (.b t))|_=>False
  |_=>False
 |_,_=>False
theorem yJ {P:Program}{op:BinOp}{T:TypeId}{k:IntKind}{x y:Int}{K:AV→Prop}(hsh:vC op=false)(h:EF op k x y K):∃d:D,K (.d d)∧∀w X,∃v,(binOp op T (.int k x) (.int k y)).run P w=.ok v w∧Rd w X d v:=by
 cases op<;>first|(simp[vC] at hsh;done)|skip
 case add=>exact⟨_,vY.out h,fun w X=>⟨_,by simp[binOp,Op.intArith],.i _ _⟩⟩
 case sub=>exact⟨_,vY.out h,fun w X=>⟨_,by simp[binOp,Op.intArith],.i _ _⟩⟩
 case mul=>exact⟨_,vY.out h,fun w X=>⟨_,by simp[binOp,Op.intArith],.i _ _⟩⟩
 case quo=>exact⟨_,vY.out (zq.out h).2,fun w X=>⟨_,by simp[binOp,Op.intDiv,(zq.out h).1],.i _ _⟩⟩
 case rem=>exact⟨_,(zq.out h).2,fun w X=>⟨_,by simp[binOp,Op.intDiv,(zq.out h).1],.i _ _⟩⟩
 case and=>exact⟨_,h,fun w X=>⟨_,by simp[binOp,Op.intBits,cF],.i _ _⟩⟩
 case or=>exact⟨_,h,fun w X=>⟨_,by simp[binOp,Op.intBits,cF],.i _ _⟩⟩
 case xor=>exact⟨_,h,fun w X=>⟨_,by simp[binOp,Op.intBits,cF],.i _ _⟩⟩
 case andNot=>exact⟨_,h,fun w X=>⟨_,by simp[binOp,Op.intBits,cF],.i _ _⟩⟩
 case eql=>exact⟨_,f9.out h,fun w X=>⟨_,by simp[binOp,Op.intCmp];rfl,.b _⟩⟩
 case neq=>exact⟨_,f9.out h,fun w X=>⟨_,by simp[binOp,Op.intCmp,bne];rfl,by rw[show (!(x==y))=decide (x≠y) from by simp[BEq.beq]];exact .b _⟩⟩
 case lss=>exact⟨_,f9.out h,fun w X=>⟨_,by simp[binOp,Op.intCmp],.b _⟩⟩
 case leq=>exact⟨_,f9.out h,fun w X=>⟨_,by simp[binOp,Op.intCmp],.b _⟩⟩
 case gtr=>exact⟨_,f9.out h,fun w X=>⟨_,by simp[binOp,Op.intCmp],.b _⟩⟩
 case geq=>exact⟨_,f9.out h,fun w X=>⟨_,by simp[binOp,Op.intCmp],.b _⟩⟩
end Go.Eng
namespace Go.Eng
theorem co.dinv {w:World}{α:Nat→dh}{X:Nat→Prop}{x:D}{v:Value}(h:co w α X (.d x) v):Rd w X x v:=by cases h;assumption
theorem Rd.iinv {w:World}{X:Nat→Prop}{k:IntKind}{n:Int}{v:Value}(h:Rd w X (.i k n) v):v=.int k n:=by cases h;rfl
theorem Rd.binv {w:World}{X:Nat→Prop}{t:Bool}{v:Value}(h:Rd w X (.b t) v):v=.bool t:=by cases h;rfl
theorem Rd.sinv {w:World}{X:Nat→Prop}{l:List UInt8}{v:Value}(h:Rd w X (.s l) v):v=.string ⟨l.toArray⟩:=by cases h;rfl
theorem iv (l:List UInt8):(ByteArray.mk l.toArray).size=l.length:=by simp[ByteArray.size]
theorem Cg (x y:List UInt8):(ByteArray.mk x.toArray)++(ByteArray.mk y.toArray)=⟨(x++y).toArray⟩:=by apply ByteArray.ext;simp
theorem zh {P:Program}{T:TypeId}{ti:iQ}(ht:eD P T ti)(hk:ti.kd=.bool)(x y:Bool)(w:World):(Op.equal T (.bool x) (.bool y)).run P w=.ok (x==y) w:=by
 obtain⟨_,u,hu,_,hc⟩:=ht;rw[hk] at hc;cases u<;>simp[j6] at hc;have:∀d,(Op.equalIn (d+1) T (.bool x) (.bool y)).run P w=.ok (x==y) w:=fun d=>by simp[Op.equalIn,underlying,hu]
 exact this 9999
theorem Hu {C:cq}{op:BinOp}{T:TypeId}{a b:AV}{K:AV→Prop}(h:xH C T op a b K):∃d:D,K (.d d)∧∀w α X va vb (x y:Operand),co w α X a va→co w α X b vb→∃v,(do eqGuard op T x y va vb;binOp op T va vb:Sem Value).run C.P w=.ok v w∧Rd w X d v:=by
 unfold xH at h;split at h
 ·rename_i k x k' y;split at h
  ·rename_i hsh;unfold Hf at h;split at h;·refine⟨_,h.2.out,fun w α X va vb ox oy ha hb=>?_⟩;rw[ha.dinv.iinv,hb.dinv.iinv];exact⟨_,by simp[eqGuard,binOp,Op.shift,Int.not_lt.2 h.1],.i _ _⟩
   ·refine⟨_,h.2,fun w α X va vb ox oy ha hb=>?_⟩;rw[ha.dinv.iinv,hb.dinv.iinv];exact⟨_,by simp[eqGuard,binOp,Op.shift,Int.not_lt.2 h.1],.i _ _⟩
   ·cases h
  ·rename_i hsh;split at h
   ·rename_i hk;have:=p9 hk;subst this;obtain⟨d,hd,hr⟩:=yJ (P:=C.P) (T:=T) hsh h;refine⟨d,hd,fun w α X va vb ox oy ha hb=>?_⟩;rw[ha.dinv.iinv,hb.dinv.iinv];obtain⟨v,h1,h2⟩:=hr w X;refine⟨v,?_,h2⟩;have:(eqGuard op T ox oy (.int k x) (.int k y)).run C.P w=.ok () w:=by unfold eqGuard;cases op<;>simp
    simp[this,h1]
   ·cases h
 ·rename_i x y;unfold Hq at h;split at h
  ·refine⟨_,h.out.2,fun w α X va vb ox oy ha hb=>?_⟩;rw[ha.dinv.sinv,hb.dinv.sinv];have hle:=h.out.1;refine⟨.string ⟨(x++y).toArray⟩,?_,.s _⟩;have:¬(((ByteArray.mk x.toArray).size+(ByteArray.mk y.toArray).size:Nat):Int)>IntKind.i64.max:=by
    rw[iv,iv];have:IntKind.i64.max=9223372036854775807:=by decide
    omega
   simp only[eqGuard,binOp,Op.stringOp];rw[if_neg this,Cg];simp
  ·refine⟨_,h.out,fun w α X va vb ox oy ha hb=>?_⟩;rw[ha.dinv.sinv,hb.dinv.sinv];refine⟨.bool (decide (x=y)),?_,.b _⟩;have:((x==y):Bool)=decide (x=y):=by rw[Bool.eq_iff_iff];simp
   simp[eqGuard,binOp,Op.stringOp,this]
  ·refine⟨_,h.out,fun w α X va vb ox oy ha hb=>?_⟩;rw[ha.dinv.sinv,hb.dinv.sinv];refine⟨.bool (decide (x≠y)),?_,.b _⟩;have:((x==y):Bool)=decide (x=y):=by rw[Bool.eq_iff_iff];simp
   simp[eqGuard,binOp,Op.stringOp,this]
  ·refine⟨_,h.out,fun w α X va vb ox oy ha hb=>?_⟩;rw[ha.dinv.sinv,hb.dinv.sinv];exact⟨_,by simp[eqGuard,binOp,Op.stringOp],.b _⟩
  ·refine⟨_,h.out,fun w α X va vb ox oy ha hb=>?_⟩;rw[ha.dinv.sinv,hb.dinv.sinv];exact⟨_,by simp[eqGuard,binOp,Op.stringOp],.b _⟩
  ·refine⟨_,h.out,fun w α X va vb ox oy ha hb=>?_⟩;rw[ha.dinv.sinv,hb.dinv.sinv];exact⟨_,by simp[eqGuard,binOp,Op.stringOp],.b _⟩
  ·refine⟨_,h.out,fun w α X va vb ox oy ha hb=>?_⟩;rw[ha.dinv.sinv,hb.dinv.sinv];exact⟨_,by simp[eqGuard,binOp,Op.stringOp],.b _⟩
  ·cases h
 ·rename_i x y;obtain⟨ti,hti,h⟩:=aJ h;split at h
  ·rename_i hk;have he:=zh (C.ty hti) hk x y;split at h;·refine⟨_,h.out,fun w α X va vb ox oy ha hb=>?_⟩;rw[ha.dinv.binv,hb.dinv.binv];refine⟨.bool (x==y),?_,.b _⟩;simp[eqGuard,binOp,he]
   ·refine⟨_,h.out,fun w α X va vb ox oy ha hb=>?_⟩;rw[ha.dinv.binv,hb.dinv.binv];refine⟨.bool (x !=y),?_,.b _⟩;simp[eqGuard,binOp,he,bne]
   ·cases h
  ·cases h
 ·cases h
def unK (op:UnOp)(a:AV)(K:AV→Prop):Prop:=match op,a with
 |.not,.d (.b t)=>match t with|true=>K (.d (.b false))|false=>K (.d (.b true))
 |.neg,.d (.i k n)=>vY k (0-n) fun r=>K (.d (.i k r))|.xor,.d (.i k n)=>K (.d (.i k (cF .xor k (if k.signed then-1 else k.max) n)))|_,_=>False
theorem JD {P:Program}{op:UnOp}{a:AV}{K:AV→Prop}(h:unK op a K):∃d:D,K (.d d)∧∀w α X va,co w α X a va→∃v,(Op.unary op va).run P w=.ok v w∧Rd w X d v:=by
 unfold unK at h;split at h
 ·rename_i t;cases t;·refine⟨_,h,fun w α X va ha=>?_⟩;rw[ha.dinv.binv];exact⟨_,by simp[Op.unary],.b _⟩
  ·refine⟨_,h,fun w α X va ha=>?_⟩;rw[ha.dinv.binv];exact⟨_,by simp[Op.unary],.b _⟩
 ·refine⟨_,h.out,fun w α X va ha=>?_⟩;rw[ha.dinv.iinv];exact⟨_,by simp[Op.unary,Op.intArith],.i _ _⟩
 ·refine⟨_,h,fun w α X va ha=>?_⟩;rw[ha.dinv.iinv];exact⟨_,by simp[Op.unary,Op.intBits,cF],.i _ _⟩
 ·cases h
def nE {β:Type}:List β→Nat→(β→Prop)→Prop|[],_,_=>False|x::_,0,K=>K x|_::l,j+1,K=>nE l j K
theorem fD {β:Type}{l:List β}{j:Nat}{K:β→Prop}(h:nE l j K):∃x,l[j]?=some x∧K x:=by induction l generalizing j with|nil=>cases h;|cons y l ih=>cases j with|zero=>exact⟨y,rfl,h⟩;|succ j=>obtain⟨x,h1,h2⟩:=ih h;exact⟨x,by simpa using h1,h2⟩
def iX {β:Type}:List β→Nat→Nat→(List β→Prop)→Prop|_,0,0,K=>K []|x::l,0,n+1,K=>iX l 0 n fun r=>K (x::r)|_::l,j+1,n,K=>iX l j n K|[],_,_,_=>False
theorem ll {β:Type}{l:List β}{j n:Nat}{K:List β→Prop}(h:iX l j n K):∃r,r.length=n∧(∀m x,r[m]?=some x→l[j+m]?=some x)∧K r:=by induction l generalizing j n K with
 |nil=>cases j<;>cases n<;>simp only[iX] at h;exact⟨[],rfl,fun m x hx=>by simp at hx,h⟩;|cons y l ih=>cases j with
 |zero=>cases n with|zero=>simp only[iX] at h;exact⟨[],rfl,fun m x hx=>by simp at hx,h⟩;|succ n=>simp only[iX] at h;obtain⟨r,h1,h2,h3⟩:=ih h;refine⟨y::r,by simp[h1],fun m x hx=>?_,h3⟩;cases m with|zero=>simpa using hx;|succ m=>have:=h2 m x (by simpa using hx);simpa[Nat.add_comm,Nat.add_left_comm] using this
 |succ j=>simp only[iX] at h;obtain⟨r,h1,h2,h3⟩:=ih h;exact⟨r,h1,fun m x hx=>by have:=h2 m x hx;rw[Nat.add_right_comm];simpa using this,h3⟩
def w8:List AV→(List D→Prop)→Prop→Prop|[],K,_=>K []|.d x::l,K,no=>w8 l (fun r=>K (x::r)) no|_::_,_,no=>no
theorem tm {l:List AV}{K:List D→Prop}{no:Prop}(h:w8 l K no):(∃ds,l=ds.map .d∧K ds)∨no:=by induction l generalizing K with|nil=>exact .inl ⟨[],rfl,h⟩;|cons a l ih=>cases a with
 |d x=>
 simp only[w8] at h;rcases ih h with⟨ds,h1,h2⟩|h;·exact .inl ⟨x::ds,by simp[h1],h2⟩
 ·exact .inr h;|_=>exact .inr h
def kN (l:List AV)(K:AV→Prop):Prop:=w8 l (fun ds=>K (.d (.agg ds))) (K (.agg l))
theorem lM {l:List AV}{K:AV→Prop}(h:kN l K):∃av,K av∧(∀p,(∀c,c∈l→c.ok p)→av.ok p)∧∀w α X (vs:Array Value),l.length=vs.size→(∀(j:Nat)(c:AV)(v:Value),l[j]?=some c→vs[j]?=some v→co w α X c v)→co w α X av (.agg vs):=by
 rcases tm h with⟨ds,rfl,hk⟩|hk;·refine⟨_,hk,fun p _=>.d _,fun w α X vs hl hr=>.d _ _ (.agg ds vs (by simpa using hl) fun j c v hc hv=>?_)⟩;exact(hr j (.d c) v (by simp[hc]) hv).dinv
 ·exact⟨_,hk,fun p hp=>.agg l hp,fun w α X vs hl hr=>.agg l vs hl hr⟩
theorem eQ {P:Program}{T:TypeId}{ti:iQ}(ht:eD P T ti)(hagg:ti.agg=true)(w:World)(b off:Nat)(f:Nat→Value)(h:∀j,j<ti.size→w.cell? ⟨b,off+j,none⟩=some (f j)):(loadVar T ⟨b,off,none⟩).run P w=.ok (.agg ((List.range ti.size).map f).toArray) w:=by
 obtain⟨⟨i,hi,hs,_,_⟩,u,hu,ha,_⟩:=ht;have hc:=run_loadCells (P:=P) w ⟨b,off,none⟩ ti.size f (fun j hj=>by rw[←h j hj];congr 1;unfold Addr.add;split<;>simp_all);have hA:(isAgg T).run P w=.ok true w:=by rw[←hagg,←ha];simp only[isAgg];cases u<;>simp[underlying,hu,rT]
 have hS:(sizeOf T).run P w=.ok ti.size w:=by simp[sizeOf,typeInfo,hi,hs]
 simp[loadVar,hA,hS,hc]
theorem gv {P:Program}{T:TypeId}{ti:iQ}(ht:eD P T ti)(hagg:ti.agg=false)(w:World)(a:Addr)(v:Value)(h:w.cell? a=some v):(loadVar T a).run P w=.ok v w:=by
 obtain⟨_,u,hu,ha,_⟩:=ht;have hA:(isAgg T).run P w=.ok false w:=by rw[←hagg,←ha];simp only[isAgg];cases u<;>simp[underlying,hu,rT]
 simp only[loadVar,Sem.run_bind,hA,Result.andThen];simp only[load,Sem.run,h,Bool.false_eq_true,if_false]
theorem eP {w:World}{b:Nat}{arr:Array Value}{T:TypeId}{fz:Nat×Nat}(h:w.heap[b]?=some (.cells arr T fz))(o:Nat):w.cell? ⟨b,o,none⟩=arr[o]?:=by simp[World.cell?,h]
def wb (x:D)(j:Nat)(ti:iQ)(K:AV→Prop):Prop:=match ti.agg with
 |true=>match j,Nat.beq x.cells.length ti.size with
  |0,true=>match x with|.agg cs=>K (.d (.agg cs))|_=>False
  |j,_=>iX x.cells j ti.size fun r=>K (.d (.agg r))
 |false=>nE x.cells j fun c=>K (.d c)
theorem nH {x:D}{j:Nat}{ti:iQ}{K:AV→Prop}(h:wb x j ti K):∃d,K (.d d)∧((ti.agg=true∧∃r,d=.agg r∧r.length=ti.size∧∀m c,r[m]?=some c→x.cells[j+m]?=some c)∨(ti.agg=false∧x.cells[j]?=some d)):=by
 unfold wb at h;split at h
 ·rename_i hagg;split at h
  ·rename_i hb;split at h;·rename_i cs;exact⟨_,h,.inl ⟨hagg,cs,rfl,Nd hb,fun m c hc=>by simpa[D.cells] using hc⟩⟩
   ·cases h
  ·obtain⟨r,h1,h2,h3⟩:=ll h;exact⟨_,h3,.inl ⟨hagg,r,rfl,h1,h2⟩⟩
 ·rename_i hagg;obtain⟨c,h1,h2⟩:=fD h;exact⟨c,h2,.inr ⟨hagg,h1⟩⟩
theorem lJ {P:Program}{T:TypeId}{ti:iQ}(ht:eD P T ti){w:World}{X:Nat→Prop}{x d:D}{j:Nat}{b off:Nat}{f:Nat→Value}(hd:(ti.agg=true∧∃r,d=.agg r∧r.length=ti.size∧∀m c,r[m]?=some c→x.cells[j+m]?=some c)∨(ti.agg=false∧x.cells[j]?=some d))(h1:∀(m:Nat)(c:D),x.cells[m]?=some c→w.cell? ⟨b,off+m,none⟩=some (f m))(h2:∀(m:Nat)(c:D),x.cells[m]?=some c→Rd w X c (f m)):∃v,(loadVar T ⟨b,off+j,none⟩).run P w=.ok v w∧Rd w X d v:=by
 rcases hd with⟨hagg,r,rfl,hr,hc⟩|⟨hagg,hc⟩
 ·refine⟨_,eQ ht hagg w b (off+j) (fun m=>f (j+m)) (fun m hm=>?_),?_⟩;·rw[Nat.add_assoc];exact h1 _ _ (hc m (r[m]'(by omega)) (by simp[hr,hm]))
  ·refine .agg r _ (by simp[hr]) fun m c v hm hv=>?_;have hlt:m<ti.size:=by have:=(Nc.1 hm).1;omega
   simp[hlt] at hv;subst hv;exact h2 _ _ (hc m c hm)
 ·exact⟨_,gv ht hagg w _ _ (h1 j d hc),h2 j d hc⟩
end Go.Eng
namespace Go.Eng
abbrev KO:=AV→List (Nat×Option aS)→List Nat→Prop
def szK (C:cq)(T:TypeId)(K:Nat→Prop):Prop:=aW C.tab T fun ti=>match ti.kd with|.slice e=>aW C.tab e fun te=>K te.size|_=>False
def lA (C:cq)(st:AS)(T:TypeId)(x:Operand)(K:AV→Prop):Prop:=match x with|.const (.slice none 0 0)=>szK C T fun sz=>K (.nl sz)|x=>fF st x K
theorem gf {C:cq}{st:AS}{T:TypeId}{x:Operand}{K:AV→Prop}(h:lA C st T x K):∃av,Ev st.ss.env x av∧K av:=by
 unfold lA at h;split at h
 ·unfold szK at h;replace h:=aJ h;obtain⟨ti,_,h⟩:=h;split at h;·replace h:=aJ h;obtain⟨te,_,h⟩:=h;exact⟨_,.nl _,h⟩
  ·cases h
 ·exact bx h
theorem Ev.to {o:Oper}{x:Operand}{av:AV}{env env':Nat→Option AV}(h:Ev env x av)(hx:x∈o.op.operands)(he:∀t,Operand.tmp t∈o.op.operands→∀av,env t=some av→env' t=some av):Ev env' x av:=h.congr fun t e=>he t (e▸hx)
section
variable {C:cq}{n:Nat}{o:Oper}{nm:Nat}{st:AS}{K:KO}
theorem Gm {x:Operand}(ho:o.op=.move x)(h:lA C st o.type x fun a=>K a [] []):∃out upd rd,K out upd rd∧cr C n o nm st rd out upd:=by obtain⟨av,h1,h2⟩:=gf h;refine⟨_,_,_,h2,cr.pure fun X0 F w0 p α S a w hs he _=>?_⟩;have hx:=h1.to (by rw[ho];simp[Op.operands]) he;exact⟨a.eval x,by simp[execOp,ho],hx.read hs,hx.ok hs⟩
theorem He {c x y:Operand}(ho:o.op=.pick c x y)(h:fF st c fun vc=>xR vc fun t=>LO t (fF st x fun a=>K a [] []) (fF st y fun a=>K a [] [])):∃out upd rd,K out upd rd∧cr C n o nm st rd out upd:=by
 obtain⟨vc,h1,h2⟩:=bx h;unfold xR at h2;split at h2
 ·rename_i t;rcases h2.out with⟨rfl,h2⟩|⟨rfl,h2⟩;·obtain⟨av,h3,h4⟩:=bx h2;refine⟨_,_,_,h4,cr.pure fun X0 F w0 p α S a w hs he _=>?_⟩;have hc:=(h1.to (by rw[ho];simp[Op.operands]) he).read hs;have hx:=h3.to (by rw[ho];simp[Op.operands]) he;exact⟨a.eval x,by simp[execOp,ho,hc.dinv.binv,asBool],hx.read hs,hx.ok hs⟩
  ·obtain⟨av,h3,h4⟩:=bx h2;refine⟨_,_,_,h4,cr.pure fun X0 F w0 p α S a w hs he _=>?_⟩;have hc:=(h1.to (by rw[ho];simp[Op.operands]) he).read hs;have hx:=h3.to (by rw[ho];simp[Op.operands]) he;exact⟨a.eval y,by simp[execOp,ho,hc.dinv.binv,asBool],hx.read hs,hx.ok hs⟩
 ·cases h2
theorem IB {op:BinOp}{T T':TypeId}{x y:Operand}(ho:o.op=.binOp op T x y T')(h:fF st x fun a=>fF st y fun b=>xH C T op a b fun r=>K r [] []):∃out upd rd,K out upd rd∧cr C n o nm st rd out upd:=by replace h:=bx h;obtain⟨va,h1,h⟩:=h;replace h:=bx h;obtain⟨vb,h2,h⟩:=h;obtain⟨d,h3,h4⟩:=Hu h;refine⟨_,_,_,h3,cr.pure fun X0 F w0 p α S a w hs he _=>?_⟩;have hx:=(h1.to (by rw[ho];simp[Op.operands]) he).read hs;have hy:=(h2.to (by rw[ho];simp[Op.operands]) he).read hs;obtain⟨v,h5,h6⟩:=h4 w α _ _ _ x y hx hy;refine⟨v,?_,.d _ _ h6,.d _⟩;simp only[execOp,ho,Sem.run_bind];simp only[Sem.run_bind] at h5;rw[h5];simp[Result.andThen]
theorem M5 {op:UnOp}{T:TypeId}{x:Operand}(ho:o.op=.unOp op T x)(h:fF st x fun a=>unK op a fun r=>K r [] []):∃out upd rd,K out upd rd∧cr C n o nm st rd out upd:=by replace h:=bx h;obtain⟨va,h1,h⟩:=h;obtain⟨d,h3,h4⟩:=JD (P:=C.P) h;refine⟨_,_,_,h3,cr.pure fun X0 F w0 p α S a w hs he _=>?_⟩;have hx:=(h1.to (by rw[ho];simp[Op.operands]) he).read hs;obtain⟨v,h5,h6⟩:=h4 w α _ _ hx;exact⟨v,by simp[execOp,ho,h5],.d _ _ h6,.d _⟩
def ET (a:AV)(i:Nat)(K:AV→Prop):Prop:=match a with|.tup vs=>nE vs i K|_=>False
theorem Fq {x:Operand}{i:Nat}(ho:o.op=.extract x i)(h:fF st x fun a=>ET a i fun r=>K r [] []):∃out upd rd,K out upd rd∧cr C n o nm st rd out upd:=by
 replace h:=bx h;obtain⟨va,h1,h⟩:=h;unfold ET at h;split at h;·rename_i vs;obtain⟨r,h2,h3⟩:=fD h;refine⟨_,_,_,h3,cr.pure fun X0 F w0 p α S a w hs he _=>?_⟩;have hx:=h1.to (by rw[ho];simp[Op.operands]) he;have hr:=hx.read hs;have hk:=hx.ok hs;generalize hv:a.eval x=v at hr;cases hr with|tup _ ws hl hc=>
  have hlt:i<ws.size:=by rw[←hl];exact(Nc.1 h2).1
  refine⟨ws[i],by simp[execOp,ho,hv,Instr.extract,hlt],hc i r _ h2 (by simp[hlt]),?_⟩;cases hk with|tup _ h=>exact h r (Ni h2)
 ·cases h
def Fh (C:cq)(T:TypeId)(a:AV)(K:AV→Prop):Prop:=aW C.tab T fun ti=>match a,ti.kd with|.d (.i _ m),.int k=>vY k m fun r=>K (.d (.i k r))|.d (.s l),.str=>K (.d (.s l))|_,_=>False
theorem vS {P:Program}{T:TypeId}{ti:iQ}{k:IntKind}(ht:eD P T ti)(hk:ti.kd=.int k):P.underlying T=some (.int k):=by obtain⟨_,u,hu,_,hc⟩:=ht;rw[hk] at hc;cases u<;>simp[j6] at hc;rw[hu,p9 hc]
theorem lu {P:Program}{T:TypeId}{ti:iQ}(ht:eD P T ti)(hk:ti.kd=.str):P.underlying T=some .string:=by obtain⟨_,u,hu,_,hc⟩:=ht;rw[hk] at hc;cases u<;>simp[j6] at hc;exact hu
theorem cM {P:Program}{T e:TypeId}{ti:iQ}(ht:eD P T ti)(hk:ti.kd=.slice e):P.underlying T=some (.slice e):=by obtain⟨_,u,hu,_,hc⟩:=ht;rw[hk] at hc;cases u<;>simp[j6] at hc;rw[hu,hc]
theorem lm {P:Program}{T e m:TypeId}{ti:iQ}(ht:eD P T ti)(hk:ti.kd=.array m e):P.underlying T=some (.array m e):=by obtain⟨_,u,hu,_,hc⟩:=ht;rw[hk] at hc;cases u<;>simp[j6] at hc;rw[hu,hc.1,hc.2]
theorem l9 {P:Program}{T:TypeId}{ti:iQ}{os:List (Nat×Nat)}(ht:eD P T ti)(hk:ti.kd=.struct os):∃fs,P.underlying T=some (.struct fs)∧lE P os fs.toList=true:=by obtain⟨_,u,hu,_,hc⟩:=ht;rw[hk] at hc;cases u with|struct fs=>exact⟨fs,hu,hc⟩;|_=>simp[j6] at hc
theorem E9 {S T:TypeId}{x:Operand}(ho:o.op=.convert S T x)(hS:∃tS,look C.tab S=some tS)(h:fF st x fun a=>Fh C T a fun r=>K r [] []):∃out upd rd,K out upd rd∧cr C n o nm st rd out upd:=by
 replace h:=bx h;obtain⟨va,h1,h⟩:=h;replace h:=aJ h;obtain⟨ti,hti,h⟩:=h;obtain⟨tS,htS⟩:=hS;obtain⟨_,uS,huS,_⟩:=C.ty htS;split at h;·rename_i k m k' hk;have hT:=vS (C.ty hti) hk;refine⟨_,_,_,h.out,cr.pure fun X0 F w0 p α S a w hs he _=>?_⟩;have hx:=((h1.to (by rw[ho];simp[Op.operands]) he).read hs).dinv.iinv;exact⟨_,by simp[execOp,ho,hx,convert,underlying,huS,hT,Conv.intToInt],.d _ _ (.i _ _),.d _⟩
 ·rename_i l hk;have hT:=lu (C.ty hti) hk;refine⟨_,_,_,h,cr.pure fun X0 F w0 p α S a w hs he _=>?_⟩;have hx:=((h1.to (by rw[ho];simp[Op.operands]) he).read hs).dinv.sinv;exact⟨_,by simp[execOp,ho,hx,convert,underlying,huS,hT],.d _ _ (.s _),.d _⟩
 ·cases h
def FN (cs:List D)(sz:Nat)(agg:Bool)(j:Nat)(d:D):Prop:=(agg=true∧∃r,d=.agg r∧r.length=sz∧∀m c,r[m]?=some c→cs[j*sz+m]?=some c)∨(agg=false∧cs[j*sz]?=some d)
structure ArrGK (cs:List D)(n sz:Nat)(agg:Bool)(i:Int)(K:D→Prop):Prop where out:∃(j:Nat)(d:D),i=(j:Int)∧j<n∧FN cs sz agg j d∧K d
theorem qK {sz:Nat}:∀{xs:List D},(∀x,x∈xs→x.cells.length=sz)→∀(j m:Nat)(x:D),xs[j]?=some x→m<sz→(xs.flatMap D.cells)[j*sz+m]?=x.cells[m]?|[],_,j,m,x,h,_=>by simp at h;|y::r,hall,0,m,x,h,hm=>by simp at h;subst h;rw[List.flatMap_cons,Nat.zero_mul,Nat.zero_add,List.getElem?_append_left (by rw[hall y (by simp)];exact hm)];|y::r,hall,j+1,m,x,h,hm=>by have hy:=hall y (by simp);rw[List.flatMap_cons,List.getElem?_append_right (by rw[hy,Nat.succ_mul];omega),hy];have:=qK (fun x hx=>hall x (Nv _ hx)) j m x (by simpa using h) hm;rw[←this];congr 1;rw[Nat.succ_mul];omega
def G3 (C:cq)(T:TypeId)(a i:AV)(K:AV→Prop):Prop:=aW C.tab T fun ti=>nC i fun _ j=>match a,ti.kd with|.d (.s l),.str=>IR j l fun _ c=>K (.d (.i .u8 (c.toNat:Int)))|.d (.agg cs),.array n e=>aW C.tab e fun te=>ArrGK cs n te.size te.agg j fun d=>K (.d d)|_,_=>False
theorem my {P:Program}{T:TypeId}{ti:iQ}(ht:eD P T ti)(w:World)(cs:Array Value)(off:Nat)(ha:ti.agg=true):(part T cs off).run P w=.ok (.agg (cs.extract off (off+ti.size))) w:=by
 obtain⟨⟨i,hi,hs,_,_⟩,u,hu,hagg,_⟩:=ht;have hA:(isAgg T).run P w=.ok true w:=by rw[←ha,←hagg];simp only[isAgg];cases u<;>simp[underlying,hu,rT]
 have hS:(sizeOf T).run P w=.ok ti.size w:=by simp[sizeOf,typeInfo,hi,hs]
 simp[part,hA,hS]
theorem mO {P:Program}{T:TypeId}{ti:iQ}(ht:eD P T ti)(w:World)(cs:Array Value)(off:Nat)(ha:ti.agg=false){v:Value}(hv:cs[off]?=some v):(part T cs off).run P w=.ok v w:=by
 obtain⟨_,u,hu,hagg,_⟩:=ht;have hA:(isAgg T).run P w=.ok false w:=by rw[←ha,←hagg];simp only[isAgg];cases u<;>simp[underlying,hu,rT]
 simp[part,hA,hv]
theorem CB {P:Program}{T:TypeId}{ti:iQ}(ht:eD P T ti){w:World}{X:Nat→Prop}{cs:List D}{vs:Array Value}(hl:cs.length=vs.size)(hc:∀(j:Nat)(c:D)(v:Value),cs[j]?=some c→vs[j]?=some v→Rd w X c v){j:Nat}{d:D}(h:FN cs ti.size ti.agg j d):∃v,(part T vs (j*ti.size)).run P w=.ok v w∧Rd w X d v:=by
 rcases h with⟨ha,r,rfl,hr,hm⟩|⟨ha,hd⟩
 ·refine⟨_,my ht w vs _ ha,.agg r _ ?_ fun m c v h1 h2=>?_⟩
  ·have hle:j*ti.size+ti.size≤vs.size:=by
    rcases Nat.eq_zero_or_pos ti.size with h0|h0;·rw[h0] at hr⊢;simp
    ·have hlt:ti.size-1<r.length:=by omega
     have:=(Nc.1 (hm (ti.size-1) _ (No hlt))).1;omega
   simp;omega
  ·refine hc _ c v (hm m c h1) ?_;simp only[Array.getElem?_extract] at h2;split at h2;·exact h2
   ·cases h2
 ·have hlt:j*ti.size<vs.size:=by rw[←hl];exact(Nc.1 hd).1
  exact⟨vs[j*ti.size],mO ht w vs _ ha (Array.getElem?_eq_getElem hlt),hc _ d _ hd (Array.getElem?_eq_getElem hlt)⟩
theorem DZ {T:TypeId}{x ix:Operand}(ho:o.op=.index T x ix)(h:fF st x fun a=>fF st ix fun i=>G3 C T a i fun r=>K r [] []):∃out upd rd,K out upd rd∧cr C n o nm st rd out upd:=by
 replace h:=bx h;obtain⟨va,h1,h⟩:=h;replace h:=bx h;obtain⟨vi,h2,h⟩:=h;replace h:=aJ h;obtain⟨ti,hti,h⟩:=h;unfold nC at h;split at h
 ·rename_i k j;split at h
  ·rename_i l hk;have hT:=lu (C.ty hti) hk;obtain⟨m,c,rfl,hc,h⟩:=h;refine⟨_,_,_,h,cr.pure fun X0 F w0 p α S a w hs he _=>?_⟩;have hx:=((h1.to (by rw[ho];simp[Op.operands]) he).read hs).dinv.sinv;have hi:=((h2.to (by rw[ho];simp[Op.operands]) he).read hs).dinv.iinv;refine⟨_,?_,.d _ _ (.i _ _),.d _⟩;have hlt:m<l.length:=(Nc.1 hc).1;have hg:(ByteArray.mk l.toArray)[m]?=some c:=by rw[getElem?_pos _ m (by simpa[ByteArray.size] using hlt)];have h3:=(Nc.1 hc).2;exact congrArg some (show(l.toArray)[m]'(by simpa using hlt)=c by simpa using h3)
   simp[execOp,ho,hx,hi,Instr.index,asIntOf,underlying,hT,hg]
  ·rename_i cs m e hk;replace h:=aJ h;obtain⟨te,hte,h⟩:=h;obtain⟨q,d,rfl,hq,hel,h⟩:=h;have hT:=lm (C.ty hti) hk;refine⟨_,_,_,h,cr.pure fun X0 F w0 p α S a w hs he _=>?_⟩;have hx:=((h1.to (by rw[ho];simp[Op.operands]) he).read hs).dinv;have hi:=((h2.to (by rw[ho];simp[Op.operands]) he).read hs).dinv.iinv;generalize hvx:a.eval x=vx at hx;cases hx with|agg _ vs hl hc=>
    obtain⟨v,hv,hr⟩:=CB (C.ty hte) (w:=w) hl hc hel;refine⟨v,?_,.d _ _ hr,.d _⟩;have hS:(sizeOf e).run C.P w=.ok te.size w:=by obtain⟨⟨i,hi,hs,_,_⟩,_⟩:=C.ty hte;simp[sizeOf,typeInfo,hi,hs]
    have hq':(0:Int)≤(q:Int)∧(q:Int)<(m:Int):=by omega
    simp[execOp,ho,hvx,hi,Instr.index,asIntOf,underlying,hT,hq,hS,hv]
  ·cases h
 ·cases h
def lenK (st:AS)(a:AV)(K:Nat→List Nat→Prop):Prop:=match a with
 |.d (.s l)=>K l.length []|.d (.sl _ xs)=>K xs.length []|.nl _=>K 0 []|.os k=>iH st k fun e=>match e with|.buf _ xs _=>K xs.length [k]|_=>False
 |_=>False
def MI (kd:Kd)(a:AV):Bool:=match kd,a with|.str,.d (.s _)=>true|.slice _,.d (.sl _ _)=>true|.slice _,.nl _=>true|.slice _,.os _=>true|_,_=>false
theorem Rd.slinv {w:World}{X:Nat→Prop}{sz:Nat}{xs:List D}{v:Value}(h:Rd w X (.sl sz xs) v):∃b cap,v=.slice b xs.length cap:=by cases h with|slnil=>exact⟨none,0,rfl⟩;|sle _ a cap=>exact⟨some a,cap,rfl⟩;|sl _ _ blk off m cap arr T fz f _ _ hl=>exact⟨_,_,by rw[hl]⟩
theorem yQ {G:List Gl}{X0:Nat→Prop}{F:Fr}{w0:World}{n:Nat}{p:Nat→Prop}{α:Nat→dh}{S:SS}{a:Act}{w:World}(hs:dn G X0 F w0 n p α S a w){k sz:Nat}{xs:List D}{T0:Option TypeId}(h:S.own k=some (.buf sz xs T0)):∃b cap,(α k).hv=.slice b xs.length cap:=by
 rcases hs.own k _ h with⟨_,⟨sz',_,he⟩,hv⟩|⟨_,arr,T,fz,cap,hB⟩;·cases he;exact⟨none,0,hv⟩
 ·exact⟨_,_,hB.hv sz xs _ rfl⟩
theorem II {c:Call}{x:Operand}(ho:o.op=.call c)(hc:c.callee=.builtin .len)(ha:c.args=#[x]){T:TypeId}(hT:c.argTypes=#[T])(h:fF st x fun a=>aW C.tab T fun ti=>match MI ti.kd a with|true=>lenK st a fun m rd=>K (.d (.i .i64 (m:Int))) [] rd|false=>False):∃out upd rd,K out upd rd∧cr C n o nm st rd out upd:=by
 replace h:=bx h;obtain⟨va,h1,h⟩:=h;replace h:=aJ h;obtain⟨ti,hti,h⟩:=h;have hmem:x∈o.op.operands:=by rw[ho];simp[Op.operands,Call.operands,hc,ha]
 have run:∀(a:Act)(w:World)(v:Value),(Builtin.len_ #[T] o.type #[a.eval x]).run C.P w=.ok v w→(execOp a.eval o).run C.P w=.ok (.value v) w:=by intro a w v hv;simp[execOp,ho,resolve,hc,ha,hT,invoke,builtin,hv]
 split at h
 ·rename_i hsl;unfold MI at hsl;split at hsl;·rename_i l hk;have hu:=lu (C.ty hti) hk;refine⟨_,_,_,h,cr.pure fun X0 F w0 p α S a w hs he _=>?_⟩;have hx:=((h1.to hmem he).read hs).dinv.sinv;exact⟨_,run a w _ (by simp[Builtin.len_,hx,underlying,hu,goInt,iv]),.d _ _ (.i _ _),.d _⟩
  ·rename_i e sz xs hk;have hu:=cM (C.ty hti) hk;refine⟨_,_,_,h,cr.pure fun X0 F w0 p α S a w hs he _=>?_⟩;obtain⟨b,cap,hx⟩:=((h1.to hmem he).read hs).dinv.slinv;exact⟨_,run a w _ (by simp[Builtin.len_,hx,underlying,hu,goInt]),.d _ _ (.i _ _),.d _⟩
  ·rename_i e sz hk;have hu:=cM (C.ty hti) hk;refine⟨_,_,_,h,cr.pure fun X0 F w0 p α S a w hs he _=>?_⟩;have hx:=(h1.to hmem he).read hs;generalize hv:a.eval x=v at hx;cases hx;exact⟨_,run a w _ (by simp[Builtin.len_,hv,underlying,hu,goInt]),.d _ _ (.i _ _),.d _⟩
  ·rename_i e k hk;have hu:=cM (C.ty hti) hk;replace h:=cQ h;obtain⟨en,hen,h⟩:=h;split at h;·rename_i sz xs T0;refine⟨_,_,_,h,cr.pure fun X0 F w0 p α S a w hs he ho'=>?_⟩;have hx:=(h1.to hmem he).read hs;generalize hv:a.eval x=v at hx;cases hx;obtain⟨b,cap,hl⟩:=yQ hs (ho' k (by simp) _ hen);rw[hl] at hv;exact⟨_,run a w _ (by simp[Builtin.len_,hv,underlying,hu,goInt]),.d _ _ (.i _ _),.d _⟩
   ·cases h
  ·cases hsl
 ·cases h
def pH (mx:Bool):List AV→(AV→Prop)→Prop
 |[.d (.i k x),.d (.i _ y)],K=>match mx with|true=>K (.d (.i k (max x y)))|false=>K (.d (.i k (min x y)))
 |[.d (.i k x),.d (.i _ y),.d (.i _ z)],K=>match mx with|true=>K (.d (.i k (max (max x y) z)))|false=>K (.d (.i k (min (min x y) z)))
 |_,_=>False
theorem qw {c : Call} (mx : Bool) (ho : o.op = .call c) (hc : c.callee = .builtin (if mx then .max else .min))
    (h : NS st c.args.toList fun as => pH mx as fun r => K r [] []) : ∃ out upd rd, K out upd rd ∧ cr C n o nm st rd out upd := by
  replace h := j9 h; obtain ⟨as, h1, h⟩ := h
  unfold pH at h
  split at h
  · rename_i k x k' y
    obtain ⟨ox, oy, hxy⟩ : ∃ ox oy, c.args = #[ox, oy] := by
      have := h1.length
      generalize c.args = args at this
      obtain ⟨l⟩ := args
      match l, this with
      | [ox, oy], _ => exact ⟨ox, oy, rfl⟩
    rw [hxy] at h1
    have hm1 : ox ∈ o.op.operands := by rw [ho]; simp [Op.operands, Call.operands, hxy]
    have hm2 : oy ∈ o.op.operands := by rw [ho]; simp [Op.operands, Call.operands, hxy]
    cases h1 with
    | cons _ _ _ _ e1 h1 =>
    cases h1 with
    | cons _ _ _ _ e2 h1 =>
    cases mx with
    | true =>
      refine ⟨_, _, _, h, cr.pure fun X0 F w0 p α S a w hs he _ => ?_⟩
      have hx := ((e1.to hm1 he).read hs).dinv.iinv
      have hy := ((e2.to hm2 he).read hs).dinv.iinv
      refine ⟨.int k (max x y), ?_, .d _ _ (.i _ _), .d _⟩
      have : (if x < y then y else x) = max x y := by omega
      simp [execOp, ho, resolve, hc, hxy, invoke, builtin, Builtin.max_, Builtin.max2, hx, hy, ← this]
    | false =>
      refine ⟨_, _, _, h, cr.pure fun X0 F w0 p α S a w hs he _ => ?_⟩
      have hx := ((e1.to hm1 he).read hs).dinv.iinv
      have hy := ((e2.to hm2 he).read hs).dinv.iinv
      refine ⟨.int k (min x y), ?_, .d _ _ (.i _ _), .d _⟩
      have : (if y < x then y else x) = min x y := by omega
      simp [execOp, ho, resolve, hc, hxy, invoke, builtin, Builtin.min_, Builtin.min2, hx, hy, ← this]
  · rename_i k x k' y k'' z
    obtain ⟨ox, oy, oz, hxy⟩ : ∃ ox oy oz, c.args = #[ox, oy, oz] := by
      have := h1.length
      generalize c.args = args at this
      obtain ⟨l⟩ := args
      match l, this with
      | [ox, oy, oz], _ => exact ⟨ox, oy, oz, rfl⟩
    rw [hxy] at h1
    have hm1 : ox ∈ o.op.operands := by rw [ho]; simp [Op.operands, Call.operands, hxy]
    have hm2 : oy ∈ o.op.operands := by rw [ho]; simp [Op.operands, Call.operands, hxy]
    have hm3 : oz ∈ o.op.operands := by rw [ho]; simp [Op.operands, Call.operands, hxy]
    cases h1 with
    | cons _ _ _ _ e1 h1 =>
    cases h1 with
    | cons _ _ _ _ e2 h1 =>
    cases h1 with
    | cons _ _ _ _ e3 h1 =>
    cases mx with
    | true =>
      refine ⟨_, _, _, h, cr.pure fun X0 F w0 p α S a w hs he _ => ?_⟩
      have hx := ((e1.to hm1 he).read hs).dinv.iinv
      have hy := ((e2.to hm2 he).read hs).dinv.iinv
      have hz := ((e3.to hm3 he).read hs).dinv.iinv
      refine ⟨.int k (max (max x y) z), ?_, .d _ _ (.i _ _), .d _⟩
      have h1 : (if x < y then y else x) = max x y := by omega
      have h2 : (if max x y < z then z else max x y) = max (max x y) z := by omega
      simp [execOp, ho, resolve, hc, hxy, invoke, builtin, Builtin.max_, Builtin.max2, hx, hy, hz, h1, h2]
    | false =>
      refine ⟨_, _, _, h, cr.pure fun X0 F w0 p α S a w hs he _ => ?_⟩
      have hx := ((e1.to hm1 he).read hs).dinv.iinv
      have hy := ((e2.to hm2 he).read hs).dinv.iinv
      have hz := ((e3.to hm3 he).read hs).dinv.iinv
      refine ⟨.int k (min (min x y) z), ?_, .d _ _ (.i _ _), .d _⟩
      have h1 : (if y < x then y else x) = min x y := by omega
      have h2 : (if z < min x y then z else min x y) = min (min x y) z := by omega
      simp [execOp, ho, resolve, hc, hxy, invoke, builtin, Builtin.min_, Builtin.min2, hx, hy, hz, h1, h2]
  · cases h
end
end Go.Eng

/- A part of the proof of what is stated of the erasing of a mirror. -/
import Derived.Test.YtgfdbddglhblbaaGreatQam
set_option maxHeartbeats 64000000
namespace Go.Proofs.YtgfdbddglhblbaaGreat
open Go.Eng Go.ChangeShapes Go.WideShapes Go.ChangeAt Go.RowKit
structure Ty (α:Type) where
 n:Nat
 el:α→D
 size:α→Nat
 ok:α→Prop
 wt:α→Prop
def H1 (k:IntKind):Ty Int:=⟨1,.i k,fun _=>1,fun n=>(Lit.int k n).wf=true,fun _=>True⟩
def Og:Ty UInt8:=⟨1,fun c=>.i .u8 (c.toNat:Int),fun _=>1,fun _=>True,fun _=>True⟩
def NW:Ty Bool:=⟨1,.b,fun _=>1,fun _=>True,fun _=>True⟩
def KV (b:Nat){α:Type}(T:Ty α):Ty (List α):=⟨1,fun l=>.sl T.n (l.map T.el),fun l=>(l.map T.size).sum+1,fun l=>l.length≤maxLen∧∀a,a∈l→T.ok a,fun l=>l.length*b≤reachBytes∧∀a,a∈l→T.wt a⟩
def NO {α:Type}(T:Ty α):Ty α:=⟨T.n,fun a=>.agg (T.el a).cells,fun a=>T.size a+1,T.ok,T.wt⟩
def NK {α β:Type}(T:Ty α)(U:Ty β):Ty (α×β):=⟨T.n+U.n,fun p=>.agg ((T.el p.1).cells++(U.el p.2).cells),fun p=>T.size p.1+U.size p.2,fun p=>T.ok p.1∧U.ok p.2,fun p=>T.wt p.1∧U.wt p.2⟩
structure EI (W:World){α:Type}(T:Ty α)(a:α)(cs:List Value):Prop where
 ok:T.ok a
 len:cs.length=T.n
 wide:(T.el a).wd T.n
 rd:∀(j:Nat)(c:D)(v:Value),(T.el a).cells[j]?=some c→cs[j]?=some v→Rd W (fun _=>False) c v
structure xu (P:Program)(t:TypeId){α:Type}(T:Ty α):Prop where
 cells:P.cellsOf t=T.n
 read:∀{H:Type}(enc:TypeId×Value→H)(W:World)(fuel:Nat)(cs:List Value)(d:DataW H)(ps:List MemPlace),DataW.trod enc P W 0 (fun _=>true) true fuel t cs=some (d,ps)→∃a,EI W T a cs∧T.size a≤Rows.uptoBulk d∧((∀n,n∈d.weights P t→n≤reachBytes)→T.wt a)
structure NL (P:Program)(fs:List Field)(k:Nat){α:Type}(T:Ty α):Prop where read:∀{H:Type}(enc:TypeId×Value→H)(W:World)(fuel:Nat)(cs:List Value)(xs:List (DataW H×List MemPlace)),(fs.mapM fun f=>DataW.trod enc P W 0 (fun _=>true) true fuel f.type ((cs.drop f.offset).take (P.cellsOf f.type)))=some xs→k+T.n=cs.length→∃a,EI W T a (cs.drop k)∧T.size a≤Rows.uptoBulkAll (xs.map (·.1))+1∧((∀n,n∈DataW.weightsEach P (fs.map (·.type)) (xs.map (·.1))→n≤reachBytes)→T.wt a)
theorem k9 {W:World}{α:Type}{T:Ty α}{a:α}{v:Value}(hn:T.n=1)(ho:T.ok a)(hc:(T.el a).cells=[T.el a])(h1:(T.el a).one=true)(h:Rd W (fun _=>False) (T.el a) v):EI W T a [v]:=⟨ho,by simp[hn],⟨by rw[hc,hn];rfl,fun c hcm=>by rw[hc] at hcm;simp at hcm;rw[hcm];exact h1⟩,fun j c v' h2 h3=>by rw[hc] at h2;match j with|0=>simp at h2 h3;subst h2;subst h3;exact h;|j+1=>simp at h2⟩
theorem Db {P:Program}{t:TypeId}{k:IntKind}(hu:P.underlying t=some (.int k))(hc:P.cellsOf t=1):xu P t (H1 k):=by refine⟨hc,fun enc W fuel cs d ps h=>?_⟩;cases fuel with|zero=>simp[DataW.trod] at h;|succ fuel=>unfold DataW.trod at h;rw[hu] at h;split at h<;>simp_all;obtain⟨⟨rfl,hw⟩,rfl,_⟩:=h;exact⟨_,k9 rfl hw rfl rfl (.i _ _),by simp[H1,Rows.uptoBulk],fun _=>trivial⟩
theorem NU {P:Program}{t:TypeId}(hu:P.underlying t=some (.int .u8))(hc:P.cellsOf t=1):xu P t Og:=by refine⟨hc,fun enc W fuel cs d ps h=>?_⟩;cases fuel with|zero=>simp[DataW.trod] at h;|succ fuel=>
 unfold DataW.trod at h;rw[hu] at h;split at h<;>simp_all;rename_i k' n hk;subst hk;obtain⟨⟨_,hw⟩,rfl,_⟩:=h;have hw:(decide (IntKind.u8.min≤n)&&decide (n≤IntKind.u8.max))=true:=hw;have e1:IntKind.u8.min=0:=by decide
 have e2:IntKind.u8.max=255:=by decide
 simp only[e1,e2,Bool.and_eq_true,decide_eq_true_eq] at hw;refine⟨UInt8.ofNat n.toNat,k9 rfl trivial rfl rfl ?_,by simp[Og,Rows.uptoBulk],fun _=>trivial⟩;have:((UInt8.ofNat n.toNat).toNat:Int)=n:=by rw[UInt8.toNat_ofNat'];omega
 show Rd W _ (.i .u8 ((UInt8.ofNat n.toNat).toNat:Int)) _;rw[this];exact .i _ _
theorem NV {P:Program}{t:TypeId}(hu:P.underlying t=some .bool)(hc:P.cellsOf t=1):xu P t NW:=by refine⟨hc,fun enc W fuel cs d ps h=>?_⟩;cases fuel with|zero=>simp[DataW.trod] at h;|succ fuel=>unfold DataW.trod at h;rw[hu] at h;split at h<;>simp_all [-Bool.exists_bool];obtain⟨rfl,_⟩:=h;exact⟨_,k9 rfl trivial rfl rfl (.b _),by simp[NW,Rows.uptoBulk],fun _=>trivial⟩
theorem ye {α:Type}{Q:Nat→α→Prop}:∀(n:Nat),(∀i,i<n→∃a,Q i a)→∃l:List α,l.length=n∧∀(i:Nat)(a:α),l[i]?=some a→Q i a:=by intro n;induction n with|zero=>intro _;exact⟨[],rfl,fun i a h=>by cases h⟩;|succ n ih=>
 intro h;obtain⟨l,hl,hq⟩:=ih fun i hi=>h i (by omega);obtain⟨a,ha⟩:=h n (by omega);refine⟨l++[a],by simp[hl],fun i b hb=>?_⟩;rw[List.getElem?_append] at hb;split at hb;·exact hq i b hb
 ·rename_i hi;have:i=n:=by have:=(Nc.1 hb).1;simp at this;omega
  subst this;simp[hl] at hb;subst hb;exact ha
theorem Eu {H α:Type}(size:α→Nat):∀(l:List α)(xs:List (DataW H)),l.length=xs.length→(∀(i:Nat)(a:α)(d:DataW H),l[i]?=some a→xs[i]?=some d→size a≤Rows.uptoBulk d)→(l.map size).sum≤Rows.uptoBulkAll xs:=by intro l;induction l with|nil=>intro xs _ _;simp;|cons a l ih=>intro xs hl h;cases xs with|nil=>simp at hl;|cons d xs=>have h1:=h 0 a d rfl rfl;have h2:=ih xs (by simpa using hl) fun i b c hb hc=>h (i+1) b c (by simpa using hb) (by simpa using hc);simp only[Nw,List.sum_cons,Rows.uptoBulkAll];omega
theorem N4 {H:Type}{P:Program}{e:TypeId}{n:Nat}:∀{l:List (DataW H)}{d:DataW H},d∈l→n∈d.weights P e→n∈DataW.weightsAll P e l
 |[],d,h,_=>by cases h;|x::l,d,h,hn=>by
  unfold DataW.weightsAll;rcases List.mem_cons.1 h with rfl|h;·exact List.mem_append_left _ hn
  ·exact List.mem_append_right _ (N4 h hn)
theorem Ef {P:Program}{t e:TypeId}{b:Nat}{α:Type}{T:Ty α}(hT:xu P e T)(hu:P.underlying t=some (.slice e))(hc:P.cellsOf t=1)(hn:0<T.n)(hby:P.bytesOf e=b):xu P t (KV b T):=by refine⟨hc,fun enc W fuel cs d ps h=>?_⟩;cases fuel with|zero=>simp[DataW.trod] at h;|succ fuel=>
 unfold DataW.trod at h;rw[hu] at h;split at h;all_goals try (exfalso;simp_all;done)
 all_goals rename_i heq
 ·cases heq;simp at h;obtain⟨rfl,_⟩:=h;exact⟨[],k9 rfl (by simp[KV]) rfl rfl (.slnil _),by simp[KV,Rows.uptoBulk],fun _=>⟨by simp,fun a ha=>by cases ha⟩⟩
 ·cases heq;rename_i a len cap;split at h
  ·rename_i hb;obtain⟨_,hlc,hcm⟩:=hb;obtain⟨elems,he,h⟩:=Nu.1 h;obtain⟨rest,_,h⟩:=Nk.1 h;simp only[Prod.mk.injEq] at h;obtain⟨rfl,_⟩:=h;have hlen:elems.length=len:=by simpa using mapM_some_length he
   rcases Nat.eq_zero_or_pos len with h0|hpos;·subst h0;exact⟨[],k9 rfl (by simp[KV]) rfl rfl (.sle _ _ _),by simp[KV,Rows.uptoBulk],fun _=>⟨by simp,fun a ha=>by cases ha⟩⟩
   ·have key:∀i,i<len→∃cs x,W.cells? 0 (a.add (i*P.cellsOf e)) (P.cellsOf e)=some cs∧elems[i]?=some x∧DataW.trod enc P W 0 (fun _=>true) true fuel e cs=some (x.1,x.2):=by intro i hi;have hg:=mapM_some_get he i i (by simp[hi]);have hx:∃x,elems[i]?=some x:=⟨elems[i]'(by omega),No (by omega)⟩;obtain⟨x,hx⟩:=hx;rw[hx] at hg;obtain⟨cs,h1,h2⟩:=Nu.1 hg;exact⟨cs,x,h1,hx,h2⟩
    have key2:∀i,i<len→∃q:α,(∃cs x,W.cells? 0 (a.add (i*P.cellsOf e)) (P.cellsOf e)=some cs∧elems[i]?=some x∧EI W T q cs∧T.size q≤Rows.uptoBulk x.1∧((∀n,n∈x.1.weights P e→n≤reachBytes)→T.wt q)):=by intro i hi;obtain⟨cs,x,h1,h2,h3⟩:=key i hi;obtain⟨q,h4,h5⟩:=hT.read enc W fuel cs x.1 x.2 h3;exact⟨q,cs,x,h1,h2,h4,h5⟩
    obtain⟨l,hl,hq⟩:=ye len key2;rw[hT.cells] at hq;obtain⟨blk,off,spot⟩:=a;have hadd:∀(i m:Nat),i<len→m<T.n→∃v,W.cell? (((⟨blk,off,spot⟩:Addr).add (i*T.n)).add m)=some v:=by intro i m hi hm;obtain⟨cs,x,h1,_,h4,_⟩:=hq i (l[i]'(by omega)) (No (by omega));obtain⟨_,hcl,hcc⟩:=World.cells?_some h1;exact⟨cs[m]'(by omega),by rw[hcc m hm];exact No (by omega)⟩
    have h00:=hadd 0 0 hpos hn;obtain⟨v0,hv0⟩:=h00;simp[Addr.add] at hv0;have:spot=none∧∃arr Tt fz,W.heap[blk]?=some (.cells arr Tt fz):=by
     unfold World.cell? at hv0;simp only at hv0;split at hv0
     ·rename_i c T' fz hh;split at hv0;·cases hv0
      ·rename_i hs;exact⟨by simpa using hs,c,T',fz,hh⟩
     ·cases hv0
    obtain⟨rfl,arr,Tt,fz,hh⟩:=this;have hcell:∀o,W.cell? ⟨blk,o,none⟩=arr[o]?:=by intro o;unfold World.cell?;simp[hh]
    have hadd':∀(i m:Nat),((⟨blk,off,none⟩:Addr).add (i*T.n)).add m=⟨blk,off+i*T.n+m,none⟩:=by intro i m;unfold Addr.add;split<;>split<;>simp_all
    refine⟨l,k9 rfl ⟨by omega,fun b hb=>?_⟩ rfl rfl ?_,?_⟩;·obtain⟨i,hi,hb⟩:=List.getElem_of_mem hb;obtain⟨_,_,_,_,h4,_,_⟩:=hq i b (by rw[←hb];exact No hi);exact h4.ok
    ·have hx:∀(j:Nat)(x:D),(l.map T.el)[j]?=some x→∃b,l[j]?=some b∧x=T.el b:=by intro j x hx;rw[List.getElem?_map,Nk] at hx;obtain⟨b,h1,h2⟩:=hx;exact⟨b,h1,h2.symm⟩
     have hm:∀(j m:Nat)(b:α)(c:D),l[j]?=some b→(T.el b).cells[m]?=some c→∃v,arr[off+j*T.n+m]?=some v∧Rd W (fun _=>False) c v:=by
      intro j m b c hb hcc;obtain⟨cs,x,h1,_,h4,_⟩:=hq j b hb;have hm:m<T.n:=by rw[←h4.wide.1];exact(Nc.1 hcc).1
      obtain⟨_,hcl,hc2⟩:=World.cells?_some h1;have:=hc2 m hm;rw[hadd',hcell] at this;have hv:∃v,cs[m]?=some v:=⟨cs[m]'(by omega),No (by omega)⟩;obtain⟨v,hv⟩:=hv;exact⟨v,by rw[this,hv],h4.rd m c v hcc hv⟩
     refine .sl T.n _ blk off len cap arr Tt fz (fun j m=>(arr[off+j*T.n+m]?).getD default) hh (fun h=>h) (by simp[hl]) hlc (fun j x h=>?_) (fun j m x c h h'=>?_) fun j m x c h h'=>?_;·obtain⟨b,hb,rfl⟩:=hx j x h;obtain⟨_,_,_,_,h4,_⟩:=hq j b hb;exact h4.wide
     ·obtain⟨b,hb,rfl⟩:=hx j x h;obtain⟨v,hv,_⟩:=hm j m b c hb h';rw[hv];rfl
     ·obtain⟨b,hb,rfl⟩:=hx j x h;obtain⟨v,hv,hr⟩:=hm j m b c hb h';simp only[hv];exact hr
    ·have:=Eu (H:=_) T.size l (elems.map (·.1)) (by simp[hl,hlen]) fun i b dd hb hd=>by obtain⟨_,x,_,h2,_,h5,_⟩:=hq i b hb;rw[List.getElem?_map,h2] at hd;simp at hd;subst hd;exact h5
     refine⟨by simp only[KV,Rows.uptoBulk];omega,fun hwt=>?_⟩;unfold DataW.weights at hwt;rw[hu] at hwt;refine⟨?_,fun q hqm=>?_⟩;·have h9:=hwt _ List.mem_cons_self;rw[hby,Nl,hlen] at h9;rw[hl];exact Nat.le_trans (Nat.mul_le_mul_right _ (Nat.le_add_right _ _)) h9
     ·obtain⟨i,hi,hb⟩:=List.getElem_of_mem hqm;obtain⟨_,x,_,h2,_,_,h6⟩:=hq i q (by rw[←hb];exact No hi);exact h6 fun n hn=>hwt n (Nv _ (List.mem_append_left _ (N4 (List.mem_map_of_mem (Ni h2)) hn)))
  ·cases h
theorem NN {P:Program}{f:Field}{k:Nat}{α:Type}{T:Ty α}(hT:xu P f.type T)(hk:f.offset=k):NL P [f] k (NO T):=by refine⟨fun enc W fuel cs xs h hl=>?_⟩;subst hk;rw[List.mapM_cons] at h;cases hx:DataW.trod enc P W 0 (fun _=>true) true fuel f.type ((cs.drop f.offset).take (P.cellsOf f.type)) with|none=>simp[hx] at h;|some x=>simp[hx] at h;subst h;obtain⟨a,ha,hs,hw⟩:=hT.read enc W fuel _ x.1 x.2 hx;have hl':f.offset+T.n=cs.length:=hl;rw[hT.cells,Nt (by simp;omega)] at ha;exact⟨a,⟨ha.ok,ha.len,ha.wide,ha.rd⟩,by simp[NO,Rows.uptoBulkAll];exact hs,fun h9=>hw fun n hn=>h9 n (by simp only[Nw,List.map_nil,DataW.weightsEach];exact List.mem_append_left _ hn)⟩
theorem NE {P:Program}{f:Field}{fs:List Field}{k:Nat}{α β:Type}{T:Ty α}{U:Ty β}(hT:xu P f.type T)(hk:f.offset=k)(hU:NL P fs (k+T.n) U):NL P (f::fs) k (NK T U):=by refine⟨fun enc W fuel cs xs h hl=>?_⟩;subst hk;rw[List.mapM_cons] at h;cases hx:DataW.trod enc P W 0 (fun _=>true) true fuel f.type ((cs.drop f.offset).take (P.cellsOf f.type)) with|none=>simp[hx] at h;|some x=>cases hxs:fs.mapM fun f=>DataW.trod enc P W 0 (fun _=>true) true fuel f.type ((cs.drop f.offset).take (P.cellsOf f.type)) with|none=>simp[hx,hxs] at h;|some ys=>
 simp[hx,hxs] at h;subst h;have hl':f.offset+(T.n+U.n)=cs.length:=hl;obtain⟨a,ha,hs,hw⟩:=hT.read enc W fuel _ x.1 x.2 hx;obtain⟨b,hb,hs',hw'⟩:=hU.read enc W fuel cs ys hxs (by omega);rw[hT.cells] at ha;have hla:(T.el a).cells.length=T.n:=ha.wide.1;refine⟨(a,b),⟨⟨ha.ok,hb.ok⟩,by simp[NK];omega,⟨by show((T.el a).cells++(U.el b).cells).length=_;rw[Na,ha.wide.1,hb.wide.1];rfl,fun c hc=>?_⟩,fun j c v hc hv=>?_⟩,by simp[NK,Rows.uptoBulkAll];omega,fun h9=>⟨hw fun n hn=>h9 n (by simp only[Nw,DataW.weightsEach];exact List.mem_append_left _ hn),hw' fun n hn=>h9 n (by simp only[Nw,DataW.weightsEach];exact List.mem_append_right _ hn)⟩⟩
 ·rcases Np.1 hc with hc|hc;·exact ha.wide.2 c hc
  ·exact hb.wide.2 c hc
 ·have hc:((T.el a).cells++(U.el b).cells)[j]?=some c:=hc;rw[List.getElem?_append] at hc;split at hc;·rename_i hj;refine ha.rd j c v hc ?_;rw[List.getElem?_take,if_pos (by omega)];exact hv
  ·rename_i hj;refine hb.rd (j-T.n) c v (by rw[←hla];exact hc) ?_;rw[List.getElem?_drop] at hv⊢;rw[←hv];congr 1;omega
theorem NM {P:Program}{t:TypeId}{fs:Array Field}{α:Type}{T:Ty α}(hT:NL P fs.toList 0 T)(hu:P.underlying t=some (.struct fs))(hc:P.cellsOf t=T.n):xu P t T:=by refine⟨hc,fun enc W fuel cs d ps h=>?_⟩;cases fuel with|zero=>simp[DataW.trod] at h;|succ fuel=>
 unfold DataW.trod at h;rw[hu] at h;simp only at h;split at h;·rename_i hl;obtain⟨xs,h1,h2⟩:=Nk.1 h;simp only[Prod.mk.injEq] at h2;obtain⟨rfl,_⟩:=h2;obtain⟨a,ha,hs,hw⟩:=hT.read enc W fuel cs xs h1 (by omega);exact⟨a,by simpa using ha,by simp only[Rows.uptoBulk];exact hs,fun h9=>hw fun n hn=>h9 n (by unfold DataW.weights;rw[hu];exact hn)⟩
 ·cases h
theorem Jq {P:Program}{W:World}{t:TypeId}{α:Type}{T:Ty α}{H:Type}{enc:TypeId×Value→H}{v:Value}{d:DataW H}{ps:List MemPlace}(hT:xu P t T)(hv:v.cells=#[v])(he:∀a,(T.el a).cells=[T.el a])(hd:DataW.Trod enc P W 0 (fun _=>true) true t v d ps):∃a,T.ok a∧T.size a≤Rows.uptoBulk d∧((∀n,n∈d.weights P t→n≤reachBytes)→T.wt a)∧Rd W (fun _=>False) (T.el a) v:=by obtain⟨fuel,hf⟩:=hd;obtain⟨a,ha,hs,hw⟩:=hT.read enc W fuel _ d ps hf;exact⟨a,ha.ok,hs,hw,ha.rd 0 _ v (by rw[he];rfl) (by rw[hv];rfl)⟩
theorem NY {P:Program}{W:World}{t:TypeId}{α:Type}{T:Ty α}{k:IntKind}{H:Type}{enc:TypeId×Value→H}{base:Nat}{v:Value}{d:DataW H}{ps:List MemPlace}(hT:xu P t T)(he:∀a,(T.el a).cells=[T.el a])(hu:P.underlying t=some (.int k))(hval:Value.okWide P W .any base t v)(hd:DataW.Trod enc P W 0 (fun _=>true) true t v d ps):∃a,T.ok a∧T.size a≤Rows.uptoBulk d∧((∀n,n∈d.weights P t→n≤reachBytes)→T.wt a)∧Rd W (fun _=>False) (T.el a) v:=by obtain⟨n,rfl⟩:=okWide_int hu hval;exact Jq hT rfl he hd
theorem N0 {P:Program}{W:World}{t:TypeId}{α:Type}{T:Ty α}{H:Type}{enc:TypeId×Value→H}{base:Nat}{v:Value}{d:DataW H}{ps:List MemPlace}(hT:xu P t T)(he:∀a,(T.el a).cells=[T.el a])(hu:P.underlying t=some .bool)(hval:Value.okWide P W .any base t v)(hd:DataW.Trod enc P W 0 (fun _=>true) true t v d ps):∃a,T.ok a∧T.size a≤Rows.uptoBulk d∧((∀n,n∈d.weights P t→n≤reachBytes)→T.wt a)∧Rd W (fun _=>False) (T.el a) v:=by obtain⟨n,rfl⟩:=okWide_bool hu hval;exact Jq hT rfl he hd
theorem L3 {P:Program}{W:World}{t e:TypeId}{α:Type}{T:Ty α}{H:Type}{enc:TypeId×Value→H}{base:Nat}{v:Value}{d:DataW H}{ps:List MemPlace}(hT:xu P t T)(he:∀a,(T.el a).cells=[T.el a])(hu:P.underlying t=some (.slice e))(hval:Value.okWide P W .any base t v)(hd:DataW.Trod enc P W 0 (fun _=>true) true t v d ps):∃a,T.ok a∧T.size a≤Rows.uptoBulk d∧((∀n,n∈d.weights P t→n≤reachBytes)→T.wt a)∧Rd W (fun _=>False) (T.el a) v:=by obtain⟨a0,len0,cap0,rfl⟩:=okWide_slice hu hval;exact Jq hT rfl he hd
end Go.Proofs.YtgfdbddglhblbaaGreat

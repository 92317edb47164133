/- A part of the proof of what is stated of the erasing of a mirror. -/
import Derived.Test.YtgfdbddglhblbaaGreatQai
import Derived.Lib.Bytealg
set_option maxHeartbeats 64000000
namespace Go.Eng
open Go.RowKit (Below)
def JF (C:cq)(st:AS)(r:ResultVar)(K:AV→Prop):Prop:=match r with|.tmp t=>aW st.env t K|.cell t T=>aW st.env t fun p=>tO C st T p fun a _=>K a
def Bt (C : cq) (st : AS) : List ResultVar → (List AV → Prop) → Prop
  | [], K => K []
  | r :: l, K => JF C st r fun a => Bt C st l fun as => K (a :: as)
theorem Fv {C:cq}{n:Nat}{st:AS}{r:ResultVar}{K:AV→Prop}(h:JF C st r K):∃av,K av∧∀{X0 F w0 α a w},dn C.G X0 F w0 n (b9 st) α st.ss a w→∃v,(oM a.tmps r).run C.P w=.ok v w∧co w α (XX α st.ss.own X0) av v∧av.ok (b9 st):=by cases r with|tmp t=>simp only[JF] at h;replace h:=aJ h;obtain⟨av,hl,h⟩:=h;exact⟨av,h,fun{X0 F w0 α a w} hs=>⟨_,rfl,hs.env t av hl,hs.ok t av hl⟩⟩;|cell t T=>simp only[JF] at h;replace h:=aJ h;obtain⟨p,hl,h⟩:=h;obtain⟨av,rd,h,hrun⟩:=ny (n:=n) h;refine⟨av,h,fun{X0 F w0 α a w} hs=>?_⟩;obtain⟨v,⟨b,hb,hv⟩,hrv,hok⟩:=hrun hs (fun k _ e he=>he) (hs.env t p hl);exact⟨v,by simp[oM,hb,asAddr,hv],hrv,hok⟩
theorem tw {C : cq} {n : Nat} {st : AS} {rs : List ResultVar} {K : List AV → Prop} (h : Bt C st rs K) :
    ∃ as, K as ∧ as.length = rs.length ∧ ∀ {X0 F w0 α a w}, dn C.G X0 F w0 n (b9 st) α st.ss a w → ∃ vs, (rs.mapM (oM a.tmps)).run C.P w = .ok vs w ∧ as.length = vs.length ∧
      ∀ (j : Nat) (d : AV) (v : Value), as[j]? = some d → vs[j]? = some v → co w α (XX α st.ss.own X0) d v ∧ d.ok (b9 st) := by
  induction rs generalizing K with
  | nil => exact ⟨[], h, rfl, fun {X0 F w0 α a w} hs => ⟨[], by simp, rfl, by simp⟩⟩
  | cons r l ih =>
    simp only [Bt] at h
    obtain ⟨d, h, hr⟩ := Fv (n := n) h
    obtain ⟨ds, h, hlr, hrs⟩ := ih h
    refine ⟨d :: ds, h, by simp [hlr], fun {X0 F w0 α a w} hs => ?_⟩
    obtain ⟨v, hv, hd⟩ := hr hs
    obtain ⟨vs, hvs, hl, hds⟩ := hrs hs
    refine ⟨v :: vs, ?_, by simp [hl], fun j d' v' h1 h2 => ?_⟩
    · simp [List.mapM_cons, hv, hvs]
    · cases j with
      | zero => simp at h1 h2; subst h1 h2; exact hd
      | succ j => exact hds j d' v' (by simpa using h1) (by simpa using h2)
structure EndK (rs : List AV) (own' : List (Nat × Option aS)) (st' : AS) (as : List AV) : Prop where
  out : ∃ ρ, D8 ρ ⟨db 0 as, st'.own, st'.nx⟩ ⟨db 0 rs, own', 2⟩
theorem aw {rs : List AV} {own' : List (Nat × Option aS)} {st' : AS} {as : List AV} (ρ : List (Nat × Nat)) (h : D8 ρ ⟨db 0 as, st'.own, st'.nx⟩ ⟨db 0 rs, own', 2⟩) : EndK rs own' st' as := ⟨ρ, h⟩
def lI (C : cq) (vars : List ResultVar) (rs : List AV) (own' : List (Nat × Option aS)) (st : AS) : Prop := Bt C st vars fun as => EndK rs own' st as
theorem sZ {vs:List Value}{v:Value}(h1:∀x,vs=[x]→v=x)(h2:vs.length≠1→v=.tuple vs.toArray):v=kB vs.toArray:=by
 unfold kB;by_cases hl:vs.length=1
 ·obtain⟨x,rfl⟩:∃x,vs=[x]:=by match vs,hl with|[x],_=>exact⟨x,rfl⟩
  simp[h1 x rfl]
 ·simp[hl,h2 hl]
theorem oJ.mk {C : cq} {f : FuncId} {fn : Func} {body : Code} {n : Nat} {bs : List AV} {own : List (Nat × Option aS)} {rs : List AV} {own' : List (Nat × Option aS)} (hf : C.P.funcs[f]? = some fn) (h1 : (fn.name == "runtime.NumGoroutine") = false)
    (hb : fn.body = some body) (hn : fn.ntmps = n) (hle : bs.length ≤ n) (hrl : rs.length = fn.results.size)
    (h : oc C n body (lI C fn.results.toList rs own') (fun _ _ => False) (lI C fn.results.toList rs own') ⟨db 0 bs, own, 1⟩) : oJ C f bs own rs own' := by
  refine ⟨⟨fn, hf, h1, by simp [hb]⟩, fun w X F α vs hF hs0 => ?_⟩
  have main : ∀ R, R = (fun e w' => ∃ α' us, e = Ending.returned (kB us) ∧ dn C.G X F w rs.length (b9 ⟨db 0 rs, own', 2⟩) α' (AS.ss ⟨db 0 rs, own', 2⟩) ⟨us, []⟩ w') →
      body.wp C.P (bodyPost C.P fn R) { tmps := vs ++ Array.replicate (fn.ntmps - vs.size) undef, defers := [] } w := ?_
  · exact ⟨calls_of_wp hf hb (main _ rfl), fun u => callsD_of_wp hf hb (main _ rfl)⟩
  rintro R rfl
  have hvs := hs0.size
  simp only at hvs
  have hs : dn C.G X F w n (b9 ⟨db 0 bs, own, 1⟩) α (AS.ss ⟨db 0 bs, own, 1⟩) { tmps := vs ++ Array.replicate (fn.ntmps - vs.size) undef, defers := [] } w := by
    refine { hs0 with size := by simp [hn]; omega, defers := hs0.defers, env := fun t av ht => ?_ }
    have := hs0.env t av ht
    obtain ⟨_, h2⟩ := fS bs 0 t av ht
    simp only [Nat.sub_zero] at h2
    have hlt : t < vs.size := by rw [hvs]; exact (Nc.1 h2).1
    have e : (vs ++ Array.replicate (fn.ntmps - vs.size) undef).getD t undef = vs.getD t undef := by
      simp [Array.getD_eq_getD_getElem?, Array.getElem?_append, hlt]
    simp only [e]; exact this
  have fin : ∀ st' α' a' w', lI C fn.results.toList rs own' st' → dn C.G X F w n (b9 st') α' st'.ss a' w' →
      a'.defers = [] ∧ ∃ v, (results fn a'.tmps).run C.P w' = .ok v w' ∧ ∃ α' us, Ending.returned v = .returned (kB us) ∧
        dn C.G X F w rs.length (b9 ⟨db 0 rs, own', 2⟩) α' (AS.ss ⟨db 0 rs, own', 2⟩) ⟨us, []⟩ w' := by
    intro st' α' a' w' hk hs'
    obtain ⟨as, ⟨ρ, hle⟩, hal, hrun⟩ := tw (n := n) hk
    obtain ⟨us, hus, hlen, hrd⟩ := hrun hs'
    obtain ⟨v, hv, he1, he2⟩ := iu hus
    have hul : us.length = fn.results.size := by rw [← hlen, hal]; simp
    have hS : dn C.G X F w rs.length (b9 ⟨db 0 as, st'.own, st'.nx⟩) α' (AS.ss ⟨db 0 as, st'.own, st'.nx⟩) ⟨us.toArray, []⟩ w' := by
      have hget : ∀ t av, look (db 0 as) t = some av → as[t]? = some av ∧ us[t]? = some (us.toArray.getD t undef) := by
        intro t av ht
        obtain ⟨_, h2⟩ := fS as 0 t av ht
        simp only [Nat.sub_zero] at h2
        have hlt : t < us.length := by rw [← hlen]; exact (Nc.1 h2).1
        exact ⟨h2, by simp [hlt]⟩
      refine { hs' with size := by simp [hul, hrl], defers := hs0.defers, env := fun t av ht => ?_, ok := fun t av ht => ?_ }
      · obtain ⟨g1, g2⟩ := hget t av ht
        exact (hrd t av _ g1 g2).1
      · obtain ⟨g1, g2⟩ := hget t av ht
        exact (hrd t av _ g1 g2).2
    exact ⟨hs'.defers.trans hs0.defers.symm, v, hv, _, us.toArray, by rw [sZ he1 he2], hle.sim hS hF⟩
  refine ew hF body _ _ _ _ _ _ w _ h hs ?_ ?_ ?_
  · intro st' α' a' w' hk hs'; exact fin st' α' a' w' hk hs'
  · intro i st' α' a' w' hk; exact hk.elim
  · intro st' α' a' w' hk hs'; exact fin st' α' a' w' hk hs'
theorem aH.mk {C:cq}{f:FuncId}{fn:Func}{body:Code}{n:Nat}{bs:List AV}{own:List (Nat×Option aS)}{rs:List AV}{own':List (Nat×Option aS)}(hf:C.P.funcs[f]?=some fn)(h1:(fn.name== "runtime.NumGoroutine")=false)(hb:fn.body=some body)(hn:fn.ntmps=n)(hle:bs.length≤n)(hrl:rs.length=fn.results.size)(h:oc C n body (lI C fn.results.toList rs own') (fun _ _=>False) (lI C fn.results.toList rs own') ⟨db 0 bs,own,1⟩):aH C f bs own rs own':=(oJ.mk hf h1 hb hn hle hrl h).toH
end Go.Eng
namespace Go.Eng
theorem u5 {e:Int}(h1:0≤e)(h2:e≤255):IntKind.u8.wrap e=e:=by simp only[IntKind.wrap,IntKind.bits,IntKind.signed];simp;omega
theorem ar8 {e:Int}{K:Int→Prop}(h:0≤e∧e≤255)(h1:K e):vY .u8 e K:=bW e (u5 h.1 h.2) h1
theorem HM {e:Int}(h1:0≤e)(h2:e≤18446744073709551615):IntKind.u64.wrap e=e:=by simp only[IntKind.wrap,IntKind.bits,IntKind.signed];simp;omega
theorem aru {e:Int}{K:Int→Prop}(h:0≤e∧e≤18446744073709551615)(h1:K e):vY .u64 e K:=bW e (HM h.1 h.2) h1
theorem Gg {e:Int}(h1:0≤e)(h2:e≤4294967295):IntKind.u32.wrap e=e:=by simp only[IntKind.wrap,IntKind.bits,IntKind.signed];simp;omega
theorem Bp {e:Int}{K:Int→Prop}(h:0≤e∧e≤4294967295)(h1:K e):vY .u32 e K:=bW e (Gg h.1 h.2) h1
def ft (l:List Int):D:=.sl 1 (l.map (.i .i64))
theorem gC {l:List Int}{i:Nat}(h:i<l.length):(l.map (D.i .i64))[i]?=some (.i .i64 (l.getD i 0)):=by simp[h]
def fT (n:Int):Prop:=-9223372036854775808≤n∧n≤9223372036854775807
theorem uD {β:Type}{l:List β}{i:Nat}(d:β)(h:i<l.length):l.drop i=l.getD i d::l.drop (i+1):=by rw[Ny h];simp[h]
theorem nc {β:Type}{l:List β}{i:Nat}(d:β)(h:i<l.length):l[i]?=some (l.getD i d):=by simp[h]
end Go.Eng
namespace Go.Eng
theorem bp {C:cq}{f:FuncId}{ds:List D}{K:List D→Prop}{alt:Prop}{t:Bool}(h:ay C f ds [.b t])(h1:t=true→K [.b true])(h2:t=false→K [.b false]):BB C f ds K alt:=by cases t with|true=>exact ah h (h1 rfl);|false=>exact ah h (h2 rfl)
theorem gG {t:Bool}{A B:Prop}(h1:t=true→A)(h2:t=false→B):LO t A B:=by cases t with|true=>exact h1 rfl;|false=>exact h2 rfl
theorem toNat_lt (c:UInt8):c.toNat<256:=c.toNat_lt
def gy (c:UInt8):List UInt8→Option Nat|[]=>none|x::r=>if x=c then some 0 else(gy c r).map (·+1)
theorem idxO_lib (l:List UInt8)(c:UInt8):Lib.indexByte l c=match gy c l with|some i=>(i:Int)|none=>-1:=by induction l with|nil=>rfl;|cons x r ih=>
 unfold Lib.indexByte gy;by_cases h:x=c;·simp[h]
 ·simp only[beq_iff_eq,h,if_false,ih];cases gy c r with|none=>rfl;|some i=>simp only[Option.map_some];rw[if_neg (show¬((i:Int)=-1) by omega)];simp
theorem sU {l:List UInt8}{c:UInt8}{i:Nat}(h:gy c l=some i):i<l.length∧l[i]?=some c∧∀j,j<i→l[j]?≠some c:=by induction l generalizing i with|nil=>cases h;|cons x r ih=>
 simp only[gy] at h;split at h;·rename_i hx;cases h;exact⟨by simp,by simp[hx],fun j hj=>by omega⟩
 ·rename_i hx;cases hr:gy c r with|none=>rw[hr] at h;cases h;|some k=>rw[hr] at h;simp only[Option.map_some,Option.some.injEq] at h;subst h;obtain⟨h1,h2,h3⟩:=ih hr;refine⟨by simpa using h1,by simpa using h2,fun j hj=>?_⟩;cases j with|zero=>simpa using hx;|succ j=>simpa using h3 j (by omega)
theorem CC {l:List UInt8}{c:UInt8}(h:gy c l=none):c∉l:=by induction l with|nil=>simp;|cons x r ih=>
 simp only[gy] at h;split at h;·cases h
 ·rename_i hx;cases hr:gy c r with|none=>simp only[List.mem_cons,not_or];exact⟨fun e=>hx e.symm,ih hr⟩;|some k=>rw[hr] at h;cases h
theorem pP {l:List UInt8}{c:UInt8}:gy c l=none↔c∉l:=by refine⟨CC,fun h=>?_⟩;cases hr:gy c l with|none=>rfl;|some k=>exact absurd (Ni (sU hr).2.1) h
def cz (c:UInt8)(l:List UInt8):List UInt8×List UInt8×Bool:=match gy c l with|some i=>(l.take i,l.drop (i+1),true)|none=>(l,[],false)
theorem iI {β:Type}{l:List β}{p:β→Bool}{i:Nat}(hi:i<l.length)(h:(l.take i).all p=true)(hp:p l[i]=true):(l.take (i+1)).all p=true:=by rw[Nh hi,List.all_append,h];simp[hp]
theorem iJ {β:Type}{l:List β}{p:β→Bool}{i:Nat}(hi:i<l.length)(hp:p l[i]=false):l.all p=false:=by rw[Bool.eq_false_iff];intro h;have:=List.all_eq_true.1 h _ (Nr hi);rw[hp] at this;cases this
theorem kY {β:Type}{l:List β}{p:β→Bool}{i:Nat}(hi:l.length≤i)(h:(l.take i).all p=true):l.all p=true:=by rwa [Nt hi] at h
def JC (c:UInt8):Bool:=decide (c.toNat=32∨c.toNat=9)
def gU (l:List UInt8):List UInt8:=l.dropWhile JC
def iC (l:List UInt8):List UInt8:=(l.reverse.dropWhile JC).reverse
def dA (l:List UInt8):List UInt8:=iC (gU l)
theorem rj (l:List UInt8):(gU l).length≤l.length:=(List.dropWhile_sublist _).length_le
theorem z4 (l:List UInt8):(iC l).length≤l.length:=by unfold iC;rw[List.length_reverse];have:=(List.dropWhile_sublist JC (l:=l.reverse)).length_le;simpa using this
theorem fM (l:List UInt8):(dA l).length≤l.length:=Nat.le_trans (z4 _) (rj _)
theorem wJ {l:List UInt8}(h:0<l.length)(hs:JC l[0]=true):gU (l.drop 1)=gU l:=by cases l with|nil=>simp at h;|cons x r=>simp only[gU,List.drop_one,List.tail_cons];rw[List.dropWhile_cons];simp at hs;simp[hs]
theorem yi {l:List UInt8}(h:0<l.length)(hs:JC l[0]=false):gU l=l:=by cases l with|nil=>rfl;|cons x r=>simp only[gU];rw[List.dropWhile_cons];simp at hs;simp[hs]
theorem oC (r:List UInt8)(x:UInt8):iC (r++[x])=if JC x then iC r else r++[x]:=by unfold iC;rw[List.reverse_append];simp only[List.reverse_cons,List.reverse_nil,List.nil_append,List.singleton_append];rw[List.dropWhile_cons];split<;>simp
theorem nO {l:List UInt8}(h:0<l.length):l=l.take (l.length-1)++[l[l.length-1]'(by omega)]:=by
 conv=>lhs;rw[←ND (l:=l)]
 have h2:=Nh (l:=l) (i:=l.length-1) (by omega);rw[show l.length-1+1=l.length by omega] at h2;exact h2
theorem xv {l:List UInt8}(h:0<l.length)(hs:JC (l[l.length-1]'(by omega))=true):iC (l.take (l.length-1))=iC l:=by
 conv=>rhs;rw[nO h]
 rw[oC,if_pos hs]
theorem yB {l:List UInt8}(h:0<l.length)(hs:JC (l[l.length-1]'(by omega))=false):iC l=l:=by
 conv=>lhs;rw[nO h]
 rw[oC,if_neg (by rw[hs];simp)];exact(nO h).symm
def Lu (c:UInt8):Bool:=decide ((65≤c.toNat∧c.toNat≤90)∨(97≤c.toNat∧c.toNat≤122)∨(48≤c.toNat∧c.toNat≤57))
def Ko:List UInt8:=[33,35,36,37,38,39,42,43,45,46,94,95,96,124,126]
def s9 (c:UInt8):Bool:=Lu c||decide (c∈Ko)
def eX (l:List UInt8):Bool:=l.all s9&&decide (l≠[])
def oh (c:UInt8):Bool:=decide (c.toNat=9∨32≤c.toNat∧c.toNat≠127)
def nD (l:List UInt8):Bool:=l.all oh
def qj (l:List UInt8):Bool:=nD l&&decide (dA l=l)
abbrev bB:=List UInt8×List UInt8
def aL (f:bB):D:=.agg [.s f.1,.s f.2]
def hZ (f:bB):Bool:=eX f.1&&qj f.2
def bP (l:List (List UInt8)):D:=.sl 1 (l.map .s)
theorem uF {l:List UInt8}{c:UInt8}{i:Nat}(h:l[i]?=some c)(h2:c∉l.take i):gy c l=some i:=by induction l generalizing i with|nil=>simp at h;|cons x r ih=>cases i with|zero=>simp at h;simp[gy,h];|succ i=>simp only[List.take_succ_cons,List.mem_cons,not_or] at h2;simp only[gy,if_neg (show¬x=c from fun e=>h2.1 e.symm),ih (by simpa using h) h2.2,Option.map_some]
def bm (c:UInt8):List UInt8→List (List UInt8)|[]=>[[]]|x::r=>if x=c then[]::bm c r else match bm c r with|[]=>[[x]]|h::t=>(x::h)::t
theorem tJ (c:UInt8):∀l,bm c l≠[]
 |[]=>by simp[bm];|x::r=>by
  simp only[bm];split;·simp
  ·split<;>simp
theorem oj {c:UInt8}:∀{l:List UInt8},c∉l→bm c l=[l]|[],_=>rfl|x::r,h=>by simp only[List.mem_cons,not_or] at h;simp only[bm,if_neg (show¬x=c from fun e=>h.1 e.symm),oj h.2]
theorem qq {c:UInt8}{r:List UInt8}:∀{l:List UInt8},c∉l→bm c (l++c::r)=l::bm c r|[],_=>by simp[bm];|x::l,h=>by simp only[List.mem_cons,not_or] at h;simp only[List.cons_append,bm,if_neg (show¬x=c from fun e=>h.1 e.symm),qq h.2]
theorem fQ (c:UInt8):∀l,(bm c l).length=l.count c+1
 |[]=>rfl|x::r=>by
  simp only[bm];by_cases h:x=c;·simp[h,fQ c r]
  ·have:=fQ c r;have hne:=tJ c r;simp only[if_neg h];cases hs:bm c r with|nil=>exact absurd hs hne;|cons y t=>rw[hs] at this;simp at this⊢;rw[this,List.count_cons_of_ne h]
theorem uy (c:UInt8)(l:List UInt8):(bm c l).length≤l.length+1:=by rw[fQ];have:=List.count_le_length (a:=c) (l:=l);omega
theorem dz {c:UInt8}:∀{l x:List UInt8},x∈bm c l→x.length≤l.length
 |[],x,h=>by simp[bm] at h;simp[h];|y::r,x,h=>by
  simp only[bm] at h;split at h
  ·rcases List.mem_cons.1 h with rfl|h;·simp
   ·have:=dz h;simp;omega
  ·split at h;·simp at h;simp[h]
   ·rename_i z t hs;rcases List.mem_cons.1 h with rfl|h;·have:=dz (c:=c) (l:=r) (x:=z) (by rw[hs];simp);simp;omega
    ·have:=dz (c:=c) (l:=r) (x:=x) (by rw[hs];exact Nv _ h);simp;omega
def dM (l:List UInt8):bB×Int:=if(cz 58 l).2.2=true∧hZ ((cz 58 l).1,dA (cz 58 l).2.1)=true then(((cz 58 l).1,dA (cz 58 l).2.1),0) else(([],[]),2)
theorem vP {l:List UInt8}{i:Nat}{c:UInt8}(h:l[i]?=some c):l=l.take i++c::l.drop (i+1):=by
 obtain⟨h1,h2⟩:=Nc.1 h;conv=>lhs;rw[←NB i l]
 rw[Ny h1,h2]
theorem mY {l:List UInt8}{i:Nat}(h:i<l.length):(aD l)[i]?=some (.i .u8 ((l[i]).toNat:Int)):=by simp[aD,h]
theorem aK (l:List UInt8):(aD l).length=l.length:=by simp[aD]
theorem cU (a b:List UInt8):aD a++aD b=aD (a++b):=by simp[aD]
theorem dT (l:List UInt8)(n:Nat):(aD l).take n=aD (l.take n):=by simp[aD,List.map_take]
theorem fO (l:List UInt8)(n:Nat):(aD l).drop n=aD (l.drop n):=by simp[aD,List.map_drop]
end Go.Eng
namespace Go.Eng
open Go.RowKit (Below)
structure uC (s st':AS):Prop where out:∃ρ,D8 ρ st' s
theorem freeze {s st':AS}(ρ:List (Nat×Nat))(h:D8 ρ st' s):uC s st':=⟨ρ,h⟩
theorem ay.mk_cut {C:cq}{f:FuncId}{fn:Func}{A B R:Code}{n:Nat}{ds rs:List D}(hf:C.P.funcs[f]?=some fn)(h1:(fn.name== "runtime.NumGoroutine")=false)(hb:fn.body=some (.seq A (.seq B R)))(hn:fn.ntmps=n)(hle:ds.length≤n)(s:AS)(hA:oc C n A (fun s1=>oc C n B (uC s) (fun _ _=>False) (fun _=>False) s1) (fun _ _=>False) (fun _=>False) (jL ds))(h:oc C n R (x9 C fn.results.toList rs) (fun _ _=>False) (x9 C fn.results.toList rs) s):ay C f ds rs:=by
 refine⟨⟨fn,hf,h1,by simp[hb]⟩,fun w X vs hX hG hl hd=>calls_of_wp hf hb ?_⟩;have hs:=tC (n:=n) (fn:=fn) hn hle hX hG hl hd;have fin:∀st' α' a' w',x9 C fn.results.toList rs st'→dn C.G X ⟨fun _=>False,fun _=>none,[]⟩ w n (b9 st') α' st'.ss a' w'→a'.defers=[]∧∃v,(results fn a'.tmps).run C.P w'=.ok v w'∧∃v',Ending.returned v=.returned v'∧co w' (fun _=>⟨0,0,0,false,.bool false⟩) X (gP rs) v'∧Below w.heap.size w w':=by intro st' α' a' w' hk hs';obtain⟨out,rfl,hrun⟩:=xP (n:=n) hk;obtain⟨us,hus,hlen,hrd⟩:=hrun hs';obtain⟨v,hv,he1,he2⟩:=iu hus;exact⟨hs'.defers,v,hv,v,rfl,DP hlen hrd he1 he2,⟨hs'.os,hs'.tape,hs'.output,hs'.grow,fun b hb=>hs'.fr b hb id⟩⟩
 refine wp_seq (ew (fun _ _ h=>by cases h) A _ _ _ (jL ds) _ _ w _ hA hs ?_ (fun i st' α' a' w' hk=>hk.elim) (fun st' α' a' w' hk=>hk.elim));intro st1 α1 a1 w1 h1' hs1;refine wp_seq (ew (fun _ _ h=>by cases h) B _ _ _ st1 _ _ w1 _ h1' hs1 ?_ (fun i st' α' a' w' hk=>hk.elim) (fun st' α' a' w' hk=>hk.elim));intro st2 α2 a2 w2 h2 hs2;obtain⟨ρ,hle2⟩:=h2.out;have hs3:=hle2.sim hs2 (fun _ _ h=>by cases h);refine ew (fun _ _ h=>by cases h) R _ _ _ s _ _ w2 _ h hs3 ?_ (fun i st' α' a' w' hk=>hk.elim) ?_;·intro st' α' a' w' hk hs';exact fin st' α' a' w' hk hs'
 ·intro st' α' a' w' hk hs';exact fin st' α' a' w' hk hs'
end Go.Eng
namespace Go.Eng
open Go.RowKit (Below)
theorem oJ.mk_cut3 {C : cq} {f : FuncId} {fn : Func} {A B D Z : Code} {n : Nat} {bs : List AV} {own : List (Nat × Option aS)} {rs : List AV} {own' : List (Nat × Option aS)} (hf : C.P.funcs[f]? = some fn) (h1 : (fn.name == "runtime.NumGoroutine") = false)
    (hb : fn.body = some (.seq A (.seq B (.seq D Z)))) (hn : fn.ntmps = n) (hle : bs.length ≤ n) (hrl : rs.length = fn.results.size) (s : AS)
    (hA : oc C n A (fun s1 => oc C n B (fun s2 => oc C n D (uC s) (fun _ _ => False) (fun _ => False) s2) (fun _ _ => False) (fun _ => False) s1) (fun _ _ => False) (fun _ => False) ⟨db 0 bs, own, 1⟩)
    (h : oc C n Z (lI C fn.results.toList rs own') (fun _ _ => False) (lI C fn.results.toList rs own') s) : oJ C f bs own rs own' := by
  refine ⟨⟨fn, hf, h1, by simp [hb]⟩, fun w X F α vs hF hs0 => ?_⟩
  have main : ∀ R, R = (fun e w' => ∃ α' us, e = Ending.returned (kB us) ∧ dn C.G X F w rs.length (b9 ⟨db 0 rs, own', 2⟩) α' (AS.ss ⟨db 0 rs, own', 2⟩) ⟨us, []⟩ w') →
      (Code.seq A (.seq B (.seq D Z))).wp C.P (bodyPost C.P fn R) { tmps := vs ++ Array.replicate (fn.ntmps - vs.size) undef, defers := [] } w := ?_
  · exact ⟨calls_of_wp hf hb (main _ rfl), fun u => callsD_of_wp hf hb (main _ rfl)⟩
  rintro R rfl
  have hvs := hs0.size
  simp only at hvs
  have hs : dn C.G X F w n (b9 ⟨db 0 bs, own, 1⟩) α (AS.ss ⟨db 0 bs, own, 1⟩) { tmps := vs ++ Array.replicate (fn.ntmps - vs.size) undef, defers := [] } w := by
    refine { hs0 with size := by simp [hn]; omega, defers := hs0.defers, env := fun t av ht => ?_ }
    have := hs0.env t av ht
    obtain ⟨_, h2⟩ := fS bs 0 t av ht
    simp only [Nat.sub_zero] at h2
    have hlt : t < vs.size := by rw [hvs]; exact (Nc.1 h2).1
    have e : (vs ++ Array.replicate (fn.ntmps - vs.size) undef).getD t undef = vs.getD t undef := by
      simp [Array.getD_eq_getD_getElem?, Array.getElem?_append, hlt]
    simp only [e]; exact this
  have fin : ∀ st' α' a' w', lI C fn.results.toList rs own' st' → dn C.G X F w n (b9 st') α' st'.ss a' w' →
      a'.defers = [] ∧ ∃ v, (results fn a'.tmps).run C.P w' = .ok v w' ∧ ∃ α' us, Ending.returned v = .returned (kB us) ∧
        dn C.G X F w rs.length (b9 ⟨db 0 rs, own', 2⟩) α' (AS.ss ⟨db 0 rs, own', 2⟩) ⟨us, []⟩ w' := by
    intro st' α' a' w' hk hs'
    obtain ⟨as, ⟨ρ, hle⟩, hal, hrun⟩ := tw (n := n) hk
    obtain ⟨us, hus, hlen, hrd⟩ := hrun hs'
    obtain ⟨v, hv, he1, he2⟩ := iu hus
    have hul : us.length = fn.results.size := by rw [← hlen, hal]; simp
    have hS : dn C.G X F w rs.length (b9 ⟨db 0 as, st'.own, st'.nx⟩) α' (AS.ss ⟨db 0 as, st'.own, st'.nx⟩) ⟨us.toArray, []⟩ w' := by
      have hget : ∀ t av, look (db 0 as) t = some av → as[t]? = some av ∧ us[t]? = some (us.toArray.getD t undef) := by
        intro t av ht
        obtain ⟨_, h2⟩ := fS as 0 t av ht
        simp only [Nat.sub_zero] at h2
        have hlt : t < us.length := by rw [← hlen]; exact (Nc.1 h2).1
        exact ⟨h2, by simp [hlt]⟩
      refine { hs' with size := by simp [hul, hrl], defers := hs0.defers, env := fun t av ht => ?_, ok := fun t av ht => ?_ }
      · obtain ⟨g1, g2⟩ := hget t av ht
        exact (hrd t av _ g1 g2).1
      · obtain ⟨g1, g2⟩ := hget t av ht
        exact (hrd t av _ g1 g2).2
    exact ⟨hs'.defers.trans hs0.defers.symm, v, hv, _, us.toArray, by rw [sZ he1 he2], hle.sim hS hF⟩
  refine wp_seq (ew hF A _ _ _ _ _ _ w _ hA hs ?_ (fun i st' α' a' w' hk => hk.elim) (fun st' α' a' w' hk => hk.elim))
  intro st1 α1 a1 w1 h1' hs1
  refine wp_seq (ew hF B _ _ _ st1 _ _ w1 _ h1' hs1 ?_ (fun i st' α' a' w' hk => hk.elim) (fun st' α' a' w' hk => hk.elim))
  intro st2 α2 a2 w2 h2' hs2
  refine wp_seq (ew hF D _ _ _ st2 _ _ w2 _ h2' hs2 ?_ (fun i st' α' a' w' hk => hk.elim) (fun st' α' a' w' hk => hk.elim))
  intro st3 α3 a3 w3 h3 hs3
  obtain ⟨ρ, hle2⟩ := h3.out
  have hs4 := hle2.sim hs3 hF
  refine ew hF Z _ _ _ s _ _ w3 _ h hs4 ?_ ?_ ?_
  · intro st' α' a' w' hk hs'; exact fin st' α' a' w' hk hs'
  · intro i st' α' a' w' hk; exact hk.elim
  · intro st' α' a' w' hk hs'; exact fin st' α' a' w' hk hs'
end Go.Eng
namespace Go.Eng
theorem dk {C:cq}{ops:Array Oper}{fps:List Fp}{K:Prop}(h:K)(d:(C.P.follows .mixedOrders&&yV ops fps&&tP ops.toList 0)=true:=by kernel_rfl):zF C ops fps∧K:=⟨⟨d⟩,h⟩
theorem aq {e:Int}{K:Int→Prop}(h1:K e)(h:-9223372036854775808≤e∧e≤9223372036854775807:=by exact⟨by omega,by omega⟩):vY .i64 e K:=ar h h1
theorem mD {C:cq}{f:FuncId}{fn:Func}{body:Code}{ds rs:List D}(n:Nat)(hf:C.P.funcs[f]?=some fn)(h:oc C n body (x9 C fn.results.toList rs) (fun _ _=>False) (x9 C fn.results.toList rs) (jL ds))(h1:(fn.name== "runtime.NumGoroutine")=false:=by exact rfl)(hb:fn.body=some body:=by exact rfl)(hn:fn.ntmps=n:=by exact rfl)(hle:ds.length≤n:=by exact Nat.le_of_ble_eq_true rfl):ay C f ds rs:=ay.mk hf h1 hb hn hle h
theorem mH {C:cq}{f:FuncId}{fn:Func}{body:Code}{bs:List AV}{own:List (Nat×Option aS)}{rs:List AV}{own':List (Nat×Option aS)}(n:Nat)(hf:C.P.funcs[f]?=some fn)(h:oc C n body (lI C fn.results.toList rs own') (fun _ _=>False) (lI C fn.results.toList rs own') ⟨db 0 bs,own,1⟩)(h1:(fn.name== "runtime.NumGoroutine")=false:=by exact rfl)(hb:fn.body=some body:=by exact rfl)(hn:fn.ntmps=n:=by exact rfl)(hle:bs.length≤n:=by exact Nat.le_of_ble_eq_true rfl)(hrl:rs.length=fn.results.size:=by exact rfl):aH C f bs own rs own':=aH.mk hf h1 hb hn hle hrl h
theorem oT {p:Prop}(h:p:=by(first|with_reducible rfl|(congr 1<;>omega)|(congr 1<;>simp;done)|(simp;done)|exact am _ _)):p:=h
theorem aF {p:Prop}(h:p:=by((repeat' constructor)<;>(first|refine aI ?_|rfl)<;>first|with_reducible rfl|(congr 1<;>omega)|(congr 1<;>simp;done)|(simp;done)|exact am _ _|skip)):p:=h
end Go.Eng

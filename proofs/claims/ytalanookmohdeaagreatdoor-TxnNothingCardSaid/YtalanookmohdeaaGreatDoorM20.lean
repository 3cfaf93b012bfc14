/- TxnNothing: the walk. No condition. -/
import Derived.KernelRfl
import Derived.Test.YtalanookmohdeaaGreatDoorM19
import Derived.Test.YtalanookmohdeaaGreatDoorM9
import Derived.Test.YtalanookmohdeaaGreatDoorM8
import Derived.Test.YtalanookmohdeaaGreatDoorM6
import Derived.Test.YtalanookmohdeaaGreatDoorM4
namespace Go.Proofs.YtalanookmohdeaaGreatDoor
open Go Go.Sx
def dN:Nat→List (Nat×Nat)→List Cs→List aG
 |j,p::cl,m::ms=>m.res (j:Nat) p.1::dN (j+1) cl ms
 |_,_,_=> []
theorem tE:∀ {cl:List (Nat×Nat)}{ms:List Cs}{i j b kk:Nat}{m:Cs},cl[j]? =some (b,kk)→ms[j]? =some m→(dN i cl ms)[j]? =some (m.res ((i+j:Nat):Int) b)
 | [],_,_,_,_,_,_,h,_=>by simp at h
 |_::_,[],_,_,_,_,_,_,h=>by simp at h
 |p::cl,m::ms,i,0,b,kk,m2,h,h2=>by
  simp only [List.getElem?_cons_zero,Option.some.injEq] at h h2
  subst h;subst h2;rfl
 |p::cl,m::ms,i,j+1,b,kk,m2,h,h2=>by
  have:=tE (i:=i+1) (cl:=cl) (ms:=ms) (by simpa using h) (by simpa using h2)
  show(dN (i+1) cl ms)[j]? =_
  rw [this,show i+1+j=i+(j+1) by omega]
theorem zy:∀ {cl:List (Nat×Nat)}{ms:List Cs}{i j b kk:Nat}{m:Cs},cl[j]? =some (b,kk)→(dN i cl ms).set j (m.res ((i+j:Nat):Int) b)=dN i cl (ms.set j m)
 | [],_,_,_,_,_,_,h=>by simp at h
 |_::_,[],_,_,_,_,_,_=>rfl
 |p::cl,m::ms,i,0,b,kk,m2,h=>by
  simp only [List.getElem?_cons_zero,Option.some.injEq] at h
  subst h;rfl
 |p::cl,m::ms,i,j+1,b,kk,m2,h=>by
  have:=zy (i:=i+1) (cl:=cl) (ms:=ms) (m:=m2) (j:=j) (by simpa using h)
  show _::(dN (i+1) cl ms).set j _=_::dN (i+1) cl (ms.set j m2)
  rw [←this,show i+1+j=i+(j+1) by omega]
def gq (vs:List (Value×Nat)):List aG:=vs.map fun p=>ie Tryz.prog 188 p.1 p.2
def ic:List (Nat×Nat×List Ac)→List Nat→Nat
 |x::xs,n::ns=>(x.2.2.length - n)+ic xs ns
 |_,_=>0
def jH:List (Nat×Nat×List Ac)→List Nat→List Cs→Nat
 |x::xs,n::ns,m::ms=>(m.bN+30*(x.2.2.length - n))+jH xs ns ms
 |_,_,_=>0
theorem xf:∀ {xs:List (Nat×Nat×List Ac)}{ns:List Nat}{j n n':Nat}{x},xs[j]? =some x→ns[j]? =some n→ic xs (ns.set j n')+(x.2.2.length - n)=ic xs ns+(x.2.2.length - n')
 | [],_,_,_,_,_,h,_=>by simp at h
 |_::_,[],_,_,_,_,_,h=>by simp at h
 |y::xs,a::ns,0,n,n',x,h,h2=>by
  simp only [List.getElem?_cons_zero,Option.some.injEq] at h h2
  subst h;subst h2
  show(y.2.2.length - n')+ic xs ns+_=(y.2.2.length - a)+ic xs ns+_
  omega
 |y::xs,a::ns,j+1,n,n',x,h,h2=>by
  have:=xf (n':=n') (xs:=xs) (ns:=ns) (j:=j) (by simpa using h) (by simpa using h2)
  show(y.2.2.length - a)+ic xs (ns.set j n')+_=(y.2.2.length - a)+ic xs ns+_
  omega
theorem wi:∀ {xs:List (Nat×Nat×List Ac)}{ns:List Nat}{ms:List Cs}{j n n':Nat}{x}{m m':Cs},xs[j]? =some x→ns[j]? =some n→ms[j]? =some m→
  jH xs (ns.set j n') (ms.set j m')+(m.bN+30*(x.2.2.length - n))=jH xs ns ms+(m'.bN+30*(x.2.2.length - n'))
 | [],_,_,_,_,_,_,_,_,h,_,_=>by simp at h
 |_::_,[],_,_,_,_,_,_,_,_,h,_=>by simp at h
 |_::_,_::_,[],_,_,_,_,_,_,_,_,h=>by simp at h
 |y::xs,a::ns,q::ms,0,n,n',x,m,m',h,h2,h3=>by
  simp only [List.getElem?_cons_zero,Option.some.injEq] at h h2 h3
  subst h;subst h2;subst h3
  show(m'.bN+30*(y.2.2.length - n'))+jH xs ns ms+_=(q.bN+30*(y.2.2.length - a))+jH xs ns ms+_
  omega
 |y::xs,a::ns,q::ms,j+1,n,n',x,m,m',h,h2,h3=>by
  have:=wi (n':=n') (m':=m') (xs:=xs) (ns:=ns) (ms:=ms) (j:=j) (by simpa using h) (by simpa using h2) (by simpa using h3)
  show(q.bN+30*(y.2.2.length - a))+jH xs (ns.set j n') (ms.set j m')+_=(q.bN+30*(y.2.2.length - a))+jH xs ns ms+_
  omega
structure RS where
 nx:List Nat
 at_:List Int
 tf:Tf
 ck:Int
 ms:List Cs
 σ:eQ
 vs:List (Value×Nat)
structure Cl (tf:Tf) (σ:eQ) (j:Nat) (acts:List Ac) (nj:Nat) (a:Int) (m:Cs) (v:Value) (n:Nat):Prop where
 le:nj≤acts.length
 ip:m.dB=true∨m.bt=true
 out:fQ m=false→a= -1
 inn:fQ m=true→∃t nt l,a=Int.ofNat t∧tf= .row nt l∧fk (gy v) l nt t m.goal
 wf:m.wf σ.now (2*nj)
 nle:n+(if m.bt=true then 1 else 0)≤nj
 act:m.bt=true→∃a,1≤nj∧acts[nj - 1]? =some a∧a.kd=m.act
 sv:lE v n
 own:(j:Int)∈bS σ.il ↔ m.walk=true
structure RS.Ok (C:cF) (g:Int) (s:RS):Prop where
 nx:s.nx.length=C.nc
 at_:s.at_.length=C.nc
 ms:s.ms.length=C.nc
 vs:s.vs.length=C.nc
 cl:∀(j:Nat) x nj a m v,C.acts[j]? =some x→s.nx[j]? =some nj→s.at_[j]? =some a→s.ms[j]? =some m→s.vs[j]? =some v→Cl s.tf s.σ j x.2.2 nj a m v.1 v.2
 row:∀nt l,s.tf= .row nt l→dG l∧l.length=nt*10
 dist:∀(i j:Nat) (t:Nat),i≠j→s.at_[i]? =some (Int.ofNat t)→s.at_[j]? ≠some (Int.ofNat t)
 fK:s.tf.fK+ic C.acts s.nx≤1000
 now:0≤s.σ.now∧s.σ.now≤g
 count:0≤s.σ.count∧s.σ.count+(jH C.acts s.nx s.ms:Nat)≤1000000
 nodup:(bS s.σ.il).Nodup
theorem zT:∀ {xs:List (Nat×Nat×List Ac)}{ns:List Nat}{j n:Nat}{x},xs[j]? =some x→ns[j]? =some n→x.2.2.length - n≤ic xs ns
 | [],_,_,_,_,h,_=>by simp at h
 |_::_,[],_,_,_,_,h=>by simp at h
 |y::xs,a::ns,0,n,x,h,h2=>by
  simp only [List.getElem?_cons_zero,Option.some.injEq] at h h2
  subst h;subst h2
  show _≤(y.2.2.length - a)+ic xs ns
  omega
 |y::xs,a::ns,j+1,n,x,h,h2=>by
  have:=zT (xs:=xs) (ns:=ns) (j:=j) (by simpa using h) (by simpa using h2)
  show _≤(y.2.2.length - a)+ic xs ns
  omega
def Tf.put:Tf→Option Nat→Value→Tf
 | .row nt l,some t,x=> .row nt (l.set (10*t+7) x)
 |tf,_,_=>tf
def gH:Int→Option Nat
 | .ofNat t=>some t
 |_=>none
theorem Tf.vX (tf:Tf) (o:Option Nat) (x:Value):(tf.put o x).fK=tf.fK:=by
 cases tf <;> cases o <;> rfl
theorem Tf.L3 (tf:Tf) (o:Option Nat) (x:Value):(tf.put o x).cells.length=tf.cells.length:=by
 cases tf <;> cases o <;> simp [Tf.put,Tf.cells]
theorem Tf.Dy {tf:Tf}{o:Option Nat}{x:Value}{i:Nat} (h:∀t,o=some t→i≠10*t+7):(tf.put o x).cells[i]? =tf.cells[i]? :=by
 cases tf with
 |nil=>cases o <;> rfl
 |row nt l=>
  cases o with
  |none=>rfl
  |some t=>
   show(l.set (10*t+7) x)[i]? =l[i]?
   rw [List.getElem?_set,if_neg (fun e=>h t rfl e.symm)]
theorem Cl.form {tf:Tf}{σ:eQ}{j:Nat}{acts:List Ac}{nj:Nat}{a:Int}{m:Cs}{v:Value}{n:Nat} (h:Cl tf σ j acts nj a m v n) (hr:∀nt l,tf= .row nt l→dG l∧l.length=nt*10) (x:Nat):Form (.chan (some x)) m a (tf.put (gH a) (.chan (some x))):=by
 cases hi:fQ m with
 |false=>
  have:=h.out hi
  subst this
  cases tf with
  |nil=>exact .n hi
  |row nt l=>exact .m hi (hr nt l rfl).1 (hr nt l rfl).2
 |true=>
  obtain⟨t,nt,l,rfl,rfl,ht⟩:=h.inn hi
  have hlt:=(List.getElem?_eq_some_iff.1 ht.seen).1
  obtain⟨q,hq⟩:=ht.tir
  exact .p hi ⟨by rw [List.length_set];exact ht.len,ht.lt,by rw [List.getElem?_set,if_neg (by omega)];exact ht.rds,⟨q,by rw [List.getElem?_set,if_neg (by omega)];exact hq⟩,by rw [List.getElem?_set,if_pos rfl,if_pos hlt],Mq (hr nt l rfl).1⟩
structure Tx (x:Nat) (m:Cs) (a:Int) (tf:Tf) (o:Option Nat) (k:Bool):Prop where
 cell:∀t,o=some t→∃nt l,tf= .row nt l∧l[10*t+7]? =some (.chan (some x))
 row:∀v,eB v→∀nt l,tf.put o v= .row nt l→dG l∧l.length=nt*10
 out:fQ m=false→a= -1
 bC:∀(nm:Nat→Option Nat) z,nm x=some z→∀nt l,tf= .row nt l→tf.put o (.chan (some z))= .row nt (l.map (ao nm 9))
 inn:fQ m=true→∀v,∃t nt l,a=Int.ofNat t∧tf.put o v= .row nt l∧((k=true∧o=some t∧(eB v→fk v l nt t m.goal))∨(k=false∧o=none∧fk (.slice none 0 0) l nt t m.goal))
theorem lL (v:Value):eB (gy v):=⟨(sU v).2,(sU v).1⟩
theorem Mp {x:Nat}{m:Cs}{a:Int}{tf:Tf} (h:Fin (.chan (some x)) m a tf):∃o k,Tx x m a tf o k:=by
 cases h with
 |n h=>exact⟨none,true,nofun,fun v _ nt l e=>(by cases e),fun _=>rfl,fun nm z _ nt l e=>(by cases e),fun e=>by rw [h] at e;cases e⟩
 |m h hs hl=>exact⟨none,true,nofun,fun v _ nt l e=>(by cases e;exact⟨hs,hl⟩),fun _=>rfl,fun nm z _ nt l e=>(by cases e;rw [gd hs];rfl),fun e=>by rw [h] at e;cases e⟩
 |p h ht=>
  rename_i nt t l
  have hlt:=(List.getElem?_eq_some_iff.1 ht.seen).1
  refine⟨some t,true,fun t2 e=> ?_,fun v hv nt2 l2 e=> ?_,fun e=>(by rw [h] at e;cases e),fun nm z hn nt l e=>(by cases e;rw [qK ht.rest ht.seen hn];rfl),fun _ v=>⟨t,nt,l.set (10*t+7) v,rfl,rfl,.inl ⟨rfl,rfl,fun hv=> ?_⟩⟩⟩
  · cases e;exact⟨nt,l,rfl,ht.seen⟩
  · cases e;exact⟨v7 ht.rest hv,by rw [List.length_set];exact ht.len⟩
  · obtain⟨q,hq⟩:=ht.tir
    exact⟨by rw [List.length_set];exact ht.len,ht.lt,by rw [List.getElem?_set,if_neg (by omega)];exact ht.rds,⟨q,by rw [List.getElem?_set,if_neg (by omega)];exact hq⟩,by rw [List.getElem?_set,if_pos rfl,if_pos hlt],(v7 ht.rest hv).b _⟩
 |k h ht hs=>
  rename_i nt t l
  exact⟨none,false,nofun,fun v _ nt2 l2 e=>(by cases e;exact⟨hs,ht.len⟩),fun e=>(by rw [h] at e;cases e),fun nm z _ nt l e=>(by cases e;rw [gd hs];rfl),fun _ v=>⟨t,nt,l,rfl,rfl,.inr ⟨rfl,rfl,ht⟩⟩⟩
 |e h hl hlt hb hp=>
  rename_i nt t l
  refine⟨some t,true,fun t2 e=> ?_,fun v hv nt2 l2 e=> ?_,fun _=>rfl,fun nm z hn nt l e=>(by cases e;rw [qK hb hp hn];rfl),fun e=>(by rw [h] at e;cases e)⟩
  · cases e;exact⟨nt,l,rfl,hp⟩
  · cases e;exact⟨v7 hb hv,by rw [List.length_set];exact hl⟩
def RS.next (s:RS) (j nj:Nat) (a:Int) (tf:Tf) (o:Option Nat) (k:Bool) (ck:Int) (m:Cs) (σ:eQ) (v:Value) (n:Nat):RS:=
 ⟨s.nx.set j nj,s.at_.set j a,tf.put o (gy v),ck,s.ms.set j m,σ,s.vs.set j (if k then(v,n) else(.slice none 0 0,0))⟩
theorem xh:lE (.slice none 0 0) 0:=⟨none,0,0,rfl,Nat.le_refl _,.inl ⟨rfl,rfl,rfl⟩⟩
theorem iy {α:Type}{l:List α}{i j:Nat}{x:α} (h:i≠j):(l.set j x)[i]? =l[i]? :=by rw [List.getElem?_set,if_neg (fun e=>h e.symm)]
theorem fA {α:Type}{l:List α}{i n:Nat} (h:l.length=n) (hi:i < n):∃x,l[i]? =some x:=⟨l[i]'(by omega),List.getElem?_eq_getElem (by omega)⟩
theorem Py {v:Value}{x:Nat}:gy v≠ .chan (some x):=by
 unfold gy
 split <;> exact nofun
theorem MT {C:cF}{g:Int}{s:RS} (hok:C.Ok) (h:s.Ok C g) {j nj b:Nat}{x:Nat×Nat×List Ac}{a1:Int}{m:Cs}{v:Value×Nat} (hx:C.acts[j]? =some x) (hnx:s.nx[j]? =some nj) (hat:s.at_[j]? =some a1) (hms:s.ms[j]? =some m) (hvs:s.vs[j]? =some v)
  {L L':List aG} {nj':Nat} {a':Int} {nx':List Nat} {at':List Int} {tf':Tf} {n':Nat} {m':Cs} {σ':eQ} (T:PW C j x.2.2 b g nj s.nx s.at_ a1 (s.tf.put (gH a1) (.chan (some 46))) L m s.σ nj' a' nx' at' tf' n' L' m' σ')
  {o:Option Nat} {k:Bool} (hc:Tx 480 m' a' tf' o k) {v':Value} (hv:lE v' n') (ck:Int):(s.next j nj' a' tf' o k ck m' σ' v' n').Ok C g:=by
 have hj:j < C.nc:=by rw [←hok.n];exact(List.getElem?_eq_some_iff.1 hx).1
 have data:∀i,i < C.nc→∃y n a q w,C.acts[i]? =some y∧s.nx[i]? =some n∧s.at_[i]? =some a∧s.ms[i]? =some q∧s.vs[i]? =some w∧Cl s.tf s.σ i y.2.2 n a q w.1 w.2:=fun i hi=>by
  obtain⟨y,hy⟩:=fA hok.n hi
  obtain⟨n,hn⟩:=fA h.nx hi
  obtain⟨a,ha⟩:=fA h.at_ hi
  obtain⟨q,hq⟩:=fA h.ms hi
  obtain⟨w,hw⟩:=fA h.vs hi
  exact⟨y,n,a,q,w,hy,hn,ha,hq,hw,h.cl i y n a q w hy hn ha hq hw⟩
 have trip:∀(i t:Nat),s.at_[i]? =some (Int.ofNat t)→∃nt l,s.tf= .row nt l∧10*t+7 < l.length:=fun i t hi=>by
  have hlt:i < C.nc:=by rw [←h.at_];exact(List.getElem?_eq_some_iff.1 hi).1
  obtain⟨y,n,a,q,w,_,_,ha,_,_,hcl⟩:=data i hlt
  rw [hi] at ha;cases ha
  cases hi2:fQ q with
  |false=>have:=hcl.out hi2;cases this
  |true=>
   obtain⟨t2,nt,l,e,e2,ht⟩:=hcl.inn hi2
   cases Int.ofNat.inj e
   exact⟨nt,l,e2,(List.getElem?_eq_some_iff.1 ht.seen).1⟩
 have hput:(tf'.put o (gy v')).dm=tf'.dm:=by cases tf' <;> cases o <;> rfl
 have old:=h.cl j x nj a1 m v hx hnx hat hms hvs
 refine⟨by show(s.nx.set j nj').length=_;rw [List.length_set];exact h.nx,by show(s.at_.set j a').length=_;rw [List.length_set];exact h.at_,by show(s.ms.set j m').length=_;rw [List.length_set];exact h.ms,by show(s.vs.set j _).length=_;rw [List.length_set];exact h.vs,?_,fun nt l e=>hc.row _ (lL v') nt l e,?_,?_,⟨Int.le_trans h.now.1 T.now.1,T.now.2⟩,⟨Int.le_trans h.count.1 T.count.1,?_⟩,T.nodup⟩
 · intro i y ni ai mi vi hy hn ha hm hw
   by_cases e:i=j
   · subst e
     have e1:y=x:=by rw [hx] at hy;exact(Option.some.inj hy).symm
     have e2:ni=nj':=by change (s.nx.set i nj')[i]? =_ at hn;rw [fb hnx] at hn;exact(Option.some.inj hn).symm
     have e3:ai=a':=by change (s.at_.set i a')[i]? =_ at ha;rw [fb hat] at ha;exact(Option.some.inj ha).symm
     have e4:mi=m':=by change (s.ms.set i m')[i]? =_ at hm;rw [fb hms] at hm;exact(Option.some.inj hm).symm
     have e5:vi=if k then(v',n') else(.slice none 0 0,0):=by change (s.vs.set i _)[i]? =_ at hw;rw [fb hvs] at hw;exact(Option.some.inj hw).symm
     subst e1;subst e2;subst e3;subst e4;subst e5
     refine⟨T.hi,T.ip,hc.out,fun hi=> ?_,T.wf,?_,T.act,?_,T.own⟩
     · obtain⟨t,nt,l,q1,q2,q3⟩:=hc.inn hi (gy v')
       refine⟨t,nt,l,q1,q2,?_⟩
       rcases q3 with⟨rfl,_,q⟩|⟨rfl,_,q⟩
       · exact q (lL v')
       · exact q
     · cases k with
       |true=>exact T.n
       |false=>have:=T.n;show 0+_≤_;omega
     · cases k with
       |true=>exact hv
       |false=>exact xh
   · have e2:s.nx[i]? =some ni:=by change (s.nx.set j nj')[i]? =_ at hn;rwa [iy e] at hn
     have e3:s.at_[i]? =some ai:=by change (s.at_.set j a')[i]? =_ at ha;rwa [iy e] at ha
     have e4:s.ms[i]? =some mi:=by change (s.ms.set j m')[i]? =_ at hm;rwa [iy e] at hm
     have e5:s.vs[i]? =some vi:=by change (s.vs.set j _)[i]? =_ at hw;rwa [iy e] at hw
     have hcl:=h.cl i y ni ai mi vi hy e2 e3 e4 e5
     refine⟨hcl.le,hcl.ip,hcl.out,fun hi=> ?_,Cs.vo hcl.wf T.now.1 (Nat.le_refl _),hcl.nle,hcl.act,hcl.sv,?_⟩
     · obtain⟨t,nt,l,q1,q2,ht⟩:=hcl.inn hi
       have hlt:=(List.getElem?_eq_some_iff.1 ht.seen).1
       have hne:∀t1,a1=Int.ofNat t1→t1≠t:=fun t1 ha1 ht1=>by
        subst ha1;subst ht1;subst q1
        exact h.dist i j t1 e e3 hat
       have hopen:∀p w,p < 10→l[10*t+p]? =some w→tf'.cells[10*t+p]? =some w:=fun p w hp hw=>by
        refine T.kp.aq _ _ ?_ fun t1 ha1 hr=>hne t1 ha1 (by omega)
        rw [Tf.Dy,q2]
        · exact hw
        · intro t1 ht1 hr
          cases a1 with
          |ofNat t0=>have:t0=t1:=Option.some.inj ht1
                     subst this
                     exact hne t0 rfl (by omega)
          |negSucc _=>cases ht1
       have ho:∀t2,o=some t2→t2≠t:=fun t2 ho2 ht2=>by
        obtain⟨nt2,l2,g1,g2⟩:=hc.cell t2 ho2
        have:=hopen 7 _ (by decide) ht.seen
        rw [g1] at this
        subst ht2
        change l2[10*t2+7]? =_ at this
        rw [g2] at this
        exact Py (Option.some.inj this).symm
       have hfin:∀p w,p < 10→l[10*t+p]? =some w→(tf'.put o (gy v')).cells[10*t+p]? =some w:=fun p w hp hw=>by
        rw [Tf.Dy]
        · exact hopen p w hp hw
        · intro t2 ho2 hr
          exact ho t2 ho2 (by omega)
       cases e6:tf'.put o (gy v') with
       |nil=>have:=hfin 7 _ (by decide) ht.seen;rw [e6] at this;simp [Tf.cells] at this
       |row nt3 l3=>
        have hr:=hc.row _ (lL v') nt3 l3 e6
        have g7:=hfin 7 _ (by decide) ht.seen
        have g4:=hfin 4 _ (by decide) ht.rds
        obtain⟨q,hq⟩:=ht.tir
        have g6:=hfin 6 _ (by decide) hq
        rw [e6] at g7 g4 g6
        have:=(List.getElem?_eq_some_iff.1 g7).1
        change 10*t+7 < l3.length at this
        exact⟨t,nt3,l3,q1,e6,hr.2,by omega,g4,⟨q,g6⟩,g7,hr.1.b _⟩
     · show(i:Int)∈bS σ'.il ↔ _
       rw [T.others _ (fun q=>e (by omega))];exact hcl.own
 · intro i i2 t hne h1 h2
   change (s.at_.set j a')[i]? =_ at h1
   change (s.at_.set j a')[i2]? =_ at h2
   have key:∀i,i≠j→s.at_[i]? =some (Int.ofNat t)→a'=Int.ofNat t→False:=fun i hi hi2 ha=>by
    rcases T.kp.new t ha with q|q
    · subst q;exact h.dist i j t hi hi2 hat
    · obtain⟨nt,l,e2,hlt⟩:=trip i t hi2
      rw [Tf.L3,e2] at q
      change l.length≤_ at q
      omega
   by_cases e:i=j
   · subst e
     rw [fb hat] at h1
     rw [iy (Ne.symm hne)] at h2
     exact key i2 (Ne.symm hne) h2 (Option.some.inj h1)
   · rw [iy e] at h1
     by_cases e2:i2=j
     · subst e2
       rw [fb hat] at h2
       exact key i e h1 (Option.some.inj h2)
     · rw [iy e2] at h2
       exact h.dist i i2 t hne h1 h2
 · show(tf'.put o (gy v')).fK+ic C.acts (s.nx.set j nj')≤1000
   rw [Tf.vX]
   have h1:=xf (n':=nj') hx hnx
   have h2:=T.fK
   rw [Tf.vX] at h2
   have h3:=h.fK
   omega
 · show σ'.count+(jH C.acts (s.nx.set j nj') (s.ms.set j m'):Nat)≤1000000
   have h1:=wi (n':=nj') (m':=m') hx hnx hms
   have h2:=T.count.2
   have h3:=h.count.2
   omega
section
open Go Go.Sx
def aM (a b c d e g:Int):Bool:=decide (4≤a∧a≤4096∧3≤b∧b≤256∧1≤c∧c≤64∧2≤d∧d≤64∧2≤e∧e≤64∧8≤g∧g≤1099511627776)
def Fw (a b c d e g:Int):List Value:= [.agg ⟨[.int .i64 a,.int .i64 b,.int .i64 c,.int .i64 d,.int .i64 e,.int .i64 g]⟩]
theorem cM {f:FuncId}{xs:List Value}{x b:Bool} (h:x=b) (g:cQ Tryz.prog f xs (.bool b)):cQ Tryz.prog f xs (.bool x):=by rw [h];exact g
abbrev i1:=fun(b a c d e g:Int) h0 h1=>cQ Tryz.prog h0 (Fw a b c d e g) (.bool h1)
section
set_option maxRecDepth 100000
set_option linter.unusedSectionVars false
variable {b a c d e g:Int}
variable (k0:(decide (a < 4))=false)(k1:(decide (a > 4096))=false)(k2:(decide (b < 3))=false)(k3:(decide (b > 256))=false)(k4:(decide (c < 1))=false)(k5:(decide (c > 64))=false)(k6:(decide (a < 4))=true)(k7:(decide (a > 4096))=true)(k8:(decide (b < 3))=true)(k9:(decide (b > 256))=true)(k10:(decide (c < 1))=true)(k11:(decide (c > 64))=true)(k12:(decide (a≥4))=true)(k13:(decide (a≤4096))=true)(k14:(decide (b≥3))=true)(k15:(decide (b≤256))=true)(k16:(decide (c≥1))=true)(k17:(decide (c≤64))=true)(k18:(decide (d≥2))=false)(k19:(decide (d≥2))=true)(k20:(decide (d≤64))=false)(k21:(decide (d≤64))=true)(k22:(decide (e≥2))=false)(k23:(decide (e≥2))=true)(k24:(decide (e≤64))=false)(k25:(decide (e≤64))=true)(k26:(decide (g≥8))=false)(k27:(decide (g≥8))=true)(k28:(decide (a≥4))=false)(k29:(decide (a≤4096))=false)(k30:(decide (b≥3))=false)(k31:(decide (b≤256))=false)(k32:(decide (c≥1))=false)(k33:(decide (c≤64))=false)
include k0 k1 k2 k3 k4 k5 k19 k21 k23 k25 k27 in
theorem Tb:i1 b a c d e g 11 (decide (g≤1099511627776)):=
 bw mixed bk.holds (d:=aT [28,29,31,32,33,34,36,37,38,39,41,42,43,44,46,47,48,49,51,52] (aF [1,2,4,5,6,7,9,10,11,12,14,15,16,17,19,20,21,22,24,25,26] [])) (n:=400) (by kernel_rfl)
  (ax k27 (ax k25 (ax k23 (ax k21 (ax k19 (vB k5 (ax k4 (ax k3 (ax k2 (ax k1 (ax k0 vN))))))))))) rfl rfl
include k6 in
theorem RD:i1 b a c d e g 11 (false):=
 bw mixed bk.holds (d:=aT [1,2,3,4] []) (n:=400) (by kernel_rfl)
  (ax k6 vN) rfl rfl
include k0 k7 in
theorem S9:i1 b a c d e g 11 (false):=
 bw mixed bk.holds (d:=aT [6,7,8,9] (aF [1,2,4,5] [])) (n:=400) (by kernel_rfl)
  (ax k7 (ax k0 vN)) rfl rfl
include k0 k1 k8 in
theorem QF:i1 b a c d e g 11 (false):=
 bw mixed bk.holds (d:=aT [11,12,13,14] (aF [1,2,4,5,6,7,9,10] [])) (n:=400) (by kernel_rfl)
  (ax k8 (ax k1 (ax k0 vN))) rfl rfl
include k0 k1 k2 k9 in
theorem Q0:i1 b a c d e g 11 (false):=
 bw mixed bk.holds (d:=aT [16,17,18,19] (aF [1,2,4,5,6,7,9,10,11,12,14,15] [])) (n:=400) (by kernel_rfl)
  (ax k9 (ax k2 (ax k1 (ax k0 vN)))) rfl rfl
include k0 k1 k2 k3 k10 in
theorem RV:i1 b a c d e g 11 (false):=
 bw mixed bk.holds (d:=aT [21,22,23,24] (aF [1,2,4,5,6,7,9,10,11,12,14,15,16,17,19,20] [])) (n:=400) (by kernel_rfl)
  (ax k10 (ax k3 (ax k2 (ax k1 (ax k0 vN))))) rfl rfl
include k0 k1 k2 k3 k4 k11 in
theorem RA:i1 b a c d e g 11 (false):=
 bw mixed bk.holds (d:=aT [26] (aF [1,2,4,5,6,7,9,10,11,12,14,15,16,17,19,20,21,22,24,25] [])) (n:=400) (by kernel_rfl)
  (vB k11 (ax k4 (ax k3 (ax k2 (ax k1 (ax k0 vN)))))) rfl rfl
include k0 k1 k2 k3 k4 k5 k18 in
theorem RE:i1 b a c d e g 11 (false):=
 bw mixed bk.holds (d:=aF [1,2,4,5,6,7,9,10,11,12,14,15,16,17,19,20,21,22,24,25,26,28,29,30,31] []) (n:=400) (by kernel_rfl)
  (ax k18 (vB k5 (ax k4 (ax k3 (ax k2 (ax k1 (ax k0 vN))))))) rfl rfl
include k0 k1 k2 k3 k4 k5 k19 k20 in
theorem QI:i1 b a c d e g 11 (false):=
 bw mixed bk.holds (d:=aT [28,29,31,32] (aF [1,2,4,5,6,7,9,10,11,12,14,15,16,17,19,20,21,22,24,25,26,33,34,35,36] [])) (n:=400) (by kernel_rfl)
  (ax k20 (ax k19 (vB k5 (ax k4 (ax k3 (ax k2 (ax k1 (ax k0 vN)))))))) rfl rfl
include k0 k1 k2 k3 k4 k5 k19 k21 k22 in
theorem RP:i1 b a c d e g 11 (false):=
 bw mixed bk.holds (d:=aT [28,29,31,32,33,34,36,37] (aF [1,2,4,5,6,7,9,10,11,12,14,15,16,17,19,20,21,22,24,25,26,38,39,40,41] [])) (n:=400) (by kernel_rfl)
  (ax k22 (ax k21 (ax k19 (vB k5 (ax k4 (ax k3 (ax k2 (ax k1 (ax k0 vN))))))))) rfl rfl
include k0 k1 k2 k3 k4 k5 k19 k21 k23 k24 in
theorem Qw:i1 b a c d e g 11 (false):=
 bw mixed bk.holds (d:=aT [28,29,31,32,33,34,36,37,38,39,41,42] (aF [1,2,4,5,6,7,9,10,11,12,14,15,16,17,19,20,21,22,24,25,26,43,44,45,46] [])) (n:=400) (by kernel_rfl)
  (ax k24 (ax k23 (ax k21 (ax k19 (vB k5 (ax k4 (ax k3 (ax k2 (ax k1 (ax k0 vN)))))))))) rfl rfl
include k0 k1 k2 k3 k4 k5 k19 k21 k23 k25 k26 in
theorem Pk:i1 b a c d e g 11 (false):=
 bw mixed bk.holds (d:=aT [28,29,31,32,33,34,36,37,38,39,41,42,43,44,46,47] (aF [1,2,4,5,6,7,9,10,11,12,14,15,16,17,19,20,21,22,24,25,26,48,49,50,51] [])) (n:=400) (by kernel_rfl)
  (ax k26 (ax k25 (ax k23 (ax k21 (ax k19 (vB k5 (ax k4 (ax k3 (ax k2 (ax k1 (ax k0 vN))))))))))) rfl rfl
theorem My (a b c d e g:Int):cQ Tryz.prog 11 (Fw a b c d e g) (.bool (aM a b c d e g)):=by
 cases h0:(decide (a < 4)) with
 |false=>
  cases h1:(decide (a > 4096)) with
  |false=>
   cases h2:(decide (b < 3)) with
   |false=>
    cases h3:(decide (b > 256)) with
    |false=>
     cases h4:(decide (c < 1)) with
     |false=>
      cases h5:(decide (c > 64)) with
      |false=>
       cases h6:(decide (d≥2)) with
       |false=>
        exact cM (b:=(false)) (by first|(simp [aM] at *;done)|(simp only [aM,decide_eq_decide];simp only [decide_eq_true_eq,decide_eq_false_iff_not] at *;omega)|(simp [aM] at *;omega)) (RE h0 h1 h2 h3 h4 h5 h6)
       |true=>
        cases h7:(decide (d≤64)) with
        |false=>
         exact cM (b:=(false)) (by first|(simp [aM] at *;done)|(simp only [aM,decide_eq_decide];simp only [decide_eq_true_eq,decide_eq_false_iff_not] at *;omega)|(simp [aM] at *;omega)) (QI h0 h1 h2 h3 h4 h5 h6 h7)
        |true=>
         cases h8:(decide (e≥2)) with
         |false=>
          exact cM (b:=(false)) (by first|(simp [aM] at *;done)|(simp only [aM,decide_eq_decide];simp only [decide_eq_true_eq,decide_eq_false_iff_not] at *;omega)|(simp [aM] at *;omega)) (RP h0 h1 h2 h3 h4 h5 h6 h7 h8)
         |true=>
          cases h9:(decide (e≤64)) with
          |false=>
           exact cM (b:=(false)) (by first|(simp [aM] at *;done)|(simp only [aM,decide_eq_decide];simp only [decide_eq_true_eq,decide_eq_false_iff_not] at *;omega)|(simp [aM] at *;omega)) (Qw h0 h1 h2 h3 h4 h5 h6 h7 h8 h9)
          |true=>
           cases h10:(decide (g≥8)) with
           |false=>
            exact cM (b:=(false)) (by first|(simp [aM] at *;done)|(simp only [aM,decide_eq_decide];simp only [decide_eq_true_eq,decide_eq_false_iff_not] at *;omega)|(simp [aM] at *;omega)) (Pk h0 h1 h2 h3 h4 h5 h6 h7 h8 h9 h10)
           |true=>
            exact cM (b:=(decide (g≤1099511627776))) (by first|(simp [aM] at *;done)|(simp only [aM,decide_eq_decide];simp only [decide_eq_true_eq,decide_eq_false_iff_not] at *;omega)|(simp [aM] at *;omega)) (Tb h0 h1 h2 h3 h4 h5 h6 h7 h8 h9 h10)
      |true=>
       exact cM (b:=(false)) (by first|(simp [aM] at *;done)|(simp only [aM,decide_eq_decide];simp only [decide_eq_true_eq,decide_eq_false_iff_not] at *;omega)|(simp [aM] at *;omega)) (RA h0 h1 h2 h3 h4 h5)
     |true=>
      exact cM (b:=(false)) (by first|(simp [aM] at *;done)|(simp only [aM,decide_eq_decide];simp only [decide_eq_true_eq,decide_eq_false_iff_not] at *;omega)|(simp [aM] at *;omega)) (RV h0 h1 h2 h3 h4)
    |true=>
     exact cM (b:=(false)) (by first|(simp [aM] at *;done)|(simp only [aM,decide_eq_decide];simp only [decide_eq_true_eq,decide_eq_false_iff_not] at *;omega)|(simp [aM] at *;omega)) (Q0 h0 h1 h2 h3)
   |true=>
    exact cM (b:=(false)) (by first|(simp [aM] at *;done)|(simp only [aM,decide_eq_decide];simp only [decide_eq_true_eq,decide_eq_false_iff_not] at *;omega)|(simp [aM] at *;omega)) (QF h0 h1 h2)
  |true=>
   exact cM (b:=(false)) (by first|(simp [aM] at *;done)|(simp only [aM,decide_eq_decide];simp only [decide_eq_true_eq,decide_eq_false_iff_not] at *;omega)|(simp [aM] at *;omega)) (S9 h0 h1)
 |true=>
  exact cM (b:=(false)) (by first|(simp [aM] at *;done)|(simp only [aM,decide_eq_decide];simp only [decide_eq_true_eq,decide_eq_false_iff_not] at *;omega)|(simp [aM] at *;omega)) (RD h0)
include k12 k13 k14 k15 k16 k17 k19 k21 k23 k25 k27 in
theorem QZ:i1 b a c d e g 58 (decide (g≤1099511627776)):=
 bw mixed bk.holds (d:=aT [1,2,3,4,5,6,8,9,10,11,12,13,14,15,17,18,19,20,21,22,23,24,26,27,28,29,30,31,32,33,35,36,37,38,39,40,41,42,44,45,46,47,48,49] []) (n:=400) (by kernel_rfl)
  (vB k25 (ax k27 (aX k25 (vB k21 (ax k23 (aX k21 (vB k17 (ax k19 (aX k17 (vB k15 (ax k16 (aX k15 (vB k13 (ax k14 (aX k13 (ax k12 vN)))))))))))))))) rfl rfl
include k28 in
theorem S4:i1 b a c d e g 58 (false):=
 bw mixed bk.holds (d:=aF [1,2,3,4] []) (n:=400) (by kernel_rfl)
  (ax k28 vN) rfl rfl
include k12 k29 in
theorem Tj:i1 b a c d e g 58 (false):=
 bw mixed bk.holds (d:=aT [1,2,3,4] (aF [5,6,7,8] [])) (n:=400) (by kernel_rfl)
  (ax k29 (ax k12 vN)) rfl rfl
include k12 k13 k30 in
theorem QM:i1 b a c d e g 58 (false):=
 bw mixed bk.holds (d:=aT [1,2,3,4,5,6,8,13] (aF [9,10,11,12] [])) (n:=400) (by kernel_rfl)
  (vB k13 (ax k30 (aX k13 (ax k12 vN)))) rfl rfl
include k12 k13 k14 k31 in
theorem Ri:i1 b a c d e g 58 (false):=
 bw mixed bk.holds (d:=aT [1,2,3,4,5,6,8,9,10,11,12,13] (aF [14,15,16,17] [])) (n:=400) (by kernel_rfl)
  (ax k31 (vB k13 (ax k14 (aX k13 (ax k12 vN))))) rfl rfl
include k12 k13 k14 k15 k32 in
theorem QN:i1 b a c d e g 58 (false):=
 bw mixed bk.holds (d:=aT [1,2,3,4,5,6,8,9,10,11,12,13,14,15,17,22] (aF [18,19,20,21] [])) (n:=400) (by kernel_rfl)
  (vB k15 (ax k32 (aX k15 (vB k13 (ax k14 (aX k13 (ax k12 vN))))))) rfl rfl
include k12 k13 k14 k15 k16 k33 in
theorem Tm:i1 b a c d e g 58 (false):=
 bw mixed bk.holds (d:=aT [1,2,3,4,5,6,8,9,10,11,12,13,14,15,17,18,19,20,21,22] (aF [23,24,25,26] [])) (n:=400) (by kernel_rfl)
  (ax k33 (vB k15 (ax k16 (aX k15 (vB k13 (ax k14 (aX k13 (ax k12 vN)))))))) rfl rfl
include k12 k13 k14 k15 k16 k17 k18 in
theorem Ss:i1 b a c d e g 58 (false):=
 bw mixed bk.holds (d:=aT [1,2,3,4,5,6,8,9,10,11,12,13,14,15,17,18,19,20,21,22,23,24,26,31] (aF [27,28,29,30] [])) (n:=400) (by kernel_rfl)
  (vB k17 (ax k18 (aX k17 (vB k15 (ax k16 (aX k15 (vB k13 (ax k14 (aX k13 (ax k12 vN)))))))))) rfl rfl
include k12 k13 k14 k15 k16 k17 k19 k20 in
theorem Sq:i1 b a c d e g 58 (false):=
 bw mixed bk.holds (d:=aT [1,2,3,4,5,6,8,9,10,11,12,13,14,15,17,18,19,20,21,22,23,24,26,27,28,29,30,31] (aF [32,33,34,35] [])) (n:=400) (by kernel_rfl)
  (ax k20 (vB k17 (ax k19 (aX k17 (vB k15 (ax k16 (aX k15 (vB k13 (ax k14 (aX k13 (ax k12 vN))))))))))) rfl rfl
include k12 k13 k14 k15 k16 k17 k19 k21 k22 in
theorem Ro:i1 b a c d e g 58 (false):=
 bw mixed bk.holds (d:=aT [1,2,3,4,5,6,8,9,10,11,12,13,14,15,17,18,19,20,21,22,23,24,26,27,28,29,30,31,32,33,35,40] (aF [36,37,38,39] [])) (n:=400) (by kernel_rfl)
  (vB k21 (ax k22 (aX k21 (vB k17 (ax k19 (aX k17 (vB k15 (ax k16 (aX k15 (vB k13 (ax k14 (aX k13 (ax k12 vN))))))))))))) rfl rfl
include k12 k13 k14 k15 k16 k17 k19 k21 k23 k24 in
theorem N9:i1 b a c d e g 58 (false):=
 bw mixed bk.holds (d:=aT [1,2,3,4,5,6,8,9,10,11,12,13,14,15,17,18,19,20,21,22,23,24,26,27,28,29,30,31,32,33,35,36,37,38,39,40] (aF [41,42,43,44] [])) (n:=400) (by kernel_rfl)
  (ax k24 (vB k21 (ax k23 (aX k21 (vB k17 (ax k19 (aX k17 (vB k15 (ax k16 (aX k15 (vB k13 (ax k14 (aX k13 (ax k12 vN)))))))))))))) rfl rfl
include k12 k13 k14 k15 k16 k17 k19 k21 k23 k25 k26 in
theorem Oe:i1 b a c d e g 58 (false):=
 bw mixed bk.holds (d:=aT [1,2,3,4,5,6,8,9,10,11,12,13,14,15,17,18,19,20,21,22,23,24,26,27,28,29,30,31,32,33,35,36,37,38,39,40,41,42,44,49] (aF [45,46,47,48] [])) (n:=400) (by kernel_rfl)
  (vB k25 (ax k26 (aX k25 (vB k21 (ax k23 (aX k21 (vB k17 (ax k19 (aX k17 (vB k15 (ax k16 (aX k15 (vB k13 (ax k14 (aX k13 (ax k12 vN)))))))))))))))) rfl rfl
theorem Nm (a b c d e g:Int):cQ Tryz.prog 58 (Fw a b c d e g) (.bool (aM a b c d e g)):=by
 cases h0:(decide (a≥4)) with
 |false=>
  exact cM (b:=(false)) (by first|(simp [aM] at *;done)|(simp only [aM,decide_eq_decide];simp only [decide_eq_true_eq,decide_eq_false_iff_not] at *;omega)|(simp [aM] at *;omega)) (S4 h0)
 |true=>
  cases h1:(decide (a≤4096)) with
  |false=>
   exact cM (b:=(false)) (by first|(simp [aM] at *;done)|(simp only [aM,decide_eq_decide];simp only [decide_eq_true_eq,decide_eq_false_iff_not] at *;omega)|(simp [aM] at *;omega)) (Tj h0 h1)
  |true=>
   cases h2:(decide (b≥3)) with
   |false=>
    exact cM (b:=(false)) (by first|(simp [aM] at *;done)|(simp only [aM,decide_eq_decide];simp only [decide_eq_true_eq,decide_eq_false_iff_not] at *;omega)|(simp [aM] at *;omega)) (QM h0 h1 h2)
   |true=>
    cases h3:(decide (b≤256)) with
    |false=>
     exact cM (b:=(false)) (by first|(simp [aM] at *;done)|(simp only [aM,decide_eq_decide];simp only [decide_eq_true_eq,decide_eq_false_iff_not] at *;omega)|(simp [aM] at *;omega)) (Ri h0 h1 h2 h3)
    |true=>
     cases h4:(decide (c≥1)) with
     |false=>
      exact cM (b:=(false)) (by first|(simp [aM] at *;done)|(simp only [aM,decide_eq_decide];simp only [decide_eq_true_eq,decide_eq_false_iff_not] at *;omega)|(simp [aM] at *;omega)) (QN h0 h1 h2 h3 h4)
     |true=>
      cases h5:(decide (c≤64)) with
      |false=>
       exact cM (b:=(false)) (by first|(simp [aM] at *;done)|(simp only [aM,decide_eq_decide];simp only [decide_eq_true_eq,decide_eq_false_iff_not] at *;omega)|(simp [aM] at *;omega)) (Tm h0 h1 h2 h3 h4 h5)
      |true=>
       cases h6:(decide (d≥2)) with
       |false=>
        exact cM (b:=(false)) (by first|(simp [aM] at *;done)|(simp only [aM,decide_eq_decide];simp only [decide_eq_true_eq,decide_eq_false_iff_not] at *;omega)|(simp [aM] at *;omega)) (Ss h0 h1 h2 h3 h4 h5 h6)
       |true=>
        cases h7:(decide (d≤64)) with
        |false=>
         exact cM (b:=(false)) (by first|(simp [aM] at *;done)|(simp only [aM,decide_eq_decide];simp only [decide_eq_true_eq,decide_eq_false_iff_not] at *;omega)|(simp [aM] at *;omega)) (Sq h0 h1 h2 h3 h4 h5 h6 h7)
        |true=>
         cases h8:(decide (e≥2)) with
         |false=>
          exact cM (b:=(false)) (by first|(simp [aM] at *;done)|(simp only [aM,decide_eq_decide];simp only [decide_eq_true_eq,decide_eq_false_iff_not] at *;omega)|(simp [aM] at *;omega)) (Ro h0 h1 h2 h3 h4 h5 h6 h7 h8)
         |true=>
          cases h9:(decide (e≤64)) with
          |false=>
           exact cM (b:=(false)) (by first|(simp [aM] at *;done)|(simp only [aM,decide_eq_decide];simp only [decide_eq_true_eq,decide_eq_false_iff_not] at *;omega)|(simp [aM] at *;omega)) (N9 h0 h1 h2 h3 h4 h5 h6 h7 h8 h9)
          |true=>
           cases h10:(decide (g≥8)) with
           |false=>
            exact cM (b:=(false)) (by first|(simp [aM] at *;done)|(simp only [aM,decide_eq_decide];simp only [decide_eq_true_eq,decide_eq_false_iff_not] at *;omega)|(simp [aM] at *;omega)) (Oe h0 h1 h2 h3 h4 h5 h6 h7 h8 h9 h10)
           |true=>
            exact cM (b:=(decide (g≤1099511627776))) (by first|(simp [aM] at *;done)|(simp only [aM,decide_eq_decide];simp only [decide_eq_true_eq,decide_eq_false_iff_not] at *;omega)|(simp [aM] at *;omega)) (QZ h0 h1 h2 h3 h4 h5 h6 h7 h8 h9 h10)
end
end
section
open Go Go.Sx
def ya (xs:List Value):Option (Bool×Value):=match xs with
 | [.agg ⟨[.int .i64 a,.int .i64 b,.int .i64 c,.int .i64 d,.int .i64 e,.int .i64 g]⟩]=>some (true,.bool (aM a b c d e g))
 |_=>none
theorem zu {f:FuncId} (hf:∀a b c d e g,cQ Tryz.prog f (Fw a b c d e g) (.bool (aM a b c d e g))) {xs:List Value}{b:Bool}{v:Value} (h:ya xs=some (b,v)):cQ Tryz.prog f xs v:=by
 unfold ya at h
 split at h
 · cases h;exact hf _ _ _ _ _ _
 · cases h
noncomputable def pv:aP:=iZ (iZ cz 58 ya) 11 ya
theorem cx:cC Tryz.prog pv:=(ar.iZ fun _ _ _ h _=>zu Nm h).iZ fun _ _ _ h _=>zu My h
end
section
open Go Go.Sx
def fD (s:Nat):List Value:= .int .i64 1:: .bool true::kI 1 true (.slice (some ⟨20,0,none⟩) 0 0) (.slice (some ⟨21,0,none⟩) 0 0)++eN gr s
def T9 (s q:Nat) (c d e g:Int):Heap:= [(9,.cells (fD s) 145),(10,.cells [.slice (some ⟨9,0,none⟩) (s+1) 0,.int .i64 g] 143),(11,.cells (da q) 197),(12,.cells [.slice (some ⟨11,0,none⟩) (q+1) 0] 195),(13,.map []),
 (14,.cells [.int .i64 1,.int .i64 g,.int .i64 c,.map (some 13)] 219),(15,.cells [.int .i64 0,.int .i64 (.ofNat (s+1)),.int .i64 (.ofNat (q+1)),.int .i64 c,.int .i64 d,.int .i64 e,.int .i64 g,.pointer (some ⟨10,0,none⟩),.pointer (some ⟨12,0,none⟩),.pointer (some ⟨14,0,none⟩)] 93),
 (20,.cells [] 64),(21,.cells [] 129),(25,.map []),(26,.map []),(27,.cells [.int .i64 c,.int .i64 g,.int .i64 0,.int .i64 0,.map (some 25),.map (some 26),.int .i64 (-1)] 86)]
def KI (j:Nat):List Value:= [.int .i64 (j:Nat),.slice none 0 0,.bool false,.int .i64 0,.string ⟨#[]⟩,.string ⟨#[]⟩,.bool false,.string ⟨#[]⟩,.nilIface,.pointer none,.pointer none,.nilFunc,.bool false,.int .i64 0,.int .i64 0,.int .i64 0,.string ⟨#[]⟩,.string ⟨#[]⟩,.bool false,.int .i64 0,.slice none 0 0,.bool false,.int .i64 0,.int .i64 0,.string ⟨#[]⟩,.int .i64 0,.int .i64 0,.slice none 0 0,.int .i64 0,.int .i64 0]
def KC (j n:Nat):List Value:= [.int .i64 (j:Nat),.pointer (some ⟨n,0,none⟩),.nilFunc,.bool false,.bool false,.int .i64 0,.slice none 0 0,.slice none 0 0,.slice none 0 0,.bool false,.string ⟨#[]⟩,.bool false,.slice none 0 0,.int .i64 0,.nilIface,.slice none 0 0]
def qO:Nat→Nat→Heap
 |_,0=> []
 |i,n+1=>(32+4*i,.cells (KI i) 167)::(33+4*i,.cells (KC i (32+4*i)) 104)::qO (i+1) n
def dW (s q:Nat) (c d e g:Int) (k:Nat):Heap:= [(29,.cells (List.replicate k (.int .i64 0)) 3),(30,.cells (List.replicate k (.int .i64 (-1))) 3),
 (31,.cells [.pointer (some ⟨15,0,none⟩),.pointer (some ⟨27,0,none⟩),.slice (some ⟨31+4*k,0,none⟩) k 0,.slice (some ⟨29,0,none⟩) k 0,.slice none 0 0,.slice (some ⟨30,0,none⟩) k 0,.int .i64 0,.bool false] 51),
 (31+4*k,.cells ((List.range k).map fun i=> .pointer (some ⟨33+4*i,0,none⟩)) 58)]++(qO 0 k++T9 s q c d e g)
def r7:bj:= [(4,.br false),(11,.br false),(12,.br false),(13,.br false),(14,.br false),(15,.br false),(16,.br false),(17,.br false),(18,.br true),(23,.br false),(24,.br true),(27,.br false),(28,.br false),(29,.br false),(30,.br false),(31,.br false),(32,.br false),(33,.br false),(34,.br false),(35,.br false),(36,.br false),(41,.br true),(43,.br true),(48,.br false),(68,.br true),(70,.br true),(74,.br true),(93,.br true),(113,.br false),(114,.br false),(115,.br false),(116,.br false),(117,.br false),(118,.br false),(119,.br false),(120,.br false),(121,.br false),(122,.br false)]
def gV (s q:Nat) (c d e g:Int):List VC:= [.b ((decide (g > (1099511627776:Int)))==false),.b ((decide (g < (1:Int)))==false),.b ((decide (g < (1:Int)))==false),.b ((decide (g < (1:Int)))==false),.b ((decide (c > (64:Int)))==false),.b ((decide (c > (64:Int)))==false),.b ((decide (c > (64:Int)))==false),.b ((decide (c < (1:Int)))==false),.b ((decide (c < (1:Int)))==false),.b ((decide (c < (1:Int)))==false),.b (decide ((0:Int)≤(0:Int)∧(0:Int) < (↑(q+(1:Nat)):Int))),.b (decide ((0:Int)≤(0:Int)∧(0:Int) < (↑(q+(1:Nat)):Int))),.b (decide ((0:Int)≤(0:Int)∧(0:Int) < (↑(q+(1:Nat)):Int))),.b ((decide ((0:Int) < (↑(q+(1:Nat)):Int)))==true),.b (((0:Int)==g)==false),.b (decide ((0:Int)≤(0:Int)∧(0:Int) < (↑(s+(1:Nat)):Int))),.b ((decide ((0:Int) < (↑(s+(1:Nat)):Int)))==true),.b ((decide (g > (1099511627776:Int)))==false),.b ((decide (g < (1:Int)))==false),.b ((decide (g < (1:Int)))==false),.b ((decide (g < (1:Int)))==false),.b ((decide (c > (64:Int)))==false),.b ((decide (c > (64:Int)))==false),.b ((decide (c > (64:Int)))==false),.b ((decide (c < (1:Int)))==false),.b ((decide (c < (1:Int)))==false),.b ((decide (c < (1:Int)))==false),.b (decide (Int.ofNat (q+(1:Nat))=Int.ofNat (q+(1:Nat))∧(0:Int)≤Int.ofNat (q+(1:Nat))∧(24:Int)*Int.ofNat (q+(1:Nat))≤(281474976710656:Int)∧Int.ofNat (q+(1:Nat))≤(9223372036854775807:Int))),.b ((decide (Int.ofNat (q+(1:Nat)) > (256:Int)))==false),.b (decide (Int.ofNat (s+(1:Nat))=Int.ofNat (s+(1:Nat))∧(0:Int)≤Int.ofNat (s+(1:Nat))∧(208:Int)*Int.ofNat (s+(1:Nat))≤(281474976710656:Int)∧Int.ofNat (s+(1:Nat))≤(9223372036854775807:Int))),.b ((decide (g > (1099511627776:Int)))==false),.b ((decide (g < (1:Int)))==false),.b ((decide (g < (1:Int)))==false),.b ((decide (g < (1:Int)))==false),.b ((decide (Int.ofNat (s+(1:Nat)) > (4096:Int)))==false),.b ((decide (Int.ofNat (s+(1:Nat)) > (4096:Int)))==false),.b ((decide (Int.ofNat (s+(1:Nat)) > (4096:Int)))==false),.b ((!aM (Int.ofNat (s+(1:Nat))) (Int.ofNat (q+(1:Nat))) c d e g)==false)]
section
variable {s q:Nat}{c d e g:Int}
theorem Mb (h0:(!aM (Int.ofNat (s+(1:Nat))) (Int.ofNat (q+(1:Nat))) c d e g)=false) (h1:(decide (Int.ofNat (s+(1:Nat)) > (4096:Int)))=false) (h2:(decide (g < (1:Int)))=false) (h3:(decide (g > (1099511627776:Int)))=false) (h4:(decide (Int.ofNat (s+(1:Nat))=Int.ofNat (s+(1:Nat))∧(0:Int)≤Int.ofNat (s+(1:Nat))∧(208:Int)*Int.ofNat (s+(1:Nat))≤(281474976710656:Int)∧Int.ofNat (s+(1:Nat))≤(9223372036854775807:Int)))=true) (h5:(decide (Int.ofNat (q+(1:Nat)) > (256:Int)))=false) (h6:(decide (Int.ofNat (q+(1:Nat))=Int.ofNat (q+(1:Nat))∧(0:Int)≤Int.ofNat (q+(1:Nat))∧(24:Int)*Int.ofNat (q+(1:Nat))≤(281474976710656:Int)∧Int.ofNat (q+(1:Nat))≤(9223372036854775807:Int)))=true) (h7:(decide (c < (1:Int)))=false) (h8:(decide (c > (64:Int)))=false) (h9:(decide ((0:Int) < (↑(s+(1:Nat)):Int)))=true) (h10:(decide ((0:Int)≤(0:Int)∧(0:Int) < (↑(s+(1:Nat)):Int)))=true) (h11:((0:Int)==g)=false) (h12:(decide ((0:Int) < (↑(q+(1:Nat)):Int)))=true) (h13:(decide ((0:Int)≤(0:Int)∧(0:Int) < (↑(q+(1:Nat)):Int)))=true):aW (gV s q c d e g):=(ag (ez h3) (ag (ez h2) (ag (ez h2) (ag (ez h2) (ag (ez h8) (ag (ez h8) (ag (ez h8) (ag (ez h7) (ag (ez h7) (ag (ez h7) (ag (vM h13) (ag (vM h13) (ag (vM h13) (ag (ez h12) (ag (ez h11) (ag (vM h10) (ag (ez h9) (ag (ez h3) (ag (ez h2) (ag (ez h2) (ag (ez h2) (ag (ez h8) (ag (ez h8) (ag (ez h8) (ag (ez h7) (ag (ez h7) (ag (ez h7) (ag (vM h6) (ag (ez h5) (ag (vM h4) (ag (ez h3) (ag (ez h2) (ag (ez h2) (ag (ez h2) (ag (ez h1) (ag (ez h1) (ag (ez h1) (ag (ez h0) af))))))))))))))))))))))))))))))))))))))
set_option maxRecDepth 100000 in
theorem NF {QB qc:Nat}{tu:Value} (h:aW (gV s q c d e g)):ab Tryz.prog 5 [] 36 (dW s q c d e g 1) (.call 20 [.agg ⟨[.int .i64 (Int.ofNat (s+1)),.int .i64 (Int.ofNat (q+1)),.int .i64 c,.int .i64 d,.int .i64 e,.int .i64 g,.slice (some ⟨QB,0,some 1⟩) 1 qc,tu]⟩]) (.val (.pointer (some ⟨31,0,none⟩))):=
 bh mixed cx (C:=pv) (d:=r7) (nn:=600) (L:=gV s q c d e g) (by kernel_rfl) h
set_option maxRecDepth 100000 in
theorem Nq {QB qc:Nat}{tu:Value} (h:aW (gV s q c d e g)):ab Tryz.prog 5 [] 40 (dW s q c d e g 2) (.call 20 [.agg ⟨[.int .i64 (Int.ofNat (s+1)),.int .i64 (Int.ofNat (q+1)),.int .i64 c,.int .i64 d,.int .i64 e,.int .i64 g,.slice (some ⟨QB,0,some 1⟩) 2 qc,tu]⟩]) (.val (.pointer (some ⟨31,0,none⟩))):=
 bh mixed cx (C:=pv) (d:=r7) (nn:=600) (L:=gV s q c d e g) (by kernel_rfl) h
set_option maxRecDepth 100000 in
theorem Mr {QB qc:Nat}{tu:Value} (h:aW (gV s q c d e g)):ab Tryz.prog 5 [] 44 (dW s q c d e g 3) (.call 20 [.agg ⟨[.int .i64 (Int.ofNat (s+1)),.int .i64 (Int.ofNat (q+1)),.int .i64 c,.int .i64 d,.int .i64 e,.int .i64 g,.slice (some ⟨QB,0,some 1⟩) 3 qc,tu]⟩]) (.val (.pointer (some ⟨31,0,none⟩))):=
 bh mixed cx (C:=pv) (d:=r7) (nn:=600) (L:=gV s q c d e g) (by kernel_rfl) h
set_option maxRecDepth 100000 in
theorem Lk {QB qc:Nat}{tu:Value} (h:aW (gV s q c d e g)):ab Tryz.prog 5 [] 48 (dW s q c d e g 4) (.call 20 [.agg ⟨[.int .i64 (Int.ofNat (s+1)),.int .i64 (Int.ofNat (q+1)),.int .i64 c,.int .i64 d,.int .i64 e,.int .i64 g,.slice (some ⟨QB,0,some 1⟩) 4 qc,tu]⟩]) (.val (.pointer (some ⟨31,0,none⟩))):=
 bh mixed cx (C:=pv) (d:=r7) (nn:=600) (L:=gV s q c d e g) (by kernel_rfl) h
set_option maxRecDepth 100000 in
theorem Mf {QB qc:Nat}{tu:Value} (h:aW (gV s q c d e g)):ab Tryz.prog 5 [] 52 (dW s q c d e g 5) (.call 20 [.agg ⟨[.int .i64 (Int.ofNat (s+1)),.int .i64 (Int.ofNat (q+1)),.int .i64 c,.int .i64 d,.int .i64 e,.int .i64 g,.slice (some ⟨QB,0,some 1⟩) 5 qc,tu]⟩]) (.val (.pointer (some ⟨31,0,none⟩))):=
 bh mixed cx (C:=pv) (d:=r7) (nn:=600) (L:=gV s q c d e g) (by kernel_rfl) h
set_option maxRecDepth 100000 in
theorem Nb {QB qc:Nat}{tu:Value} (h:aW (gV s q c d e g)):ab Tryz.prog 5 [] 56 (dW s q c d e g 6) (.call 20 [.agg ⟨[.int .i64 (Int.ofNat (s+1)),.int .i64 (Int.ofNat (q+1)),.int .i64 c,.int .i64 d,.int .i64 e,.int .i64 g,.slice (some ⟨QB,0,some 1⟩) 6 qc,tu]⟩]) (.val (.pointer (some ⟨31,0,none⟩))):=
 bh mixed cx (C:=pv) (d:=r7) (nn:=600) (L:=gV s q c d e g) (by kernel_rfl) h
set_option maxRecDepth 100000 in
theorem Np {QB qc:Nat}{tu:Value} (h:aW (gV s q c d e g)):ab Tryz.prog 5 [] 60 (dW s q c d e g 7) (.call 20 [.agg ⟨[.int .i64 (Int.ofNat (s+1)),.int .i64 (Int.ofNat (q+1)),.int .i64 c,.int .i64 d,.int .i64 e,.int .i64 g,.slice (some ⟨QB,0,some 1⟩) 7 qc,tu]⟩]) (.val (.pointer (some ⟨31,0,none⟩))):=
 bh mixed cx (C:=pv) (d:=r7) (nn:=600) (L:=gV s q c d e g) (by kernel_rfl) h
set_option maxRecDepth 100000 in
theorem MO {QB qc:Nat}{tu:Value} (h:aW (gV s q c d e g)):ab Tryz.prog 5 [] 64 (dW s q c d e g 8) (.call 20 [.agg ⟨[.int .i64 (Int.ofNat (s+1)),.int .i64 (Int.ofNat (q+1)),.int .i64 c,.int .i64 d,.int .i64 e,.int .i64 g,.slice (some ⟨QB,0,some 1⟩) 8 qc,tu]⟩]) (.val (.pointer (some ⟨31,0,none⟩))):=
 bh mixed cx (C:=pv) (d:=r7) (nn:=600) (L:=gV s q c d e g) (by kernel_rfl) h
end
end
section
open Go Go.Sx
structure Lm where
 s:Nat
 q:Nat
 c:Int
 d:Int
 e:Int
 g:Int
def dy (p:Lm) (σ:eQ):Heap:= [(9,.cells (fD p.s) 145),(10,.cells [.slice (some ⟨9,0,none⟩) (p.s+1) 0,.int .i64 p.g] 143),(11,.cells (da p.q) 197),(12,.cells [.slice (some ⟨11,0,none⟩) (p.q+1) 0] 195),(13,.map (mp σ.il)),
 (14,.cells [.int .i64 σ.now,.int .i64 p.g,.int .i64 p.c,.map (some 13)] 219),(15,.cells [.int .i64 σ.count,.int .i64 (.ofNat (p.s+1)),.int .i64 (.ofNat (p.q+1)),.int .i64 p.c,.int .i64 p.d,.int .i64 p.e,.int .i64 p.g,.pointer (some ⟨10,0,none⟩),.pointer (some ⟨12,0,none⟩),.pointer (some ⟨14,0,none⟩)] 93),
 (20,.cells [] 64),(21,.cells [] 129),(25,.map []),(26,.map (mp σ.ml)),(27,.cells [.int .i64 p.c,.int .i64 p.g,.int .i64 0,.int .i64 0,.map (some 25),.map (some 26),.int .i64 σ.holder] 86)]
def sX (nc:Nat) (tv:Value) (ck:Int):Chunk:= .cells [.pointer (some ⟨15,0,none⟩),.pointer (some ⟨27,0,none⟩),.slice (some ⟨90,0,none⟩) nc 0,.slice (some ⟨29,0,none⟩) nc 0,tv,.slice (some ⟨30,0,none⟩) nc 0,.int .i64 ck,.bool false] 51
def gO (C:cF) (p:Lm) (x b:Nat) (nx:List Nat) (at_:List Int) (tf:Tf) (ck:Int) (n:Nat) (Y:aG) (σ:eQ):Heap:=
 ([(0,.args C.B C.w0),(1,.froz C.S C.w1),(91,.sem Y),(31,sX C.nc (tf.val x) ck),(29,.cells (di nx) 3),(30,.cells (ints at_) 3),(90,.cells (cP C.cl) 58),(b,.bag 188 n)]++tf.ch x)++dy p σ
def qF (k QB nc qc:Nat):List Value:= [.chan none,.chan none,.chan none,.chan none,.chan none,.chan none,.slice (some ⟨QB,0,some k⟩) nc qc,.chan none]
def qW (y:Nat):List Nat:= [0,5001,5002,5003,5004,5005,9,10,11,12,13,14,15,5013,5014,5015,5016,20,21,5019,5020,5021,25,26,27,5025,5026,1,5028,91,5030,5031,5032,5033,5034,5035,5036,5037,5038,5039,31,29,30,5043,y+1,90,y+2,
 5047,5048,5049,5050,5051,5052,5053,5054,5055,5056,5057,5058,5059]
theorem lp {z:List Value}{f:Value→Value} (h:z.map f=z):∀s,(eN z s).map f=eN z s
 |0=>rfl
 |s+1=>by show(z++eN z s).map f=z++eN z s;rw [List.map_append,h,lp h s]
theorem G5 {f:Value→Value} (h:∀n,f (.int .i64 n)= .int .i64 n):∀l:List (Int×Int),(mp l).map (fun p=>(f p.1,f p.2))=mp l
 | []=>rfl
 |(a,b)::l=>by show(f _,f _)::_=_;rw [h,h];exact congrArg _ (G5 h l)
theorem iq (nm:Nat→Option Nat) (l:List (Int×Int)):az (Chunk.bC nm (.map (mp l))) (.map (mp l)):=by
 show az (.map ((mp l).map fun p=>(ao nm 9 p.1,ao nm 9 p.2))) _
 rw [G5 fun _=>rfl];exact az.refl _
theorem m5 (nm:Nat→Option Nat) (q:Nat):az (Chunk.bC nm (.cells (da q) 197)) (.cells (da q) 197):=by
 show az (.cells (_::_::_::(eN i5 q).map _) 197) _
 rw [lp rfl];exact .cells (aj.refl _)
theorem DG {nm:Nat→Option Nat} (h1:nm 20=some 17) (h2:nm 21=some 18) (s:Nat):az (Chunk.bC nm (.cells (fD s) 145)) (.cells (l6 s) 145):=by
 have:(fD s).map (ao nm 9)=l6 s:=by
  show((_:List Value)++eN gr s).map _=_
  rw [List.map_append,lp rfl]
  simp [kI,ao,h1,h2,l6]
 show az (.cells ((fD s).map (ao nm 9)) 145) _
 rw [this];exact az.refl _
theorem Bf {nm:Nat→Option Nat} (h1:nm 17=some 20) (h2:nm 18=some 21) (s:Nat):az (Chunk.bC nm (.cells (l6 s) 145)) (.cells (fD s) 145):=by
 have:(l6 s).map (ao nm 9)=fD s:=by
  show((_:List Value)++eN gr s).map _=_
  rw [List.map_append,lp rfl]
  simp [kI,ao,h1,h2,fD]
 show az (.cells ((l6 s).map (ao nm 9)) 145) _
 rw [this];exact az.refl _
theorem Hz {r r2:Env}{k k2 QB nc qc:Nat}{u:Value} (h:Rel r (.agg ⟨qF k QB nc qc⟩) u):Rel r2 (.agg ⟨qF k2 QB nc qc⟩) u:=by
 obtain⟨⟨ys⟩,rfl,hl⟩:=h.j3
 have h':aw r (qF k QB nc qc) ys:=hl
 have:aw r2 (qF k2 QB nc qc) ys:=by
  cases h' with|cons _ h'=>cases h' with|cons _ h'=>cases h' with|cons _ h'=>cases h' with|cons _ h'=>cases h' with|cons _ h'=>cases h' with|cons _ h'=>cases h' with|cons hs h'=>cases h' with|cons _ h'=>cases h';cases hs with|litSlice q1 q2=>exact .cons .any (.cons .any (.cons .any (.cons .any (.cons .any (.cons .any (.cons (.litSlice q1 q2) (.cons .any .nil)))))))
 exact this.kL
section
variable {C:cF}{p:Lm}{y:Nat}
theorem Pv (hy:y=100∨y=603) {nx:List Nat}{at_:List Int}{tf tf2:Tf}{ck:Int}{n:Nat}{Y:aG}{σ:eQ} (htf:(tf= .nil∧tf2= .nil)∨∃nt l l2,tf= .row nt l∧tf2= .row nt l2∧l2.map (ao (back (qW y)) 9)=l):
  ∀i x,(tH C p.s p.q p.c p.d p.e p.g nx at_ tf ck n Y σ).get i=some x→∃m z,back (qW y) m=some i∧(gO C p (y+1) (y+2) nx at_ tf2 ck n Y σ).get m=some z∧az (z.bC (back (qW y))) x:=by
 intro i x hx
 have hm:=get_mem hx
 rcases hy with rfl|rfl
 all_goals
  rcases htf with⟨rfl,rfl⟩|⟨nt,l,l2,rfl,rfl,hl⟩
  all_goals
   simp only [tH,oc,aD,Tf.ch,Tf.val,List.cons_append,List.nil_append,List.append_nil,List.mem_cons,List.not_mem_nil,or_false,Prod.mk.injEq] at hm
   rcases hm with⟨rfl,rfl⟩|⟨rfl,rfl⟩|⟨rfl,rfl⟩|⟨rfl,rfl⟩|⟨rfl,rfl⟩|⟨rfl,rfl⟩|⟨rfl,rfl⟩|⟨rfl,rfl⟩|hm
   · exact⟨0,_,rfl,rfl,.args⟩
   · exact⟨1,_,rfl,rfl,.froz⟩
   · exact⟨91,_,rfl,rfl,.sem⟩
   · exact⟨31,_,rfl,rfl,.cells (aj.refl _)⟩
   · exact⟨29,_,rfl,rfl,bq (eK _) _⟩
   · exact⟨30,_,rfl,rfl,bq (bQ _) _⟩
   · exact⟨90,_,rfl,rfl,bq (bG _) _⟩
   · first|exact⟨102,_,rfl,rfl,.bag (Nat.le_refl _)⟩|exact⟨605,_,rfl,rfl,.bag (Nat.le_refl _)⟩
   try (rcases hm with⟨rfl,rfl⟩|hm;first|exact⟨101,_,rfl,rfl,.cells (fE hl)⟩|exact⟨604,_,rfl,rfl,.cells (fE hl)⟩)
   rcases hm with⟨rfl,rfl⟩|⟨rfl,rfl⟩|⟨rfl,rfl⟩|⟨rfl,rfl⟩|⟨rfl,rfl⟩|⟨rfl,rfl⟩|⟨rfl,rfl⟩|⟨rfl,rfl⟩|⟨rfl,rfl⟩|⟨rfl,rfl⟩|⟨rfl,rfl⟩|⟨rfl,rfl⟩
   · exact⟨9,_,rfl,rfl,DG rfl rfl _⟩
   · exact⟨10,_,rfl,rfl,.cells (aj.refl _)⟩
   · exact⟨11,_,rfl,rfl,m5 _ _⟩
   · exact⟨12,_,rfl,rfl,.cells (aj.refl _)⟩
   · exact⟨13,_,rfl,rfl,iq _ _⟩
   · exact⟨14,_,rfl,rfl,.cells (aj.refl _)⟩
   · exact⟨15,_,rfl,rfl,.cells (aj.refl _)⟩
   · exact⟨20,_,rfl,rfl,.cells (aj.refl _)⟩
   · exact⟨21,_,rfl,rfl,.cells (aj.refl _)⟩
   · exact⟨25,_,rfl,rfl,iq _ []⟩
   · exact⟨26,_,rfl,rfl,iq _ _⟩
   · exact⟨27,_,rfl,rfl,.cells (aj.refl _)⟩
theorem LJ (hy:y=100∨y=603) {nx:List Nat}{at_:List Int}{tf tf2:Tf}{ck:Int}{n:Nat}{Y:aG}{σ:eQ} (htf:(tf= .nil∧tf2= .nil)∨∃nt l l2,tf= .row nt l∧tf2= .row nt l2∧l.map (ao (fwd (qW y) (y+3) 490) 9)=l2):
  ∀m x,(gO C p (y+14) (y+423) nx at_ tf2 ck n Y σ).get m=some x→∃i z,(fH C p.s p.q p.c p.d p.e p.g nx at_ tf ck n Y σ).get i=some z∧fwd (qW y) (y+3) 490 i=some m∧az (z.bC (fwd (qW y) (y+3) 490)) x:=by
 intro i x hx
 have hm:=get_mem hx
 rcases hy with rfl|rfl
 all_goals
  rcases htf with⟨rfl,rfl⟩|⟨nt,l,l2,rfl,rfl,hl⟩
  all_goals
   simp only [gO,dy,Tf.ch,Tf.val,List.cons_append,List.nil_append,List.append_nil,List.mem_cons,List.not_mem_nil,or_false,Prod.mk.injEq] at hm
   rcases hm with⟨rfl,rfl⟩|⟨rfl,rfl⟩|⟨rfl,rfl⟩|⟨rfl,rfl⟩|⟨rfl,rfl⟩|⟨rfl,rfl⟩|⟨rfl,rfl⟩|⟨rfl,rfl⟩|hm
   · exact⟨0,_,rfl,rfl,.args⟩
   · exact⟨27,_,rfl,rfl,.froz⟩
   · exact⟨29,_,rfl,rfl,.sem⟩
   · exact⟨40,_,rfl,rfl,.cells (aj.refl _)⟩
   · exact⟨41,_,rfl,rfl,bq (eK _) _⟩
   · exact⟨42,_,rfl,rfl,bq (bQ _) _⟩
   · exact⟨45,_,rfl,rfl,bq (bG _) _⟩
   · exact⟨480,_,rfl,rfl,.bag (Nat.le_refl _)⟩
   try (rcases hm with⟨rfl,rfl⟩|hm;exact⟨71,_,rfl,rfl,.cells (fE hl)⟩)
   rcases hm with⟨rfl,rfl⟩|⟨rfl,rfl⟩|⟨rfl,rfl⟩|⟨rfl,rfl⟩|⟨rfl,rfl⟩|⟨rfl,rfl⟩|⟨rfl,rfl⟩|⟨rfl,rfl⟩|⟨rfl,rfl⟩|⟨rfl,rfl⟩|⟨rfl,rfl⟩|⟨rfl,rfl⟩
   · exact⟨6,_,rfl,rfl,Bf rfl rfl _⟩
   · exact⟨7,_,rfl,rfl,.cells (aj.refl _)⟩
   · exact⟨8,_,rfl,rfl,m5 _ _⟩
   · exact⟨9,_,rfl,rfl,.cells (aj.refl _)⟩
   · exact⟨10,_,rfl,rfl,iq _ _⟩
   · exact⟨11,_,rfl,rfl,.cells (aj.refl _)⟩
   · exact⟨12,_,rfl,rfl,.cells (aj.refl _)⟩
   · exact⟨17,_,rfl,rfl,.cells (aj.refl _)⟩
   · exact⟨18,_,rfl,rfl,.cells (aj.refl _)⟩
   · exact⟨22,_,rfl,rfl,iq _ []⟩
   · exact⟨23,_,rfl,rfl,iq _ _⟩
   · exact⟨24,_,rfl,rfl,.cells (aj.refl _)⟩
theorem MR (hy:y=100∨y=603) {nx nx':List Nat}{at_ at':List Int}{tf tf2 tf' tf3:Tf}{ck ck':Int}{n n' j:Nat}{Y Y':aG}{σ σ':eQ} (htf:(tf= .nil∧tf2= .nil)∨∃nt l l2,tf= .row nt l∧tf2= .row nt l2∧l2.map (ao (back (qW y)) 9)=l) (htf':(tf'= .nil∧tf3= .nil)∨∃nt l l2,tf'= .row nt l∧tf3= .row nt l2∧l.map (ao (fwd (qW y) (y+3) 490) 9)=l2) (hd:ab Tryz.prog 60 (tH C p.s p.q p.c p.d p.e p.g nx at_ tf ck n Y σ) 490 (fH C p.s p.q p.c p.d p.e p.g nx' at' tf' ck' n' Y' σ') (.call 21 [.pointer (some ⟨40,0,none⟩),.agg ⟨mq C.QB C.nc C.qc⟩,.int .i64 (j:Nat)]) (.val (.tuple ⟨[]⟩))):ab Tryz.prog (y+3) (gO C p (y+1) (y+2) nx at_ tf2 ck n Y σ) (y+433) (gO C p (y+14) (y+423) nx' at' tf3 ck' n' Y' σ') (.call 21 [.pointer (some ⟨31,0,none⟩),.agg ⟨qF 1 C.QB C.nc C.qc⟩,.int .i64 (j:Nat)]) (.val (.tuple ⟨[]⟩)):=by
 have hl:(qW y).length=60:=rfl
 refine fp (l:=qW y) (k1:=490) (hl ▸ hd) (by rcases hy with rfl|rfl <;> decide) (by rcases hy with rfl|rfl <;> decide) (by rw [hl];omega) (Pv hy htf) ?_ (fun m x hx=> .inl (LJ hy htf' m x hx)) ?_
 · intro r r2 us hb hr
   cases hr with|cons h1 hr=>cases hr with|cons h2 hr=>cases hr with|cons h3 hr=>cases hr with|nil=>
    refine .cons ?_ (.cons (Hz (k:=1) (k2:=27) h2) (.cons ?_ .nil))
    · cases h1 with
      |ptr h=>exact .ptr (((hb 31 40 (by rcases hy with rfl|rfl <;> rfl)).1).trans h)
    · cases h3;exact .int _ _
 · intro r r2 u _ h
   obtain⟨ys,rfl,hl⟩:=h.lS
   cases ys with|mk ys=>cases hl;exact aw.mkTuple .nil
end
end
end Go.Proofs.YtalanookmohdeaaGreatDoor
namespace Go.Sx
variable {P:Program}
theorem xV {c c1:Nat}{h0 h1 h2:Heap}{k:Code}{T T1 T2:List Value}{e:bU} (h:ab P c h0 c1 h1 (.code k T) (.out e T1)) (hl:∀n x,h2.get n=some x→h1.get n=some x) (hT:∀r us,aw r T1 us→aw r T2 us):
  ab P c h0 c1 h2 (.code k T) (.out e T2):=
 ⟨h.1,fun r ow w hs hf a ha hd=>wp_mono (h.2 r ow w hs hf a ha hd) fun _ _ _ ⟨hex,hd',r',ow',hp,ha'⟩=>⟨hex,hd',r',ow',⟨hp.le,hp.sat.less hl,hp.frame,hp.new,hp.mono,hp.own⟩,hT _ _ ha'⟩⟩
theorem Hv {r:Env}{n:Nat}{T2 us:List Value}{l:List (Nat×Value)} (h:aw r T2 us) (hn:T2.length=n) (hl:l.map (fun p=>T2.getD p.1 undef)=l.map (·.2)):aw r (ay n 0 l) us:=by
 refine ng n 0 us (by rw [←h.length,hn]) fun j u hu=> ?_
 rw [Nat.zero_add]
 refine oU (fun p hp u hu=> ?_) j u hu
 have e:T2.getD p.1 undef=p.2:=by
  have:=List.map_inj_left.1 hl p hp
  exact this
 obtain⟨x,hx,hr⟩:=h.get' p.1 u hu
 have:T2.getD p.1 undef=x:=by simp [List.getD_eq_getElem?_getD,hx]
 rw [←e,this];exact hr
def KY (ks:List Nat) (l:List (Nat×Value)):Option (dI×St)→Option (bU×List Value×Nat×Nat×List (Option Chunk)×List VC)
 |some (.out e T,s)=>some (e,l.map (fun p=>T.getD p.1 undef),T.length,s.c,ks.map s.h.get,s.V)
 |_=>none
theorem bW (hm:P.follows .mixedOrders=true) {C:aP} (hC:cC P C) {nn c c1 len:Nat}{h h1:Heap}{k:Code}{T:List Value}{d:bj}{L:List VC}{l:List (Nat×Value)}{e:bU}
  (e0:KY (aY h1) l (gn P C nn (.code k T) d (bb c h))=some (e,l.map (·.2),len,c1,(aY h1).map h1.get,L)) (hV:aW L):ab P c h c1 h1 (.code k T) (.out e (ay len 0 l)):=by
 match e1:gn P C nn (.code k T) d (bb c h),e0 with
 |some (.out e' T',s'),e0=>
  simp only [KY,Option.some.injEq,Prod.mk.injEq] at e0
  obtain⟨rfl,h2,h3,rfl,h5,rfl⟩:=e0
  refine xV (gb hm hC e1 hV) (fun n x hx=> ?_) fun r us hr=>Hv hr h3 h2
  have hmem:=jD hx
  rw [List.map_inj_left.1 h5 n hmem];exact hx
end Go.Sx

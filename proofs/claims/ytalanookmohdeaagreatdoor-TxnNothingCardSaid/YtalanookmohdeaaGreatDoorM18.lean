/- TxnNothing: the walk. No condition. -/
import Derived.Test.YtalanookmohdeaaGreatDoorM17
import Derived.Test.YtalanookmohdeaaGreatDoorM10
import Derived.Test.YtalanookmohdeaaGreatDoorM8
namespace Go.Proofs.YtalanookmohdeaaGreatDoor
open Go Go.Sx
section
variable {C:cF}{j AB lc b kk nj:Nat}{acts:List Ac}{nx:List Nat}{at_:List Int}{at1:Int}{L:List aG}{m m':Cs}{now:Int}{ck:Int}{n u:Nat}{a:Ac}{nt t:Nat}{l:List Value}
theorem Td (ht:fk (.chan (some 72)) l nt t m.goal) (hn:n≤9000) (h:Rd C j AB lc acts b kk nj nx at_ at1 L m now) (ha:acts[nj]? =some a) (hm:m.dB=true) (hin:m.inside=true) (hin':m'.inside=true) (hpe:m'.bt=false) (hdn:m'.isDone=true) (hf:m'.gD=false) (hr:∀y nb ws os,m'≠ .inn y nb ws (.rows os))
  (h1:at1=Int.ofNat t) (he:ep a.kd a.key a.val a.lo a.hi a.un m=0) (hk:a.kd=2) (hd:rk L j b kk a m'):
  ∃q,Sx.bX Tryz.prog 71 73 100 (bH C nx at_ (.row nt l) ck n (ad L)) fZ (T0 j b kk) (bH C (nx.set j (nj+1)) at_ (.row nt (l.set (10*t+6) (.bool q))) ck (n+1) (ad (L.set j (m'.told.res j b)))) (T0 j b kk):=by
 subst h1
 have he':=yg (t:=t) hm hin he
 obtain⟨q,hq⟩:=ES (L:=L.set j (m'.res j b)) (kk:=kk) (ck:=ck) (n:=n) (a:=a) ht hn h.jn h.cl h.at_ h.L' hdn hf hr hk
 rw [List.set_set] at hq
 refine⟨q,?_⟩
 have hseen:(l.set (10*t+6) (.bool q))[10*t+7]? =some (.chan (some 72)):=by rw [List.getElem?_set,if_neg (by omega)];exact ht.seen
 exact Ie (AB:=AB) (la:=acts.length) (lc:=lc) (nj:=nj) (ib:=true) (pe:=false) (cB h.jn) (iP (by have:=(h.n4 ha).1;omega)) (cI (h.n4 ha).1) h.hx (cI ht.lt) (h.lo ha) (by rw [he'];rfl) (by rw [he'];rfl) (by rw [oS];rfl) (by rw [hk];rfl) (by rw [hk];rfl) (by rw [hk];rfl) (by rw [hk];rfl) rfl
  h.r0 (h.r1 ha) (h.r2 ha) h.r3 (ei ht.rds) ((cq hm).1 ▸ df h.L (by decide)) hd (dP C _) (hin' ▸ gG (m:=m') h.L' (by decide)) (hpe ▸ df (m:=m') h.L' (by decide)) hq (h.qP _ (h.n4 ha).2) (bg (bQ _) _) (bg (bG _) _) (fE (u6 (iA ht.rest (cX q)) hseen rfl))
theorem HD {g:Bool} (ht:fk (.chan (some 72)) l nt t g) (q:Bool):fk (.chan (some 72)) (l.set (10*t+6) (.bool q)) nt t g:=by
 have hlt:=(List.getElem?_eq_some_iff.1 ht.seen).1
 refine⟨by rw [List.length_set];exact ht.len,ht.lt,by rw [List.getElem?_set,if_neg (by omega)];exact ht.rds,⟨q,?_⟩,by rw [List.getElem?_set,if_neg (by omega)];exact ht.seen,iA ht.rest (cX q)⟩
 rw [List.getElem?_set,if_pos rfl,if_pos (by omega)]
theorem zW {j:Nat}{ck:Int}{rd:Bool}{l:List Value}{nt:Nat} (hl:l.length=nt*10) (hs:dG l):fk (.slice none 0 0) (l++lF j ck rd) (nt+1) nt rd:=by
 have hg:∀k,(l++lF j ck rd)[10*nt+k]? =(lF j ck rd)[k]? :=fun k=>by
  rw [List.getElem?_append_right (by omega)];congr 1;omega
 exact⟨by simp [lF,hl];omega,by omega,by rw [hg];rfl,⟨false,by rw [hg];rfl⟩,by rw [hg];rfl,(qw hs (kK _ _ _)).b _⟩
def Tf.dm:Tf→Bool
 | .nil=>false
 | .row _ _=>true
structure qg (C:cF) (j:Nat) (acts:List Ac) (b:Nat) (now:Int) (nj:Nat) (nx:List Nat) (at_:List Int) (a1:Int) (tf:Tf) (L:List aG) (m:Cs) (nj':Nat) (a':Int) (nx':List Nat) (at':List Int) (tf':Tf) (n':Nat) (L':List aG) (m':Cs):Prop where
 nx:nx'=nx.set j nj'
 at_:at'=at_.set j a'
 L:L'=L.set j (m'.res j b)
 le:nj≤nj'
 hi:nj'≤acts.length
 form:Form (.chan (some 72)) m' a' tf'
 wf:m'.wf now (2*nj')
 n:n'+(if m'.bt=true then 1 else 0)≤nj'
 idle:m'.bt=false→m'.dB=true∧nj'=acts.length
 act:m'.bt=true→∃a,1≤nj'∧acts[nj' - 1]? =some a∧a.kd=m'.act
 walk:m'.walk=m.walk
 fK:tf'.fK+(acts.length - nj')≤tf.fK+(acts.length - nj)
 bN:m'.bN+30*(acts.length - nj')≤m.bN+30*(acts.length - nj)
 aq:m.bt=true→m'.bt=true
 row:tf'.dm=tf.dm∨(tf'.dm=true∧m'.bt=true)
 kp:Kp tf a1 tf' a'
theorem qg.step (hm:m.bt=false) {nj1 nj':Nat}{a0 a1 a':Int}{tf tf1 tf':Tf}{n':Nat}{m1:Cs}{nx':List Nat}{at':List Int}{L':List aG} (hle:nj≤nj1) (hw:m1.walk=m.walk) (hc:tf1.fK+(acts.length - nj1)≤tf.fK+(acts.length - nj)) (hr:m1.bN+30*(acts.length - nj1)≤m.bN+30*(acts.length - nj))
  (hrow:tf1.dm=tf.dm∨(tf1.dm=true∧m1.bt=true)) (hkp:Kp tf a0 tf1 a1) (h:qg C j acts b now nj1 (nx.set j nj1) (at_.set j a1) a1 tf1 (L.set j (m1.res j b)) m1 nj' a' nx' at' tf' n' L' m'):qg C j acts b now nj nx at_ a0 tf L m nj' a' nx' at' tf' n' L' m':=
 ⟨by rw [h.nx,List.set_set],by rw [h.at_,List.set_set],by rw [h.L,List.set_set],Nat.le_trans hle h.le,h.hi,h.form,h.wf,h.n,h.idle,h.act,h.walk.trans hw,Nat.le_trans h.fK hc,Nat.le_trans h.bN hr,fun q=>(by rw [hm] at q;cases q),by
  rcases h.row with e|e
  · rcases hrow with q|⟨q1,q2⟩
    · exact .inl (e.trans q)
    · exact .inr ⟨e.trans q1,h.aq q2⟩
  · exact .inr e,hkp.trans h.kp⟩
theorem oe {m:Cs} (h:m.dB=true):¬m.bt=true:=by rw [(cq h).1];decide
theorem uz {m:Cs} (h:m.inside=true):fQ m=true:=by unfold fQ;rw [h];rfl
theorem jQ (h:m.dB=true):fQ m=m.inside:=by unfold fQ;rw [(cq h).1];simp
theorem vE (h:Form (.chan (some 72)) m at1 (.row nt l)):∀nm,nm 72=some 72→l.map (ao nm 9)=l:=fun nm hn=>by
 cases h with
 |m _ hs _=>exact gd hs nm
 |p _ ht=>exact nQ ht.rest ht.seen (by simp [ao,hn])
 |k _ _ _ _ hs=>exact gd hs nm
theorem QG {now:Int}{u u':Nat} (h:m.wf now u) (hu:u≤u'):m.wf now u':=Cs.vo h (Int.le_refl _) hu
end
theorem ED (C:cF) {j AB lc b kk:Nat}{acts:List Ac}{ck now:Int} (hok:C.Ok) (hx:C.acts[j]? =some (AB,lc,acts)) (hcl:C.cl[j]? =some (b,kk)) (h0:Heap):∀(r:Nat) (nj:Nat) (nx:List Nat) (at_:List Int) (a1:Int) (tf:Tf) (n:Nat) (L:List aG) (m:Cs),
  acts.length - nj=r→nj≤acts.length→nx[j]? =some nj→at_[j]? =some a1→L[j]? =some (m.res j b)→(m.dB=true∨m.bt=true)→Form (.chan (some 72)) m a1 tf→m.wf now (2*nj)→n+(if m.bt=true then 1 else 0)≤nj→(m.bt=true→∃a,1≤nj∧acts[nj - 1]? =some a∧a.kd=m.act)→tf.fK+(acts.length - nj)≤5000→
  ∃nj' a' nx' at' tf' n' L' m',qg C j acts b now nj nx at_ a1 tf L m nj' a' nx' at' tf' n' L' m'∧Mid Tryz.prog 71 h0 73 (bH C nx at_ tf ck n (ad L)) 100 (bH C nx' at' tf' ck n' (ad L')) fZ (T0 j b kk) (if m'.bt=true then .exit 0 else .ret) (if m'.bt=true then T0 j b kk else TR j b kk):=by
 intro r
 induction r with
 |zero=>
  intro nj nx at_ a1 tf n L m hr hle hnx hat hL hm hf hw hn ha hcnt
  have h:Rd C j AB lc acts b kk nj nx at_ a1 L m now:=⟨hok,hx,hcl,hnx,hat,hL⟩
  have hb:qg C j acts b now nj nx at_ a1 tf L m nj a1 nx at_ tf n L m:=⟨(eH hnx).symm,(eH hat).symm,(eH hL).symm,Nat.le_refl _,hle,hf,hw,hn,fun q=>⟨hm.resolve_right (by rw [q];decide),by omega⟩,ha,rfl,Nat.le_refl _,Nat.le_refl _,fun q=>q,.inl rfl,Kp.refl _ _⟩
  refine⟨nj,a1,nx,at_,tf,n,L,m,hb,?_⟩
  cases hp:m.bt with
  |true=>
   cases tf with
   |nil=>exact(Ga h hp).dt nofun (by decide)
   |row nt l=>exact(Gr h (vE hf) hp).dt nofun (by decide)
  |false=>
   cases tf with
   |nil=>exact(Sm h hp (by omega)).dt nofun (by decide)
   |row nt l=>exact(SR h (vE hf) hp (by omega)).dt nofun (by decide)
 |succ r ih=>
  intro nj nx at_ a1 tf n L m hr hle hnx hat hL hm hf hw hn ha hcnt
  have h:Rd C j AB lc acts b kk nj nx at_ a1 L m now:=⟨hok,hx,hcl,hnx,hat,hL⟩
  cases hp:m.bt with
  |true=>
   have hb:qg C j acts b now nj nx at_ a1 tf L m nj a1 nx at_ tf n L m:=⟨(eH hnx).symm,(eH hat).symm,(eH hL).symm,Nat.le_refl _,hle,hf,hw,hn,fun q=>by rw [hp] at q;(cases q),ha,rfl,Nat.le_refl _,Nat.le_refl _,fun q=>q,.inl rfl,Kp.refl _ _⟩
   refine⟨nj,a1,nx,at_,tf,n,L,m,hb,?_⟩
   rw [hp]
   cases tf with
   |nil=>exact(Ga h hp).dt nofun (by decide)
   |row nt l=>exact(Gr h (vE hf) hp).dt nofun (by decide)
  |false=>
   have hi:m.dB=true:=hm.resolve_right (by rw [hp];decide)
   have hlt:nj < acts.length:=by omega
   obtain⟨a,haa⟩:∃a,acts[nj]? =some a:=⟨_,List.getElem?_eq_getElem hlt⟩
   have hlen:acts.length≤100:=hok.len j _ hx
   have hk6:=hok.k6 j _ nj a hx haa
   rw [hp] at hn
   simp only [Bool.false_eq_true,if_false,Nat.add_zero] at hn
   have hnx':(nx.set j (nj+1))[j]? =some (nj+1):=fb hnx
   have hL':∀ {m':Cs},(L.set j (m'.res j b))[j]? =some (m'.res j b):=fb hL
   have next:∀(a2:Int) (tf2:Tf) (n2:Nat) (m2:Cs),(m2.dB=true∨m2.bt=true)→Form (.chan (some 72)) m2 a2 tf2→m2.wf now (2*(nj+1))→n2+(if m2.bt=true then 1 else 0)≤nj+1→(m2.bt=true→a.kd=m2.act)→m2.walk=false→tf2.fK≤tf.fK+1→m2.bN≤6→(tf2.dm=tf.dm∨(tf2.dm=true∧m2.bt=true))→Kp tf a1 tf2 a2→
     Sx.bX Tryz.prog 71 73 100 (bH C nx at_ tf ck n (ad L)) fZ (T0 j b kk) (bH C (nx.set j (nj+1)) (at_.set j a2) tf2 ck n2 (ad (L.set j (m2.res j b)))) (T0 j b kk)→
     ∃nj' a' nx' at' tf' n' L' m',qg C j acts b now nj nx at_ a1 tf L m nj' a' nx' at' tf' n' L' m'∧Mid Tryz.prog 71 h0 73 (bH C nx at_ tf ck n (ad L)) 100 (bH C nx' at' tf' ck n' (ad L')) fZ (T0 j b kk) (if m'.bt=true then .exit 0 else .ret) (if m'.bt=true then T0 j b kk else TR j b kk):=by
    intro a2 tf2 n2 m2 hm2 hf2 hw2 hn2 ha2 hwk hc2 hrk hrw hkp hg
    obtain⟨nj',a',nx',at',tf',n',L',m',hb,hmid⟩:=ih (nj+1) (nx.set j (nj+1)) (at_.set j a2) a2 tf2 n2 (L.set j (m2.res j b)) m2 (by omega) (by omega) hnx' (fb hat) hL' hm2 hf2 hw2 hn2 (fun q=>⟨a,by omega,by simpa using haa,ha2 q⟩) (by omega)
    exact⟨nj',a',nx',at',tf',n',L',m',hb.step hp (by omega) (by rw [hwk,(cq hi).2.1]) (by omega) (by rw [(cq hi).2.2.1];omega) hrw hkp,hg.dt (by decide) (by decide) hmid⟩
   have wf1:m.wf now (2*(nj+1)):=QG hw (by omega)
   rcases NC (k:=(j:Int)) (u:=2*nj) (kk:=kk) (c:=74) a.kd a.rd a.key a.val a.lo a.hi a.un a.li a.rv hL hi hw (by omega) hk6.1 hk6.2 (by decide) with⟨hne,hd⟩|⟨he,m',hpost,hd⟩
   ·
     have hn1:n+(if m.bt=true then 1 else 0)≤nj+1:=by rw [hp];simp;omega
     have hg:Sx.bX Tryz.prog 71 73 100 (bH C nx at_ tf ck n (ad L)) fZ (T0 j b kk) (bH C (nx.set j (nj+1)) at_ tf ck n (ad L)) (T0 j b kk):=by
      cases hf with
      |n hq=>exact TX h haa hi (by rw [←jQ hi];exact hq) rfl rfl hne hd
      |m hq hs hl=>exact TP hs h haa hi (by rw [←jQ hi];exact hq) rfl rfl hne hd
      |p hq ht=>exact Uq ht h haa hi (by rw [←jQ hi];exact hq) rfl rfl hne hd
      |k _ hq=>exact absurd hq (oe hi)
     refine next a1 tf n m hm hf wf1 hn1 (fun q=>absurd q (oe hi)) (cq hi).2.1 (by omega) (by rw [(cq hi).2.2.1];omega) (.inl rfl) (Kp.refl _ _) ?_
     rw [eH hat,eH hL];exact hg
   · have hw':m'.wf now (2*(nj+1)):=hpost.wf
     cases hf with
     |n hq=>
      have hin:m.inside=false:=by rw [←jQ hi];exact hq
      have hin':m'.inside=false:=hpost.ins.trans hin
      have hkd:a.kd=1∨a.kd=8:=CR (by unfold ep at he;rw [hin] at he;exact he)
      have hpe:m'.bt=true∧m'.act=a.kd:=by
       rcases hpost.kind with⟨_,_,q⟩|⟨_,_,_,q,_⟩|⟨q1,q2,_⟩
       · omega
       · omega
       · exact⟨q1,q2⟩
      have hn2:n+(if m'.bt=true then 1 else 0)≤nj+1:=by rw [hpe.1];simp;omega
      rcases hkd with hk|hk
      · refine next (Int.ofNat 0) (.row 1 (lF j ck a.rd)) n m' (.inr hpe.1) ?_ hw' hn2 (fun _=>hpe.2.symm) hpost.walk (by show 1≤0+1;omega) hpost.bN (.inr ⟨rfl,hpe.1⟩) (Kp.Md _) (Uf h haa hi hin hin' rfl he hk hd)
        refine .k hin' hpe.1 (by rw [hpe.2,hk]) ?_ (kK _ _ _)
        rw [hpost.goal1 hk]
        exact zW (l:= []) (nt:=0) rfl ot
      · refine next (-1) .nil n m' (.inr hpe.1) (.n ?_) hw' hn2 (fun _=>hpe.2.symm) hpost.walk (by omega) hpost.bN (.inl rfl) (Kp.refl _ _) ?_
        · unfold fQ;rw [hin',hpe.1,hpe.2,hk];rfl
        · rw [eH hat];exact T4 h haa hi hin hin' rfl he hk hd
     |m hq hs hl=>
      rename_i nt l
      have hin:m.inside=false:=by rw [←jQ hi];exact hq
      have hin':m'.inside=false:=hpost.ins.trans hin
      have hkd:a.kd=1∨a.kd=8:=CR (by unfold ep at he;rw [hin] at he;exact he)
      have hpe:m'.bt=true∧m'.act=a.kd:=by
       rcases hpost.kind with⟨_,_,q⟩|⟨_,_,_,q,_⟩|⟨q1,q2,_⟩
       · omega
       · omega
       · exact⟨q1,q2⟩
      have hn2:n+(if m'.bt=true then 1 else 0)≤nj+1:=by rw [hpe.1];simp;omega
      have hnt:nt≤9000:=by have:nt+(acts.length - nj)≤5000:=hcnt;omega
      rcases hkd with hk|hk
      · refine next (Int.ofNat nt) (.row (nt+1) (l++lF j ck a.rd)) n m' (.inr hpe.1) ?_ hw' hn2 (fun _=>hpe.2.symm) hpost.walk (Nat.le_refl _) hpost.bN (.inl rfl) (Kp.app hl) (Ui hs hl hnt h haa hi hin hin' rfl he hk hd)
        refine .k hin' hpe.1 (by rw [hpe.2,hk]) ?_ (qw hs (kK _ _ _))
        rw [hpost.goal1 hk]
        exact zW hl hs
      · refine next (-1) (.row nt l) n m' (.inr hpe.1) (.m ?_ hs hl) hw' hn2 (fun _=>hpe.2.symm) hpost.walk (by omega) hpost.bN (.inl rfl) (Kp.refl _ _) ?_
        · unfold fQ;rw [hin',hpe.1,hpe.2,hk];rfl
        · rw [eH hat];exact TV hs h haa hi hin hin' rfl he hk hd
     |p hq ht=>
      rename_i nt t l
      have hin:m.inside=true:=by rw [←jQ hi];exact hq
      have hin':m'.inside=true:=hpost.ins.trans hin
      have hkd:=N6 (by unfold ep at he;rw [hin] at he;exact he)
      have hgoal:=hpost.goal hkd.1
      have ht':fk (.chan (some 72)) l nt t m'.goal:=by rw [hgoal];exact ht
      have hn9:n≤9000:=by omega
      rcases hpost.kind with⟨q1,q2,q3⟩|⟨q1,q2,q3,q4,q5⟩|⟨q1,q2,q3,q4⟩
      · refine next (Int.ofNat t) (.row nt l) (n+1) m' (.inl q1) (.p (uz hin') ht') hw' (by rw [q2];simp;omega) (fun q=>by rw [q2] at q;cases q) hpost.walk (by omega) hpost.bN (.inl rfl) (Kp.refl _ _) ?_
        rw [eH hat];exact Uo ht hn9 h haa hi hin hin' rfl he q3 hd
      · obtain⟨q,hg⟩:=Td (ck:=ck) ht hn9 h haa hi hin hin' q3 q1 q2 q5 rfl he q4 hd
        have tl:=tI hw'
        refine next (Int.ofNat t) (.row nt (l.set (10*t+6) (.bool q))) (n+1) m'.told (.inl tl.1) (.p (uz (by rw [tl.2.1];exact hin')) ?_) tl.2.2.1 (by rw [(cq tl.1).1];simp;omega) (fun q=>absurd q (oe tl.1)) (cq tl.1).2.1 (by show nt≤nt+1;omega) (by rw [tl.2.2.2];omega) (.inl rfl) (Kp.put (by decide) (.inl rfl)) ?_
        · rw [wU q1];exact HD ht' q
        · rw [eH hat];exact hg
      · refine next (Int.ofNat t) (.row nt l) n m' (.inr q1) (.p (uz hin') ht') hw' (by rw [q1];simp;omega) (fun _=>q2.symm) hpost.walk (by omega) hpost.bN (.inl rfl) (Kp.refl _ _) ?_
        rw [eH hat]
        rcases xi (by unfold ep at he;exact he) with e|e|e|e|e|e|e|e
        · exact absurd e hkd.1
        · exact TU ht h haa hi hin hin' q1 rfl he e hd
        · exact absurd e q3
        · exact absurd e q4
        · exact Qc ht h haa hi hin hin' rfl he (.inl e) hd
        · exact absurd e hk6.1
        · exact Qc ht h haa hi hin hin' rfl he (.inr e) hd
        · exact absurd e hkd.2
     |k _ hq=>exact absurd hq (oe hi)
section
open Go Go.Sx
abbrev te (nc qc QB:Nat):Nat×Chunk:=(70,.cells (mq QB nc qc) 27)
abbrev Cq (ck:Int) (nc qc B n2 QB nt2:Nat) (w0 w1:World) (S nx2:List Nat) (at2:List Int) (cl l2:List Value) (Y2:aG):Heap:= [(0,.args B w0),(40,.cells [pT 12,pT 24,sL 45 nc,sL 41 nc,(sL 71 nt2),sL 42 nc,iI ck,.bool false] 51),(41,.cells (di nx2) 3),(42,.cells (ints at2) 3),(45,.cells cl 58),(27,.froz S w1),(29,.sem Y2),(te nc qc QB),(71,.cells l2 182),(72,.bag 188 n2)]
abbrev qU (ck:Int) (nc:Nat):Nat×Chunk:=(40,.cells [pT 12,pT 24,sL 45 nc,sL 41 nc,sN,sL 42 nc,iI ck,.bool false] 51)
abbrev rz (j b kk:Nat):List Value:=ay 201 0 [(0,pT 40),(2,iI (j:Nat)),(4,pT 70),(7,pK b kk)]
abbrev zB (b kk:Nat):List Value:= [Value.pointer (some { block:=b,off:=0,spot:=some kk})]
abbrev NU (ck:Int) (nc B n2 nt2:Nat) (w0 w1:World) (S nx2:List Nat) (at2:List Int) (cl l2:List Value) (Y2:aG):Heap:= [(0,.args B w0),(40,.cells [pT 12,pT 24,sL 45 nc,sL 41 nc,(sL 71 nt2),sL 42 nc,iI ck,.bool false] 51),(41,.cells (di nx2) 3),(42,.cells (ints at2) 3),(45,.cells cl 58),(27,.froz S w1),(29,.sem Y2),(71,.cells l2 182),(72,.bag 188 n2)]
abbrev KA (ck:Int) (nc nt:Nat):Nat×Chunk:=(40,.cells [pT 12,pT 24,sL 45 nc,sL 41 nc,(sL 44 nt),sL 42 nc,iI ck,.bool false] 51)
abbrev Ks (j b kk:Nat):List Value:=ay 201 0 [(0,pT 40),(2,iI (j:Nat)),(4,pT 70),(6,.bool false),(7,pK b kk)]
abbrev tz (nx:List Nat):Nat×Chunk:=(41,.cells (di nx) 3)
abbrev sO (at_:List Int):Nat×Chunk:=(42,.cells (ints at_) 3)
abbrev GN:=fun(j nc qc QB:Nat) h0 h1 h2=>ab Tryz.prog 70 h0 100 h1 (.call 47 [pT 40,(.agg ⟨mq QB nc qc⟩),iI (j:Nat)]) (.val (.bool h2))
section
set_option maxRecDepth 100000
set_option linter.unusedSectionVars false
variable {ck:Int}{j b kk nc qc B n n2 QB nt2 nt:Nat}{w0 w1:World}{S nx nx2:List Nat}{at_ at2:List Int}{cl l2 l:List Value}{Y Y2:aG}
variable (k0:(decide (0≤(j:Int)∧(j:Int) < (nc:Int)))=true)(k1:List.take 1 (List.drop (0+j*1) cl)=(zB b kk)∧(zB b kk).length=1)(k2:ab Tryz.prog 71 [(0,.args B w0),(qU ck nc),(tz nx),(sO at_),(45,.cells cl 58),(27,.froz S w1),(29,.sem Y),(46,.bag 188 n),(te nc qc QB)] 100 [(0,.args B w0),(qU ck nc),(41,.cells (di nx2) 3),(42,.cells (ints at2) 3),(45,.cells cl 58),(27,.froz S w1),(29,.sem Y2),(te nc qc QB),(72,.bag 188 n2)] (.inLoop fZ (rz j b kk)) (.out (.exit 0) (rz j b kk)))(k3:ab Tryz.prog 71 [(0,.args B w0),(qU ck nc),(tz nx),(sO at_),(45,.cells cl 58),(27,.froz S w1),(29,.sem Y),(46,.bag 188 n),(te nc qc QB)] 100 (Cq ck nc qc B n2 QB nt2 w0 w1 S nx2 at2 cl l2 Y2) (.inLoop fZ (rz j b kk)) (.out (.exit 0) (rz j b kk)))(k4:ab Tryz.prog 71 [(0,.args B w0),(KA ck nc nt),(tz nx),(sO at_),(45,.cells cl 58),(27,.froz S w1),(29,.sem Y),(44,.cells l 182),(46,.bag 188 n),(te nc qc QB)] 100 (Cq ck nc qc B n2 QB nt2 w0 w1 S nx2 at2 cl l2 Y2) (.inLoop fZ (rz j b kk)) (.out (.exit 0) (rz j b kk)))(k5:ab Tryz.prog 71 [(0,.args B w0),(qU ck nc),(tz nx),(sO at_),(45,.cells cl 58),(27,.froz S w1),(29,.sem Y),(46,.bag 188 n),(te nc qc QB)] 100 [(0,.args B w0),(qU ck nc),(41,.cells (di nx2) 3),(42,.cells (ints at2) 3),(45,.cells cl 58),(27,.froz S w1),(29,.sem Y2),(te nc qc QB),(72,.bag 188 n2)] (.inLoop fZ (rz j b kk)) (.out .ret (Ks j b kk)))(k6:ab Tryz.prog 71 [(0,.args B w0),(KA ck nc nt),(tz nx),(sO at_),(45,.cells cl 58),(27,.froz S w1),(29,.sem Y),(44,.cells l 182),(46,.bag 188 n),(te nc qc QB)] 100 (Cq ck nc qc B n2 QB nt2 w0 w1 S nx2 at2 cl l2 Y2) (.inLoop fZ (rz j b kk)) (.out .ret (Ks j b kk)))
include k0 k1 k2 in
theorem He:GN j nc qc QB [(0,.args B w0),(qU ck nc),(tz nx),(sO at_),(45,.cells cl 58),(27,.froz S w1),(29,.sem Y),(46,.bag 188 n)] [(0,.args B w0),(qU ck nc),(41,.cells (di nx2) 3),(42,.cells (ints at2) 3),(45,.cells cl 58),(27,.froz S w1),(29,.sem Y2),(72,.bag 188 n2)] true:=
 bh mixed ar (C:=cz) (d:=aT [1] [(2,.cell (.tuple ⟨(zB b kk)⟩)),(3,.loop [0,2,4,7] [0,40,41,42,45,27,29,46,70] 100 [(0,.args B w0),(qU ck nc),(41,.cells (di nx2) 3),(42,.cells (ints at2) 3),(45,.cells cl 58),(27,.froz S w1),(29,.sem Y2),(te nc qc QB),(72,.bag 188 n2)] (.exit 0) (rz j b kk))]) (nn:=600) (by kernel_rfl) (vP k2 (vP k1 (vC k0 vN)))
include k0 k1 k3 in
theorem H5:GN j nc qc QB [(0,.args B w0),(qU ck nc),(tz nx),(sO at_),(45,.cells cl 58),(27,.froz S w1),(29,.sem Y),(46,.bag 188 n)] (NU ck nc B n2 nt2 w0 w1 S nx2 at2 cl l2 Y2) true:=
 bh mixed ar (C:=cz) (d:=aT [1] [(2,.cell (.tuple ⟨(zB b kk)⟩)),(3,.loop [0,2,4,7] [0,40,41,42,45,27,29,46,70] 100 (Cq ck nc qc B n2 QB nt2 w0 w1 S nx2 at2 cl l2 Y2) (.exit 0) (rz j b kk))]) (nn:=600) (by kernel_rfl) (vP k3 (vP k1 (vC k0 vN)))
include k0 k1 k4 in
theorem Hh:GN j nc qc QB [(0,.args B w0),(KA ck nc nt),(tz nx),(sO at_),(45,.cells cl 58),(27,.froz S w1),(29,.sem Y),(44,.cells l 182),(46,.bag 188 n)] (NU ck nc B n2 nt2 w0 w1 S nx2 at2 cl l2 Y2) true:=
 bh mixed ar (C:=cz) (d:=aT [1] [(2,.cell (.tuple ⟨(zB b kk)⟩)),(3,.loop [0,2,4,7] [0,40,41,42,45,27,29,44,46,70] 100 (Cq ck nc qc B n2 QB nt2 w0 w1 S nx2 at2 cl l2 Y2) (.exit 0) (rz j b kk))]) (nn:=600) (by kernel_rfl) (vP k4 (vP k1 (vC k0 vN)))
include k0 k1 k5 in
theorem JF:GN j nc qc QB [(0,.args B w0),(qU ck nc),(tz nx),(sO at_),(45,.cells cl 58),(27,.froz S w1),(29,.sem Y),(46,.bag 188 n)] [(0,.args B w0),(qU ck nc),(41,.cells (di nx2) 3),(42,.cells (ints at2) 3),(45,.cells cl 58),(27,.froz S w1),(29,.sem Y2),(72,.bag 188 n2)] false:=
 bh mixed ar (C:=cz) (d:=aT [1] [(2,.cell (.tuple ⟨(zB b kk)⟩)),(3,.loop [0,2,4,7] [0,40,41,42,45,27,29,46,70] 100 [(0,.args B w0),(qU ck nc),(41,.cells (di nx2) 3),(42,.cells (ints at2) 3),(45,.cells cl 58),(27,.froz S w1),(29,.sem Y2),(te nc qc QB),(72,.bag 188 n2)] .ret (Ks j b kk))]) (nn:=600) (by kernel_rfl) (vP k5 (vP k1 (vC k0 vN)))
include k0 k1 k6 in
theorem Iy:GN j nc qc QB [(0,.args B w0),(KA ck nc nt),(tz nx),(sO at_),(45,.cells cl 58),(27,.froz S w1),(29,.sem Y),(44,.cells l 182),(46,.bag 188 n)] (NU ck nc B n2 nt2 w0 w1 S nx2 at2 cl l2 Y2) false:=
 bh mixed ar (C:=cz) (d:=aT [1] [(2,.cell (.tuple ⟨(zB b kk)⟩)),(3,.loop [0,2,4,7] [0,40,41,42,45,27,29,44,46,70] 100 (Cq ck nc qc B n2 QB nt2 w0 w1 S nx2 at2 cl l2 Y2) .ret (Ks j b kk))]) (nn:=600) (by kernel_rfl) (vP k6 (vP k1 (vC k0 vN)))
end
end
section
open Go Go.Sx
theorem get_mem {n:Nat}{x:Chunk}:∀ {h:Heap},h.get n=some x→(n,x)∈h
 | [],e=>by simp [Heap.get] at e
 |(m,y)::h,e=>by
  rw [aQ] at e
  split at e
  · rename_i q;subst q;cases e;exact List.mem_cons_self
  · exact List.mem_cons_of_mem _ (get_mem e)
theorem iE {n m:Nat}{H H':Heap} (h:∀p∈H',∃i x,H.get i=some x∧dL n m i=some p.1∧az (x.bC (dL n m)) p.2):ia n m H H':=fun k x' e=>h (k,x') (get_mem e)
abbrev Km (C:cF) (tv:Value) (nx:List Nat) (at_:List Int) (ck:Int) (Y:aG):Heap:= [(0,.args C.B C.w0),(40,mf C.nc tv ck),(41,.cells (di nx) 3),(42,.cells (ints at_) 3),(45,.cells (cP C.cl) 58),(27,.froz C.S C.w1),(29,.sem Y)]
def pH (C:cF) (nx:List Nat) (at_:List Int) (tf:Tf) (ck:Int) (n:Nat) (Y:aG):Heap:=Km C (tf.val 44) nx at_ ck Y++(tf.ch 44++ [(46,.bag 188 n)])
def zN (C:cF) (nx:List Nat) (at_:List Int) (tf:Tf) (ck:Int) (n:Nat) (Y:aG):Heap:=Km C (tf.val 44) nx at_ ck Y++(tf.ch 44++ [(46,.bag 188 n),(70,.cells (mq C.QB C.nc C.qc) 27)])
def oH (C:cF) (nx:List Nat) (at_:List Int) (tf:Tf) (ck:Int) (n:Nat) (Y:aG):Heap:=Km C (tf.val 71) nx at_ ck Y++(tf.ch 71++ [(72,.bag 188 n)])
theorem bq {l:List Value}{t:TypeId} (h:dG l) (nm:Nat→Option Nat):az (Chunk.bC nm (.cells l t)) (.cells l t):= .cells (bg h nm)
section
variable {C:cF}{nx:List Nat}{at_:List Int}{ck:Int}{n:Nat}{Y:aG}
theorem Na:ia 46 72 (zN C nx at_ .nil ck n Y) (bH C nx at_ .nil ck n Y):=iE fun p hp=>by
 have hp':p∈([(0,.args C.B C.w0),(40,mf C.nc (.slice none 0 0) ck),(41,.cells (di nx) 3),(42,.cells (ints at_) 3),(45,.cells (cP C.cl) 58),(27,.froz C.S C.w1),(29,.sem Y),(70,.cells (mq C.QB C.nc C.qc) 27),(72,.bag 188 n)]:Heap):=hp
 simp only [List.mem_cons,List.not_mem_nil,or_false] at hp'
 rcases hp' with rfl|rfl|rfl|rfl|rfl|rfl|rfl|rfl|rfl
 · exact⟨0,_,rfl,rfl,.args⟩
 · exact⟨40,_,rfl,rfl,.cells (aj.refl _)⟩
 · exact⟨41,_,rfl,rfl,bq (eK _) _⟩
 · exact⟨42,_,rfl,rfl,bq (bQ _) _⟩
 · exact⟨45,_,rfl,rfl,bq (bG _) _⟩
 · exact⟨27,_,rfl,rfl,.froz⟩
 · exact⟨29,_,rfl,rfl,.sem⟩
 · exact⟨70,_,rfl,rfl,.cells (aj.refl _)⟩
 · exact⟨46,_,rfl,rfl,.bag (Nat.le_refl _)⟩
def PN (C:cF) (nx:List Nat) (at_:List Int) (nt:Nat) (l:List Value) (ck:Int) (n:Nat) (Y:aG):Heap:= [(0,.args C.B C.w0),(40,mf C.nc (.slice (some ⟨71,0,none⟩) nt 0) ck),(41,.cells (di nx) 3),(42,.cells (ints at_) 3),(45,.cells (cP C.cl) 58),(27,.froz C.S C.w1),(29,.sem Y),(71,.cells l 182),(46,.bag 188 n),(70,.cells (mq C.QB C.nc C.qc) 27)]
theorem Ox {nt:Nat}{l:List Value} (hl:l.map (ao (dL 44 71) 9)=l):ia 44 71 (zN C nx at_ (.row nt l) ck n Y) (PN C nx at_ nt l ck n Y):=iE fun p hp=>by
 simp only [PN,List.mem_cons,List.not_mem_nil,or_false] at hp
 rcases hp with rfl|rfl|rfl|rfl|rfl|rfl|rfl|rfl|rfl|rfl
 · exact⟨0,_,rfl,rfl,.args⟩
 · exact⟨40,_,rfl,rfl,.cells (aj.refl _)⟩
 · exact⟨41,_,rfl,rfl,bq (eK _) _⟩
 · exact⟨42,_,rfl,rfl,bq (bQ _) _⟩
 · exact⟨45,_,rfl,rfl,bq (bG _) _⟩
 · exact⟨27,_,rfl,rfl,.froz⟩
 · exact⟨29,_,rfl,rfl,.sem⟩
 · exact⟨44,_,rfl,rfl,.cells (fE hl)⟩
 · exact⟨46,_,rfl,rfl,.bag (Nat.le_refl _)⟩
 · exact⟨70,_,rfl,rfl,.cells (aj.refl _)⟩
theorem Pm {nt:Nat}{l l2:List Value} (hl:l.map (ao (dL 46 72) 9)=l2):ia 46 72 (PN C nx at_ nt l ck n Y) (bH C nx at_ (.row nt l2) ck n Y):=iE fun p hp=>by
 have hp':p∈([(0,.args C.B C.w0),(40,mf C.nc (.slice (some ⟨71,0,none⟩) nt 0) ck),(41,.cells (di nx) 3),(42,.cells (ints at_) 3),(45,.cells (cP C.cl) 58),(27,.froz C.S C.w1),(29,.sem Y),(70,.cells (mq C.QB C.nc C.qc) 27),(71,.cells l2 182),(72,.bag 188 n)]:Heap):=hp
 simp only [List.mem_cons,List.not_mem_nil,or_false] at hp'
 rcases hp' with rfl|rfl|rfl|rfl|rfl|rfl|rfl|rfl|rfl|rfl
 · exact⟨0,_,rfl,rfl,.args⟩
 · exact⟨40,_,rfl,rfl,.cells (aj.refl _)⟩
 · exact⟨41,_,rfl,rfl,bq (eK _) _⟩
 · exact⟨42,_,rfl,rfl,bq (bQ _) _⟩
 · exact⟨45,_,rfl,rfl,bq (bG _) _⟩
 · exact⟨27,_,rfl,rfl,.froz⟩
 · exact⟨29,_,rfl,rfl,.sem⟩
 · exact⟨70,_,rfl,rfl,.cells (aj.refl _)⟩
 · exact⟨71,_,rfl,rfl,.cells (fE hl)⟩
 · exact⟨46,_,rfl,rfl,.bag (Nat.le_refl _)⟩
end
theorem yS {m:Cs}{a:Int}{nt:Nat}{l:List Value}{x y:Nat} (h:Form (.chan (some x)) m a (.row nt l)):∃l2,Form (.chan (some y)) m a (.row nt l2)∧(∀nm,nm x=some y→l.map (ao nm 9)=l2)∧(∀nm,nm x=some x→l.map (ao nm 9)=l)∧Kp (.row nt l) a (.row nt l2) a:=by
 cases h with
 |m h hs hl=>exact⟨l,.m h hs hl,fun nm _=>gd hs nm,fun nm _=>gd hs nm,Kp.refl _ _⟩
 |p h ht=>
  rename_i t
  have hlt:=(List.getElem?_eq_some_iff.1 ht.seen).1
  refine⟨l.set (10*t+7) (.chan (some y)),.p h ⟨by rw [List.length_set];exact ht.len,ht.lt,by rw [List.getElem?_set,if_neg (by omega)];exact ht.rds,?_,by rw [List.getElem?_set,if_pos rfl,if_pos hlt],?_⟩,fun nm hn=> ?_,fun nm hn=>nQ ht.rest ht.seen (by simp [ao,hn]),Kp.put (by decide) (.inl rfl)⟩
  · obtain⟨q,hq⟩:=ht.tir;exact⟨q,by rw [List.getElem?_set,if_neg (by omega)];exact hq⟩
  · intro i v hi e
    rw [List.getElem?_set,if_neg (fun q=>hi q.symm)] at e
    exact ht.rest i v hi e
  · apply List.ext_getElem?
    intro i
    rw [List.getElem?_map,List.getElem?_set]
    by_cases q:10*t+7=i
    · subst q;rw [if_pos rfl,if_pos hlt,ht.seen];simp [ao,hn]
    · rw [if_neg q]
      cases e:l[i]? with
      |none=>rfl
      |some v=>simp [(ht.rest i v (fun e=>q e.symm) e).2]
 |k h hp ha ht hs=>exact⟨l,.k h hp ha ht hs,fun nm _=>gd hs nm,fun nm _=>gd hs nm,Kp.refl _ _⟩
theorem Fe (C:cF) {j AB lc b kk:Nat}{acts:List Ac}{ck now:Int} (hok:C.Ok) (hx:C.acts[j]? =some (AB,lc,acts)) (hcl:C.cl[j]? =some (b,kk)) {nj:Nat}{nx:List Nat}{at_:List Int}{a1:Int}{tf:Tf}{n:Nat}{L:List aG}{m:Cs}
  (hle:nj≤acts.length) (hnx:nx[j]? =some nj) (hat:at_[j]? =some a1) (hL:L[j]? =some (m.res j b)) (hm:m.dB=true∨m.bt=true) (hf:Form (.chan (some 46)) m a1 tf) (hw:m.wf now (2*nj)) (hn:n+(if m.bt=true then 1 else 0)≤nj) (ha:m.bt=true→∃a,1≤nj∧acts[nj - 1]? =some a∧a.kd=m.act) (hcnt:tf.fK+(acts.length - nj)≤5000):
  ∃nj' a' nx' at' tf' n' L' m',qg C j acts b now nj nx at_ a1 tf L m nj' a' nx' at' tf' n' L' m'∧ab Tryz.prog 70 (pH C nx at_ tf ck n (ad L)) 100 (oH C nx' at' tf' ck n' (ad L')) (.call 47 [.pointer (some ⟨40,0,none⟩),.agg ⟨mq C.QB C.nc C.qc⟩,.int .i64 (j:Nat)]) (.val (.bool m'.bt)):=by
 have hj:j < C.nc:=by rw [←hok.n];exact(List.getElem?_eq_some_iff.1 hx).1
 have hc:List.take 1 (List.drop (0+j*1) (cP C.cl))= [.pointer (some ⟨b,0,some kk⟩)]∧1=1:=oJ (by simp [cP,hcl])
 have key:∀tf2,Form (.chan (some 72)) m a1 tf2→tf2.fK=tf.fK→tf2.dm=tf.dm→Kp tf a1 tf2 a1→(∀e Tf h1,Mid Tryz.prog 71 (zN C nx at_ tf ck n (ad L)) 73 (bH C nx at_ tf2 ck n (ad L)) 100 h1 fZ (T0 j b kk) e Tf→Mid Tryz.prog 71 (zN C nx at_ tf ck n (ad L)) 71 (zN C nx at_ tf ck n (ad L)) 100 h1 fZ (T0 j b kk) e Tf)→
   ∃nj' a' nx' at' tf' n' L' m',qg C j acts b now nj nx at_ a1 tf L m nj' a' nx' at' tf' n' L' m'∧ab Tryz.prog 71 (zN C nx at_ tf ck n (ad L)) 100 (bH C nx' at' tf' ck n' (ad L')) (.inLoop fZ (T0 j b kk)) (.out (if m'.bt=true then .exit 0 else .ret) (if m'.bt=true then T0 j b kk else TR j b kk)):=by
  intro tf2 hf2 hct hrw hkp hconv
  obtain⟨nj',a',nx',at',tf',n',L',m',hb,hmid⟩:=ED C (ck:=ck) hok hx hcl (zN C nx at_ tf ck n (ad L)) (acts.length - nj) nj nx at_ a1 tf2 n L m rfl hle hnx hat hL hm hf2 hw hn ha (by omega)
  exact⟨nj',a',nx',at',tf',n',L',m',⟨hb.nx,hb.at_,hb.L,hb.le,hb.hi,hb.form,hb.wf,hb.n,hb.idle,hb.act,hb.walk,by rw [←hct];exact hb.fK,hb.bN,hb.aq,by rw [←hrw];exact hb.row,hkp.trans hb.kp⟩,fG (by decide) (hconv _ _ _ hmid)⟩
 cases tf with
 |nil=>
  have hf2:Form (.chan (some 72)) m a1 .nil:=by cases hf with|n h=>exact .n h
  obtain⟨nj',a',nx',at',tf',n',L',m',hb,hd⟩:=key .nil hf2 rfl rfl (Kp.refl _ _) fun e Tf h1 hm=>tL (cm:=71) (cm':=73) (by decide) (by decide) (iD (m:=72) (by decide) (by decide) Na) fun _=>hm
  refine⟨nj',a',nx',at',tf',n',L',m',hb,?_⟩
  cases hp:m'.bt with
  |true=>
   rw [hp] at hd
   cases tf' with
   |nil=>exact He (cB hj) hc hd
   |row nt' l'=>exact H5 (cB hj) hc hd
  |false=>
   rw [hp] at hd
   cases tf' with
   |nil=>exact JF (cB hj) hc hd
   |row nt' l'=>
    rcases hb.row with e|⟨_,e⟩
    · cases e
    · rw [hp] at e;cases e
 |row nt l=>
  obtain⟨l2,hf2,hl1,hl2,hkp⟩:=yS (y:=72) hf
  obtain⟨nj',a',nx',at',tf',n',L',m',hb,hd⟩:=key (.row nt l2) hf2 rfl rfl hkp fun e Tf h1 hm=>tL (cm:=71) (cm':=72) (by decide) (by decide) (iD (m:=71) (by decide) (by decide) (Ox (hl2 _ rfl))) fun _=>tL (cm:=72) (cm':=73) (by decide) (by decide) (iD (m:=72) (by decide) (by decide) (Pm (hl1 _ rfl))) fun _=>hm
  refine⟨nj',a',nx',at',tf',n',L',m',hb,?_⟩
  cases hp:m'.bt with
  |true=>
   rw [hp] at hd
   cases tf' with
   |nil=>rcases hb.row with e|⟨e,_⟩ <;> cases e
   |row nt' l'=>exact Hh (cB hj) hc hd
  |false=>
   rw [hp] at hd
   cases tf' with
   |nil=>rcases hb.row with e|⟨e,_⟩ <;> cases e
   |row nt' l'=>exact Iy (cB hj) hc hd
end
section
open Go Go.Sx
abbrev KM (ck:Int) (nc nt:Nat):Nat×Chunk:=(40,.cells [pT 12,pT 24,sL 45 nc,sL 41 nc,(sL 71 nt),sL 42 nc,iI ck,.bool false] 51)
abbrev KU (at_:List Int):Nat×Chunk:=(42,.cells (at_.map fun i=>iI i) 3)
abbrev Ow (ck:Int) (nc nt B n:Nat) (w0:World) (at_:List Int) (cl l:List Value) (Y:aG):Heap:= [(0,.args B w0),(KM ck nc nt),(KU at_),(45,.cells cl 58),(29,.sem Y),(71,.cells l 182),(72,.bag 188 n)]
abbrev tP (b kk:Nat):List Value:= [Value.pointer (some { block:=b,off:=0,spot:=some kk})]
abbrev nS (b kk:Nat):Nat×eA:=(2,.cell (.tuple ⟨(tP b kk)⟩))
abbrev tZ (t:Nat):List Value:= [Value.int IntKind.i64 (Int.ofNat t)]
abbrev iM (t:Nat):Value:= .tuple ⟨(tZ t)⟩
abbrev vn (Y3:aG) (th:Bool) (vv:ByteArray):Nat×eA:=(3,.loop [] [29] 101 [(29,.sem Y3)] .normal [.tuple ⟨[.agg ⟨[.string vv,.bool th,sN,iI 0,.nilIface]⟩,.nilIface]⟩])
abbrev vq (nu:Int) (s1:ByteArray):Nat×Chunk:=(106,.cells [.string s1,iI nu,.iface 201 (pT 107)] 203)
abbrev uW (s2:ByteArray):Nat×Chunk:=(107,.cells [.string s2,iI 0,.iface 72 (iI 5)] 203)
noncomputable abbrev oq:aP:=aE Tryz.prog cz [18,82,84]
abbrev uL (B:Nat) (w0:World):Nat×eA:=(7,.loop [] [0] 102 [(0,.args B w0)] .normal [iI 0])
abbrev E5 (nu:Int) (Y3:aG) (th:Bool) (vv s1 s2:ByteArray):Nat×eA:=(3,.loop [] [29] 471 [(29,.sem Y3),(vq nu s1),(uW s2)] .normal [.tuple ⟨[.agg ⟨[.string vv,.bool th,sN,iI 0,.iface 201 (pT 106)]⟩,.nilIface]⟩])
abbrev vW (lim:Int) (j:Nat) (rd unb rev:Bool) (key val low high:ByteArray):List Value:= [pT 40,iI (j:Nat),.agg ⟨[iI 5,.bool rd,.string key,.string val,.string low,.string high,.bool unb,iI lim,.bool rev]⟩]
abbrev mn (tir:Bool):Value:= .tuple ⟨[Value.bool tir]⟩
abbrev ry (t:Nat) (l:List Value):List Value:=aH l (0+t*10+6) [.bool true]
abbrev vF:Value:= .tuple ⟨[Value.chan (some 72)]⟩
abbrev EW (nu:Int) (B:Nat) (w0:World) (s1 s2:ByteArray):Nat×eA:=(7,.loop [] [0,106,107] 472 [(0,.args B w0),(vq nu s1),(uW s2)] .normal [iI 5])
abbrev ze (t:Nat) (l:List Value):List Value:=aH l (0+t*10+6) [Value.bool false]
abbrev EU (lim:Int) (j:Nat) (rd unb rev:Bool) (key val low high:ByteArray):List Value:= [pT 40,iI (j:Nat),.agg ⟨[iI 2,.bool rd,.string key,.string val,.string low,.string high,.bool unb,iI lim,.bool rev]⟩]
abbrev yl (t:Nat) (l:List Value):List Value:=aH l (0+t*10+6) [Value.bool true]
abbrev JD (th:Bool) (vv:ByteArray):Value:= .tuple ⟨[.agg ⟨[.string vv,.bool th,sN,iI 0,.nilIface]⟩,.nilIface]⟩
abbrev H7 (t nt:Nat):Bool:=decide ((0:Int)≤Int.ofNat t∧Int.ofNat t < (nt:Int))
abbrev qX:=fun(ck:Int) (nc nt B n:Nat) (w0:World) (at_:List Int) (cl l:List Value) (Y Y3:aG) h0 h1 h2 h3 h4=>ab Tryz.prog 100 (Ow ck nc nt B n w0 at_ cl l Y) h0 [(0,.args B w0),(KM ck nc nt),(KU at_),(45,.cells cl 58),(71,.cells h1 182),(h2,.bag 188 h3),(29,.sem Y3)] (.call 49 h4) (.val (.tuple ⟨[]⟩))
section
set_option maxRecDepth 100000
set_option linter.unusedSectionVars false
variable {ck lim nu:Int}{t j b kk nc nt B n rl:Nat}{w0:World}{at_:List Int}{cl l:List Value}{Y Y3:aG}{rd unb rev th tir:Bool}{key val low high vv s1 s2:ByteArray}
variable (k0:(decide (0≤(j:Int)∧(j:Int) < (nc:Int)))=true)(k1:(H7 t nt)=true)(k2:(cK (0+t*10+3+1) l)=true)(k3:(tir)=true)(k4:(tir)=false)(k5:(cK (0+t*10+6+1) l)=true)(k6:(bz (n+1) 128)=true)(k7:(cK (0+t*10+7+1) (yl t l))=true)(k8:(cK (0+t*10+7+1) (ze t l))=true)(k9:List.take 1 (List.drop (0+j*1) cl)=(tP b kk)∧(tP b kk).length=1)(k10:List.take 1 (List.drop (0+j*1) (List.map (fun i=>Value.int IntKind.i64 i) at_))=(tZ t)∧(tZ t).length=1)(k11:List.take 1 (List.drop (0+t*10+6) l)= [Value.bool tir]∧ [Value.bool tir].length=1)(k12:List.take 1 (List.drop (0+t*10+7) (yl t l))= [Value.chan (some 72)]∧1=1)(k13:List.take 1 (List.drop (0+t*10+7) (ze t l))= [Value.chan (some 72)]∧1=1)(k14:ab Tryz.prog 101 [(29,.sem Y)] 471 [(29,.sem Y3)] (.call 18 [pK b kk]) (.val (.tuple ⟨[.agg ⟨[.string vv,.bool th,sL 134 (rl+1),iI 0,.nilIface]⟩,.nilIface]⟩)))(k15:ab Tryz.prog 472 [(0,.args B w0)] 472 [(0,.args B w0)] (.call 82 [.nilIface]) (.val (iI 0)))(k16:ab Tryz.prog 472 [] 472 [] (.call 84 [.nilIface]) (.val (.bool false)))(k17:List.take 1 (List.drop (0+j*1) (List.map (fun i=>Value.int IntKind.i64 i) at_))= [Value.int IntKind.i64 (-1:Int)]∧1=1)(k18:ab Tryz.prog 101 [(29,.sem Y)] 101 [(29,.sem Y3)] (.call 18 [pK b kk]) (.val (JD th vv)))(k19:ab Tryz.prog 102 [(0,.args B w0)] 102 [(0,.args B w0)] (.call 82 [.nilIface]) (.val (iI 0)))(k20:ab Tryz.prog 102 [] 102 [] (.call 84 [.nilIface]) (.val (.bool false)))(k21:ab Tryz.prog 101 [(29,.sem Y)] 471 [(29,.sem Y3),(vq nu s1),(uW s2)] (.call 18 [pK b kk]) (.val (.tuple ⟨[.agg ⟨[.string vv,.bool th,sN,iI 0,.iface 201 (pT 106)]⟩,.nilIface]⟩)))(k22:ab Tryz.prog 472 [(0,.args B w0),(vq nu s1),(uW s2)] 472 [(0,.args B w0),(vq nu s1),(uW s2)] (.call 82 [.iface 201 (pT 106)]) (.val (iI 5)))(k23:ab Tryz.prog 472 [(vq nu s1),(uW s2)] 472 [(vq nu s1),(uW s2)] (.call 84 [.iface 201 (pT 106)]) (.val (.bool true)))
include k0 k1 k2 k9 k10 k18 k19 in
theorem Qm:qX ck nc nt B n w0 at_ cl l Y Y3 102 (aH l (0+t*10+3) [iI 0]) 72 n [pT 40,iI (j:Nat),.agg ⟨[iI 1,.bool rd,.string key,.string val,.string low,.string high,.bool unb,iI lim,.bool rev]⟩]:=
 bh mixed (ar.aE [18,82,84]) (C:=oq) (d:=aT [1,30,33,34] [(nS b kk),(vn Y3 th vv),(uL B w0),(31,.cell (iM t))]) (nn:=600) (by kernel_rfl) (vC k2 (vC k1 (vP k10 (vC k0 (vP k19 (vP k18 (vP k9 (vC k0 vN))))))))
include k0 k1 k3 k5 k6 k7 k9 k10 k11 k12 k18 k19 in
theorem OL:qX ck nc nt B n w0 at_ cl l Y Y3 104 (aH (ry t l) (0+t*10+7) [cS 103]) 103 (n+1) (EU lim j rd unb rev key val low high):=
 bh mixed (ar.aE [18,82,84]) (C:=oq) (d:=aT [1,28,38,40,42,43,44,45,46,68,69] [(nS b kk),(vn Y3 th vv),(uL B w0),(29,.cell (iM t)),(39,.cell (iM t)),(41,.cell (mn tir)),(56,.cell vF)]) (nn:=600) (by kernel_rfl) (vC k7 (vC k6 (vP k12 (vC k5 (ax k3 (vP k11 (vC k1 (vP k10 (vC k0 (vP k10 (vC k0 (vP k19 (vP k18 (vP k9 (vC k0 vN)))))))))))))))
include k0 k1 k4 k5 k6 k8 k9 k10 k11 k13 k18 k19 k20 in
theorem NM:qX ck nc nt B n w0 at_ cl l Y Y3 104 (aH (aH l (0+t*10+6) [.bool false]) (0+t*10+7) [cS 103]) 103 (n+1) (EU lim j rd unb rev key val low high):=
 bh mixed (ar.aE [18,82,84]) (C:=oq) (d:=aT [1,28,38,40,48,70,71] (aF [42,43,45,47] [(nS b kk),(vn Y3 th vv),(uL B w0),(29,.cell (iM t)),(39,.cell (iM t)),(41,.cell (mn tir)),(46,.loop [] [] 102 [] .normal [.bool false]),(58,.cell vF)])) (nn:=600) (by kernel_rfl) (vC k8 (vC k6 (vP k13 (vC k5 (vB k4 (vP k20 (aX k4 (vP k11 (vC k1 (vP k10 (vC k0 (vP k10 (vC k0 (vP k19 (vP k18 (vP k9 (vC k0 vN)))))))))))))))))
include k0 k1 k3 k5 k6 k7 k9 k10 k11 k12 k18 k19 in
theorem O0:qX ck nc nt B n w0 at_ cl l Y Y3 104 (aH (ry t l) (0+t*10+7) [cS 103]) 103 (n+1) (vW lim j rd unb rev key val low high):=
 bh mixed (ar.aE [18,82,84]) (C:=oq) (d:=aT [1,28,38,40,42,43,44,45,46,68,69] [(nS b kk),(vn Y3 th vv),(uL B w0),(29,.cell (iM t)),(39,.cell (iM t)),(41,.cell (mn tir)),(56,.cell vF)]) (nn:=600) (by kernel_rfl) (vC k7 (vC k6 (vP k12 (vC k5 (ax k3 (vP k11 (vC k1 (vP k10 (vC k0 (vP k10 (vC k0 (vP k19 (vP k18 (vP k9 (vC k0 vN)))))))))))))))
include k0 k1 k4 k5 k6 k8 k9 k10 k11 k13 k18 k19 k20 in
theorem Qo:qX ck nc nt B n w0 at_ cl l Y Y3 104 (aH (aH l (0+t*10+6) [.bool false]) (0+t*10+7) [cS 103]) 103 (n+1) (vW lim j rd unb rev key val low high):=
 bh mixed (ar.aE [18,82,84]) (C:=oq) (d:=aT [1,28,38,40,48,70,71] (aF [42,43,45,47] [(nS b kk),(vn Y3 th vv),(uL B w0),(29,.cell (iM t)),(39,.cell (iM t)),(41,.cell (mn tir)),(46,.loop [] [] 102 [] .normal [.bool false]),(58,.cell vF)])) (nn:=600) (by kernel_rfl) (vC k8 (vC k6 (vP k13 (vC k5 (vB k4 (vP k20 (aX k4 (vP k11 (vC k1 (vP k10 (vC k0 (vP k10 (vC k0 (vP k19 (vP k18 (vP k9 (vC k0 vN)))))))))))))))))
include k0 k1 k3 k5 k6 k7 k9 k10 k11 k12 k14 k15 in
theorem MU:qX ck nc nt B n w0 at_ cl l Y Y3 474 (aH (ry t l) (0+t*10+7) [cS 473]) 473 (n+1) (vW lim j rd unb rev key val low high):=
 bh mixed (ar.aE [18,82,84]) (C:=oq) (d:=aT [1,28,38,40,42,43,44,45,46,68,69] [(nS b kk),(3,.loop [] [29] 471 [(29,.sem Y3)] .normal [.tuple ⟨[.agg ⟨[.string vv,.bool th,sL 134 (rl+1),iI 0,.nilIface]⟩,.nilIface]⟩]),(7,.loop [] [0] 472 [(0,.args B w0)] .normal [iI 0]),(29,.cell (iM t)),(39,.cell (iM t)),(41,.cell (mn tir)),(56,.cell vF)]) (nn:=600) (by kernel_rfl) (vC k7 (vC k6 (vP k12 (vC k5 (ax k3 (vP k11 (vC k1 (vP k10 (vC k0 (vP k10 (vC k0 (vP k15 (vP k14 (vP k9 (vC k0 vN)))))))))))))))
include k0 k1 k4 k5 k6 k8 k9 k10 k11 k13 k14 k15 k16 in
theorem MX:qX ck nc nt B n w0 at_ cl l Y Y3 474 (aH (aH l (0+t*10+6) [.bool false]) (0+t*10+7) [cS 473]) 473 (n+1) (vW lim j rd unb rev key val low high):=
 bh mixed (ar.aE [18,82,84]) (C:=oq) (d:=aT [1,28,38,40,48,70,71] (aF [42,43,45,47] [(nS b kk),(3,.loop [] [29] 471 [(29,.sem Y3)] .normal [.tuple ⟨[.agg ⟨[.string vv,.bool th,sL 134 (rl+1),iI 0,.nilIface]⟩,.nilIface]⟩]),(7,.loop [] [0] 472 [(0,.args B w0)] .normal [iI 0]),(29,.cell (iM t)),(39,.cell (iM t)),(41,.cell (mn tir)),(46,.loop [] [] 472 [] .normal [.bool false]),(58,.cell vF)])) (nn:=600) (by kernel_rfl) (vC k8 (vC k6 (vP k13 (vC k5 (vB k4 (vP k16 (aX k4 (vP k11 (vC k1 (vP k10 (vC k0 (vP k10 (vC k0 (vP k15 (vP k14 (vP k9 (vC k0 vN)))))))))))))))))
set_option maxRecDepth 100000 in
theorem O7 {ck lim:Int}{t j b kk nc nt B n:Nat}{w0:World}{at_:List Int}{cl l:List Value}{Y Y3:aG}{rd unb rev tir th:Bool}{key val low high vv:ByteArray} (h0:(decide (0≤(j:Int)∧(j:Int) < (nc:Int)))=true) (h1:(H7 t nt)=true) (h2:(tir)=true) (h3:(cK (0+t*10+6+1) l)=true) (h4:(cK (0+t*10+5+1) (yl t l))=true) (h5:(cK (0+t*10+2+1) (aH (yl t l) (0+t*10+5) [Value.bool true]))=true) (h6:(cK (0+t*10+9+1) (aH (aH (yl t l) (0+t*10+5) [Value.bool true]) (0+t*10+2) [Value.int IntKind.i64 ck]))=true) (h7:(cK (0+j*1+1) (List.map (fun i=>Value.int IntKind.i64 i) at_))=true) (r0:List.take 1 (List.drop (0+j*1) cl)=(tP b kk)∧(tP b kk).length=1) (r1:List.take 1 (List.drop (0+j*1) (List.map (fun i=>Value.int IntKind.i64 i) at_))=(tZ t)∧(tZ t).length=1) (r2:List.take 1 (List.drop (0+t*10+6) l)= [Value.bool tir]∧ [Value.bool tir].length=1) (hd3:ab Tryz.prog 101 [(29,.sem Y)] 101 [(29,.sem Y3)] (.call 18 [pK b kk]) (.val (JD th vv))) (hd7:ab Tryz.prog 102 [(0,.args B w0)] 102 [(0,.args B w0)] (.call 82 [.nilIface]) (.val (iI 0))) (hd60:ab Tryz.prog 102 [(0,.args B w0)] 102 [(0,.args B w0)] (.call 82 [.nilIface]) (.val (iI 0))):ab Tryz.prog 100 (Ow ck nc nt B n w0 at_ cl l Y) 102 [(0,.args B w0),(KM ck nc nt),(42,.cells (aH (at_.map fun i=>iI i) (0+j*1) [iI (-1)]) 3),(45,.cells cl 58),(71,.cells (aH (aH (aH (ry t l) (0+t*10+5) [.bool true]) (0+t*10+2) [iI ck]) (0+t*10+9) [iI 0]) 182),(72,.bag 188 n),(29,.sem Y3)] (.call 49 [pT 40,iI (j:Nat),.agg ⟨[iI 7,.bool rd,.string key,.string val,.string low,.string high,.bool unb,iI lim,.bool rev]⟩]) (.val (.tuple ⟨[]⟩)):=
 bh mixed (ar.aE [18,82,84]) (C:=oq) (d:=aT [1,28,38,40,42,43,44,45,46,61,62,63,77,78] [(nS b kk),(vn Y3 th vv),(uL B w0),(29,.cell (iM t)),(39,.cell (iM t)),(41,.cell (mn tir)),(60,.loop [] [0] 102 [(0,.args B w0)] .normal [iI 0])]) (nn:=600) (by kernel_rfl) (vC h7 (vC h0 (vC h6 (vC h5 (vC h4 (vP hd60 (vC h3 (ax h2 (vP r2 (vC h1 (vP r1 (vC h0 (vP r1 (vC h0 (vP hd7 (vP hd3 (vP r0 (vC h0 vN))))))))))))))))))
set_option maxRecDepth 100000 in
theorem O9 {ck lim:Int}{t j b kk nc nt B n:Nat}{w0:World}{at_:List Int}{cl l:List Value}{Y Y3:aG}{rd unb rev tir th:Bool}{key val low high vv:ByteArray} (h0:(decide (0≤(j:Int)∧(j:Int) < (nc:Int)))=true) (h1:(H7 t nt)=true) (h2:(tir)=false) (h3:(cK (0+t*10+6+1) l)=true) (h4:(cK (0+t*10+5+1) (ze t l))=true) (h5:(cK (0+t*10+2+1) (aH (ze t l) (0+t*10+5) [Value.bool true]))=true) (h6:(cK (0+t*10+9+1) (aH (aH (ze t l) (0+t*10+5) [Value.bool true]) (0+t*10+2) [Value.int IntKind.i64 ck]))=true) (h7:(cK (0+j*1+1) (List.map (fun i=>Value.int IntKind.i64 i) at_))=true) (r0:List.take 1 (List.drop (0+j*1) cl)=(tP b kk)∧(tP b kk).length=1) (r1:List.take 1 (List.drop (0+j*1) (List.map (fun i=>Value.int IntKind.i64 i) at_))=(tZ t)∧(tZ t).length=1) (r2:List.take 1 (List.drop (0+t*10+6) l)= [Value.bool tir]∧ [Value.bool tir].length=1) (hd3:ab Tryz.prog 101 [(29,.sem Y)] 101 [(29,.sem Y3)] (.call 18 [pK b kk]) (.val (JD th vv))) (hd7:ab Tryz.prog 102 [(0,.args B w0)] 102 [(0,.args B w0)] (.call 82 [.nilIface]) (.val (iI 0))) (hd46:ab Tryz.prog 102 [] 102 [] (.call 84 [.nilIface]) (.val (.bool false))) (hd62:ab Tryz.prog 102 [(0,.args B w0)] 102 [(0,.args B w0)] (.call 82 [.nilIface]) (.val (iI 0))):ab Tryz.prog 100 (Ow ck nc nt B n w0 at_ cl l Y) 102 [(0,.args B w0),(KM ck nc nt),(42,.cells (aH (at_.map fun i=>iI i) (0+j*1) [iI (-1)]) 3),(45,.cells cl 58),(71,.cells (aH (aH (aH (aH l (0+t*10+6) [.bool false]) (0+t*10+5) [.bool true]) (0+t*10+2) [iI ck]) (0+t*10+9) [iI 0]) 182),(72,.bag 188 n),(29,.sem Y3)] (.call 49 [pT 40,iI (j:Nat),.agg ⟨[iI 7,.bool rd,.string key,.string val,.string low,.string high,.bool unb,iI lim,.bool rev]⟩]) (.val (.tuple ⟨[]⟩)):=
 bh mixed (ar.aE [18,82,84]) (C:=oq) (d:=aT [1,28,38,40,48,63,64,65,79,80] (aF [42,43,45,47] [(nS b kk),(vn Y3 th vv),(uL B w0),(29,.cell (iM t)),(39,.cell (iM t)),(41,.cell (mn tir)),(46,.loop [] [] 102 [] .normal [.bool false]),(62,.loop [] [0] 102 [(0,.args B w0)] .normal [iI 0])])) (nn:=600) (by kernel_rfl) (vC h7 (vC h0 (vC h6 (vC h5 (vC h4 (vP hd62 (vC h3 (vB h2 (vP hd46 (aX h2 (vP r2 (vC h1 (vP r1 (vC h0 (vP r1 (vC h0 (vP hd7 (vP hd3 (vP r0 (vC h0 vN))))))))))))))))))))
include k0 k9 k17 k18 k19 in
theorem Oi:qX ck nc nt B n w0 at_ cl l Y Y3 102 l 72 n [pT 40,iI (j:Nat),.agg ⟨[iI 8,.bool rd,.string key,.string val,.string low,.string high,.bool unb,iI lim,.bool rev]⟩]:=
 bh mixed (ar.aE [18,82,84]) (C:=oq) (d:=aT [1,28] [(nS b kk),(vn Y3 th vv),(uL B w0),(29,.cell (.tuple ⟨[Value.int IntKind.i64 (-1:Int)]⟩))]) (nn:=600) (by kernel_rfl) (vP k17 (vC k0 (vP k19 (vP k18 (vP k9 (vC k0 vN))))))
include k0 k9 k17 k18 k19 in
theorem Ml:ab Tryz.prog 100 [(0,.args B w0),(40,.cells [pT 12,pT 24,sL 45 nc,sL 41 nc,sN,sL 42 nc,iI ck,.bool false] 51),(KU at_),(45,.cells cl 58),(29,.sem Y),(72,.bag 188 n)] 102 [(0,.args B w0),(40,.cells [pT 12,pT 24,sL 45 nc,sL 41 nc,sN,sL 42 nc,iI ck,.bool false] 51),(KU at_),(45,.cells cl 58),(72,.bag 188 n),(29,.sem Y3)] (.call 49 [pT 40,iI (j:Nat),.agg ⟨[iI 8,.bool rd,.string key,.string val,.string low,.string high,.bool unb,iI lim,.bool rev]⟩]) (.val (.tuple ⟨[]⟩)):=
 bh mixed (ar.aE [18,82,84]) (C:=oq) (d:=aT [1,28] [(nS b kk),(vn Y3 th vv),(uL B w0),(29,.cell (.tuple ⟨[Value.int IntKind.i64 (-1:Int)]⟩))]) (nn:=600) (by kernel_rfl) (vP k17 (vC k0 (vP k19 (vP k18 (vP k9 (vC k0 vN))))))
include k0 k1 k3 k5 k9 k10 k11 k21 k22 in
theorem Mj:qX ck nc nt B n w0 at_ cl l Y Y3 472 (ry t l) 72 n (EU lim j rd unb rev key val low high):=
 bh mixed (ar.aE [18,82,84]) (C:=oq) (d:=aT [1,30,40,42,44,45,46,47,48] [(nS b kk),(E5 nu Y3 th vv s1 s2),(EW nu B w0 s1 s2),(31,.cell (iM t)),(41,.cell (iM t)),(43,.cell (mn tir))]) (nn:=600) (by kernel_rfl) (vC k5 (ax k3 (vP k11 (vC k1 (vP k10 (vC k0 (vP k10 (vC k0 (vP k22 (vP k21 (vP k9 (vC k0 vN))))))))))))
include k0 k1 k4 k5 k9 k10 k11 k21 k22 k23 in
theorem MQ:qX ck nc nt B n w0 at_ cl l Y Y3 472 (ry t l) 72 n (EU lim j rd unb rev key val low high):=
 bh mixed (ar.aE [18,82,84]) (C:=oq) (d:=aT [1,30,40,42,50] (aF [44,45,47,49] [(nS b kk),(E5 nu Y3 th vv s1 s2),(EW nu B w0 s1 s2),(31,.cell (iM t)),(41,.cell (iM t)),(43,.cell (mn tir)),(48,.loop [] [106,107] 472 [(vq nu s1),(uW s2)] .normal [.bool true])])) (nn:=600) (by kernel_rfl) (vC k5 (vB k4 (vP k23 (aX k4 (vP k11 (vC k1 (vP k10 (vC k0 (vP k10 (vC k0 (vP k22 (vP k21 (vP k9 (vC k0 vN))))))))))))))
include k0 k1 k3 k5 k9 k10 k11 k21 k22 in
theorem M5:qX ck nc nt B n w0 at_ cl l Y Y3 472 (ry t l) 72 n (vW lim j rd unb rev key val low high):=
 bh mixed (ar.aE [18,82,84]) (C:=oq) (d:=aT [1,30,40,42,44,45,46,47,48] [(nS b kk),(E5 nu Y3 th vv s1 s2),(EW nu B w0 s1 s2),(31,.cell (iM t)),(41,.cell (iM t)),(43,.cell (mn tir))]) (nn:=600) (by kernel_rfl) (vC k5 (ax k3 (vP k11 (vC k1 (vP k10 (vC k0 (vP k10 (vC k0 (vP k22 (vP k21 (vP k9 (vC k0 vN))))))))))))
include k0 k1 k4 k5 k9 k10 k11 k21 k22 k23 in
theorem Ll:qX ck nc nt B n w0 at_ cl l Y Y3 472 (ry t l) 72 n (vW lim j rd unb rev key val low high):=
 bh mixed (ar.aE [18,82,84]) (C:=oq) (d:=aT [1,30,40,42,50] (aF [44,45,47,49] [(nS b kk),(E5 nu Y3 th vv s1 s2),(EW nu B w0 s1 s2),(31,.cell (iM t)),(41,.cell (iM t)),(43,.cell (mn tir)),(48,.loop [] [106,107] 472 [(vq nu s1),(uW s2)] .normal [.bool true])])) (nn:=600) (by kernel_rfl) (vC k5 (vB k4 (vP k23 (aX k4 (vP k11 (vC k1 (vP k10 (vC k0 (vP k10 (vC k0 (vP k22 (vP k21 (vP k9 (vC k0 vN))))))))))))))
end
end
section
open Go Go.Sx
inductive Fin (sv:Value):Cs→Int→Tf→Prop where
 |n {m:Cs} (h:fQ m=false):Fin sv m (-1) .nil
 |m {m:Cs} {nt:Nat} {l:List Value} (h:fQ m=false) (hs:dG l) (hl:l.length=nt*10):Fin sv m (-1) (.row nt l)
 |p {m:Cs} {nt t:Nat} {l:List Value} (h:fQ m=true) (ht:fk sv l nt t m.goal):Fin sv m (Int.ofNat t) (.row nt l)
 |k {m:Cs} {nt t:Nat} {l:List Value} (h:fQ m=true) (ht:fk (.slice none 0 0) l nt t m.goal) (hs:dG l):Fin sv m (Int.ofNat t) (.row nt l)
 |e {m:Cs} {nt t:Nat} {l:List Value} (h:fQ m=false) (hl:l.length=nt*10) (hlt:10*t+7 < l.length) (hb:jy l (10*t+7)) (hp:l[10*t+7]? =some sv):Fin sv m (-1) (.row nt l)
theorem MA {m:Cs} (h:m.bt=true):((m.act=1∨m.act=8)∧m.inside=false)∨((m.act=2∨m.act=5∨m.act=7)∧m.inside=true):=by
 cases m with
 |out y m=>cases m <;> first|(cases h;done)|exact .inl ⟨.inl rfl,rfl⟩|exact .inl ⟨.inr rfl,rfl⟩
 |inn y nb ws m=>cases m <;> first|(cases h;done)|exact .inr ⟨.inl rfl,rfl⟩|exact .inr ⟨.inr (.inl rfl),rfl⟩|exact .inr ⟨.inr (.inr rfl),rfl⟩
def nH (C:cF) (at_:List Int) (tf:Tf) (ck:Int) (n:Nat) (Y:aG):Heap:= [(0,.args C.B C.w0),(40,mf C.nc (tf.val 71) ck),(42,.cells (ints at_) 3),(45,.cells (cP C.cl) 58),(29,.sem Y)]++(tf.ch 71++ [(72,.bag 188 n)])
def nO (C:cF) (at_:List Int) (tf:Tf) (ck:Int) (bn n:Nat) (Y:aG):Heap:= [(0,.args C.B C.w0),(40,mf C.nc (tf.val 71) ck),(42,.cells (ints at_) 3),(45,.cells (cP C.cl) 58)]++(tf.ch 71++ [(bn,.bag 188 n),(29,.sem Y)])
section
variable {C:cF}{at_:List Int}{ck:Int}{n:Nat}{Y:aG}
theorem sG {nt:Nat}{l l2:List Value} (hl:l.map (ao (dL 72 480) 9)=l2):ia 72 480 (nO C at_ (.row nt l) ck 72 n Y) (nO C at_ (.row nt l2) ck 480 n Y):=iE fun p hp=>by
 have hp':p∈([(0,.args C.B C.w0),(40,mf C.nc (.slice (some ⟨71,0,none⟩) nt 0) ck),(42,.cells (ints at_) 3),(45,.cells (cP C.cl) 58),(71,.cells l2 182),(480,.bag 188 n),(29,.sem Y)]:Heap):=hp
 simp only [List.mem_cons,List.not_mem_nil,or_false] at hp'
 rcases hp' with rfl|rfl|rfl|rfl|rfl|rfl|rfl
 · exact⟨0,_,rfl,rfl,.args⟩
 · exact⟨40,_,rfl,rfl,.cells (aj.refl _)⟩
 · exact⟨42,_,rfl,rfl,bq (bQ _) _⟩
 · exact⟨45,_,rfl,rfl,bq (bG _) _⟩
 · exact⟨71,_,rfl,rfl,.cells (fE hl)⟩
 · exact⟨72,_,rfl,rfl,.bag (Nat.le_refl _)⟩
 · exact⟨29,_,rfl,rfl,.sem⟩
theorem Kf {nt:Nat}{l l2:List Value} (hl:l.map (ao (dL 103 480) 9)=l2):ia 103 480 (nO C at_ (.row nt l) ck 103 n Y) (nO C at_ (.row nt l2) ck 480 n Y):=iE fun p hp=>by
 have hp':p∈([(0,.args C.B C.w0),(40,mf C.nc (.slice (some ⟨71,0,none⟩) nt 0) ck),(42,.cells (ints at_) 3),(45,.cells (cP C.cl) 58),(71,.cells l2 182),(480,.bag 188 n),(29,.sem Y)]:Heap):=hp
 simp only [List.mem_cons,List.not_mem_nil,or_false] at hp'
 rcases hp' with rfl|rfl|rfl|rfl|rfl|rfl|rfl
 · exact⟨0,_,rfl,rfl,.args⟩
 · exact⟨40,_,rfl,rfl,.cells (aj.refl _)⟩
 · exact⟨42,_,rfl,rfl,bq (bQ _) _⟩
 · exact⟨45,_,rfl,rfl,bq (bG _) _⟩
 · exact⟨71,_,rfl,rfl,.cells (fE hl)⟩
 · exact⟨103,_,rfl,rfl,.bag (Nat.le_refl _)⟩
 · exact⟨29,_,rfl,rfl,.sem⟩
theorem Jy {nt:Nat}{l l2:List Value} (hl:l.map (ao (dL 473 480) 9)=l2):ia 473 480 (nO C at_ (.row nt l) ck 473 n Y) (nO C at_ (.row nt l2) ck 480 n Y):=iE fun p hp=>by
 have hp':p∈([(0,.args C.B C.w0),(40,mf C.nc (.slice (some ⟨71,0,none⟩) nt 0) ck),(42,.cells (ints at_) 3),(45,.cells (cP C.cl) 58),(71,.cells l2 182),(480,.bag 188 n),(29,.sem Y)]:Heap):=hp
 simp only [List.mem_cons,List.not_mem_nil,or_false] at hp'
 rcases hp' with rfl|rfl|rfl|rfl|rfl|rfl|rfl
 · exact⟨0,_,rfl,rfl,.args⟩
 · exact⟨40,_,rfl,rfl,.cells (aj.refl _)⟩
 · exact⟨42,_,rfl,rfl,bq (bQ _) _⟩
 · exact⟨45,_,rfl,rfl,bq (bG _) _⟩
 · exact⟨71,_,rfl,rfl,.cells (fE hl)⟩
 · exact⟨473,_,rfl,rfl,.bag (Nat.le_refl _)⟩
 · exact⟨29,_,rfl,rfl,.sem⟩
theorem NZ:ia 72 480 (nO C at_ .nil ck 72 n Y) (nO C at_ .nil ck 480 n Y):=iE fun p hp=>by
 have hp':p∈([(0,.args C.B C.w0),(40,mf C.nc (.slice none 0 0) ck),(42,.cells (ints at_) 3),(45,.cells (cP C.cl) 58),(480,.bag 188 n),(29,.sem Y)]:Heap):=hp
 simp only [List.mem_cons,List.not_mem_nil,or_false] at hp'
 rcases hp' with rfl|rfl|rfl|rfl|rfl|rfl
 · exact⟨0,_,rfl,rfl,.args⟩
 · exact⟨40,_,rfl,rfl,.cells (aj.refl _)⟩
 · exact⟨42,_,rfl,rfl,bq (bQ _) _⟩
 · exact⟨45,_,rfl,rfl,bq (bG _) _⟩
 · exact⟨72,_,rfl,rfl,.bag (Nat.le_refl _)⟩
 · exact⟨29,_,rfl,rfl,.sem⟩
end
theorem qK {l:List Value}{p x y:Nat} (hb:jy l p) (hp:l[p]? =some (.chan (some x))) {nm:Nat→Option Nat} (hn:nm x=some y):l.map (ao nm 9)=l.set p (.chan (some y)):=by
 have hlt:=(List.getElem?_eq_some_iff.1 hp).1
 apply List.ext_getElem?
 intro i
 rw [List.getElem?_map,List.getElem?_set]
 by_cases q:p=i
 · subst q;rw [if_pos rfl,if_pos hlt,hp];simp [ao,hn]
 · rw [if_neg q]
   cases e:l[i]? with
   |none=>rfl
   |some v=>simp [(hb i v (fun e=>q e.symm) e).2]
theorem ru {l:List Value}{p:Nat} (hb:jy l p) {x:Value}:jy (l.set p x) p:=fun i v hi e=>by
 rw [List.getElem?_set,if_neg (fun q=>hi q.symm)] at e
 exact hb i v hi e
theorem fk.put {sv:Value}{l:List Value}{nt t:Nat}{g:Bool} (h:fk sv l nt t g) {k:Nat} (hk:k≠4∧k≠7∧k < 10) {x:Value} (hx:eB x) (h6:k=6→∃b,x= .bool b):fk sv (l.set (10*t+k) x) nt t g:=by
 have hlt:=(List.getElem?_eq_some_iff.1 h.seen).1
 have hl:=h.len
 have ht:=h.lt
 refine⟨by rw [List.length_set];exact h.len,h.lt,by rw [List.getElem?_set,if_neg (by omega)];exact h.rds,?_,by rw [List.getElem?_set,if_neg (by omega)];exact h.seen,iA h.rest hx⟩
 by_cases q:k=6
 · subst q
   obtain⟨b,rfl⟩:=h6 rfl
   exact⟨b,by rw [List.getElem?_set,if_pos rfl,if_pos (by omega)]⟩
 · obtain⟨b,hb⟩:=h.tir
   exact⟨b,by rw [List.getElem?_set,if_neg (by omega)];exact hb⟩
theorem fk.name {l:List Value}{nt t x y:Nat}{g:Bool} (h:fk (.chan (some x)) l nt t g):fk (.chan (some y)) (l.set (10*t+7) (.chan (some y))) nt t g:=by
 have hlt:=(List.getElem?_eq_some_iff.1 h.seen).1
 obtain⟨b,hb⟩:=h.tir
 exact⟨by rw [List.length_set];exact h.len,h.lt,by rw [List.getElem?_set,if_neg (by omega)];exact h.rds,⟨b,by rw [List.getElem?_set,if_neg (by omega)];exact hb⟩,by rw [List.getElem?_set,if_pos rfl,if_pos hlt],ru h.rest⟩
end
end Go.Proofs.YtalanookmohdeaaGreatDoor

/- TxnNothing: the walk. No condition. -/
import Derived.Test.YtalanookmohdeaaGreatDoorM18
import Derived.Test.YtalanookmohdeaaGreatDoorM16
import Derived.Test.YtalanookmohdeaaGreatDoorM6
import Derived.Test.YtalanookmohdeaaGreatDoorM5
namespace Go.Proofs.YtalanookmohdeaaGreatDoor
open Go Go.Sx
theorem C5 (s1 s2:ByteArray) (nu:Int):ab Tryz.prog 472 [(106,.cells [.string s1,.int .i64 nu,.iface 201 (.pointer (some ⟨107,0,none⟩))] 203),(107,.cells [.string s2,.int .i64 0,.iface 72 (.int .i64 5)] 203)] 472 [(106,.cells [.string s1,.int .i64 nu,.iface 201 (.pointer (some ⟨107,0,none⟩))] 203),(107,.cells [.string s2,.int .i64 0,.iface 72 (.int .i64 5)] 203)] (.call 84 [.iface 201 (.pointer (some ⟨106,0,none⟩))]) (.val (.bool true)):=SM
theorem sH {C:cF} (h:C.Ok) (s1 s2:ByteArray) (nu:Int):ab Tryz.prog 472 [(0,.args C.B C.w0),(106,.cells [.string s1,.int .i64 nu,.iface 201 (.pointer (some ⟨107,0,none⟩))] 203),(107,.cells [.string s2,.int .i64 0,.iface 72 (.int .i64 5)] 203)] 472 [(0,.args C.B C.w0),(106,.cells [.string s1,.int .i64 nu,.iface 201 (.pointer (some ⟨107,0,none⟩))] 203),(107,.cells [.string s2,.int .i64 0,.iface 72 (.int .i64 5)] 203)] (.call 82 [.iface 201 (.pointer (some ⟨106,0,none⟩))]) (.val (.int .i64 5)):=E3 rfl h.B h.g rfl rfl
section
variable {C:cF}{j b kk:Nat}{at_:List Int}{a1:Int}{L:List aG}{m m2:Cs}{ck:Int}{n:Nat}{a:Ac}{nt t:Nat}{l:List Value}{g:Bool}{sv:Value}
structure Nd (C:cF) (j b kk:Nat) (at_:List Int) (a1:Int) (L:List aG) (m2:Cs):Prop where
 ok:C.Ok
 jn:j < C.nc
 cl:C.cl[j]? =some (b,kk)
 at_:at_[j]? =some a1
 L:L[j]? =some (m2.res j b)
theorem Nd.hc (h:Nd C j b kk at_ a1 L m2):List.take 1 (List.drop (0+j*1) (cP C.cl))= [.pointer (some ⟨b,0,some kk⟩)]∧1=1:=oJ (by simp [cP,h.cl])
theorem Nd.ra (h:Nd C j b kk at_ a1 L m2):List.take 1 (List.drop (0+j*1) (ints at_))= [Value.int IntKind.i64 a1]∧1=1:=oJ (ints_at h.at_)
theorem Nd.ha (h:Nd C j b kk at_ a1 L m2):cK (0+j*1+1) (ints at_)=true:=Jw (by simp [ints];exact(List.getElem?_eq_some_iff.1 h.at_).1)
abbrev kJ (C:cF) (j b kk:Nat) (at_:List Int) (tf:Tf) (ck:Int) (n:Nat) (L:List aG) (m2:Cs) (a:Ac) (at':List Int) (tf':Tf) (n':Nat):Prop:=
 ab Tryz.prog 100 (nH C at_ tf ck n (ad L)) 490 (nO C at' tf' ck 480 n' (ad (L.set j (m2.told.res j b)))) (.call 49 [.pointer (some ⟨40,0,none⟩),.int .i64 (j:Nat),px a]) (.val (.tuple ⟨[]⟩))
theorem si {x:Nat} (hb:jy l (10*t+7)) (hp:l[10*t+7]? =some (.chan (some x))):l.map (ao (dL x 480) 9)=l.set (10*t+7) (.chan (some 480)):=qK hb hp (by simp [dL])
theorem K5 (h:Nd C j b kk at_ (Int.ofNat t) L m2) (hd:m2.isDone=true) (hf:m2.gD=false) (hr:∀y nb ws os,m2≠ .inn y nb ws (.rows os)) (ht:fk sv l nt t g) (hk:a.kd=1):∃l3,(l.set (10*t+3) (.int .i64 0)).map (ao (dL 72 480) 9)=l3∧kJ C j b kk at_ (.row nt l) ck n L m2 a at_ (.row nt l3) n:=by
 obtain⟨vv,th,hres⟩:=lu (kk:=kk) (c:=101) h.L hd hf (fun y nb ws os e=>absurd e (hr _ _ _ _)) (by decide)
 obtain⟨kd,rd,key,val,lo,hi,un,li,rv⟩:=a
 have hk':kd=1:=hk
 subst hk'
 have hlt:=(List.getElem?_eq_some_iff.1 ht.seen).1
 have q:=Qm (n:=n) (ck:=ck) (rd:=rd) (key:=key) (low:=lo) (high:=hi) (val:=val) (unb:=un) (lim:=li) (rev:=rv) (nt:=nt) (l:=l) (cB h.jn) (cI ht.lt) (eJ (by omega)) h.hc h.ra hres (dP C _)
 rw [bB,fB] at q
 exact⟨_,rfl,iC (H:=nO C at_ (.row nt (l.set (10*t+3) (.int .i64 0))) ck 72 n _) q (by decide) (by decide) (sG rfl)⟩
theorem PL (h:Nd C j b kk at_ (-1) L m2) (hd:m2.isDone=true) (hf:m2.gD=false) (hr:∀y nb ws os,m2≠ .inn y nb ws (.rows os)) (hk:a.kd=8):kJ C j b kk at_ .nil ck n L m2 a at_ .nil n:=by
 obtain⟨vv,th,hres⟩:=lu (kk:=kk) (c:=101) h.L hd hf (fun y nb ws os e=>absurd e (hr _ _ _ _)) (by decide)
 obtain⟨kd,rd,key,val,lo,hi,un,li,rv⟩:=a
 have hk':kd=8:=hk
 subst hk'
 have q:=Ml (n:=n) (ck:=ck) (rd:=rd) (key:=key) (low:=lo) (high:=hi) (val:=val) (unb:=un) (lim:=li) (rev:=rv) (cB h.jn) h.hc h.ra hres (dP C _)
 exact iC (H:=nO C at_ .nil ck 72 n _) q (by decide) (by decide) NZ
theorem P9 (h:Nd C j b kk at_ (-1) L m2) (hd:m2.isDone=true) (hf:m2.gD=false) (hr:∀y nb ws os,m2≠ .inn y nb ws (.rows os)) (hs:dG l) (hk:a.kd=8):kJ C j b kk at_ (.row nt l) ck n L m2 a at_ (.row nt l) n:=by
 obtain⟨vv,th,hres⟩:=lu (kk:=kk) (c:=101) h.L hd hf (fun y nb ws os e=>absurd e (hr _ _ _ _)) (by decide)
 obtain⟨kd,rd,key,val,lo,hi,un,li,rv⟩:=a
 have hk':kd=8:=hk
 subst hk'
 have q:=Oi (n:=n) (ck:=ck) (rd:=rd) (key:=key) (low:=lo) (high:=hi) (val:=val) (unb:=un) (lim:=li) (rev:=rv) (nt:=nt) (l:=l) (cB h.jn) h.hc h.ra hres (dP C _)
 exact iC (H:=nO C at_ (.row nt l) ck 72 n _) q (by decide) (by decide) (sG (gd hs _))
theorem lB {sv x:Value}{k:Nat} (h:l[10*t+7]? =some sv) (hk:k≠7):(l.set (10*t+k) x)[10*t+7]? =some sv:=by rw [List.getElem?_set,if_neg (by omega)];exact h
theorem Sp (h:Nd C j b kk at_ (Int.ofNat t) L m2) (hd:m2.isDone=true) (hf:m2.gD=false) (hr:∀y nb ws os,m2≠ .inn y nb ws (.rows os)) (ht:fk (.chan (some 72)) l nt t g) (hk:a.kd=7):∃l3,l3.length=l.length∧jy l3 (10*t+7)∧l3[10*t+7]? =some (.chan (some 480))∧Kp (.row nt l) (Int.ofNat t) (.row nt l3) (-1)∧kJ C j b kk at_ (.row nt l) ck n L m2 a (at_.set j (-1)) (.row nt l3) n:=by
 obtain⟨vv,th,hres⟩:=lu (kk:=kk) (c:=101) h.L hd hf (fun y nb ws os e=>absurd e (hr _ _ _ _)) (by decide)
 obtain⟨q,hq⟩:=ht.tir
 obtain⟨kd,rd,key,val,lo,hi,un,li,rv⟩:=a
 have hk':kd=7:=hk
 subst hk'
 have hlt:=(List.getElem?_eq_some_iff.1 ht.seen).1
 have hl:=ht.len
 have htl:=ht.lt
 have hb:jy ((((l.set (10*t+6) (.bool q)).set (10*t+5) (.bool true)).set (10*t+2) (.int .i64 ck)).set (10*t+9) (.int .i64 0)) (10*t+7):=iA (iA (iA (iA ht.rest (cX _)) (cX _)) (cE _ _)) (cE _ _)
 have hp:((((l.set (10*t+6) (.bool q)).set (10*t+5) (.bool true)).set (10*t+2) (.int .i64 ck)).set (10*t+9) (.int .i64 0))[10*t+7]? =some (.chan (some 72)):=lB (lB (lB (lB ht.seen (by decide)) (by decide)) (by decide)) (by decide)
 refine⟨((((l.set (10*t+6) (.bool q)).set (10*t+5) (.bool true)).set (10*t+2) (.int .i64 ck)).set (10*t+9) (.int .i64 0)).set (10*t+7) (.chan (some 480)),by simp,ru hb,by rw [List.getElem?_set,if_pos rfl,if_pos (by simp;exact hlt)],((((Kp.put (by decide) (.inl rfl)).trans (Kp.put (by decide) (.inl rfl))).trans (Kp.put (by decide) (.inl rfl))).trans (Kp.put (by decide) (.inl rfl))).trans (Kp.put (by decide) (.inr rfl)),?_⟩
 have fin:∀c1,c1≤480→ab Tryz.prog 100 (nH C at_ (.row nt l) ck n (ad L)) c1 (nO C (at_.set j (-1)) (.row nt ((((l.set (10*t+6) (.bool q)).set (10*t+5) (.bool true)).set (10*t+2) (.int .i64 ck)).set (10*t+9) (.int .i64 0))) ck 72 n (ad (L.set j (m2.told.res j b)))) (.call 49 [.pointer (some ⟨40,0,none⟩),.int .i64 (j:Nat),px ⟨7,rd,key,val,lo,hi,un,li,rv⟩]) (.val (.tuple ⟨[]⟩))→kJ C j b kk at_ (.row nt l) ck n L m2 ⟨7,rd,key,val,lo,hi,un,li,rv⟩ (at_.set j (-1)) (.row nt (((((l.set (10*t+6) (.bool q)).set (10*t+5) (.bool true)).set (10*t+2) (.int .i64 ck)).set (10*t+9) (.int .i64 0)).set (10*t+7) (.chan (some 480)))) n:=
  fun c1 hc1 hdd=>iC hdd hc1 (by decide) (sG (si hb hp))
 cases q with
 |true=>
  have g:=O7 (n:=n) (ck:=ck) (rd:=rd) (key:=key) (low:=lo) (high:=hi) (val:=val) (unb:=un) (lim:=li) (rev:=rv) (nt:=nt) (l:=l) (cB h.jn) (cI ht.lt) rfl (eJ (by omega)) (eJ (by simp [bB];omega)) (eJ (by simp [bB];omega)) (eJ (by simp [bB];omega)) h.ha h.hc h.ra (ei hq) hres (dP C _) (dP C _)
  simp only [bB,fB] at g
  rw [show(ints at_).set (0+j*1) (.int .i64 (-1))=ints (at_.set j (-1)) from ints_set] at g
  exact fin 102 (by decide) g
 |false=>
  have g:=O9 (n:=n) (ck:=ck) (rd:=rd) (key:=key) (low:=lo) (high:=hi) (val:=val) (unb:=un) (lim:=li) (rev:=rv) (nt:=nt) (l:=l) (cB h.jn) (cI ht.lt) rfl (eJ (by omega)) (eJ (by simp [bB];omega)) (eJ (by simp [bB];omega)) (eJ (by simp [bB];omega)) h.ha h.hc h.ra (ei hq) hres (dP C _) (rn _) (dP C _)
  simp only [bB,fB] at g
  rw [show(ints at_).set (0+j*1) (.int .i64 (-1))=ints (at_.set j (-1)) from ints_set] at g
  exact fin 102 (by decide) g
theorem G9 {y:Bool}{nb:Nat}{ws:List Wt} (h:Nd C j b kk at_ (Int.ofNat t) L (.inn y nb ws .fault)) (ht:fk (.chan (some 72)) l nt t g) (hk:a.kd=2∨a.kd=5):kJ C j b kk at_ (.row nt l) ck n L (.inn y nb ws .fault) a at_ (.row nt ((l.set (10*t+6) (.bool true)).set (10*t+7) (.chan (some 480)))) n:=by
 have hres:=MV (kk:=kk) (c:=101) h.L (by decide)
 obtain⟨q,hq⟩:=ht.tir
 obtain⟨kd,rd,key,val,lo,hi,un,li,rv⟩:=a
 have hlt:=(List.getElem?_eq_some_iff.1 ht.seen).1
 have fin:∀c1,c1≤480→ab Tryz.prog 100 (nH C at_ (.row nt l) ck n (ad L)) c1 (nO C at_ (.row nt (l.set (10*t+6) (.bool true))) ck 72 n (ad (L.set j ((Cs.inn y nb ws .idle).res j b)))) (.call 49 [.pointer (some ⟨40,0,none⟩),.int .i64 (j:Nat),px ⟨kd,rd,key,val,lo,hi,un,li,rv⟩]) (.val (.tuple ⟨[]⟩))→kJ C j b kk at_ (.row nt l) ck n L (.inn y nb ws .fault) ⟨kd,rd,key,val,lo,hi,un,li,rv⟩ at_ (.row nt ((l.set (10*t+6) (.bool true)).set (10*t+7) (.chan (some 480)))) n:=
  fun c1 hc1 hdd=>iC hdd hc1 (by decide) (sG (si (iA ht.rest (cX _)) (lB ht.seen (by decide))))
 have hk':kd=2∨kd=5:=hk
 rcases hk' with rfl|rfl
 · cases q with
   |true=>
    have g:=Mj (n:=n) (ck:=ck) (rd:=rd) (key:=key) (low:=lo) (high:=hi) (val:=val) (unb:=un) (lim:=li) (rev:=rv) (nt:=nt) (l:=l) (cB h.jn) (cI ht.lt) rfl (eJ (by omega)) h.hc h.ra (ei hq) hres (sH h.ok _ _ _)
    simp only [bB,fB] at g
    exact fin 472 (by decide) g
   |false=>
    have g:=MQ (n:=n) (ck:=ck) (rd:=rd) (key:=key) (low:=lo) (high:=hi) (val:=val) (unb:=un) (lim:=li) (rev:=rv) (nt:=nt) (l:=l) (cB h.jn) (cI ht.lt) rfl (eJ (by omega)) h.hc h.ra (ei hq) hres (sH h.ok _ _ _) (C5 _ _ _)
    simp only [bB,fB] at g
    exact fin 472 (by decide) g
 · cases q with
   |true=>
    have g:=M5 (n:=n) (ck:=ck) (rd:=rd) (key:=key) (low:=lo) (high:=hi) (val:=val) (unb:=un) (lim:=li) (rev:=rv) (nt:=nt) (l:=l) (cB h.jn) (cI ht.lt) rfl (eJ (by omega)) h.hc h.ra (ei hq) hres (sH h.ok _ _ _)
    simp only [bB,fB] at g
    exact fin 472 (by decide) g
   |false=>
    have g:=Ll (n:=n) (ck:=ck) (rd:=rd) (key:=key) (low:=lo) (high:=hi) (val:=val) (unb:=un) (lim:=li) (rev:=rv) (nt:=nt) (l:=l) (cB h.jn) (cI ht.lt) rfl (eJ (by omega)) h.hc h.ra (ei hq) hres (sH h.ok _ _ _) (C5 _ _ _)
    simp only [bB,fB] at g
    exact fin 472 (by decide) g
theorem G1 (h:Nd C j b kk at_ (Int.ofNat t) L m2) (hn:n≤9000) (hd:m2.isDone=true) (hf:m2.gD=false) {now:Int}{u:Nat} (hw:m2.wf now u) (hr:a.kd≠5→∀y nb ws os,m2≠ .inn y nb ws (.rows os)) (ht:fk (.chan (some 72)) l nt t g) (hk:a.kd=2∨a.kd=5):∃q,kJ C j b kk at_ (.row nt l) ck n L m2 a at_ (.row nt ((l.set (10*t+6) (.bool q)).set (10*t+7) (.chan (some 480)))) (n+1):=by
 obtain⟨q,hq⟩:=ht.tir
 refine⟨q,?_⟩
 obtain⟨kd,rd,key,val,lo,hi,un,li,rv⟩:=a
 have hlt:=(List.getElem?_eq_some_iff.1 ht.seen).1
 have hsn:∀x,(l.set (10*t+6) x)[10*t+7]? =some (.chan (some 72)):=fun x=>lB ht.seen (by decide)
 have hB:∀x,jy ((l.set (10*t+6) (.bool q)).set (10*t+7) x) (10*t+7):=fun x=>ru (iA ht.rest (cX _))
 have hP:∀x,((l.set (10*t+6) (.bool q)).set (10*t+7) (.chan (some x)))[10*t+7]? =some (.chan (some x)):=fun x=>by rw [List.getElem?_set,if_pos rfl,if_pos (by simp;exact hlt)]
 have fin1:∀c1,c1≤480→ab Tryz.prog 100 (nH C at_ (.row nt l) ck n (ad L)) c1 (nO C at_ (.row nt ((l.set (10*t+6) (.bool q)).set (10*t+7) (.chan (some 103)))) ck 103 (n+1) (ad (L.set j (m2.told.res j b)))) (.call 49 [.pointer (some ⟨40,0,none⟩),.int .i64 (j:Nat),px ⟨kd,rd,key,val,lo,hi,un,li,rv⟩]) (.val (.tuple ⟨[]⟩))→kJ C j b kk at_ (.row nt l) ck n L m2 ⟨kd,rd,key,val,lo,hi,un,li,rv⟩ at_ (.row nt ((l.set (10*t+6) (.bool q)).set (10*t+7) (.chan (some 480)))) (n+1):=
  fun c1 hc1 hdd=>iC hdd hc1 (by decide) (Kf ((si (hB _) (hP 103)).trans (List.set_set ..)))
 have fin2:∀c1,c1≤480→ab Tryz.prog 100 (nH C at_ (.row nt l) ck n (ad L)) c1 (nO C at_ (.row nt ((l.set (10*t+6) (.bool q)).set (10*t+7) (.chan (some 473)))) ck 473 (n+1) (ad (L.set j (m2.told.res j b)))) (.call 49 [.pointer (some ⟨40,0,none⟩),.int .i64 (j:Nat),px ⟨kd,rd,key,val,lo,hi,un,li,rv⟩]) (.val (.tuple ⟨[]⟩))→kJ C j b kk at_ (.row nt l) ck n L m2 ⟨kd,rd,key,val,lo,hi,un,li,rv⟩ at_ (.row nt ((l.set (10*t+6) (.bool q)).set (10*t+7) (.chan (some 480)))) (n+1):=
  fun c1 hc1 hdd=>iC hdd hc1 (by decide) (Jy ((si (hB _) (hP 473)).trans (List.set_set ..)))
 by_cases hrow:∃y nb ws os rl,m2= .inn y nb ws (.rows os)∧os.length=rl+1
 · obtain⟨y,nb,ws,os,rl,rfl,hl⟩:=hrow
   have hk5:kd=5:=by
    refine Classical.byContradiction fun e=> ?_
    exact absurd rfl (hr e y nb ws os)
   subst hk5
   have hs:os.length < 1100:=hw.2.2.2
   have hres:=II (kk:=kk) (c:=101) h.L hl hs (by decide)
   cases q with
   |true=>
    have g:=MU (n:=n) (ck:=ck) (rd:=rd) (key:=key) (low:=lo) (high:=hi) (val:=val) (unb:=un) (lim:=li) (rev:=rv) (nt:=nt) (l:=l) (cB h.jn) (cI ht.lt) rfl (eJ (by omega)) (jB (by omega)) (eJ (by simp [bB];omega)) h.hc h.ra (ei hq) (by first|(rw [yl,bB,fB t 6];exact ei (hsn _))|(rw [ze,bB,fB t 6];exact ei (hsn _))) hres (dP C _)
    simp only [bB,fB] at g
    exact fin2 474 (by decide) g
   |false=>
    have g:=MX (n:=n) (ck:=ck) (rd:=rd) (key:=key) (low:=lo) (high:=hi) (val:=val) (unb:=un) (lim:=li) (rev:=rv) (nt:=nt) (l:=l) (cB h.jn) (cI ht.lt) rfl (eJ (by omega)) (jB (by omega)) (eJ (by simp [bB];omega)) h.hc h.ra (ei hq) (by first|(rw [yl,bB,fB t 6];exact ei (hsn _))|(rw [ze,bB,fB t 6];exact ei (hsn _))) hres (dP C _) (rn _)
    simp only [bB,fB] at g
    exact fin2 474 (by decide) g
 · obtain⟨vv,th,hres⟩:=lu (kk:=kk) (c:=101) h.L hd hf (fun y nb ws os e=>by
    cases hl:os.length with
    |zero=>rfl
    |succ rl=>exact absurd ⟨y,nb,ws,os,rl,e,hl⟩ hrow) (by decide)
   have hk':kd=2∨kd=5:=hk
   rcases hk' with rfl|rfl
   · cases q with
     |true=>
      have g:=OL (n:=n) (ck:=ck) (rd:=rd) (key:=key) (low:=lo) (high:=hi) (val:=val) (unb:=un) (lim:=li) (rev:=rv) (nt:=nt) (l:=l) (cB h.jn) (cI ht.lt) rfl (eJ (by omega)) (jB (by omega)) (eJ (by simp [bB];omega)) h.hc h.ra (ei hq) (by first|(rw [yl,bB,fB t 6];exact ei (hsn _))|(rw [ze,bB,fB t 6];exact ei (hsn _))) hres (dP C _)
      simp only [bB,fB] at g
      exact fin1 104 (by decide) g
     |false=>
      have g:=NM (n:=n) (ck:=ck) (rd:=rd) (key:=key) (low:=lo) (high:=hi) (val:=val) (unb:=un) (lim:=li) (rev:=rv) (nt:=nt) (l:=l) (cB h.jn) (cI ht.lt) rfl (eJ (by omega)) (jB (by omega)) (eJ (by simp [bB];omega)) h.hc h.ra (ei hq) (by first|(rw [yl,bB,fB t 6];exact ei (hsn _))|(rw [ze,bB,fB t 6];exact ei (hsn _))) hres (dP C _) (rn _)
      simp only [bB,fB] at g
      exact fin1 104 (by decide) g
   · cases q with
     |true=>
      have g:=O0 (n:=n) (ck:=ck) (rd:=rd) (key:=key) (low:=lo) (high:=hi) (val:=val) (unb:=un) (lim:=li) (rev:=rv) (nt:=nt) (l:=l) (cB h.jn) (cI ht.lt) rfl (eJ (by omega)) (jB (by omega)) (eJ (by simp [bB];omega)) h.hc h.ra (ei hq) (by first|(rw [yl,bB,fB t 6];exact ei (hsn _))|(rw [ze,bB,fB t 6];exact ei (hsn _))) hres (dP C _)
      simp only [bB,fB] at g
      exact fin1 104 (by decide) g
     |false=>
      have g:=Qo (n:=n) (ck:=ck) (rd:=rd) (key:=key) (low:=lo) (high:=hi) (val:=val) (unb:=un) (lim:=li) (rev:=rv) (nt:=nt) (l:=l) (cB h.jn) (cI ht.lt) rfl (eJ (by omega)) (jB (by omega)) (eJ (by simp [bB];omega)) h.hc h.ra (ei hq) (by first|(rw [yl,bB,fB t 6];exact ei (hsn _))|(rw [ze,bB,fB t 6];exact ei (hsn _))) hres (dP C _) (rn _)
      simp only [bB,fB] at g
      exact fin1 104 (by decide) g
end
section
open Go Go.Sx
theorem tU {p:Value→Bool}{z:List Value} (h:cL p z=true):∀s,cL p (eN z s)=true
 |0=>rfl
 |s+1=>pQ h (tU h s)
theorem Cz {p:Value→Bool} (h:∀n,p (.int .i64 n)=true):∀l:List (Int×Int),cL p ((mp l).map (·.1))=true
 | []=>rfl
 |_::l=>by show(p _ && cL p ((mp l).map (·.1)))=true;rw [h,Cz h l];rfl
theorem Dq {p:Value→Bool} (h:∀n,p (.int .i64 n)=true):∀l:List (Int×Int),cL p ((mp l).map (·.2))=true
 | []=>rfl
 |_::l=>by show(p _ && cL p ((mp l).map (·.2)))=true;rw [h,Dq h l];rfl
theorem Cp (l:List (Int×Int)):Chunk.cD 30 400 (.map (mp l))=true:=by
 show(cL _ _ && cL _ _)=true
 rw [Cz (fun _=>rfl),Dq (fun _=>rfl)];rfl
theorem Fm (s:Nat):Chunk.cD 30 400 (.cells (l6 s) 145)=true:=by
 show cL (cD 9 30 400) ((.int .i64 1:: .bool true::kI 1 true (.slice (some ⟨17,0,none⟩) 0 0) (.slice (some ⟨18,0,none⟩) 0 0))++eN gr s)=true
 exact pQ rfl (tU rfl s)
theorem D2 (s:Nat):Chunk.cD 30 400 (.cells (da s) 197)=true:=by
 show cL (cD 9 30 400) ([.bool true,.int .i64 1,.int .i64 1]++eN i5 s)=true
 exact pQ rfl (tU rfl s)
section
variable {s q:Nat}{c d e g:Int}{σ σ':eQ}
theorem yQ {Y:aG}:∀n z,Heap.get (oc s q c d e g σ++ [(29,Chunk.sem Y)]) n=some z→z.cD 30 400=true:=fun n z hz=>by
 have hm:=get_mem hz
 simp only [oc,aD,List.cons_append,List.nil_append,List.mem_cons,List.not_mem_nil,or_false,Prod.mk.injEq] at hm
 rcases hm with⟨_,rfl⟩|⟨_,rfl⟩|⟨_,rfl⟩|⟨_,rfl⟩|⟨_,rfl⟩|⟨_,rfl⟩|⟨_,rfl⟩|⟨_,rfl⟩|⟨_,rfl⟩|⟨_,rfl⟩|⟨_,rfl⟩|⟨_,rfl⟩|⟨_,rfl⟩
 · exact Fm _
 · rfl
 · exact D2 _
 · rfl
 · exact Cp _
 · rfl
 · rfl
 · rfl
 · rfl
 · rfl
 · exact Cp _
 · rfl
 · rfl
theorem KK {L L':List aG}{b kk:Nat}{over:Bool}{x:Nat} (hx:30≤x) (h:ab Tryz.prog 30 (oc s q c d e g σ++ [(29,Chunk.sem (ad L))]) 400 (oc s q c d e g σ'++ [(29,Chunk.sem (ad L'))]) (.call 15 [.pointer (some ⟨b,0,some kk⟩),dc]) (.val (.bool over))):
  ab Tryz.prog x (oc s q c d e g σ++ [(29,Chunk.sem (ad L))]) x (oc s q c d e g σ'++ [(29,Chunk.sem (ad L'))]) (.call 15 [.pointer (some ⟨b,0,some kk⟩),dc]) (.val (.bool over)):=
 se h hx (Nat.le_refl _) (ko rfl yQ) (ko rfl yQ) rfl rfl
end
def oB (C:cF) (nx:List Nat) (at_:List Int) (tf:Tf) (ck:Int) (bn n:Nat) (Y:aG):Heap:=Km C (tf.val 71) nx at_ ck Y++(tf.ch 71++ [(bn,.bag 188 n)])
section
variable {C:cF}{nx:List Nat}{at_:List Int}{ck:Int}{n:Nat}{Y:aG}
theorem SD {nt:Nat}{l l2:List Value} (hl:l.map (ao (dL 72 480) 9)=l2):ia 72 480 (oB C nx at_ (.row nt l) ck 72 n Y) (oB C nx at_ (.row nt l2) ck 480 n Y):=iE fun p hp=>by
 have hp':p∈([(0,.args C.B C.w0),(40,mf C.nc (.slice (some ⟨71,0,none⟩) nt 0) ck),(41,.cells (di nx) 3),(42,.cells (ints at_) 3),(45,.cells (cP C.cl) 58),(27,.froz C.S C.w1),(29,.sem Y),(71,.cells l2 182),(480,.bag 188 n)]:Heap):=hp
 simp only [List.mem_cons,List.not_mem_nil,or_false] at hp'
 rcases hp' with rfl|rfl|rfl|rfl|rfl|rfl|rfl|rfl|rfl
 · exact⟨0,_,rfl,rfl,.args⟩
 · exact⟨40,_,rfl,rfl,.cells (aj.refl _)⟩
 · exact⟨41,_,rfl,rfl,bq (eK _) _⟩
 · exact⟨42,_,rfl,rfl,bq (bQ _) _⟩
 · exact⟨45,_,rfl,rfl,bq (bG _) _⟩
 · exact⟨27,_,rfl,rfl,.froz⟩
 · exact⟨29,_,rfl,rfl,.sem⟩
 · exact⟨71,_,rfl,rfl,.cells (fE hl)⟩
 · exact⟨72,_,rfl,rfl,.bag (Nat.le_refl _)⟩
theorem N7:ia 72 480 (oB C nx at_ .nil ck 72 n Y) (oB C nx at_ .nil ck 480 n Y):=iE fun p hp=>by
 have hp':p∈([(0,.args C.B C.w0),(40,mf C.nc (.slice none 0 0) ck),(41,.cells (di nx) 3),(42,.cells (ints at_) 3),(45,.cells (cP C.cl) 58),(27,.froz C.S C.w1),(29,.sem Y),(480,.bag 188 n)]:Heap):=hp
 simp only [List.mem_cons,List.not_mem_nil,or_false] at hp'
 rcases hp' with rfl|rfl|rfl|rfl|rfl|rfl|rfl|rfl
 · exact⟨0,_,rfl,rfl,.args⟩
 · exact⟨40,_,rfl,rfl,.cells (aj.refl _)⟩
 · exact⟨41,_,rfl,rfl,bq (eK _) _⟩
 · exact⟨42,_,rfl,rfl,bq (bQ _) _⟩
 · exact⟨45,_,rfl,rfl,bq (bG _) _⟩
 · exact⟨27,_,rfl,rfl,.froz⟩
 · exact⟨29,_,rfl,rfl,.sem⟩
 · exact⟨72,_,rfl,rfl,.bag (Nat.le_refl _)⟩
end
theorem CY {C:cF}{nx nx':List Nat}{at_ at':List Int}{tf tf':Tf}{ck:Int}{n n':Nat}{Y Y':aG}{m:Cs}{a:Int}{xs:List Value}{v:Value} (hf:Form (.chan (some 72)) m a tf') (h:ab Tryz.prog 70 (pH C nx at_ tf ck n Y) 100 (oH C nx' at' tf' ck n' Y') (.call 47 xs) (.val v)):
  ∃tf2,Form (.chan (some 480)) m a tf2∧tf2.fK=tf'.fK∧tf2.dm=tf'.dm∧Kp tf' a tf2 a∧ab Tryz.prog 61 (pH C nx at_ tf ck n Y) 490 (oB C nx' at' tf2 ck 480 n' Y') (.call 47 xs) (.val v):=by
 cases tf' with
 |nil=>
  refine⟨.nil,by cases hf with|n h=>exact .n h,rfl,rfl,Kp.refl _ _,?_⟩
  exact mj (iC (H:=oB C nx' at' .nil ck 72 n' Y') h (by decide:100≤480) (by decide) N7) (by decide:61≤70)
 |row nt l=>
  obtain⟨l2,hf2,hl,_,hkp⟩:=yS (y:=480) hf
  exact⟨.row nt l2,hf2,rfl,rfl,hkp,mj (iC (H:=oB C nx' at' (.row nt l) ck 72 n' Y') h (by decide:100≤480) (by decide) (SD (hl _ rfl))) (by decide:61≤70)⟩
theorem Form.fin {sv:Value}{m m2:Cs}{a:Int}{tf:Tf} (h:Form sv m a tf) (hi:fQ m2=fQ m) (hg:m2.goal=m.goal):Fin sv m2 a tf:=by
 cases h with
 |n h=>exact .n (hi.trans h)
 |m h hs hl=>exact .m (hi.trans h) hs hl
 |p h ht=>exact .p (hi.trans h) (by rw [hg];exact ht)
 |k h hp ha ht hs=>exact .k (hi.trans (by unfold fQ;rw [hp,ha];simp)) (by rw [hg];exact ht) hs
def tH (C:cF) (s q:Nat) (c d e g:Int) (nx:List Nat) (at_:List Int) (tf:Tf) (ck:Int) (n:Nat) (Y:aG) (σ:eQ):Heap:=
 ([(0,.args C.B C.w0),(27,.froz C.S C.w1),(29,.sem Y),(40,mf C.nc (tf.val 44) ck),(41,.cells (di nx) 3),(42,.cells (ints at_) 3),(45,.cells (cP C.cl) 58),(46,.bag 188 n)]++tf.ch 44)++oc s q c d e g σ
def fH (C:cF) (s q:Nat) (c d e g:Int) (nx:List Nat) (at_:List Int) (tf:Tf) (ck:Int) (n:Nat) (Y:aG) (σ:eQ):Heap:=
 ([(0,.args C.B C.w0),(27,.froz C.S C.w1),(29,.sem Y),(40,mf C.nc (tf.val 71) ck),(41,.cells (di nx) 3),(42,.cells (ints at_) 3),(45,.cells (cP C.cl) 58),(480,.bag 188 n)]++tf.ch 71)++oc s q c d e g σ
structure PW (C:cF) (j:Nat) (acts:List Ac) (b:Nat) (g:Int) (nj:Nat) (nx:List Nat) (at_:List Int) (a1:Int) (tf:Tf) (L:List aG) (m:Cs) (σ:eQ) (nj':Nat) (a':Int) (nx':List Nat) (at':List Int) (tf':Tf) (n':Nat) (L':List aG) (m':Cs) (σ':eQ):Prop where
 nx:nx'=nx.set j nj'
 at_:at'=at_.set j a'
 L:L'=L.set j (m'.res j b)
 le:nj≤nj'
 hi:nj'≤acts.length
 fin:Fin (.chan (some 480)) m' a' tf'
 wf:m'.wf σ'.now (2*nj')
 n:n'+(if m'.bt=true then 1 else 0)≤nj'
 ip:m'.dB=true∨m'.bt=true
 act:m'.bt=true→∃a,1≤nj'∧acts[nj' - 1]? =some a∧a.kd=m'.act
 fK:tf'.fK+(acts.length - nj')≤tf.fK+(acts.length - nj)
 row:tf'.dm=tf.dm∨tf'.dm=true
 bN:m'.bN+30*(acts.length - nj')≤m.bN+30*(acts.length - nj)
 less:(m.bt=true∨nj < acts.length)→m'.bN+30*(acts.length - nj') < m.bN+30*(acts.length - nj)
 now:σ.now≤σ'.now∧σ'.now≤g
 count:σ.count≤σ'.count∧σ'.count+(m'.bN+30*(acts.length - nj'):Nat)≤σ.count+(m.bN+30*(acts.length - nj):Nat)
 nodup:(bS σ'.il).Nodup
 own:(j:Int)∈bS σ'.il ↔ m'.walk=true
 others:∀x,x≠(j:Int)→(x∈bS σ'.il ↔ x∈bS σ.il)
 kp:Kp tf a1 tf' a'
end
section
open Go Go.Sx
theorem IG {C:cF}{j b kk:Nat}{at_:List Int}{a1:Int}{L:List aG}{m m2:Cs}{ck:Int}{n:Nat}{a:Ac}{tf:Tf} (h:Nd C j b kk at_ a1 L m2) (hn:n≤9000) (hp:m.bt=true) (hf:Form (.chan (some 72)) m a1 tf) (hk:a.kd=m.act)
  {now:Int} {u:Nat} (hw:m2.wf now u) (hd:m2.isDone=true) (hi:m2.inside= !(m.act==7 || m.act==8)) (hz:m.act=2∨m.act=5∨m2.isZero=true) (hr:m.act≠5→∀y nb ws os,m2≠ .inn y nb ws (.rows os)) (hg:m2.goal=m.goal):
  ∃a2 tf2 n2,n2≤n+1∧Fin (.chan (some 480)) m2.told a2 tf2∧tf2.fK=tf.fK∧tf2.dm=tf.dm∧Kp tf a1 tf2 a2∧kJ C j b kk at_ tf ck n L m2 a (at_.set j a2) tf2 n2:=by
 have tl:=tI hw
 have hti:fQ m2.told=m2.inside:=by rw [jQ tl.1,tl.2.1]
 have htg:m2.told.goal=m.goal:=(wU hd).trans hg
 have hnf:m2.isZero=true→m2.gD=false:=fun e=>by
  cases m2 with
  |out y m=>rfl
  |inn y nb ws m=>cases m <;> first|rfl|cases e
 rcases MA hp with⟨ha|ha,hin⟩|⟨ha,hin⟩
 ·
   have hin2:m2.inside=true:=by rw [hi,ha];rfl
   have hz':=hnf (by rcases hz with e|e|e <;> first|omega|exact e)
   have hnr:=hr (by omega)
   cases hf with
   |n hq=>unfold fQ at hq;rw [hp,ha] at hq;simp at hq
   |m hq=>unfold fQ at hq;rw [hp,ha] at hq;simp at hq
   |p hq ht=>
    rename_i nt t l
    obtain⟨l3,hl3,hdd⟩:=K5 (ck:=ck) (n:=n) h hd hz' hnr ht (by rw [hk,ha])
    have ht3:=ht.put (k:=3) (by decide) (cE .i64 0) (fun e=>by cases e)
    rw [qK ht3.rest ht3.seen (y:=480) (by simp [dL])] at hl3
    subst hl3
    refine⟨Int.ofNat t,.row nt ((l.set (10*t+3) (.int .i64 0)).set (10*t+7) (.chan (some 480))),n,by omega,.p (hti.trans hin2) (by rw [htg];exact ht3.name),rfl,rfl,(Kp.put (by decide) (.inl rfl)).trans (Kp.put (by decide) (.inl rfl)),?_⟩
    rw [eH h.at_];exact hdd
   |k hq hq1 hq2 ht hs=>
    rename_i nt t l
    obtain⟨l3,hl3,hdd⟩:=K5 (ck:=ck) (n:=n) h hd hz' hnr ht (by rw [hk,ha])
    have ht3:=ht.put (k:=3) (by decide) (cE .i64 0) (fun e=>by cases e)
    rw [gd (zw hs (cE _ _))] at hl3
    subst hl3
    refine⟨Int.ofNat t,.row nt (l.set (10*t+3) (.int .i64 0)),n,by omega,.k (hti.trans hin2) (by rw [htg];exact ht3) (zw hs (cE _ _)),rfl,rfl,Kp.put (by decide) (.inl rfl),?_⟩
    rw [eH h.at_];exact hdd
 ·
   have hin2:m2.inside=false:=by rw [hi,ha];rfl
   have hz':=hnf (by rcases hz with e|e|e <;> first|omega|exact e)
   have hnr:=hr (by omega)
   cases hf with
   |n hq=>exact⟨-1,.nil,n,by omega,.n (hti.trans hin2),rfl,rfl,Kp.refl _ _,by rw [eH h.at_];exact PL h hd hz' hnr (by rw [hk,ha])⟩
   |m hq hs hl=>exact⟨-1,_,n,by omega,.m (hti.trans hin2) hs hl,rfl,rfl,Kp.refl _ _,by rw [eH h.at_];exact P9 h hd hz' hnr hs (by rw [hk,ha])⟩
   |p hq ht=>unfold fQ at hq;rw [hin,hp,ha] at hq;cases hq
   |k _ _ q=>omega
 · have hq:fQ m=true:=uz hin
   cases hf with
   |n e=>rw [hq] at e;cases e
   |m e=>rw [hq] at e;cases e
   |k e=>rw [hin] at e;cases e
   |p hq2 ht=>
    rename_i nt t l
    rcases ha with ha|ha|ha
    ·
      have hin2:m2.inside=true:=by rw [hi,ha];rfl
      cases hfl:m2.gD with
      |true=>
       obtain⟨y,nb,ws,rfl⟩:∃y nb ws,m2= .inn y nb ws .fault:=by
        cases m2 with
        |out y m=>cases hfl
        |inn y nb ws m=>cases m <;> first|(cases hfl;done)|exact⟨y,nb,ws,rfl⟩
       refine⟨Int.ofNat t,.row nt ((l.set (10*t+6) (.bool true)).set (10*t+7) (.chan (some 480))),n,by omega,.p (hti.trans hin2) ?_,rfl,rfl,(Kp.put (by decide) (.inl rfl)).trans (Kp.put (by decide) (.inl rfl)),by rw [eH h.at_];exact G9 h ht (.inl (by rw [hk,ha]))⟩
       rw [htg];exact(ht.put (k:=6) (by decide) (cX true) (fun _=>⟨_,rfl⟩)).name
      |false=>
       obtain⟨q,hdd⟩:=G1 (ck:=ck) h hn hd hfl hw (by rw [hk];exact hr) ht (.inl (by rw [hk,ha]))
       refine⟨Int.ofNat t,.row nt ((l.set (10*t+6) (.bool q)).set (10*t+7) (.chan (some 480))),n+1,by omega,.p (hti.trans hin2) ?_,rfl,rfl,(Kp.put (by decide) (.inl rfl)).trans (Kp.put (by decide) (.inl rfl)),by rw [eH h.at_];exact hdd⟩
       rw [htg];exact(ht.put (k:=6) (by decide) (cX q) (fun _=>⟨_,rfl⟩)).name
    ·
      have hin2:m2.inside=true:=by rw [hi,ha];rfl
      cases hfl:m2.gD with
      |true=>
       obtain⟨y,nb,ws,rfl⟩:∃y nb ws,m2= .inn y nb ws .fault:=by
        cases m2 with
        |out y m=>cases hfl
        |inn y nb ws m=>cases m <;> first|(cases hfl;done)|exact⟨y,nb,ws,rfl⟩
       refine⟨Int.ofNat t,.row nt ((l.set (10*t+6) (.bool true)).set (10*t+7) (.chan (some 480))),n,by omega,.p (hti.trans hin2) ?_,rfl,rfl,(Kp.put (by decide) (.inl rfl)).trans (Kp.put (by decide) (.inl rfl)),by rw [eH h.at_];exact G9 h ht (.inr (by rw [hk,ha]))⟩
       rw [htg];exact(ht.put (k:=6) (by decide) (cX true) (fun _=>⟨_,rfl⟩)).name
      |false=>
       obtain⟨q,hdd⟩:=G1 (ck:=ck) h hn hd hfl hw (by rw [hk];exact hr) ht (.inr (by rw [hk,ha]))
       refine⟨Int.ofNat t,.row nt ((l.set (10*t+6) (.bool q)).set (10*t+7) (.chan (some 480))),n+1,by omega,.p (hti.trans hin2) ?_,rfl,rfl,(Kp.put (by decide) (.inl rfl)).trans (Kp.put (by decide) (.inl rfl)),by rw [eH h.at_];exact hdd⟩
       rw [htg];exact(ht.put (k:=6) (by decide) (cX q) (fun _=>⟨_,rfl⟩)).name
    ·
      have hin2:m2.inside=false:=by rw [hi,ha];rfl
      have hz':=hnf (by rcases hz with e|e|e <;> first|omega|exact e)
      obtain⟨l3,e1,e2,e3,e4,hdd⟩:=Sp (ck:=ck) (n:=n) h hd hz' (hr (by omega)) ht (by rw [hk,ha])
      have hlt:=(List.getElem?_eq_some_iff.1 ht.seen).1
      exact⟨-1,_,n,by omega,.e (hti.trans hin2) (by rw [e1];exact ht.len) (by rw [e1];exact hlt) e2 e3,rfl,rfl,e4,hdd⟩
theorem J4 (C:cF) {j AB lc b kk:Nat}{acts:List Ac}{ck:Int}{s q:Nat}{c d e g:Int}{σ:eQ} (hok:C.Ok) (hx:C.acts[j]? =some (AB,lc,acts)) (hcl:C.cl[j]? =some (b,kk)) {nj:Nat}{nx:List Nat}{at_:List Int}{a1:Int}{tf:Tf}{n:Nat}{L:List aG}{m:Cs}
  (hle:nj≤acts.length) (hnx:nx[j]? =some nj) (hat:at_[j]? =some a1) (hL:L[j]? =some (m.res j b)) (hm:m.dB=true∨m.bt=true) (hf:Form (.chan (some 46)) m a1 tf) (hw:m.wf σ.now (2*nj)) (hn:n+(if m.bt=true then 1 else 0)≤nj) (ha:m.bt=true→∃a,1≤nj∧acts[nj - 1]? =some a∧a.kd=m.act) (hcnt:tf.fK+(acts.length - nj)≤5000)
  (hthr:(C.nc:Int)≤c) (hnow:0≤σ.now∧σ.now≤g) (top:g < 9223372036854775808) (hct:0≤σ.count∧σ.count < 3000000000) (hnd:(bS σ.il).Nodup) (hown:(j:Int)∈bS σ.il ↔ m.walk=true):
  ∃nj' a' nx' at' tf' n' L' m' σ' ck',PW C j acts b g nj nx at_ a1 tf L m σ nj' a' nx' at' tf' n' L' m' σ'∧ab Tryz.prog 60 (tH C s q c d e g nx at_ tf ck n (ad L) σ) 490 (fH C s q c d e g nx' at' tf' ck' n' (ad L') σ') (.call 21 [.pointer (some ⟨40,0,none⟩),.agg ⟨mq C.QB C.nc C.qc⟩,.int .i64 (j:Nat)]) (.val (.tuple ⟨[]⟩)):=by
 have hj:j < C.nc:=by rw [←hok.n];exact(List.getElem?_eq_some_iff.1 hx).1
 have hc:List.take 1 (List.drop (0+j*1) (cP C.cl))= [.pointer (some ⟨b,0,some kk⟩)]∧1=1:=oJ (by simp [cP,hcl])
 have hlen:acts.length≤100:=hok.len j _ hx
 obtain⟨nj1,a2,nx1,at1,tf1,n1,L1,m1,hb,hd⟩:=Fe C (ck:=ck) hok hx hcl hle hnx hat hL hm hf hw hn ha hcnt
 have hL1:L1[j]? =some (m1.res j b):=by rw [hb.L];exact fb hL
 cases hp:m1.bt with
 |false=>
  rw [hp] at hd
  obtain⟨tf2,hf2,e1,e2,e3,hd2⟩:=CY hb.form hd
  obtain⟨hi1,hn1⟩:=hb.idle hp
  have ip:=cq hi1
  have hnp:m.bt=false:=by
   cases hmp:m.bt with
   |false=>rfl
   |true=>have:=hb.aq hmp;rw [hp] at this;cases this
  refine⟨nj1,a2,nx1,at1,tf2,n1,L1,m1,σ,ck,⟨hb.nx,hb.at_,hb.L,hb.le,hb.hi,hf2.fin rfl rfl,hb.wf,hb.n,.inl hi1,hb.act,by rw [e1];exact hb.fK,?_,hb.bN,fun h=> ?_,⟨Int.le_refl _,hnow.2⟩,⟨Int.le_refl _,?_⟩,hnd,by rw [hb.walk];exact hown,fun _ _=>Iff.rfl,hb.kp.trans e3⟩,?_⟩
  · rcases hb.row with e|⟨e,_⟩
    · exact .inl (e2.trans e)
    · exact .inr (e2.trans e)
  · rcases h with h|h
    · rw [hnp] at h;cases h
    · rw [ip.2.2.1,hn1];omega
  · have:=hb.bN;omega
  · have hrow:tf2.dm=tf.dm:=by
     rcases hb.row with e|⟨_,e⟩
     · exact e2.trans e
     · rw [hp] at e;cases e
    cases tf with
    |nil=>cases tf2 with
     |nil=>exact JS hd2
     |row=>cases hrow
    |row=>cases tf2 with
     |nil=>cases hrow
     |row=>exact Je hd2
 |true=>
  rw [hp] at hd
  have hk:(j:Int)∈bS σ.il ↔ m1.walk=true:=by rw [hb.walk];exact hown
  have hnj1:=hb.hi
  obtain⟨σ2,m2,over,post,hs⟩:=Iv (s:=s) (q:=q) (c:=c) (d:=d) (e:=e) (g:=g) (σ:=σ) (k:=(j:Int)) (kk:=kk) hL1 (by omega) (by omega) hnow top ⟨hct.1,by omega⟩ hnd hk hp hb.wf (by omega)
  have hL2:(L1.set j (m2.res j b))[j]? =some (m2.res j b):=fb hL1
  have hc1:decide (σ2.count > IntKind.i64.wrap (σ.count+1))=false:=by
   rw [wrap64 (by omega) (by omega)];exact decide_eq_false (by have:=post.count;omega)
  obtain⟨a,h1,haa,hkd⟩:=hb.act hp
  have hrk:=post.bN
  cases over with
  |false=>
   have hp2:m2.bt=true:=post.bt
   obtain⟨hac,hin⟩:=post.act rfl
   obtain⟨tf2,hf2,e1,e2,e3,hd2⟩:=CY hb.form hd
   have hiT:fQ m2=fQ m1:=by unfold fQ;rw [hin,hp2,hp,hac]
   refine⟨nj1,a2,nx1,at1,tf2,n1,L1.set j (m2.res j b),m2,σ2,IntKind.i64.wrap (ck+1),⟨hb.nx,hb.at_,by rw [hb.L,List.set_set],hb.le,hb.hi,hf2.fin hiT post.goal,post.wf,by rw [hp2];have:=hb.n;rw [hp] at this;exact this,.inr hp2,fun _=>⟨a,h1,haa,by rw [hac];exact hkd⟩,by rw [e1];exact hb.fK,?_,?_,fun _=> ?_,post.now,⟨post.count.1,?_⟩,post.nodup,post.own,post.others,hb.kp.trans e3⟩,?_⟩
   · rcases hb.row with e|⟨e,_⟩
     · exact .inl (e2.trans e)
     · exact .inr (e2.trans e)
   · have:=hb.bN;omega
   · have:=hb.bN;omega
   · have:=hb.bN;have:=post.count;omega
   · have hr2:tf2.dm=tf.dm∨tf2.dm=true:=by
      rcases hb.row with e|⟨e,_⟩
      · exact .inl (e2.trans e)
      · exact .inr (e2.trans e)
     have g1:=KK (x:=490) (by decide) hs
     have g2:ab Tryz.prog 490 [(29,.sem (ad (L1.set j (m2.res j b))))] 490 [(29,.sem (ad (L1.set j (m2.res j b))))] (.call 40 [.pointer (some ⟨b,0,some kk⟩)]) (.val (.bool true)):=hp2 ▸ df hL2 (by decide)
     cases tf with
     |nil=>cases tf2 with
      |nil=>exact Gz (cB hj) hc1 hc hd2 g1 g2
      |row=>exact Gd (cB hj) hc1 hc hd2 g1 g2
     |row=>cases tf2 with
      |nil=>rcases hr2 with e|e <;> cases e
      |row=>exact G8 (cB hj) hc1 hc hd2 g1 g2
  |true=>
   have hp2:m2.bt=false:=post.bt
   obtain⟨hdn,hin⟩:=post.ins rfl
   have hat1:at1[j]? =some a2:=by rw [hb.at_];exact fb hat
   have hnb:=hb.n
   rw [hp] at hnb
   simp only [if_true] at hnb
   obtain⟨a3,tf3,n3,q1,q2,q3,q4,q5,hnote⟩:=IG (ck:=IntKind.i64.wrap (ck+1)) (n:=n1) (a:=a) ⟨hok,hj,hcl,hat1,hL2⟩ (by omega) hp hb.form hkd post.wf hdn hin (post.zero rfl) post.norow post.goal
   have tl:=tI post.wf
   have ip:=cq tl.1
   refine⟨nj1,a3,nx1,at1.set j a3,tf3,n3,(L1.set j (m2.res j b)).set j (m2.told.res j b),m2.told,σ2,IntKind.i64.wrap (ck+1),⟨hb.nx,by rw [hb.at_,List.set_set],by rw [List.set_set,hb.L,List.set_set],hb.le,hb.hi,q2,tl.2.2.1,by rw [ip.1];simp;omega,.inl tl.1,fun h=>absurd h (oe tl.1),by rw [q3];exact hb.fK,?_,?_,fun _=> ?_,post.now,⟨post.count.1,?_⟩,post.nodup,?_,post.others,hb.kp.trans q5⟩,?_⟩
   · rcases hb.row with e|⟨e,_⟩
     · exact .inl (q4.trans e)
     · exact .inr (q4.trans e)
   · have:=hb.bN;rw [tl.2.2.2];omega
   · have:=hb.bN;rw [tl.2.2.2];omega
   · have:=hb.bN;have:=post.count;rw [tl.2.2.2];omega
   · rw [post.own,ip.2.1]
     have:m2.walk=false:=by
      cases m2 with
      |out y m=>rfl
      |inn y nb ws m=>cases m <;> first|rfl|(cases hdn;done)
     simp [this]
   · have g1:=KK (x:=100) (by decide) hs
     have g2:ab Tryz.prog 100 [(29,.sem (ad (L1.set j (m2.res j b))))] 100 [(29,.sem (ad (L1.set j (m2.res j b))))] (.call 40 [.pointer (some ⟨b,0,some kk⟩)]) (.val (.bool false)):=hp2 ▸ df hL2 (by decide)
     obtain⟨r,rfl⟩:∃r,nj1=r+1:=⟨nj1 - 1,by omega⟩
     have haa':acts[r]? =some a:=by simpa using haa
     have hlr:=(List.getElem?_eq_some_iff.1 haa').1
     have hwr:IntKind.i64.wrap (Int.ofNat (r+1) - 1)=Int.ofNat r:=by have:(Int.ofNat (r+1) - 1:Int)=Int.ofNat r:=(by simp);rw [this,wrap64 (by simp) (by simp;omega)]
     have hnx1:nx1[j]? =some (r+1):=by rw [hb.nx];exact fb hnx
     have h2:decide ((0:Int)≤IntKind.i64.wrap (Int.ofNat (r+1) - 1)∧IntKind.i64.wrap (Int.ofNat (r+1) - 1) < (↑acts.length:Int))=true:=by rw [hwr];exact cI hlr
     have r3:dz C.S C.w1 AB (0+(IntKind.i64.wrap (Int.ofNat (r+1) - 1)).toNat*9) a.cells∧9=9:=by rw [hwr];exact⟨hok.a j _ r a hx haa',rfl⟩
     have hd':=mj hd (by decide:61≤70)
     cases tf with
     |nil=>cases tf1 with
      |nil=>cases tf3 with
       |nil=>exact HB (AB:=AB) (lc:=lc) (la:=acts.length) (nj:=r) (cB hj) hc1 h2 hc ⟨hok.qn hx haa',rfl⟩ (oJ (pE hnx1)) r3 hd' g1 g2 hnote
       |row=>cases q4
      |row=>cases tf3 with
       |nil=>cases q4
       |row=>
        have q3':_=_:=q3
        simp only [Tf.fK] at q3'
        subst q3'
        exact Gf (AB:=AB) (lc:=lc) (la:=acts.length) (nj:=r) (cB hj) hc1 h2 hc ⟨hok.qn hx haa',rfl⟩ (oJ (pE hnx1)) r3 hd' g1 g2 hnote
     |row=>cases tf1 with
      |nil=>rcases hb.row with e|⟨e,_⟩ <;> cases e
      |row=>cases tf3 with
       |nil=>cases q4
       |row=>
        have q3':_=_:=q3
        simp only [Tf.fK] at q3'
        subst q3'
        exact IQ (AB:=AB) (lc:=lc) (la:=acts.length) (nj:=r) (cB hj) hc1 h2 hc ⟨hok.qn hx haa',rfl⟩ (oJ (pE hnx1)) r3 hd' g1 g2 hnote
end
end Go.Proofs.YtalanookmohdeaaGreatDoor
namespace Go.Sx
variable {P:Program}{I:Type}
def GM (P:Program) (r:Env) (ow:Nat→Option Nat) (w:World) (s:St) (c1:Nat) (h1:I→Heap) (e:bU) (Tf:I→List Value):Exit→Act→World→Prop:=fun e' a' w'=>∃i,pR P r ow w s (bb c1 (h1 i)) e (Tf i) e' a' w'
def dh (P:Program) (c0:Nat) (h0:Heap) (c1:Nat) (h1:I→Heap) (k:Code) (T:List Value) (e:bU) (Tf:I→List Value):Prop:=
 c0≤c1∧∀r ow w,Sat P r ow h0 w→bF r c0 c1→∀a:Act,aw r T a.tmps.toList→a.defers= []→k.wp P (GM P r ow w (bb c0 h0) c1 h1 e Tf) a w
def jb (P:Program) (c0:Nat) (h0:Heap) (cm:Nat) (hm:Heap) (c1:Nat) (h1:I→Heap) (code:Code) (T:List Value) (e:bU) (Tf:I→List Value):Prop:=
 ∀r0 ow0 w0 r ow w,bF r0 c0 c1→aN P r0 ow0 w0 (bb c0 h0) r ow w (bb cm hm)→bF r cm c1→∀a:Act,aw r T a.tmps.toList→a.defers= []→gJ P code (GM P r0 ow0 w0 (bb c0 h0) c1 h1 e Tf) a w
theorem Cb {c:Code}{Q R:Exit→Act→World→Prop}{a:Act}{w:World} (h:gJ P c Q a w) (hqr:∀e a w,Q e a w→R e a w):gJ P c R a w:=
 fun b k cs=>let ⟨e,a',w',q,r⟩:=h b k cs;⟨e,a',w',hqr _ _ _ q,r⟩
theorem Mid.x {c0 cm c1:Nat}{h0 hm:Heap}{h1:I→Heap}{code:Code}{T:List Value}{Tf:I→List Value}{e:bU} (i:I) (h:Mid P c0 h0 cm hm c1 (h1 i) code T e (Tf i)):jb P c0 h0 cm hm c1 h1 code T e Tf:=
 fun r0 ow0 w0 r ow w hf hp hfr a ha hd=>Cb (h r0 ow0 w0 r ow w hf hp hfr a ha hd) fun _ _ _ q=>⟨i,q⟩
theorem El {c0 c1:Nat}{h0:Heap}{h1:I→Heap}{code:Code}{T:List Value}{Tf:I→List Value}{e:bU} (hc:c0≤c1) (h:jb P c0 h0 c0 h0 c1 h1 code T e Tf):dh P c0 h0 c1 h1 (.loop code) T e Tf:=
 ⟨hc,fun r ow w hs hf a ha hd=>mT (h r ow w r ow w hf (aN.calm hs (Calm.refl _)) hf a ha hd)⟩
end Go.Sx
namespace Go.Sx
variable {P:Program}
theorem Conv.trans {I J:Type}{c1 c2 c3:Nat}{H:Heap}{T:List Value}{H':I→Heap}{T':I→List Value}{H'':I→J→Heap}{T'':I→J→List Value} (h12:c1≤c2) (h23:c2≤c3) (h1:Conv P c1 c2 H T H' T') (h2:∀i,Conv P c2 c3 (H' i) (T' i) (H'' i) (T'' i)):
  Conv P (I:=I×J) c1 c3 H T (fun p=>H'' p.1 p.2) (fun p=>T'' p.1 p.2):=by
 refine⟨fun r ow w hs hf=> ?_⟩
 obtain⟨i,r1,ow1,a1,a2,a3,a4,a5,a6⟩:=h1.conv r ow w hs (hf.sub (Nat.le_refl _) h23)
 obtain⟨j,r2,ow2,b1,b2,b3,b4,b5,b6⟩:=(h2 i).conv r1 ow1 w a2 (iT hf a3 h12 (Nat.le_refl _))
 refine⟨(i,j),r2,ow2,a1.trans b1,b2,a3.trans b3 h12 h23,fun b n e=> ?_,fun b e=>b5 b (a5 b e),fun us h=>b6 us (a6 us h)⟩
 rcases b4 b n e with⟨b',e'⟩|⟨q1,q2⟩
 · rcases a4 b' n e' with q|⟨q1,q2⟩
   · exact .inl q
   · exact .inr ⟨q1,Nat.lt_of_lt_of_le q2 h23⟩
 · exact .inr ⟨Nat.le_trans h12 q1,q2⟩
theorem Conv.refl {c:Nat}{H:Heap}{T:List Value}:Conv P (I:=Unit) c c H T (fun _=>H) (fun _=>T):=
 ⟨fun r ow _ hs _=>⟨(),r,ow,Env.Le.refl r,hs,fI.refl r _ _,fun b _ e=> .inl ⟨b,e⟩,fun _ e=>e,fun _ h=>h⟩⟩
theorem Conv.less {I J:Type}{c1 c2:Nat}{H:Heap}{T:List Value}{H':I→Heap}{T':I→List Value}{H'':J→Heap}{T'':J→List Value} (h:Conv P c1 c2 H T H' T') (f:I→J) (hl:∀i n x,(H'' (f i)).get n=some x→(H' i).get n=some x) (hT:∀i,T'' (f i)=T' i):Conv P c1 c2 H T H'' T'':=
 ⟨fun r ow w hs hf=>let ⟨i,r1,ow1,a1,a2,a3,a4,a5,a6⟩:=h.conv r ow w hs hf
  ⟨f i,r1,ow1,a1,⟨fun n x e=>a2.chunk n x (hl i n x e),a2.bound,a2.known⟩,a3,a4,a5,fun us hu=>by rw [hT];exact a6 us hu⟩⟩
end Go.Sx
namespace Go.Sx
variable {P:Program}
theorem Gb {c c1:Nat}{h0 h1:Heap}{f:FuncId}{xs ys:List Value}{v:Value} (h:ab P c h0 c1 h1 (.call f xs) (.val v)) (hxy:∀r us,aw r ys us→aw r xs us):ab P c h0 c1 h1 (.call f ys) (.val v):=
 ⟨h.1,fun r ow w hs hf us hu=>h.2 r ow w hs hf us (hxy r _ hu)⟩
theorem zv {r:Env}:∀ {xs ys us:List Value},xs.length=ys.length→(∀(i:Nat) x y,xs[i]? =some x→ys[i]? =some y→x= .chan none∨x=y)→aw r ys us→aw r xs us
 | [],[],_,_,_,h=>h
 | [],_::_,_,hl,_,_=>by simp at hl
 |_::_,[],_,hl,_,_=>by simp at hl
 |x::xs,y::ys,_,hl,hx,.cons h t=>by
  refine .cons ?_ (zv (by simpa using hl) (fun i a b ha hb=>hx (i+1) a b (by simpa using ha) (by simpa using hb)) t)
  rcases hx 0 x y rfl rfl with rfl|rfl
  · exact .any
  · exact h
theorem BJ {r:Env}{xs ys:List Value}{u:Value} (hl:xs.length=ys.length) (hx:∀(i:Nat) x y,xs[i]? =some x→ys[i]? =some y→x= .chan none∨x=y) (h:Rel r (.agg ⟨ys⟩) u):Rel r (.agg ⟨xs⟩) u:=by
 cases h with
 |agg hs h=>
  rename_i us
  obtain⟨us⟩:=us
  have h0:aw r ys us:=aw.yL (by simpa using hs) fun i a b=>h i (by simpa using a) (by simpa using b)
  exact(zv hl hx h0).kL
section
variable {P:Program}
def lE (v:Value) (n:Nat):Prop:=∃a l c,v= .slice a l c∧l≤n∧((a=none∧l=0∧c=0)∨∃b,a=some ⟨b,0,none⟩∧l≤c∧0 < l)
def ie (P:Program) (e:TypeId) (v:Value) (n:Nat):aG where
 holds w S:=∃a l c,v= .slice a l c∧l≤n∧((a=none∧l=0∧c=0)∨∃b cs,a=some ⟨b,0,none⟩∧S b∧w.heap[b]? =some (.cells cs e (0,0))∧cs.size=c*P.cellsOf e∧l≤c∧0 < l)
 up:=fun hS ⟨a,l,c,h1,h2,h3⟩=>⟨a,l,c,h1,h2,h3.imp id fun⟨b,cs,q1,q2,q3⟩=>⟨b,cs,q1,hS b q2,q3⟩⟩
 loc:=fun hw ⟨a,l,c,h1,h2,h3⟩=>⟨a,l,c,h1,h2,h3.imp id fun⟨b,cs,q1,q2,q3,q4⟩=>⟨b,cs,q1,q2,by rw [hw b q2];exact q3,q4⟩⟩
def gy:Value→Value
 | .slice (some ⟨b,_,_⟩) l c=> .slice (some ⟨b,0,some 0⟩) l c
 |_=> .slice none 0 0
theorem Hr {r:Env}{v:Value}{n:Nat} (h:lE v n):Rel r (gy v) v:=by
 obtain⟨a,l,c,rfl,_,⟨rfl,rfl,rfl⟩|⟨b,rfl,h1,h2⟩⟩:=h
 · exact .sliceNil
 · exact .litSlice h1 (.inl rfl)
theorem Eb {r:Env}{v u:Value}{n:Nat} (h:lE v n) (hr:Rel r (gy v) u):u=v:=by
 obtain⟨a,l,c,rfl,_,⟨rfl,rfl,rfl⟩|⟨b,rfl,h1,h2⟩⟩:=h
 · have hr':Rel r (.slice none 0 0) u:=hr
   cases hr';rfl
 · have hr':Rel r (.slice (some ⟨b,0,some 0⟩) l c) u:=hr
   cases hr' with
   |litSlice _ hs=>
    rcases hs with rfl|e
    · rfl
    · omega
theorem E4 {w:World}{S:Nat→Prop}{e:TypeId}{v:Value}{n:Nat} (h:(ie P e v n).holds w S):lE v n:=by
 obtain⟨a,l,c,h1,h2,h3⟩:=h
 exact⟨a,l,c,h1,h2,h3.imp id fun⟨b,cs,q1,q2,q3,q4,q5,q6⟩=>⟨b,q1,q5,q6⟩⟩
theorem sU (v:Value):(∀nm,ao nm 9 (gy v)=gy v)∧ed (gy v)=true:=by
 unfold gy
 split <;> exact⟨fun _=>rfl,rfl⟩
def Env.one (r:Env) (m:Nat) (v:Value):Env:=⟨r.blk,r.cap,fun k=>if k=m then some v else r.val k⟩
theorem one_le {r:Env}{m:Nat}{v:Value} (h:r.blk m=none∧r.val m=none):r.Le (r.one m v):=⟨fun _ _ h=>h,fun _ _ _=>rfl,fun k u hk=>by
 show(if k=m then _ else _)=_
 split
 · rename_i q;subst q;rw [h.2] at hk;cases hk
 · exact hk⟩
theorem m7 {r:Env}{m c c1:Nat}{v:Value} (h1:c≤m) (h2:m < c1):fI r (r.one m v) c c1:=⟨fun _ h=> .inl h,fun x h=>by
 by_cases q:x=m
 · subst q;exact .inr ⟨h1,h2⟩
 · have e:(r.one m v).val x=r.val x:=if_neg q
   rw [e] at h;exact .inl h⟩
theorem Gh {cm cm' z m nT p j nn:Nat}{H H':Heap}{T:List Value}{e:TypeId}{Ls:List aG}{v:Value} (h1:cm≤m) (h2:m < cm') (hz:H.get z=some (.sem (ad Ls))) (hj:Ls[j]? =some (ie P e v nn)) (hzm:z≠m)
  (hH:∀k x,H'.get k=some x→(k=z∧x= .sem (ad (Ls.set j aG.emp)))∨(k=m∧x= .bag e nn)∨(k=nT∧k≠z∧k≠m∧∃l t,H.get nT=some (.cells l t)∧l[p]? =some (gy v)∧x= .cells (l.set p (.chan (some m))) t)∨(k≠z∧k≠m∧H.get k=some x)):
  Conv P (I:=Unit) cm cm' H T (fun _=>H') (fun _=>T):=by
 classical
 refine⟨fun r ow w hs hf=> ?_⟩
 have hm:=hf m h1 h2
 obtain⟨hjl,hje⟩:=List.getElem?_eq_some_iff.1 hj
 obtain⟨S1,S2,a1,a2,a3,a4,a5⟩:=oD (k:=j) hjl (hs.chunk z _ hz)
 rw [hje] at a4
 have hv:=E4 a4
 let ow':Nat→Option Nat:=fun b=>if S1 b then some m else ow b
 have hle:r.Le (r.one m v):=one_le hm
 have hne:∀b k,ow b=some k→k≠z→¬S1 b:=fun b k hb hk hS=>by rw [a1 b hS] at hb;exact hk (Option.some.inj hb).symm
 refine⟨(),r.one m v,ow',hle,⟨fun k x hx=> ?_,fun b k hb=> ?_,fun b k hb=> ?_⟩,m7 h1 h2,fun b k hb=> ?_,fun b hb=> ?_,fun us h=>h.mono hle⟩
 · rcases hH k x hx with⟨rfl,rfl⟩|⟨rfl,rfl⟩|⟨rfl,hkz,hkm,l,t,q1,q2,rfl⟩|⟨hkz,hkm,hk⟩
   · show(ad (Ls.set j aG.emp)).holds w _
     refine qu hjl ⟨fun _=>False,S2,fun b h=>h.elim,fun b h=> ?_,fun b h _=>h.elim,trivial,a5⟩
     show(if S1 b then some m else ow b)=some k
     rw [if_neg (fun hS=>a3 b hS h)];exact a2 b h
   · obtain⟨a,l,c,b1,b2,b3⟩:=a4
     refine⟨a,l,c,?_,b2,b3.imp id fun⟨b,cs,q1,q2,q3⟩=>⟨b,cs,q1,?_,q3⟩⟩
     · show(if k=k then _ else _)=_
       rw [if_pos rfl,b1]
     · show(if S1 b then some k else ow b)=some k
       rw [if_pos q2]
   · obtain⟨b,cs,c1,c2,c3,c4,c5,c6⟩:=hs.chunk k _ q1
     obtain⟨u,d1,d2⟩:=c4.get p _ q2
     have hu:=Eb hv d2
     subst hu
     refine⟨b,cs,c1,?_,c3,?_,by rw [List.length_set];exact c5,c6⟩
     · show(if S1 b then some m else ow b)=some k
       rw [if_neg (hne b k c2 hkz)];exact c2
     · have:=(c4.mono hle).set (x:= .chan (some m)) (y:=u) (.opq (by show(if m=m then _ else _)=_;rw [if_pos rfl])) p
       rw [List.length_set]
       have e2:(cs.toList.take l.length).set p u=cs.toList.take l.length:=by
        apply List.ext_getElem?
        intro i
        rw [List.getElem?_set]
        split
        · rename_i q;subst q
          split
          · exact d1.symm
          · rename_i q;rw [List.getElem?_eq_none (by omega)] at d1;cases d1
        · rfl
       rw [e2] at this;exact this
   · refine Chunk.cR (w:=w) (ow:=ow) (fun b hb=>rfl) (fun b=> ?_) (Chunk.dX hle (hs.chunk k x hk))
     show(if S1 b then some m else ow b)=some k ↔ ow b=some k
     by_cases q:S1 b
     · rw [if_pos q,a1 b q]
       exact⟨fun e=>absurd (Option.some.inj e).symm hkm,fun e=>absurd (Option.some.inj e).symm hkz⟩
     · rw [if_neg q]
 · change (if S1 b then some m else ow b)=some k at hb
   by_cases q:S1 b
   · exact hs.bound b _ (a1 b q)
   · rw [if_neg q] at hb;exact hs.bound b k hb
 · change (if S1 b then some m else ow b)=some k at hb
   by_cases q:S1 b
   · rw [if_pos q] at hb;cases hb
     exact .inr (by show(if m=m then _ else _)≠_;rw [if_pos rfl];simp)
   · rw [if_neg q] at hb
     rcases hs.known b k hb with e|e
     · exact .inl e
     · refine .inr ?_
       show(if k=m then _ else _)≠_
       split
       · simp
       · exact e
 · change (if S1 b then some m else ow b)=some k at hb
   by_cases q:S1 b
   · rw [if_pos q] at hb;cases hb;exact .inr ⟨h1,h2⟩
   · rw [if_neg q] at hb;exact .inl ⟨b,hb⟩
 · show(if S1 b then some m else ow b)=none
   rw [if_neg (fun q=>by rw [a1 b q] at hb;cases hb)];exact hb
theorem Er {cm cm' z z2 m nT p j nn:Nat}{H:Heap}{H':Value→Heap}{T:List Value}{e:TypeId}{Ls:List aG} (h1:cm≤z2) (h2:z2 < cm') (hz:H.get z=some (.sem (ad Ls))) (hj:j < Ls.length) (hb:H.get m=some (.bag e nn)) (hzm:z≠m)
  (hH:∀v k x,(H' v).get k=some x→(k=z2∧x= .sem (ad (Ls.set j (ie P e v nn))))∨(k=nT∧k≠z∧k≠z2∧k≠m∧∃l t,H.get nT=some (.cells l t)∧l[p]? =some (.chan (some m))∧x= .cells (l.set p (gy v)) t)∨(k≠z∧k≠z2∧k≠m∧H.get k=some x)):
  Conv P (I:= {v // lE v nn}) cm cm' H T (fun v=>H' v.1) (fun _=>T):=by
 classical
 refine⟨fun r ow w hs hf=> ?_⟩
 have hm:=hf z2 h1 h2
 obtain⟨a,l0,c0,b1,b2,b3⟩:=hs.chunk m _ hb
 obtain⟨S1,S2,a1,a2,a3,a4,a5⟩:=oD (k:=j) hj (hs.chunk z _ hz)
 let v:Value:= .slice a l0 c0
 have hv:lE v nn:=⟨a,l0,c0,rfl,b2,b3.imp id fun⟨b,cs,q1,q2,q3,q4,q5,q6⟩=>⟨b,q1,q5,q6⟩⟩
 let ow':Nat→Option Nat:=fun b=>if ow b=some m∨ow b=some z then some z2 else ow b
 have hle:r.Le (r.one z2 .nilIface):=one_le hm
 refine⟨⟨v,hv⟩,r.one z2 .nilIface,ow',hle,⟨fun k x hx=> ?_,fun b k hb=> ?_,fun b k hb=> ?_⟩,m7 h1 h2,fun b k hb=> ?_,fun b hb=> ?_,fun us h=>h.mono hle⟩
 · rcases hH v k x hx with⟨rfl,rfl⟩|⟨rfl,hkz,hkz2,hkm,l,t,q1,q2,rfl⟩|⟨hkz,hkz2,hkm,hk⟩
   · show(ad (Ls.set j (ie P e v nn))).holds w _
     refine qu hj ⟨fun b=>ow b=some m,S2,fun b h=> ?_,fun b h=> ?_,fun b h h'=> ?_,?_,a5⟩
     · show(if _ then _ else _)=_;rw [if_pos (.inl h)]
     · show(if _ then _ else _)=_;rw [if_pos (.inr (a2 b h))]
     · have h2':=a2 b h'
       change ow b=some m at h
       change ow b=some z at h2'
       rw [h2'] at h;exact hzm (Option.some.inj h)
     · exact⟨a,l0,c0,rfl,b2,b3⟩
   · obtain⟨b,cs,c1,c2,c3,c4,c5,c6⟩:=hs.chunk k _ q1
     obtain⟨u,d1,d2⟩:=c4.get p _ q2
     have hu:u=v:=by cases d2 with|opq h=>rw [b1] at h;exact(Option.some.inj h).symm
     subst hu
     refine⟨b,cs,c1,?_,c3,?_,by rw [List.length_set];exact c5,c6⟩
     · show(if _ then _ else _)=_
       rw [if_neg (by rw [c2];rintro (e|e) <;> cases e <;> first|exact hkm rfl|exact hkz rfl)];exact c2
     · have:=(c4.mono hle).set (x:=gy v) (y:=v) (Hr hv) p
       rw [List.length_set]
       have e2:(cs.toList.take l.length).set p v=cs.toList.take l.length:=by
        apply List.ext_getElem?
        intro i
        rw [List.getElem?_set]
        split
        · rename_i q;subst q
          split
          · exact d1.symm
          · rename_i q;rw [List.getElem?_eq_none (by omega)] at d1;cases d1
        · rfl
       rw [e2] at this;exact this
   · refine Chunk.cR (w:=w) (ow:=ow) (fun b hb=>rfl) (fun b=> ?_) (Chunk.dX hle (hs.chunk k x hk))
     show(if ow b=some m∨ow b=some z then some z2 else ow b)=some k ↔ ow b=some k
     by_cases q:ow b=some m∨ow b=some z
     · rw [if_pos q]
       refine⟨fun e=>absurd (Option.some.inj e).symm hkz2,fun e=> ?_⟩
       rcases q with q|q <;> rw [q] at e <;> cases e
       · exact absurd rfl hkm
       · exact absurd rfl hkz
     · rw [if_neg q]
 · change (if ow b=some m∨ow b=some z then some z2 else ow b)=some k at hb
   by_cases q:ow b=some m∨ow b=some z
   · rcases q with q|q <;> exact hs.bound b _ q
   · rw [if_neg q] at hb;exact hs.bound b k hb
 · change (if ow b=some m∨ow b=some z then some z2 else ow b)=some k at hb
   by_cases q:ow b=some m∨ow b=some z
   · rw [if_pos q] at hb;cases hb
     exact .inr (by show(if z2=z2 then _ else _)≠_;rw [if_pos rfl];simp)
   · rw [if_neg q] at hb
     rcases hs.known b k hb with e|e
     · exact .inl e
     · refine .inr ?_
       show(if k=z2 then _ else _)≠_
       split
       · simp
       · exact e
 · change (if ow b=some m∨ow b=some z then some z2 else ow b)=some k at hb
   by_cases q:ow b=some m∨ow b=some z
   · rw [if_pos q] at hb;cases hb;exact .inr ⟨h1,h2⟩
   · rw [if_neg q] at hb;exact .inl ⟨b,hb⟩
 · show(if _ then _ else _)=_
   rw [if_neg (by rw [hb];simp)];exact hb
end
section
variable {P:Program}{I J:Type}
theorem je {c0 cm cm' c1:Nat}{h0 H:Heap}{h1:I→Heap}{H':J→Heap}{code:Code}{T:List Value}{T':J→List Value}{e:bU}{Tf:I→List Value} (hc:cm≤cm') (hc1:cm'≤c1)
  (hv:Conv P cm cm' H T H' T') (hm:∀j,jb P c0 h0 cm' (H' j) c1 h1 code (T' j) e Tf):jb P c0 h0 cm H c1 h1 code T e Tf:=by
 intro r0 ow0 w0 r ow w hf hpo hfr a ha hd
 obtain⟨i,r',ow',hle,hsat,hnew,hown,hkeep,hT⟩:=hv.conv r ow w hpo.sat (hfr.sub (Nat.le_refl _) hc1)
 have hq:aN P r ow w (bb cm H) r' ow' w (bb cm' (H' i)):=⟨hle,hsat,⟨rfl,rfl,rfl,Nat.le_refl _,fun b _ ho=>⟨hkeep b ho,rfl⟩⟩,hnew,hc,hown⟩
 exact hm i r0 ow0 w0 r' ow' w hf (hpo.trans hq) (iT hfr hnew hc (Nat.le_refl _)) a (hT _ ha) hd
theorem p8 {ρ:J→Names}{c0 cm cn c1 c2 c3:Nat}{h0 hm h2:Heap}{h1:I→Heap}{H' hm':J→Heap}{code:Code}{T T2:List Value}{Tf:I→List Value}{T' T'':J→List Value}{e:bU} (hρ:∀i,(ρ i).ok c0 cn=true) (h0m:c0≤cn) (hm1:cn≤c1) (h23:c2≤c3) (h31:c3≤c1)
  (hb:ab P cm hm c2 h2 (.code code T) (.out .normal T2)) (hv:Conv P c2 c3 h2 T2 H' T') (R:∀i,jJ (ρ i) c0 c1 (H' i) (T' i) (hm' i) (T'' i)) (hn:∀i,jb P c0 h0 cn (hm' i) c1 h1 code (T'' i) e Tf):jb P c0 h0 cm hm c1 h1 code T e Tf:=by
 intro r0 ow0 w0 r ow w hf hp hfr a ha hd
 refine eR (wp_mono (hb.2 r ow w hp.sat (hfr.sub (Nat.le_refl _) (Nat.le_trans h23 h31)) a ha hd) ?_)
 intro e' a' w' ⟨hex,hd',r',ow',hp',ha'⟩
 cases e' <;> simp only [cO] at hex
 obtain⟨i,r3,ow3,hle,hsat,hnew,hown,hkeep,hT⟩:=hv.conv r' ow' w' hp'.sat (iT hfr hp'.new hb.1 h31)
 have hq3:aN P r' ow' w' (bb c2 h2) r3 ow3 w' (bb c3 (H' i)):=⟨hle,hsat,⟨rfl,rfl,rfl,Nat.le_refl _,fun b _ ho=>⟨hkeep b ho,rfl⟩⟩,hnew,h23,hown⟩
 obtain⟨hq,hf'⟩:=((hp.trans hp').trans hq3).bC (hρ i) h0m hm1 h31 hf (R i).heap
 exact hn i r0 ow0 w0 _ _ w' hf hq hf' a' ((R i).tmps _ _ _ (fun n m h=>jc (hρ i) hm1 r3 h) (hT _ ha')) hd'
theorem B3 {K:Type}{ρ:J→Names}{c0 cm cn c1 c2:Nat}{h0 hm:Heap}{h2 hm':J→Heap}{h1:K→Heap}{code:Code}{T:List Value}{T2 T'':J→List Value}{Tf:K→List Value}{e:bU} (hρ:∀i,(ρ i).ok c0 cn=true) (h0m:c0≤cn) (hm1:cn≤c1) (h21:c2≤c1)
  (hb:dh P cm hm c2 h2 code T .normal T2) (R:∀i,jJ (ρ i) c0 c1 (h2 i) (T2 i) (hm' i) (T'' i)) (hn:∀i,jb P c0 h0 cn (hm' i) c1 h1 code (T'' i) e Tf):jb P c0 h0 cm hm c1 h1 code T e Tf:=by
 intro r0 ow0 w0 r ow w hf hp hfr a ha hd
 refine eR (wp_mono (hb.2 r ow w hp.sat (hfr.sub (Nat.le_refl _) h21) a ha hd) ?_)
 intro e' a' w' ⟨i,hex,hd',r',ow',hp',ha'⟩
 cases e' <;> simp only [cO] at hex
 obtain⟨hq,hf'⟩:=(hp.trans hp').bC (hρ i) h0m hm1 h21 hf (R i).heap
 exact hn i r0 ow0 w0 _ _ w' hf hq hf' a' ((R i).tmps _ _ _ (fun n m h=>jc (hρ i) hm1 r' h) ha') hd'
theorem p9 {ρ:Names}{c0 cm c1 c2:Nat}{h0 hm h2:Heap}{h1:I→Heap}{code:Code}{T T2:List Value}{Tf:I→List Value}{e:bU} (i:I) (he:e≠ .normal) (hρ:ρ.ok c0 c1=true) (h0m:c0≤cm) (h21:c2≤c1)
  (hb:ab P cm hm c2 h2 (.code code T) (.out e T2)) (R:jJ ρ c0 c1 h2 T2 (h1 i) (Tf i)):jb P c0 h0 cm hm c1 h1 code T e Tf:=
 Mid.x i (mid_end he hρ h0m h21 hb R)
theorem eE {c0 c1 c3:Nat}{h0 h1:Heap}{h3:I→Heap}{a b:Code}{T T1:List Value}{T3:I→List Value}{e:bU} (ha:ab P c0 h0 c1 h1 (.code a T) (.out .normal T1)) (hb:dh P c1 h1 c3 h3 b T1 e T3):dh P c0 h0 c3 h3 (.seq a b) T e T3:=by
 refine⟨Nat.le_trans ha.1 hb.1,fun r ow w hs hf x hx hd=> ?_⟩
 refine wp_seq (wp_mono (ha.2 r ow w hs (hf.sub (Nat.le_refl _) hb.1) x hx hd) ?_)
 intro e' a' w' ⟨hex,hd',r',ow',hp,ha'⟩
 cases e' <;> simp only [cO] at hex
 refine wp_mono (hb.2 r' ow' w' hp.sat (hf.after hp.new ha.1) a' ha' hd') ?_
 intro e2 a2 w2 ⟨i,q1,q2,r4,o4,q3,q4⟩
 exact⟨i,q1,q2,r4,o4,hp.trans q3,q4⟩
theorem lM {c0 c1 c3:Nat}{h0:Heap}{h1 h3:I→Heap}{a b:Code}{T:List Value}{T1 T3:I→List Value}{e:bU} (ha:dh P c0 h0 c1 h1 a T .normal T1) (hc:c1≤c3) (hb:∀i,ab P c1 (h1 i) c3 (h3 i) (.code b (T1 i)) (.out e (T3 i))):dh P c0 h0 c3 h3 (.seq a b) T e T3:=by
 refine⟨Nat.le_trans ha.1 hc,fun r ow w hs hf x hx hd=> ?_⟩
 refine wp_seq (wp_mono (ha.2 r ow w hs (hf.sub (Nat.le_refl _) hc) x hx hd) ?_)
 intro e' a' w' ⟨i,hex,hd',r',ow',hp,ha'⟩
 cases e' <;> simp only [cO] at hex
 refine wp_mono ((hb i).2 r' ow' w' hp.sat (hf.after hp.new ha.1) a' ha' hd') ?_
 intro e2 a2 w2 ⟨q1,q2,r4,o4,q3,q4⟩
 exact⟨i,q1,q2,r4,o4,hp.trans q3,q4⟩
theorem tN {c0 c1 id:Nat}{h0:Heap}{h1:I→Heap}{a:Code}{T:List Value}{T1:I→List Value} (ha:dh P c0 h0 c1 h1 a T (.exit id) T1):dh P c0 h0 c1 h1 (.block id a) T .normal T1:=by
 refine⟨ha.1,fun r ow w hs hf x hx hd=> ?_⟩
 refine wp_block (wp_mono (ha.2 r ow w hs hf x hx hd) ?_)
 intro e' a' w' ⟨i,hex,hq⟩
 cases e' <;> simp only [cO] at hex
 subst hex
 simp only [Exit.inBlock,if_true]
 exact⟨i,trivial,hq⟩
theorem dh.one {c0 c1:Nat}{h0 h1:Heap}{H:I→Heap}{k:Code}{T T1:List Value}{Tf:I→List Value}{e:bU} (h:dh P c0 h0 c1 H k T e Tf) (hH:∀i n x,h1.get n=some x→(H i).get n=some x) (hT:∀i,Tf i=T1):ab P c0 h0 c1 h1 (.code k T) (.out e T1):=
 ⟨h.1,fun r ow w hs hf a ha hd=>wp_mono (h.2 r ow w hs hf a ha hd) fun _ _ _ ⟨i,hex,hd',r',ow',hp,ha'⟩=>⟨hex,hd',r',ow',⟨hp.le,hp.sat.less (hH i),hp.frame,hp.new,hp.mono,hp.own⟩,by rw [←hT i];exact ha'⟩⟩
theorem uY {c0 c1 c2:Nat}{h0:Heap}{H':J→Heap}{h1:I→Heap}{k:Code}{T:List Value}{T':J→List Value}{Tf:I→List Value}{e:bU} (h12:c0≤c1) (hc:c1≤c2) (hv:Conv P c0 c1 h0 T H' T') (h:∀j,dh P c1 (H' j) c2 h1 k (T' j) e Tf):dh P c0 h0 c2 h1 k T e Tf:=by
 refine⟨Nat.le_trans h12 hc,fun r ow w hs hf a ha hd=> ?_⟩
 obtain⟨i,r',ow',hle,hsat,hnew,hown,hkeep,hT⟩:=hv.conv r ow w hs (hf.sub (Nat.le_refl _) hc)
 have hq:aN P r ow w (bb c0 h0) r' ow' w (bb c1 (H' i)):=⟨hle,hsat,⟨rfl,rfl,rfl,Nat.le_refl _,fun b _ ho=>⟨hkeep b ho,rfl⟩⟩,hnew,h12,hown⟩
 refine wp_mono ((h i).2 r' ow' w hsat (iT hf hnew h12 (Nat.le_refl _)) a (hT _ ha) hd) ?_
 intro e' a' w' ⟨j,q1,q2,r3,o3,q3,q4⟩
 exact⟨j,q1,q2,r3,o3,hq.trans q3,q4⟩
theorem lX {w:World}{x y:aG} (hxy:∀S,x.holds w S→y.holds w S):∀ {Ls:List aG}{j:Nat}{S:Nat→Prop},(ad (Ls.set j x)).holds w S→(ad (Ls.set j y)).holds w S
 | [],_,_,h=>h
 |_::_,0,_,⟨S1,S2,h1,h2,h3,h4,h5⟩=>⟨S1,S2,h1,h2,h3,hxy _ h4,h5⟩
 |_::_,_+1,_,⟨S1,S2,h1,h2,h3,h4,h5⟩=>⟨S1,S2,h1,h2,h3,h4,lX hxy h5⟩
theorem AQ {cm cm' z z2 m nT p j nn:Nat}{H:Heap}{H':Value→Heap}{T:List Value}{e:TypeId}{Ls:List aG}{Y:Value→aG} (hY:∀v w S,(ie P e v nn).holds w S→(Y v).holds w S) (h1:cm≤z2) (h2:z2 < cm') (hz:H.get z=some (.sem (ad Ls))) (hj:j < Ls.length) (hb:H.get m=some (.bag e nn)) (hzm:z≠m)
  (hH:∀v k x,(H' v).get k=some x→(k=z2∧x= .sem (ad (Ls.set j (Y v))))∨(k=nT∧k≠z∧k≠z2∧k≠m∧∃l t,H.get nT=some (.cells l t)∧l[p]? =some (.chan (some m))∧x= .cells (l.set p (gy v)) t)∨(k≠z∧k≠z2∧k≠m∧H.get k=some x)):
  Conv P (I:= {v // lE v nn}) cm cm' H T (fun v=>H' v.1) (fun _=>T):=by
 classical
 let G:Value→Heap:=fun v=>(z2,.sem (ad (Ls.set j (ie P e v nn))))::(H' v).del z2
 have hG:∀v k,k≠z2→(G v).get k=(H' v).get k:=fun v k hk=>by
  show Heap.get ((z2,_)::(H' v).del z2) k=_
  simp only [Heap.get,cj,Ne.symm hk,decide_false,Bool.false_eq_true,if_false]
  rw [Heap.lx,if_neg hk]
 have hc:=Er (P:=P) (cm:=cm) (cm':=cm') (z:=z) (z2:=z2) (m:=m) (nT:=nT) (p:=p) (j:=j) (nn:=nn) (H:=H) (H':=G) (T:=T) (e:=e) (Ls:=Ls) h1 h2 hz hj hb hzm fun v k x hx=>by
  by_cases hk:k=z2
  · subst hk
    have:(G v).get k=some (.sem (ad (Ls.set j (ie P e v nn)))):=by
     show Heap.get ((k,_)::(H' v).del k) k=_
     simp [Heap.get,cj]
    rw [this] at hx;cases hx
    exact .inl ⟨rfl,rfl⟩
  · rw [hG v k hk] at hx
    rcases hH v k x hx with⟨q,_⟩|q|q
    · exact absurd q hk
    · exact .inr (.inl q)
    · exact .inr (.inr q)
 refine⟨fun r ow w hs hf=> ?_⟩
 obtain⟨v,r',ow',a1,a2,a3,a4,a5,a6⟩:=hc.conv r ow w hs hf
 refine⟨v,r',ow',a1,⟨fun k x hx=> ?_,a2.bound,a2.known⟩,a3,a4,a5,a6⟩
 by_cases hk:k=z2
 · rcases hH v.1 k x hx with⟨_,rfl⟩|⟨_,_,q,_⟩|⟨_,q,_⟩
   · have h0:=a2.chunk z2 (.sem (ad (Ls.set j (ie P e v.1 nn)))) (by
      show Heap.get ((z2,_)::(H' v.1).del z2) z2=_
      simp [Heap.get,cj])
     subst hk
     exact lX (hY v.1 w) h0
   · exact absurd hk q
   · exact absurd hk q
 · exact a2.chunk k x (by show(G v.1).get k=_;rw [hG v.1 k hk];exact hx)
end
end Go.Sx

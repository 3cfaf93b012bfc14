/- TxnNothing: the symbolic executor. No condition. -/
import Derived.Laws.Sem
import Derived.Test.YtalanookmohdeaaGreatDoorM3
namespace Go.Sx
section
variable {P:Program}
theorem wq {rec:Rec} (hl:pS rec) {ops:List Oper}:∀(l:List Oper) (T T':List Value) (F:List iB) (d:bj) (s s':St),nB P rec ops l T d s=some ((T',F),s')→
  ∃f:Nat→List Value×St,f 0=(T,s)∧(f l.length).1=T'∧((f l.length).2=s')∧F.length=l.length∧(∀i o,l[i]? =some o→∃v t,fz P rec ops (f i).1 o d ⟨(f i).2.c,(f i).2.k,(f i).2.h,[],[],(f i).2.V⟩=some (v,t)∧
   (f (i+1)).1=jj (f i).1 o.dst v∧(f (i+1)).2.c=t.c∧(f (i+1)).2.h=t.h∧(f (i+1)).2.V=t.V∧F[i]? =some ⟨looks ops o,o.dst.toList,t.R,t.W⟩)
 | [],T,T',F,d,s,s',h=>by
  obtain⟨h1,rfl⟩:=au (d:=d) h
  cases h1
  exact⟨fun _=>(T,s),rfl,rfl,rfl,rfl,fun i o hi=>by simp at hi⟩
 |o::l,T,T',F,d,s,s',h=>by
  obtain⟨⟨v,R,W⟩,s1,h1,h2⟩:=bind_some (d:=d) h
  obtain⟨⟨T2,F2⟩,s2,h3,h4⟩:=bind_some h2
  obtain⟨h5,rfl⟩:=au h4
  simp only [Prod.mk.injEq] at h5
  obtain⟨rfl,rfl⟩:=h5
  unfold ou at h1
  cases e:fz P rec ops T o d { s with R:= [],W:= []} with
  |none=>simp [e] at h1
  |some p=>
   obtain⟨v',t⟩:=p
   simp only [e,Option.some.injEq,Prod.mk.injEq] at h1
   obtain⟨⟨rfl,rfl,rfl⟩,rfl⟩:=h1
   obtain⟨f,f0,f1,f2,f3,f4⟩:=wq hl l _ _ _ d _ _ h3
   refine⟨fun|0=>(T,s)|i+1=>f i,rfl,f1,f2,by simp [f3],fun i o' hi=> ?_⟩
   cases i with
   |zero=>
    simp at hi;subst hi
    exact⟨v',t,e,by simp [f0],by simp [f0],by simp [f0],by simp [f0],rfl⟩
   |succ i=>
    obtain⟨v2,t2,g⟩:=f4 i o' (by simpa using hi)
    exact⟨v2,t2,by simpa using g⟩
def oY (L:Nat→Bool):Nat→Nat
 |0=>0
 |k+1=>oY L k+(if L k then 0 else 1)
theorem wV {L M:Nat→Bool}:∀ {k:Nat},(∀i,i < k→L i=M i)→oY L k=oY M k
 |0,_=>rfl
 |k+1,h=>by simp only [oY];rw [wV fun i hi=>h i (by omega),h k (by omega)]
theorem CI {L M:Nat→Bool}{q:Nat} (hq:L q=false) (hM:M q=true) (ho:∀i,i≠q→M i=L i):∀ {k:Nat},q < k→oY M k+1=oY L k
 |0,h=>by omega
 |k+1,h=>by
  simp only [oY]
  by_cases e:q=k
  · subst e
    have:oY M q=oY L q:=wV fun i hi=>ho i (by omega)
    simp [this,hq,hM]
  · have:=CI hq hM ho (k:=k) (by omega)
    rw [ho k (Ne.symm e)]
    omega
theorem yH {L:Nat→Bool}:∀ {k:Nat},oY L k=0→∀i,i < k→L i=true
 |0,_,i,hi=>by omega
 |k+1,h,i,hi=>by
  simp only [oY] at h
  by_cases e:i=k
  · subst e;cases hL:L i with
    |true=>rfl
    |false=>simp [hL] at h
  · exact yH (k:=k) (by omega) i (by omega)
theorem LV {rec:Rec} (hr:lT P rec) {ops:Array Oper}{T T':List Value}{d:bj}{s s':St} (h:tD P rec ops.toList T d s=some (T',s')):
  (aW s'.V→aW s.V)∧(aW s'.V→∀(r0:Env) (ow0:Nat→Option Nat) (w0:World) (a0:Act),Sat P r0 ow0 s.h w0→bF r0 s.c s'.c→aw r0 T a0.tmps.toList→a0.defers= []→∀(Q:Exit→Act→World→Prop),
   (∀r' ow' a' w',aN P r0 ow0 w0 s r' ow' w' s'→aw r' T' a'.tmps.toList→a'.defers= []→Q .normal a' w')→wpAny P .any ops Q ops.size (Array.replicate ops.size false) a0 w0):=by
 unfold tD at h
 obtain⟨⟨T2,F⟩,s1,h1,h2⟩:=bind_some h
 obtain⟨_,s2,h3,h4⟩:=bind_some h2
 obtain⟨hchk,rfl⟩:=b7 h3
 obtain⟨h5,rfl⟩:=au h4
 simp only at h5 hchk
 subst h5
 simp only [Bool.and_eq_true] at hchk
 obtain⟨hedge,hall⟩:=hchk
 obtain⟨f,f0,fT,fS,fF,fstep⟩:=wq hr.loc ops.toList T T2 F d s s1 h1
 have hn:ops.toList.length=ops.size:=by simp
 rw [hn] at fT fS fF
 have hgrow:∀i,i < ops.size→(f i).2.c≤(f (i+1)).2.c∧(aW (f (i+1)).2.V→aW (f i).2.V):=by
  intro i hi
  obtain⟨v,t,e1,e2,e3,e4,e5,e6⟩:=fstep i ops[i] (by simp [hi])
  have hloc:=Local.fz hr.loc ops.toList (f i).1 ops[i] d _ _ _ e1
  refine⟨by rw [e3];exact hloc.1,fun hV=> ?_⟩
  rw [e5] at hV
  exact(rN hr.mono (i:=i) (o:=ops[i]) (by simp [hi]) e1).1 hV
 have hc:∀j i,i≤j→j≤ops.size→(f i).2.c≤(f j).2.c:=by
  intro j
  induction j with
  |zero=>intro i hi _;obtain rfl:i=0:=(by omega);exact Nat.le_refl _
  |succ j ih=>
   intro i hi hj
   by_cases e:i=j+1
   · subst e;exact Nat.le_refl _
   · exact Nat.le_trans (ih i (by omega) (by omega)) (hgrow j (by omega)).1
 have hVn:∀j i,i≤j→j≤ops.size→aW (f j).2.V→aW (f i).2.V:=by
  intro j
  induction j with
  |zero=>intro i hi _ hV;obtain rfl:i=0:=(by omega);exact hV
  |succ j ih=>
   intro i hi hj hV
   by_cases e:i=j+1
   · subst e;exact hV
   · exact ih i (by omega) (by omega) ((hgrow j (by omega)).2 hV)
 have hV0:aW s1.V→aW s.V:=fun hV=>by
  have:=hVn ops.size 0 (Nat.zero_le _) (Nat.le_refl _) (by rw [fS];exact hV)
  rw [f0] at this;exact this
 refine⟨hV0,fun hV r0 ow0 w0 a0 hs0 hf0 ha0 hd0 Q hQ=> ?_⟩
 have hVi:∀i,i≤ops.size→aW (f i).2.V:=fun i hi=>hVn ops.size i hi (Nat.le_refl _) (by rw [fS];exact hV)
 have hc0:(f 0).2.c=s.c:=by rw [f0]
 have hcn:(f ops.size).2.c=s1.c:=by rw [fS]
 have hkeepN:∀i,i < ops.size→∀ft,F[i]? =some ft→∀n,n ∉ ft.W→(f (i+1)).2.h.get n=(f i).2.h.get n:=by
  intro i hi ft hft n hn'
  obtain⟨v,t,e1,e2,e3,e4,e5,e6⟩:=fstep i ops[i] (by simp [hi])
  rw [e6] at hft;cases hft
  obtain⟨_,R,W,V,q1,q2,q3,q4,q5⟩:=Local.fz hr.loc ops.toList (f i).1 ops[i] d _ _ _ e1
  simp only [List.append_nil] at q2
  rw [e4]
  exact q4 n (by rw [←q2];exact hn')
 have hkeepT:∀i,i < ops.size→∀ft,F[i]? =some ft→∀t,t ∉ ft.tw→(f (i+1)).1.getD t undef=(f i).1.getD t undef:=by
  intro i hi ft hft t ht
  obtain⟨v,tt,e1,e2,e3,e4,e5,e6⟩:=fstep i ops[i] (by simp [hi])
  rw [e6] at hft;cases hft
  rw [e2]
  cases hd:ops[i].dst with
  |none=>rfl
  |some dd=>
   simp only [hd,Option.toList_some,List.mem_singleton] at ht
   simp [jj,List.getD,List.getElem?_set_ne (Ne.symm ht)]
 have hlenT:∀i,i≤ops.size→(f i).1.length=T.length:=by
  intro i
  induction i with
  |zero=>intro _;rw [f0]
  |succ i ih=>
   intro hi
   obtain⟨v,tt,e1,e2,e3,e4,e5,e6⟩:=fstep i ops[i] (by simp [show i < ops.size by omega])
   rw [e2,←ih (by omega)]
   cases ops[i].dst <;> simp [jj]
 have hFi:∀i,i < ops.size→∃ft,F[i]? =some ft:=fun i hi=>⟨F[i],by simp [fF,hi]⟩
 have hbetN:∀n b a,a≤b→b≤ops.size→(∀j ft,a≤j→j < b→F[j]? =some ft→n ∉ ft.W)→(f b).2.h.get n=(f a).2.h.get n:=by
  intro n b
  induction b with
  |zero=>intro a ha _ _;obtain rfl:a=0:=(by omega);rfl
  |succ b ih=>
   intro a ha hb hw
   by_cases e:a=b+1
   · subst e;rfl
   · obtain⟨ft,hft⟩:=hFi b (by omega)
     rw [hkeepN b (by omega) ft hft n (hw b ft (by omega) (by omega) hft)]
     exact ih a (by omega) (by omega) fun j ft' h1 h2 h3=>hw j ft' h1 (by omega) h3
 have hbetT:∀t b a,a≤b→b≤ops.size→(∀j ft,a≤j→j < b→F[j]? =some ft→t ∉ ft.tw)→(f b).1.getD t undef=(f a).1.getD t undef:=by
  intro t b
  induction b with
  |zero=>intro a ha _ _;obtain rfl:a=0:=(by omega);rfl
  |succ b ih=>
   intro a ha hb hw
   by_cases e:a=b+1
   · subst e;rfl
   · obtain⟨ft,hft⟩:=hFi b (by omega)
     rw [hkeepT b (by omega) ft hft t (hw b ft (by omega) (by omega) hft)]
     exact ih a (by omega) (by omega) fun j ft' h1 h2 h3=>hw j ft' h1 (by omega) h3
 have main:∀(fuel:Nat) (listed:Array Bool) (r:Env) (ow:Nat→Option Nat) (hT:Heap) (TT:List Value) (a:Act) (w:World),
   listed.size=ops.size→(∀j,j < ops.size→listed.getD j false=true→jL (fun k=>listed.getD k false) (ops.toList.getD j default))→
   (∀t p,p≤ops.size→(∀j ft,F[j]? =some ft→t∈ft.tw→(listed.getD j false=true ↔ j < p))→TT.getD t undef=(f p).1.getD t undef)→TT.length=T.length→
   (∀n p,p≤ops.size→(∀j ft,F[j]? =some ft→n∈ft.W→(listed.getD j false=true ↔ j < p))→hT.get n=(f p).2.h.get n)→
   (∀m,(r.blk m≠none∨r.val m≠none)→(r0.blk m≠none∨r0.val m≠none)∨∃j,j < ops.size∧listed.getD j false=true∧(f j).2.c≤m∧m < (f (j+1)).2.c)→
   Sat P r ow hT w→aw r TT a.tmps.toList→a.defers= []→r0.Le r→fI r0 r s.c s1.c→Frame ow0 w0 ow w→(∀b n,ow b=some n→(∃b',ow0 b'=some n)∨(s.c≤n∧n < s1.c))→
   oY (fun k=>listed.getD k false) ops.size≤fuel→wpAny P .any ops Q fuel listed a w:=by
  have fin:∀(listed:Array Bool) (r:Env) (ow:Nat→Option Nat) (hT:Heap) (TT:List Value) (a:Act) (w:World),
    (∀j,j < ops.size→listed.getD j false=true)→
    (∀t p,p≤ops.size→(∀j ft,F[j]? =some ft→t∈ft.tw→(listed.getD j false=true ↔ j < p))→TT.getD t undef=(f p).1.getD t undef)→TT.length=T.length→
    (∀n p,p≤ops.size→(∀j ft,F[j]? =some ft→n∈ft.W→(listed.getD j false=true ↔ j < p))→hT.get n=(f p).2.h.get n)→
    Sat P r ow hT w→aw r TT a.tmps.toList→a.defers= []→r0.Le r→fI r0 r s.c s1.c→Frame ow0 w0 ow w→(∀b n,ow b=some n→(∃b',ow0 b'=some n)∨(s.c≤n∧n < s1.c))→Q .normal a w:=by
   intro listed r ow hT TT a w hall' hT1 hTl hN1 hs ha hd hle hnew hfr hown
   have hjl:∀j (ft:iB),F[j]? =some ft→(listed.getD j false=true ↔ j < ops.size):=fun j ft hft=>by
    have:j < ops.size:=by rw [←fF];exact(List.getElem?_eq_some_iff.1 hft).1
    exact⟨fun _=>this,fun _=>hall' j this⟩
   have e1:TT=T2:=by
    apply List.ext_getElem?
    intro k
    have h7:=hT1 k ops.size (Nat.le_refl _) (fun j ft hft _=>hjl j ft hft)
    rw [fT] at h7
    have hl2:TT.length=T2.length:=by rw [hTl,←hlenT ops.size (Nat.le_refl _),fT]
    rw [List.getD_eq_getElem?_getD,List.getD_eq_getElem?_getD] at h7
    by_cases hk:k < TT.length
    · have hk2:k < T2.length:=by omega
      rw [List.getElem?_eq_getElem hk,List.getElem?_eq_getElem hk2] at h7 ⊢
      simpa using h7
    · rw [List.getElem?_eq_none (by omega),List.getElem?_eq_none (by omega)]
   subst e1
   have hget:∀n,s1.h.get n=hT.get n:=fun n=>by
    have h7:=hN1 n ops.size (Nat.le_refl _) (fun j ft hft _=>hjl j ft hft)
    rw [fS] at h7;exact h7.symm
   refine hQ r ow a w ⟨hle,hs.get_eq hget,hfr,hnew,?_,hown⟩ ha hd
   have:=hc ops.size 0 (Nat.zero_le _) (Nat.le_refl _)
   rw [hc0,hcn] at this;exact this
  intro fuel
  induction fuel with
  |zero=>
   intro listed r ow hT TT a w hsz hcl hT1 hTl hN1 hrn hs ha hd hle hnew hfr hown hfu
   have hall':=yH (Nat.le_zero.1 hfu)
   refine⟨?_,fin listed r ow hT TT a w hall' hT1 hTl hN1 hs ha hd hle hnew hfr hown⟩
   unfold Region.ready
   rw [List.filter_eq_nil_iff]
   intro i hi
   have hi':i < ops.size:=List.mem_range.1 hi
   have:listed.getD i true=true:=by
    have h7:=hall' i hi'
    simp only [Array.getD_eq_getD_getElem?] at h7 ⊢
    rw [Array.getElem?_eq_getElem (by omega)] at h7 ⊢
    simpa using h7
   simp [this]
  |succ fuel ih=>
   intro listed r ow hT TT a w hsz hcl hT1 hTl hN1 hrn hs ha hd hle hnew hfr hown hfu
   have hgd:∀i,i < ops.size→listed.getD i true=listed.getD i false:=fun i hi=>by
    simp only [Array.getD_eq_getD_getElem?]
    rw [Array.getElem?_eq_getElem (by omega)];rfl
   refine⟨fun hnil=> ?_,fun i hi=> ?_⟩
   ·
     have hall':∀j,j < ops.size→listed.getD j false=true:=by
      intro j
      induction j using Nat.strongRecOn with
      |_ j ihj=>
       intro hj
       cases hL:listed.getD j false with
       |true=>rfl
       |false=>
        exfalso
        have hmem:j∈Region.ready .any ops listed:=by
         unfold Region.ready
         rw [List.mem_filter]
         refine⟨List.mem_range.2 hj,?_⟩
         have hoj:ops[j]? =some ops[j]:=by simp [hj]
         simp only [hgd j hj,hL,Bool.not_false,Bool.true_and,hoj,Option.map_some,Option.getD_some]
         rw [Array.all_eq_true]
         intro q hq
         cases hb:Region.binds .any (ops[j].after[q]) with
         |false=>simp
         |true=>
          simp only [Bool.not_true,Bool.false_or]
          have hback:∀(l:List Oper) (k:Nat),nf k l=true→∀(i:Nat) (o:Oper),l[i]? =some o→∀e∈o.after.toList,Region.binds .any e=true→e.on < k+i:=by
           intro l
           induction l with
           |nil=>intro k _ i o ho;simp at ho
           |cons o' l ihl=>
            intro k hk i o ho e he hbe
            simp only [nf,Bool.and_eq_true,List.all_eq_true] at hk
            cases i with
            |zero=>
             simp at ho;subst ho
             have:=hk.1 e he
             simp only [hbe,Bool.not_true,Bool.false_or] at this
             exact Nat.le_of_ble_eq_true this
            |succ i=>
             have:=ihl (k+1) hk.2 i o (by simpa using ho) e he hbe
             omega
          have hlt:=hback ops.toList 0 hedge j ops[j] (by simp [hj]) (ops[j].after[q]) (by simp) hb
          rw [Nat.zero_add] at hlt
          exact ihj _ hlt (by omega)
        rw [hnil] at hmem;cases hmem
     exact fin listed r ow hT TT a w hall' hT1 hTl hN1 hs ha hd hle hnew hfr hown
   ·
     unfold Region.ready at hi
     rw [List.mem_filter] at hi
     obtain⟨hir,hi2⟩:=hi
     have hi':i < ops.size:=List.mem_range.1 hir
     have hoi:ops[i]? =some ops[i]:=by simp [hi']
     simp only [hoi,Option.map_some,Option.getD_some,Bool.and_eq_true,Bool.not_eq_true',hgd i hi'] at hi2
     obtain⟨hLi,hpre⟩:=hi2
     have hcli:jL (fun k=>listed.getD k false) ops[i]:=by
      intro e he hb
      rw [Array.all_eq_true] at hpre
      obtain⟨q,hq,rfl⟩:=Array.getElem_of_mem (Array.mem_toList_iff.1 he)
      have:=hpre q hq
      simpa [hb] using this
     obtain⟨v,t,e1,e2,e3,e4,e5,e6⟩:=fstep i ops[i] (by simp [hi'])
     have hci:(f i).2.c≤(f (i+1)).2.c:=(hgrow i hi').1
     have hFj:∀j (ft:iB),F[j]? =some ft→j < ops.size:=fun j ft hft=>by rw [←fF];exact(List.getElem?_eq_some_iff.1 hft).1
     have hmask:=fun k hk hck hjk=>rF ops.toList (fun k=>listed.getD k false) ops.toList [] rfl hedge (fun k hk=>by simp at hk) k hk hck hjk
     have hclD:∀j,j < ops.size→listed.getD j false=true→jL (fun k=>listed.getD k false) (ops.toList.getD j default):=hcl
     have hgi:ops.toList.getD i default=ops[i]:=by simp [List.getD,hi']
     have hbefore:∀j,Nat.testBit ((iV ops.toList []).getD i 0) j=true→listed.getD j false=true:=
      fun j hj=>hmask i (by simpa using hi') (by rw [hgi];exact hcli) (fun j' hj' hL'=>hclD j' (by omega) hL') j hj
     have hbehind:∀j,j < ops.size→Nat.testBit ((iV ops.toList []).getD j 0) i=true→listed.getD j false=true→False:=by
      intro j hj hbit hL
      have:=hmask j (by simpa using hj) (hclD j hj hL) (fun j' hj' hL'=>hclD j' (by omega) hL') i hbit
      rw [hLi] at this;cases this
     have hside:∀(j:Nat) (ft:iB),F[j]? =some ft→(∃fi:iB,F[i]? =some fi∧((i < j→uH fi ft→False)∧(j < i→uH ft fi→False)))→(listed.getD j false=true ↔ j < i):=by
      intro j ft hft ⟨fi,hfi,h1,h2⟩
      have hj:=hFj j ft hft
      rcases Nat.lt_trichotomy j i with hlt|heq|hgt
      · refine⟨fun _=>hlt,fun _=> ?_⟩
        rcases iH (masks:=iV ops.toList []) (all:=F) (l:=F) (k:=0) rfl hall j i ft fi (Nat.zero_le _) hlt hft hfi with hb|hb
        · exact hbefore j hb
        · exact(h2 hlt hb).elim
      · subst heq
        refine⟨fun hL=> ?_,fun hlt=>absurd hlt (Nat.lt_irrefl _)⟩
        rw [hLi] at hL;cases hL
      · refine⟨fun hL=> ?_,fun hlt=>by omega⟩
        rcases iH (masks:=iV ops.toList []) (all:=F) (l:=F) (k:=0) rfl hall i j fi ft (Nat.zero_le _) hgt hfi hft with hb|hb
        · exact(hbehind j hj hb hL).elim
        · exact(h1 hgt hb).elim
     have hlook:∀x∈looks ops.toList ops[i],TT.getD x undef=(f i).1.getD x undef:=fun x hx=>
      hT1 x i (Nat.le_of_lt hi') fun j ft hft hxw=>hside j ft hft ⟨_,e6,fun _ hin=>hin.rt x hx hxw,fun _ hin=>hin.tr x hxw hx⟩
     have hnames:∀n,n∈t.R∨n∈t.W→hT.get n=(f i).2.h.get n:=fun n hn'=>
      hN1 n i (Nat.le_of_lt hi') fun j ft hft hxw=>hside j ft hft ⟨_,e6,fun _ hin=>by
       rcases hn' with h7|h7
       · exact hin.RW n h7 hxw
       · exact hin.WW n h7 hxw,fun _ hin=>by
       rcases hn' with h7|h7
       · exact hin.WR n hxw h7
       · exact hin.WW n hxw h7⟩
     rw [BL (U:=TT) fun x hx=>(hlook x hx).symm] at e1
     obtain⟨_,R,W,V,q1,q2,q3,q4,q5⟩:=Local.fz hr.loc ops.toList TT ops[i] d _ _ _ e1
     simp only [List.append_nil] at q1 q2
     obtain⟨h2,e1',g1,g2⟩:=q5 ⟨(f i).2.c,(f i).2.k,hT,[],[],(f i).2.V⟩ rfl rfl (fun n hn'=>hnames n (by rw [q1,q2];exact hn'))
     simp only [List.append_nil] at e1'
     obtain⟨_,snd⟩:=rN hr.mono hoi e1'
     have hVt:aW (V++(f i).2.V):=by
      have:=hVi (i+1) hi'
      rw [e5,q3] at this;exact this
     have hfresh:bF r (f i).2.c t.c:=by
      intro m hm1 hm2
      have hno:¬(r.blk m≠none∨r.val m≠none):=by
       intro hk
       rcases hrn m hk with hk0|⟨j,hj,hLj,hj1,hj2⟩
       · have h8:=hc i 0 (Nat.zero_le _) (Nat.le_of_lt hi')
         rw [hc0] at h8
         have h9:=hc ops.size (i+1) hi' (Nat.le_refl _)
         rw [hcn,e3] at h9
         have:=hf0 m (by omega) (by omega)
         rcases hk0 with hk0|hk0
         · exact hk0 this.1
         · exact hk0 this.2
       · rcases Nat.lt_trichotomy j i with hlt|heq|hgt
         · have:=hc i (j+1) hlt (Nat.le_of_lt hi');omega
         · subst heq;rw [hLi] at hLj;cases hLj
         · have:=hc j (i+1) hgt (by omega);rw [e3] at this;omega
      refine⟨?_,?_⟩
      · cases e:r.blk m with
        |none=>rfl
        |some _=>exact absurd (.inl (by simp [e])) hno
      · cases e:r.val m with
        |none=>rfl
        |some _=>exact absurd (.inr (by simp [e])) hno
     refine snd hVt r ow w a hs hfresh ha _ _ fun r' ow' u w' hp hu=> ?_
     have hset:∀k,(listed.setIfInBounds i true).getD k false=if k=i then true else listed.getD k false:=by
      intro k
      simp only [Array.getD_eq_getD_getElem?,Array.getElem?_setIfInBounds]
      by_cases hk:i=k
      · subst hk;simp [show i < listed.size by omega]
      · simp [hk,Ne.symm hk]
     have hc1:s.c≤(f i).2.c:=by have:=hc i 0 (Nat.zero_le _) (Nat.le_of_lt hi');rw [hc0] at this;exact this
     have hc2:t.c≤s1.c:=by have:=hc ops.size (i+1) hi' (Nat.le_refl _);rw [hcn,e3] at this;exact this
     refine ih (listed.setIfInBounds i true) r' ow' h2 (jj TT ops[i].dst v) _ w' (by simp [hsz]) ?_ ?_ ?_ ?_ ?_ hp.sat (qx (ha.mono hp.le) _ hu) (by rw [put_defers];exact hd) (hle.trans hp.le) ?_ (hfr.trans hp.frame) ?_ ?_
     ·
       intro j hj hL e he hb
       simp only [hset] at hL ⊢
       by_cases hji:j=i
       · subst hji
         have:=hcli e (by rw [←hgi];exact he) hb
         simp only at this
         simp [this]
       · rw [if_neg hji] at hL
         have:=hcl j hj hL e he hb
         simp only at this
         simp [this]
     ·
       intro x p hp' hx
       by_cases hxd:x∈ops[i].dst.toList
       · have hpi:i < p:=by
          have:=(hx i _ e6 hxd).1 (by rw [hset];simp)
          exact this
         have hbet:=hbetT x p (i+1) hpi hp' (fun j ft h7 h8 hft hxw=>by
          have hL:=(hx j ft hft hxw).2 h8
          rw [hset,if_neg (by omega)] at hL
          rcases iH (masks:=iV ops.toList []) (all:=F) (l:=F) (k:=0) rfl hall i j _ ft (Nat.zero_le _) (by omega) e6 hft with hb|hb
          · exact hbehind j (hFj j ft hft) hb hL
          · exact hb.tw x hxd hxw)
         rw [hbet,e2]
         cases hd':ops[i].dst with
         |none=>rw [hd'] at hxd;simp at hxd
         |some dd=>
          rw [hd'] at hxd
          simp only [Option.toList_some,List.mem_singleton] at hxd
          subst hxd
          simp only [jj,List.getD_eq_getElem?_getD,List.getElem?_set]
          have:(f i).1.length=TT.length:=by rw [hTl,hlenT i (Nat.le_of_lt hi')]
          simp [this]
       · have hput:∀(L:List Value) (y:Value),(jj L ops[i].dst y).getD x undef=L.getD x undef:=by
          intro L y
          cases hd':ops[i].dst with
          |none=>rfl
          |some dd=>
           rw [hd'] at hxd
           simp only [Option.toList_some,List.mem_singleton] at hxd
           simp [jj,List.getD,List.getElem?_set_ne (Ne.symm hxd)]
         rw [hput]
         refine hT1 x p hp' fun j ft hft hxw=> ?_
         have:=hx j ft hft hxw
         rw [hset] at this
         by_cases hji:j=i
         · subst hji;rw [e6] at hft;cases hft;exact absurd hxw hxd
         · rwa [if_neg hji] at this
     ·
       cases ops[i].dst <;> simp [jj,hTl]
     ·
       intro n p hp' hx
       by_cases hxd:n∈t.W
       · have hpi:i < p:=(hx i _ e6 hxd).1 (by rw [hset];simp)
         have hbet:=hbetN n p (i+1) hpi hp' (fun j ft h7 h8 hft hxw=>by
          have hL:=(hx j ft hft hxw).2 h8
          rw [hset,if_neg (by omega)] at hL
          rcases iH (masks:=iV ops.toList []) (all:=F) (l:=F) (k:=0) rfl hall i j _ ft (Nat.zero_le _) (by omega) e6 hft with hb|hb
          · exact hbehind j (hFj j ft hft) hb hL
          · exact hb.WW n hxd hxw)
         rw [hbet,e4]
         exact g1 n (by rw [←q2];exact hxd)
       · rw [g2 n (by rw [←q2];exact hxd)]
         refine hN1 n p hp' fun j ft hft hxw=> ?_
         have:=hx j ft hft hxw
         rw [hset] at this
         by_cases hji:j=i
         · subst hji;rw [e6] at hft;cases hft;exact absurd hxw hxd
         · rwa [if_neg hji] at this
     ·
       intro m hm
       have hm':(r.blk m≠none∨r.val m≠none)∨((f i).2.c≤m∧m < t.c):=by
        rcases hm with hm|hm
        · rcases hp.new.1 m hm with h7|h7
          · exact .inl (.inl h7)
          · exact .inr h7
        · rcases hp.new.2 m hm with h7|h7
          · exact .inl (.inr h7)
          · exact .inr h7
       rcases hm' with h7|h7
       · rcases hrn m h7 with h8|⟨j,hj,hL,h9⟩
         · exact .inl h8
         · exact .inr ⟨j,hj,by rw [hset];split;rfl;exact hL,h9⟩
       · exact .inr ⟨i,hi',by rw [hset];simp,h7.1,by rw [e3];exact h7.2⟩
     ·
       refine⟨fun m hm=> ?_,fun m hm=> ?_⟩
       · rcases hp.new.1 m hm with h7|⟨h7,h8⟩
         · exact hnew.1 m h7
         · exact .inr ⟨by simp only at h7;omega,by simp only at h8;omega⟩
       · rcases hp.new.2 m hm with h7|⟨h7,h8⟩
         · exact hnew.2 m h7
         · exact .inr ⟨by simp only at h7;omega,by simp only at h8;omega⟩
     ·
       intro b n hb
       rcases hp.own b n hb with⟨b',hb'⟩|⟨h7,h8⟩
       · exact hown b' n hb'
       · exact .inr ⟨by simp only at h7;omega,by simp only at h8;omega⟩
     ·
       have:=CI (L:=fun k=>listed.getD k false) (M:=fun k=>(listed.setIfInBounds i true).getD k false) (q:=i) hLi (by rw [hset];simp) (fun k hk=>by rw [hset];simp [hk]) hi'
       omega
 refine main ops.size (Array.replicate ops.size false) r0 ow0 s.h T a0 w0 (by simp) ?_ ?_ rfl ?_ ?_ hs0 ha0 hd0 (Env.Le.refl _) (fI.refl _ _ _) (Frame.refl _ _) (fun b n e=> .inl ⟨b,e⟩) ?_
 · intro j hj hL;simp [Array.getD_eq_getD_getElem?,hj] at hL
 · intro t p hp hx
   have:=hbetT t p 0 (Nat.zero_le _) hp (fun j ft _ hjp hft hxw=>by
    have hL:=(hx j ft hft hxw).2 hjp
    have hj:j < ops.size:=by rw [←fF];exact(List.getElem?_eq_some_iff.1 hft).1
    simp [Array.getD_eq_getD_getElem?,hj] at hL)
   rw [this,f0]
 · intro n p hp hx
   have:=hbetN n p 0 (Nat.zero_le _) hp (fun j ft _ hjp hft hxw=>by
    have hL:=(hx j ft hft hxw).2 hjp
    have hj:j < ops.size:=by rw [←fF];exact(List.getElem?_eq_some_iff.1 hft).1
    simp [Array.getD_eq_getD_getElem?,hj] at hL)
   rw [this,f0]
 · intro m hm;exact .inl hm
 · have:∀k (L:Nat→Bool),oY L k≤k:=by
    intro k L
    induction k with
    |zero=>exact Nat.le_refl _
    |succ k ih=>simp only [oY];split <;> omega
   exact this _ _
end
section
variable {P:Program}
theorem FM {t:TypeId}{a v:Value}{d:bj}{s s':St} (h:jw P t a d s=some (v,s')):
  Calm s s'∧(aW s'.V→∀(r:Env) (ow:Nat→Option Nat) (w:World) (u:Value),Sat P r ow s.h w→Rel r a u→∃p y,u= .pointer (some p)∧(loadVar t p).run P w= .ok y w∧Rel r v y):=by
 unfold jw at h
 obtain⟨p,s1,h1,h2⟩:=bind_some h
 obtain⟨rfl,rfl⟩:=oG h1
 obtain⟨g,s2,h3,h4⟩:=bind_some h2
 obtain⟨⟨D,hD,rfl⟩,rfl⟩:=qz h3
 cases hg:lW D with
 |true=>
  simp only [hg] at h4
  obtain⟨sz,s3,h5,h6⟩:=bind_some h4
  obtain⟨⟨i,hi,rfl⟩,rfl⟩:=ik h5
  obtain⟨vs,s4,h7,h8⟩:=bind_some h6
  obtain⟨rfl,rfl⟩:=au h8
  obtain⟨cm,l,t0,hgt,hv⟩:=gK h7
  refine⟨cm,fun hV r ow w u hs hu=> ?_⟩
  obtain⟨e1,e2⟩:=hv hV
  cases hu with
  |ptr hb=>
   obtain⟨us,hrun,hrel⟩:=lA hs hb hgt (by rw [e2];exact e1)
   refine⟨_,.agg ⟨us⟩,rfl,?_,hrel.kL⟩
   rw [e2] at hrun
   simp [loadVar,ga hD,hg,ew hi,hrun]
 |false=>
  simp only [hg] at h4
  obtain⟨vs,s4,h7,h8⟩:=bind_some h4
  split at h8
  · rename_i x0
    obtain⟨rfl,rfl⟩:=au h8
    obtain⟨cm,l,t0,hgt,hv⟩:=gK h7
    refine⟨cm,fun hV r ow w u hs hu=> ?_⟩
    obtain⟨e1,e2⟩:=hv hV
    obtain⟨b,rfl,hb⟩:=hu.Dl
    obtain⟨us,hrun,hrel⟩:=lA hs hb hgt (vs:= [x0]) (by simpa using e1)
    cases hrel with
    | @cons _ y _ ys hx ht=>
     cases ht
     refine⟨_,y,rfl,?_,hx⟩
     have h10:w.cell? ⟨b,p.2,none⟩=some y:=by
      obtain⟨b',c,q1,q2,q3,q4,q5,q6⟩:=hs.chunk _ _ hgt
      have hbb:b'=b:=by rw [hb] at q1;exact(Option.some.inj q1).symm
      subst hbb
      have hl:p.2 < l.length:=by
       have:=congrArg List.length e1
       simp at this;omega
      have hc:w.cell? ⟨b',p.2,none⟩=some c[p.2]:=by rw [cell_of q3];simp [Nat.lt_of_lt_of_le hl q5]
      have hrun':=hrun
      simp only [loadCells,loadCellsFrom,List.length_cons,List.length_nil,Sem.run_bind,run_load,Addr.add_zero',hc] at hrun'
      simp at hrun'
      rw [hc,hrun']
     simp [loadVar,ga hD,hg,h10]
  · simp [X.fail] at h8
theorem JY {t:TypeId}{a v:Value}{d:bj}{s s':St} (h:jd P t a d s=some (v,s')):
  Calm s s'∧(aW s'.V→∀(r:Env) (ow:Nat→Option Nat) (w:World) (u:Value),Sat P r ow s.h w→Rel r a u→∃p y,u= .pointer (some p)∧(loadVar t p).run P w= .ok y w∧Rel r v y):=by
 unfold jd at h
 split at h
 · obtain⟨cm,g⟩:=Co h
   refine⟨cm,fun hV r ow w u hs hu=> ?_⟩
   obtain⟨y,hy,hr⟩:=g hV r ow w hs
   cases hu
   exact⟨_,y,rfl,hy,hr⟩
 · exact FM h
def zG (tmps:Array Value):ResultVar→Sem Value
 | .tmp t=>pure (tmps.getD t undef)
 | .cell a t=>do loadVar t (←asAddr (tmps.getD a undef))
theorem zg (fn:Func) (tmps:Array Value):results fn tmps=(do
 let vs←fn.results.mapM (zG tmps)
 pure (if h:vs.size=1 then vs[0] else .tuple vs)):=rfl
theorem tQ {T:List Value}{d:bj}:∀ {l:List ResultVar}{s s':St}{vs:List Value},iY P T l d s=some (vs,s')→
  Calm s s'∧(aW s'.V→∀(r:Env) (ow:Nat→Option Nat) (w:World) (tmps:Array Value),Sat P r ow s.h w→aw r T tmps.toList→
   ∃us,(l.mapM (zG tmps)).run P w= .ok us w∧aw r vs us)
 | [],s,s',vs,h=>by
  obtain⟨rfl,rfl⟩:=au (d:=d) h
  exact⟨Calm.refl _,fun _ r ow w tmps _ _=>⟨[],by simp,.nil⟩⟩
 | .tmp t::l,s,s',vs,h=>by
  obtain⟨vs1,s1,h1,h2⟩:=bind_some h
  obtain⟨rfl,rfl⟩:=au h2
  obtain⟨cm,g⟩:=tQ h1
  refine⟨cm,fun hV r ow w tmps hs ha=> ?_⟩
  obtain⟨us,e1,e2⟩:=g hV r ow w tmps hs ha
  refine⟨tmps.getD t undef::us,?_,.cons (sK (a:=⟨tmps,[]⟩) ha t) e2⟩
  rw [List.mapM_cons]
  simp only [zG,Sem.run_bind,Sem.run_pure,pure_bind,e1,Result.andThen]
 | .cell a t::l,s,s',vs,h=>by
  obtain⟨v,s1,h1,h2⟩:=bind_some h
  obtain⟨vs1,s2,h3,h4⟩:=bind_some h2
  obtain⟨rfl,rfl⟩:=au h4
  obtain⟨cm1,g1⟩:=JY h1
  obtain⟨cm,g⟩:=tQ h3
  refine⟨cm1.trans cm,fun hV r ow w tmps hs ha=> ?_⟩
  obtain⟨p,y,e3,e4,e5⟩:=g1 (cm.V hV) r ow w _ hs (sK (a:=⟨tmps,[]⟩) ha a)
  obtain⟨us,e1,e2⟩:=g hV r ow w tmps (by rw [cm1.h];exact hs) ha
  refine⟨y::us,?_,.cons e5 e2⟩
  have e6:(zG tmps (.cell a t)).run P w= .ok y w:=by
   simp only at e3
   simp only [zG,e3,asAddr,pure_bind,e4]
  rw [List.mapM_cons]
  simp only [Sem.run_bind,Sem.run_pure,e6,e1,Result.andThen]
theorem lI {fn:Func}{T:List Value}{d:bj}{s s':St}{vs:List Value} (h:iY P T fn.results.toList d s=some (vs,s')):
  Calm s s'∧(aW s'.V→∀(r:Env) (ow:Nat→Option Nat) (w:World) (tmps:Array Value),Sat P r ow s.h w→aw r T tmps.toList→
   ∃u,(results fn tmps).run P w= .ok u w∧Rel r (tW vs) u):=by
 obtain⟨cm,g⟩:=tQ h
 refine⟨cm,fun hV r ow w tmps hs ha=> ?_⟩
 obtain⟨us,e1,e2⟩:=g hV r ow w tmps hs ha
 have e3:(results fn tmps).run P w= .ok (if h:us.toArray.size=1 then us.toArray[0] else .tuple us.toArray) w:=by
  rw [zg,Array.mapM_eq_mapM_toList]
  simp only [Sem.run_bind,map_eq_pure_bind,Sem.run_pure,e1,Result.andThen]
 refine⟨_,e3,?_⟩
 cases e2 with
 |nil=>exact aw.mkTuple .nil
 |cons hx ht=>
  cases ht with
  |nil=>simpa [tW] using hx
  |cons hy ht'=>simpa [tW] using aw.mkTuple (.cons hx (.cons hy ht'))
theorem sF {r:Env}{fn:Func}{args:List Value}{us:Array Value} (h:aw r args us.toList):
  aw r (args++List.replicate (fn.ntmps - args.length) undef) (us++Array.replicate (fn.ntmps - us.size) undef).toList:=by
 have hl:=h.length
 rw [Array.toList_append,Array.toList_replicate,hl,Array.length_toList]
 exact h.append (aw.replicate rK _)
theorem EK {ro rec:Rec} (hro:pS ro) (hr:∀t,aU (rec t)) (t:Task):aU (stepT P ro rec t):=by
 cases t with
 |call f args=>
  simp only [Sx.stepT]
  cases P.funcs[f]? with
  |none=>exact aU.fail
  |some fn=>
   simp only
   cases fn.body with
   |none=>exact aU.fail
   |some c=>
    refine aU.bind (hr _) fun r=> ?_
    split
    · exact aU.bind (Local.iY _ _).jK fun _=>aU.pure _
    · exact aU.bind (Local.iY _ _).jK fun _=>aU.pure _
    · exact aU.fail
 |inLoop c T=>
  refine aU.bind (hr _) fun r=> ?_
  split
  · exact hr _
  · exact aU.pure _
 |inScope c b T=>
  refine aU.bind (hr _) fun r=> ?_
  split
  · split
    · exact hr _
    · exact aU.pure _
  · exact aU.pure _
 |code c T=>
  unfold Sx.stepT
  cases c with
  |skip=>exact aU.pure _
  |label _=>exact aU.pure _
  |region id ops draw=>
   cases draw
   · exact aU.bind (Local.ee hro _ _ _).jK fun _=>aU.pure _
   · exact aU.bind (Local.tD hro _ _).jK fun _=>aU.pure _
  |seq a b=>
   refine aU.bind (hr _) fun r=> ?_
   split
   · exact hr _
   · exact aU.pure _
  |cond c a b=>
   refine aU.bind (Local.opt _).jK fun v=> ?_
   split
   · refine aU.bind (Local.ask _).jK fun t=> ?_
     split
     · exact hr _
     · exact hr _
   · exact aU.fail
  |block id a=>
   refine aU.bind (hr _) fun r=> ?_
   split
   · split
     · exact aU.pure _
     · exact aU.pure _
   · exact aU.pure _
  |loop a=>exact hr _
  |exit id=>exact aU.pure _
  |scope a=>exact hr _
  |goto l=>exact aU.pure _
  |ret=>exact aU.pure _
  |rangeFunc _ _ _ _=>exact aU.fail
  |refuse _=>exact aU.fail
theorem wy (hm:P.follows .mixedOrders=true) {ro rec:Rec} (hro:lT P ro) (hr:gC P rec):∀t,gF P (stepT P ro rec t) t:=by
 intro t d s res s' h
 cases t with
 |call f args=>
  simp only [stepT] at h
  cases hf:P.funcs[f]? with
  |none=>simp [hf,X.fail] at h
  |some fn=>
   simp only [hf] at h
   cases hb:fn.body with
   |none=>simp [hb,X.fail] at h
   |some c=>
    simp only [hb] at h
    obtain⟨res1,s1,h1,h2⟩:=bind_some h
    obtain⟨g1,g2⟩:=hr.snd _ d s res1 s1 h1
    have l1:s.c≤s1.c:=hr.mono _ d s _ s1 h1
    have key:∀(e:bU) (T:List Value),res1= .out e T→(e= .normal∨e= .ret)→X.bind (iY P T fn.results.toList) (fun vs=>X.pure (dI.val (tW vs))) d s1=some (res,s')→
      (aW s'.V→aW s.V)∧(aW s'.V→∀r ow w,Sat P r ow s.h w→bF r s.c s'.c→uC P r ow w s s' (.call f args) res):=by
     intro e T he hen h3
     obtain⟨vs,s2,h4,h5⟩:=bind_some h3
     obtain⟨rfl,rfl⟩:=au h5
     obtain⟨cm,g3⟩:=lI h4
     subst he
     refine⟨fun hV=>g1 (cm.V hV),fun hV r ow w hs hfr us hus=> ?_⟩
     have hwp:=g2 (cm.V hV) r ow w hs (by rw [cm.c] at hfr;exact hfr) { tmps:=us++Array.replicate (fn.ntmps - us.size) undef,defers:= []} (sF hus) rfl
     refine calls_of_wp hf hb (wp_mono hwp ?_)
     intro e' a' w' ⟨hex,hd,r',ow',hp,ha'⟩
     obtain⟨u,hres,hu⟩:=g3 hV r' ow' w' a'.tmps hp.sat ha'
     have hfin:ub P r ow w s s2 (tW vs) (.returned u) w':=⟨r',ow',u,rfl,hp.trans (aN.calm hp.sat cm),hu⟩
     rcases hen with rfl|rfl
     · cases e' <;> simp only [cO] at hex
       exact⟨hd,u,hres,hfin⟩
     · cases e' <;> simp only [cO] at hex
       exact⟨hd,u,hres,hfin⟩
    split at h2
    · exact key _ _ rfl (.inl rfl) h2
    · exact key _ _ rfl (.inr rfl) h2
    · simp [X.fail] at h2
 |inLoop c T=>
  simp only [stepT] at h
  obtain⟨res1,s1,h1,h2⟩:=bind_some h
  obtain⟨g1,g2⟩:=hr.snd _ d s res1 s1 h1
  have l1:s.c≤s1.c:=hr.mono _ d s _ s1 h1
  split at h2
  · rename_i T'
    obtain⟨g3,g4⟩:=hr.snd _ d s1 res s' h2
    have l2:s1.c≤s'.c:=hr.mono _ d s1 _ s' h2
    refine⟨fun hV=>g1 (g3 hV),fun hV r ow w hs hf=> ?_⟩
    have k1:=g2 (g3 hV) r ow w hs (hf.sub (Nat.le_refl _) l2)
    cases res with
    |val v=>trivial
    |out e T2=>
     intro a ha hd
     refine eR (wp_mono (k1 a ha hd) ?_)
     intro e' a' w' ⟨hex,hd',r',ow',hp,ha'⟩
     cases e' <;> simp only [cO] at hex
     have k3:=g4 hV r' ow' w' hp.sat (hf.after hp.new l1) a' ha' hd'
     intro b k cs
     obtain⟨e3,a3,w3,⟨q1,q2,r3,o3,q3,q4⟩,q5⟩:=k3 b k cs
     exact⟨e3,a3,w3,⟨q1,q2,r3,o3,hp.trans q3,q4⟩,q5⟩
  · rename_i hno
    obtain⟨rfl,rfl⟩:=au h2
    refine⟨g1,fun hV r ow w hs hf=> ?_⟩
    have k1:=g2 hV r ow w hs hf
    cases res1 with
    |val v=>trivial
    |out e T2=>
     intro a ha hd
     refine eR (wp_mono (k1 a ha hd) ?_)
     intro e' a' w' hq
     cases e' with
     |normal=>
      obtain⟨hex,_⟩:=hq
      cases e <;> simp only [cO] at hex
      exact(hno _ rfl).elim
     |_=>exact hq
 |inScope c body T=>
  simp only [stepT] at h
  obtain⟨res1,s1,h1,h2⟩:=bind_some h
  obtain⟨g1,g2⟩:=hr.snd _ d s res1 s1 h1
  have l1:s.c≤s1.c:=hr.mono _ d s _ s1 h1
  split at h2
  · rename_i l T'
    cases hfl:findLabel body l with
    |some rest=>
     simp only [hfl] at h2
     obtain⟨g3,g4⟩:=hr.snd _ d s1 res s' h2
     have l2:s1.c≤s'.c:=hr.mono _ d s1 _ s' h2
     refine⟨fun hV=>g1 (g3 hV),fun hV r ow w hs hf=> ?_⟩
     have k1:=g2 (g3 hV) r ow w hs (hf.sub (Nat.le_refl _) l2)
     cases res with
     |val v=>trivial
     |out e T2=>
      intro a ha hd
      refine oj (wp_mono (k1 a ha hd) ?_)
      intro e' a' w' ⟨hex,hd',r',ow',hp,ha'⟩
      cases e' <;> simp only [cO] at hex
      subst hex
      simp only [uF,hfl]
      have k3:=g4 hV r' ow' w' hp.sat (hf.after hp.new l1) a' ha' hd'
      intro b k cs
      obtain⟨e3,a3,w3,⟨q1,q2,r3,o3,q3,q4⟩,q5⟩:=k3 b k cs
      exact⟨e3,a3,w3,⟨q1,q2,r3,o3,hp.trans q3,q4⟩,q5⟩
    |none=>
     simp only [hfl] at h2
     obtain⟨rfl,rfl⟩:=au h2
     refine⟨g1,fun hV r ow w hs hf=> ?_⟩
     have k1:=g2 hV r ow w hs hf
     intro a ha hd
     refine oj (wp_mono (k1 a ha hd) ?_)
     intro e' a' w' hq
     have hex:=hq.1
     cases e' <;> simp only [cO] at hex
     subst hex
     simp only [uF,hfl]
     exact hq
  · rename_i hno
    obtain⟨rfl,rfl⟩:=au h2
    refine⟨g1,fun hV r ow w hs hf=> ?_⟩
    have k1:=g2 hV r ow w hs hf
    cases res1 with
    |val v=>trivial
    |out e T2=>
     intro a ha hd
     refine oj (wp_mono (k1 a ha hd) ?_)
     intro e' a' w' hq
     cases e' with
     |goto l=>
      obtain⟨hex,_⟩:=hq
      cases e <;> simp only [cO] at hex
      exact(hno _ _ rfl).elim
     |_=>exact hq
 |code c T=>
  cases c with
  |skip=>
   simp only [stepT] at h
   obtain⟨rfl,rfl⟩:=au h
   exact⟨id,fun hV r ow w hs hf a ha hd=>wp_skip ⟨trivial,hd,r,ow,aN.calm hs (Calm.refl _),ha⟩⟩
  |label l=>
   simp only [stepT] at h
   obtain⟨rfl,rfl⟩:=au h
   exact⟨id,fun hV r ow w hs hf a ha hd=>wp_label ⟨trivial,hd,r,ow,aN.calm hs (Calm.refl _),ha⟩⟩
  |exit l=>
   simp only [stepT] at h
   obtain⟨rfl,rfl⟩:=au h
   exact⟨id,fun hV r ow w hs hf a ha hd=>wp_exit ⟨rfl,hd,r,ow,aN.calm hs (Calm.refl _),ha⟩⟩
  |goto l=>
   simp only [stepT] at h
   obtain⟨rfl,rfl⟩:=au h
   exact⟨id,fun hV r ow w hs hf a ha hd=>wp_goto ⟨rfl,hd,r,ow,aN.calm hs (Calm.refl _),ha⟩⟩
  |ret=>
   simp only [stepT] at h
   obtain⟨rfl,rfl⟩:=au h
   exact⟨id,fun hV r ow w hs hf a ha hd=>wp_ret ⟨trivial,hd,r,ow,aN.calm hs (Calm.refl _),ha⟩⟩
  |rangeFunc _ _ _ _=>simp [stepT,X.fail] at h
  |refuse _=>simp [stepT,X.fail] at h
  |loop c=>
   simp only [stepT] at h
   obtain⟨g1,g2⟩:=hr.snd _ d s res s' h
   refine⟨g1,fun hV r ow w hs hf=> ?_⟩
   cases res with
   |val v=>trivial
   |out e T2=>exact fun a ha hd=>mT (g2 hV r ow w hs hf a ha hd)
  |scope c=>
   simp only [stepT] at h
   obtain⟨g1,g2⟩:=hr.snd _ d s res s' h
   refine⟨g1,fun hV r ow w hs hf=> ?_⟩
   cases res with
   |val v=>trivial
   |out e T2=>exact fun a ha hd=>AW (g2 hV r ow w hs hf a ha hd)
  |seq x y=>
   simp only [stepT] at h
   obtain⟨res1,s1,h1,h2⟩:=bind_some h
   obtain⟨g1,g2⟩:=hr.snd _ d s res1 s1 h1
   have l1:s.c≤s1.c:=hr.mono _ d s _ s1 h1
   split at h2
   · rename_i T'
     obtain⟨g3,g4⟩:=hr.snd _ d s1 res s' h2
     have l2:s1.c≤s'.c:=hr.mono _ d s1 _ s' h2
     refine⟨fun hV=>g1 (g3 hV),fun hV r ow w hs hf=> ?_⟩
     have k1:=g2 (g3 hV) r ow w hs (hf.sub (Nat.le_refl _) l2)
     cases res with
     |val v=>trivial
     |out e T2=>
      intro a ha hd
      refine wp_seq (wp_mono (k1 a ha hd) ?_)
      intro e' a' w' ⟨hex,hd',r',ow',hp,ha'⟩
      cases e' <;> simp only [cO] at hex
      refine wp_mono (g4 hV r' ow' w' hp.sat (hf.after hp.new l1) a' ha' hd') ?_
      intro e3 a3 w3 ⟨q1,q2,r3,o3,q3,q4⟩
      exact⟨q1,q2,r3,o3,hp.trans q3,q4⟩
   · rename_i hno
     obtain⟨rfl,rfl⟩:=au h2
     refine⟨g1,fun hV r ow w hs hf=> ?_⟩
     have k1:=g2 hV r ow w hs hf
     cases res1 with
     |val v=>trivial
     |out e T2=>
      intro a ha hd
      refine wp_seq (wp_mono (k1 a ha hd) ?_)
      intro e' a' w' hq
      cases e' with
      |normal=>
       obtain⟨hex,_⟩:=hq
       cases e <;> simp only [cO] at hex
       exact(hno _ rfl).elim
      |_=>exact hq
  |block id c=>
   simp only [stepT] at h
   obtain⟨res1,s1,h1,h2⟩:=bind_some h
   obtain⟨g1,g2⟩:=hr.snd _ d s res1 s1 h1
   split at h2
   · rename_i i T'
     rw [cj] at h2
     by_cases hi:i=id
     · simp only [hi,decide_true] at h2
       obtain⟨rfl,rfl⟩:=au h2
       refine⟨g1,fun hV r ow w hs hf a ha hd=> ?_⟩
       refine wp_block (wp_mono (g2 hV r ow w hs hf a ha hd) ?_)
       intro e' a' w' ⟨hex,hq⟩
       cases e' <;> simp only [cO] at hex
       subst hex
       simp only [Exit.inBlock,hi,if_true]
       exact⟨trivial,hq⟩
     · simp only [hi,decide_false] at h2
       obtain⟨rfl,rfl⟩:=au h2
       refine⟨g1,fun hV r ow w hs hf a ha hd=> ?_⟩
       refine wp_block (wp_mono (g2 hV r ow w hs hf a ha hd) ?_)
       intro e' a' w' ⟨hex,hq⟩
       cases e' <;> simp only [cO] at hex
       subst hex
       simp only [Exit.inBlock,hi,if_false]
       exact⟨rfl,hq⟩
   · rename_i hno
     obtain⟨rfl,rfl⟩:=au h2
     refine⟨g1,fun hV r ow w hs hf=> ?_⟩
     have k1:=g2 hV r ow w hs hf
     cases res1 with
     |val v=>trivial
     |out e T2=>
      intro a ha hd
      refine wp_block (wp_mono (k1 a ha hd) ?_)
      intro e' a' w' hq
      cases e' with
      |exit i=>
       obtain⟨hex,_⟩:=hq
       cases e <;> simp only [cO] at hex
       exact(hno _ _ rfl).elim
      |_=>exact hq
  |cond c x y=>
   simp only [stepT] at h
   obtain⟨v,s1,h1,h2⟩:=bind_some h
   obtain⟨hev,rfl⟩:=gR h1
   cases v <;> try (simp [X.fail] at h2;done)
   case bool b0=>
    obtain⟨t,s2,h3,h4⟩:=bind_some h2
    obtain⟨cm,hb⟩:=jS h3
    have hcond:∀(r:Env) (a:Act),aw r T a.tmps.toList→a.eval c= .bool b0:=fun r a ha=>by
     have:=bx ha hev
     cases hu:a.eval c <;> rw [hu] at this <;> cases this
     rfl
    cases t with
    |true=>
     simp only at h4
     obtain⟨g1,g2⟩:=hr.snd _ d s2 res s' h4
     refine⟨fun hV=>cm.V (g1 hV),fun hV r ow w hs hf=> ?_⟩
     have k1:=g2 hV r ow w (by rw [cm.h];exact hs) (by rw [cm.c];exact hf)
     cases res with
     |val v=>trivial
     |out e T2=>
      intro a ha hd
      refine wp_cond_true (by rw [hcond r a ha,hb (g1 hV)]) (wp_mono (k1 a ha hd) ?_)
      intro e3 a3 w3 ⟨q1,q2,r3,o3,q3,q4⟩
      exact⟨q1,q2,r3,o3,(aN.calm hs cm).trans q3,q4⟩
    |false=>
     simp only at h4
     obtain⟨g1,g2⟩:=hr.snd _ d s2 res s' h4
     refine⟨fun hV=>cm.V (g1 hV),fun hV r ow w hs hf=> ?_⟩
     have k1:=g2 hV r ow w (by rw [cm.h];exact hs) (by rw [cm.c];exact hf)
     cases res with
     |val v=>trivial
     |out e T2=>
      intro a ha hd
      refine wp_cond_false (by rw [hcond r a ha,hb (g1 hV)]) (wp_mono (k1 a ha hd) ?_)
      intro e3 a3 w3 ⟨q1,q2,r3,o3,q3,q4⟩
      exact⟨q1,q2,r3,o3,(aN.calm hs cm).trans q3,q4⟩
  |region id ops draw=>
   cases draw with
   |false=>
    simp only [stepT] at h
    obtain⟨T',s1,h1,h2⟩:=bind_some h
    obtain⟨rfl,rfl⟩:=au h2
    obtain⟨g1,g2⟩:=mW hro.mono ops.toList 0 T T' d s s1 (by simp) h1
    refine⟨g1,fun hV r ow w hs hf a ha hd=>wp_region ?_⟩
    rw [List.range_eq_range']
    exact g2 hV r ow w a hs hf ha hd _ fun r' ow' a' w' hp ha' hd'=>⟨trivial,hd',r',ow',hp,ha'⟩
   |true=>
    simp only [stepT] at h
    obtain⟨T',s1,h1,h2⟩:=bind_some h
    obtain⟨rfl,rfl⟩:=au h2
    obtain⟨g1,g2⟩:=LV hro h1
    refine⟨g1,fun hV r ow w hs hf a ha hd=>wp_region_any hm ?_⟩
    refine g2 hV r ow { w with drawn:=w.drawn+1} a (hs.drew rfl) hf ha hd _ fun r' ow' a' w' hp ha' hd'=>⟨trivial,hd',r',ow',?_,ha'⟩
    exact⟨hp.le,hp.sat,(Frame.drew (ow:=ow) (w:=w) (w':= { w with drawn:=w.drawn+1}) rfl rfl rfl rfl).trans hp.frame,hp.new,hp.mono,hp.own⟩
structure cC (P:Program) (C:aP):Prop where
 loc:∀t x,C t=some x→Local x
 snd:∀t x,C t=some x→gF P x t
theorem rJ (hm:P.follows .mixedOrders=true) {C:aP} (hC:cC P C):∀n,lT P (ex P C n)
 |0=>⟨Local.ex hC.loc 0,fun _ _ _ _ _ h=>by simp [ex,X.fail] at h⟩
 |n+1=>⟨Local.ex hC.loc (n+1),fun t=>by
   unfold ex
   cases e:C t with
   |some x=>exact hC.snd t x e
   |none=>exact wy hm (rJ hm hC n) (rJ hm hC n).mono t⟩
theorem Kb (hm:P.follows .mixedOrders=true) {C:aP} (hC:cC P C) {n:Nat}{f:FuncId}{args:List Value}{d:bj}{s s':St}{v:Value}
  (h:ex P C n (.call f args) d s=some (.val v,s')) (hV:aW s'.V) {r:Env} {ow:Nat→Option Nat} {w:World} (hs:Sat P r ow s.h w) (hf:bF r s.c s'.c) {us:Array Value} (hu:aw r args us.toList):
  Calls P f us w (ub P r ow w s s' v):=
 ((rJ hm hC n).snd _ d s _ s' h).2 hV r ow w hs hf us hu
end
section
variable {P:Program}
structure Old (w w':World):Prop where
 os:w'.os=w.os
 tape:w'.tape=w.tape
 output:w'.output=w.output
 size:w.heap.size≤w'.heap.size
 aq:∀b,b < w.heap.size→w'.heap[b]? =w.heap[b]?
theorem Old.refl (w:World):Old w w:=⟨rfl,rfl,rfl,Nat.le_refl _,fun _ _=>rfl⟩
def uf:Nat→Option Nat:=fun _=>none
theorem Frame.old {ow':Nat→Option Nat}{w w':World} (h:Frame uf w ow' w'):Old w w':=
 ⟨h.os,h.tape,h.output,h.size,fun b hb=>(h.aq b hb rfl).2⟩
theorem Sat.old {r:Env}{ow:Nat→Option Nat}{h:Heap}{w w':World} (hs:Sat P r ow h w) (ho:Old w w'):Sat P r ow h w':=
 ⟨fun n c hn=>Chunk.cR (fun b hb=>ho.aq b (hs.bound b n hb)) (fun _=>Iff.rfl) (hs.chunk n c hn),fun b n e=>Nat.lt_of_lt_of_le (hs.bound b n e) ho.size,hs.known⟩
theorem Frame.Qe {r:Env}{ow:Nat→Option Nat}{h:Heap}{w w':World} (_:Sat P r ow h w) (ho:Old w w'):Frame ow w ow w':=
 ⟨ho.os,ho.tape,ho.output,ho.size,fun b hb e=>⟨e,ho.aq b hb⟩⟩
theorem aN.old {r:Env}{ow:Nat→Option Nat}{s:St}{w w':World} (hs:Sat P r ow s.h w) (ho:Old w w'):aN P r ow w s r ow w' s:=
 ⟨⟨fun _ _ e=>e,fun _ _ _=>rfl,fun _ _ e=>e⟩,hs.old ho,Frame.Qe hs ho,fI.refl _ _ _,Nat.le_refl _,fun b _ e=> .inl ⟨b,e⟩⟩
def cQ (P:Program) (f:FuncId) (args:List Value) (v:Value):Prop:=
 ∀(r:Env) (us:Array Value) (w:World),aw r args us.toList→Calls P f us w fun e w'=>∃u,e= .returned u∧Rel r v u∧Old w w'
theorem cQ.snd {f:FuncId}{args:List Value}{v:Value} (h:cQ P f args v):gF P (X.pure (.val v)) (.call f args):=by
 intro d s res s' hx
 obtain⟨rfl,rfl⟩:=au hx
 refine⟨id,fun _ r ow w hs _ us hu=> ?_⟩
 exact Calls.mono (h r us w hu) fun e w' ⟨u,he,hv,ho⟩=>⟨r,ow,u,he,aN.old hs ho,hv⟩
def nil:Env:=⟨fun _=>none,fun _=>0,fun _=>none⟩
def s0:St:=⟨0,0,[],[],[],[]⟩
theorem Dx (w:World):Sat P nil uf s0.h w:=⟨fun _ _ h=>by simp [s0,Heap.get] at h,fun _ _ h=>by simp [uf] at h,fun _ _ h=>by simp [uf] at h⟩
theorem F5 (hm:P.follows .mixedOrders=true) {C:aP} (hC:cC P C) {n:Nat}{f:FuncId}{args:List Value}{d:bj}{s':St}{v:Value}
  (h:ex P C n (.call f args) d s0=some (.val v,s')) (hV:aW s'.V) {w:World} {us:Array Value} (hu:aw nil args us.toList):
  Calls P f us w fun e w'=>∃r' u,e= .returned u∧Rel r' v u∧Old w w':=
 Calls.mono (Kb hm hC h hV (Dx w) (fun n _ _=>⟨rfl,rfl⟩) hu) fun e w' ⟨r',ow',u,he,hp,hv⟩=>⟨r',u,he,hv,hp.frame.old⟩
def yc:Option (dI×St)→Option (Value×List VC)
 |some (.val v,s)=>some (v,s.V)
 |_=>none
theorem PH {o:Option (dI×St)}{v:Value}{L:List VC} (h:yc o=some (v,L)):∃s',o=some (.val v,s')∧s'.V=L:=by
 match o,h with
 |some (.val _,s),h=>
  simp only [yc,Option.some.injEq,Prod.mk.injEq] at h
  obtain⟨rfl,h2⟩:=h
  exact⟨s,rfl,h2⟩
theorem af:aW []:=fun _ h=>by cases h
theorem ag {v:VC}{L:List VC} (h:v.ok) (k:aW L):aW (v::L):=fun x hx=>by
 cases hx with
 |head=>exact h
 |tail _ hx=>exact k x hx
def lJ (p:Value→Bool):List Value→Bool
 | []=>true
 |v::l=>p v && lJ p l
def bare:Nat→Value→Bool
 |0,_=>false
 |f+1,v=>match v with
  | .bool _| .int _ _| .string _| .pointer none| .slice none 0 0| .map none| .nilFunc| .nilIface=>true
  | .iface _ v=>bare f v
  | .agg ⟨l⟩=>lJ (bare f) l
  | .tuple ⟨l⟩=>lJ (bare f) l
  |_=>false
theorem lC {p:Value→Bool}{r:Env} (hp:∀v u,p v=true→Rel r v u→u=v):∀ {l us:List Value},lJ p l=true→aw r l us→us=l
 | [],_,_,h=>by cases h;rfl
 |v::l,_,hl,h=>by
  cases h with
  |cons hx ht=>
   simp only [lJ,Bool.and_eq_true] at hl
   rw [hp v _ hl.1 hx,lC hp hl.2 ht]
theorem j5 {r:Env}:∀(f:Nat) (v u:Value),bare f v=true→Rel r v u→u=v
 |0,v,u,h,_=>by simp [bare] at h
 |f+1,v,u,h,hr=>by
  unfold bare at h
  split at h
  · cases hr;rfl
  · cases hr;rfl
  · cases hr;rfl
  · cases hr;rfl
  · cases hr;rfl
  · cases hr;rfl
  · cases hr;rfl
  · cases hr;rfl
  · cases hr with|iface hb=>rw [j5 f _ _ h hb]
  · obtain⟨ys,rfl,hl⟩:=hr.j3
    have:=lC (j5 f) h hl
    obtain⟨ys⟩:=ys
    simp only at this
    rw [this]
  · obtain⟨ys,rfl,hl⟩:=hr.lS
    have:=lC (j5 f) h hl
    obtain⟨ys⟩:=ys
    simp only at this
    rw [this]
  · cases h
theorem lR {p:Value→Bool}{r:Env} (hp:∀v,p v=true→Rel r v v):∀ {l:List Value},lJ p l=true→aw r l l
 | [],_=> .nil
 |v::l,hl=>by
  simp only [lJ,Bool.and_eq_true] at hl
  exact .cons (hp v hl.1) (lR hp hl.2)
theorem jZ {r:Env}:∀(f:Nat) (v:Value),bare f v=true→Rel r v v
 |0,v,h=>by simp [bare] at h
 |f+1,v,h=>by
  unfold bare at h
  split at h
  · exact .bool _
  · exact .int _ _
  · exact .string _
  · exact .ptrNil
  · exact .sliceNil
  · exact .mapNil
  · exact .nilFunc
  · exact .nilIface
  · exact .iface (jZ f _ h)
  · exact aw.kL (lR (jZ f) h)
  · exact aw.mkTuple (lR (jZ f) h)
  · cases h
theorem bw (hm:P.follows .mixedOrders=true) {C:aP} (hC:cC P C) {n:Nat}{f:FuncId}{args:List Value}{d:bj}{v:Value}{L:List VC}
  (h:yc (ex P C n (.call f args) d s0)=some (v,L)) (hV:aW L) (ha:lJ (bare 9) args=true) (hv:bare 9 v=true):cQ P f args v:=by
 intro r us w hu
 obtain⟨s',h1,h2⟩:=PH h
 subst h2
 have hus:us.toList=args:=lC (j5 9) ha hu
 have hu':aw nil args us.toList:=by rw [hus];exact lR (jZ 9) ha
 exact Calls.mono (F5 hm hC h1 hV hu') fun e w' ⟨r',u,he,hr,ho⟩=>⟨u,he,by rw [j5 9 v u hv hr];exact jZ 9 v hv,ho⟩
structure Fb (P:Program) (C:aP):Prop where
 all:∀t x,C t=some x→∃f xs v,t= .call f xs∧x=X.pure (.val v)∧cQ P f xs v
theorem Fb.holds {C:aP} (h:Fb P C):cC P C:=
 ⟨fun t x e=>by obtain⟨f,xs,v,rfl,rfl,_⟩:=h.all t x e;exact Local.pure _,
  fun t x e=>by obtain⟨f,xs,v,rfl,rfl,g⟩:=h.all t x e;exact g.snd⟩
theorem bk:Fb P Gm:=⟨fun _ _ h=>by simp [Gm] at h⟩
end
section
variable {P:Program}
def x9 (live:List Nat):Nat→List Value→List Value
 |_,[]=> []
 |i,v::l=>(match cY i live with
  |true=>v
  |false=> .chan none)::x9 live (i+1) l
theorem wu {r:Env} (live:List Nat):∀(T us:List Value) (i:Nat),aw r T us→aw r (x9 live i T) us
 | [],us,i,h=>by cases h;exact .nil
 |v::l,us,i,h=>by
  cases h with
  |cons hx ht=>
   refine .cons ?_ (wu live l _ (i+1) ht)
   cases cY i live with
   |true=>exact hx
   |false=>exact .any
theorem eZ {n:Nat}:∀ {l:List Nat},cY n l=true ↔ n∈l
 | []=>by simp [cY]
 |m::l=>by
  simp only [cY,cj,List.mem_cons]
  by_cases e:n=m
  · simp [e]
  · simp [e,Ne.symm e,eZ (l:=l)]
def Heap.only (K:List Nat):Heap→Heap
 | []=> []
 |(m,c)::h=>match cY m K with
  |true=>(m,c)::Heap.only K h
  |false=>Heap.only K h
def Heap.cw (K:List Nat):Heap→Heap
 | []=> []
 |(m,c)::h=>match cY m K with
  |true=>Heap.cw K h
  |false=>(m,c)::Heap.cw K h
theorem Heap.p7 (K:List Nat) (n:Nat):∀h:Heap,(h.only K).get n=if n∈K then h.get n else none
 | []=>by simp [Heap.only,Heap.get]
 |(m,c)::h=>by
  unfold Heap.only
  cases e:cY m K with
  |true=>
   have hm:=eZ.1 e
   simp only [Heap.get,cj]
   by_cases e2:m=n
   · subst e2;simp [hm]
   · simp [e2,Heap.p7 K n h]
  |false=>
   have hm:m ∉ K:=fun x=>by rw [eZ.2 x] at e;cases e
   simp only [Heap.get,cj]
   rw [Heap.p7 K n h]
   by_cases e2:m=n
   · subst e2;simp [hm]
   · simp [e2]
theorem Heap.dJ (K:List Nat) (n:Nat):∀h:Heap,(h.cw K).get n=if n∈K then none else h.get n
 | []=>by simp [Heap.cw,Heap.get]
 |(m,c)::h=>by
  unfold Heap.cw
  cases e:cY m K with
  |true=>
   have hm:=eZ.1 e
   simp only [Heap.get,cj]
   rw [Heap.dJ K n h]
   by_cases e2:m=n
   · subst e2;simp [hm]
   · simp [e2]
  |false=>
   have hm:m ∉ K:=fun x=>by rw [eZ.2 x] at e;cases e
   simp only [Heap.get,cj]
   by_cases e2:m=n
   · subst e2;simp [hm]
   · simp [e2,Heap.dJ K n h]
theorem Heap.get_append (n:Nat) (k:Heap):∀h:Heap,Heap.get (h++k) n=match h.get n with
  |some c=>some c
  |none=>k.get n
 | []=>by simp [Heap.get]
 |(m,c)::h=>by
  show Heap.get ((m,c)::(h++k)) n=_
  simp only [Heap.get]
  cases e:Nat.beq m n with
  |true=>simp
  |false=>simp [Heap.get_append n k h]
def fm (K:List Nat) (c c':Nat):Heap→Bool
 | []=>true
 |(m,_)::h=>(cY m K || (Nat.ble c m && Nat.blt m c')) && fm K c c' h
def a8 (c:Nat):Heap→Bool
 | []=>true
 |(m,_)::h=>Nat.blt m c && a8 c h
theorem pD {K:List Nat}{c c' n:Nat}{x:Chunk}:∀ {h:Heap},fm K c c' h=true→h.get n=some x→n∈K∨(c≤n∧n < c')
 | [],_,e=>by simp [Heap.get] at e
 |(m,y)::h,hn,e=>by
  simp only [fm,Bool.and_eq_true,Bool.or_eq_true] at hn
  simp only [Heap.get,cj] at e
  by_cases e2:m=n
  · subst e2
    rcases hn.1 with q|⟨q1,q2⟩
    · exact .inl (eZ.1 q)
    · exact .inr ⟨Nat.le_of_ble_eq_true q1,Nat.le_of_ble_eq_true q2⟩
  · simp [e2] at e;exact pD hn.2 e
theorem gf {c n:Nat}{x:Chunk}:∀ {h:Heap},a8 c h=true→h.get n=some x→n < c
 | [],_,e=>by simp [Heap.get] at e
 |(m,y)::h,hn,e=>by
  simp only [a8,Bool.and_eq_true] at hn
  simp only [Heap.get,cj] at e
  by_cases e2:m=n
  · subst e2;exact Nat.le_of_ble_eq_true hn.1
  · simp [e2] at e;exact gf hn.2 e
def bb (c:Nat) (h:Heap):St:=⟨c,0,h,[],[],[]⟩
def ab (P:Program) (c0:Nat) (h0:Heap) (c1:Nat) (h1:Heap) (t:Task) (res:dI):Prop:=
 c0≤c1∧∀r ow w,Sat P r ow h0 w→bF r c0 c1→uC P r ow w (bb c0 h0) (bb c1 h1) t res
theorem aN.KR {r r':Env}{ow ow':Nat→Option Nat}{w w':World}{s s' t t':St} (hc:t.c=s.c) (hc':t'.c=s'.c) (hh:t'.h=s'.h) (h:aN P r ow w s r' ow' w' s'):aN P r ow w t r' ow' w' t':=
 ⟨h.le,by rw [hh];exact h.sat,h.frame,by rw [hc,hc'];exact h.new,by rw [hc,hc'];exact h.mono,by rw [hc,hc'];exact h.own⟩
def part (K:List Nat) (ow:Nat→Option Nat):Nat→Option Nat:=fun b=>match ow b with
 |some n=>if n∈K then some n else none
 |none=>none
def join (K:List Nat) (ow ow':Nat→Option Nat):Nat→Option Nat:=fun b=>match ow b with
 |some n=>if n∈K then ow' b else some n
 |none=>ow' b
theorem j7 {K:List Nat}{ow:Nat→Option Nat}{b n:Nat}:part K ow b=some n ↔ ow b=some n∧n∈K:=by
 unfold part
 cases e:ow b with
 |none=>simp
 |some m=>
  simp only [Option.some.injEq]
  by_cases hm:m∈K
  · simp [hm];intro e2;subst e2;exact hm
  · simp [hm];intro e2;subst e2;exact hm
theorem Sat.part {r:Env}{ow:Nat→Option Nat}{h:Heap}{w:World} (hs:Sat P r ow h w) (K:List Nat):Sat P r (part K ow) (h.only K) w:=by
 refine⟨fun n c hn=> ?_,fun b n e=>hs.bound b n (j7.1 e).1,fun b n e=>hs.known b n (j7.1 e).1⟩
 rw [Heap.p7] at hn
 by_cases hK:n∈K
 · rw [if_pos hK] at hn
   exact Chunk.cR (fun _ _=>rfl) (fun b=>by rw [j7];exact⟨fun e=>e.1,fun e=>⟨e,hK⟩⟩) (hs.chunk n c hn)
 · rw [if_neg hK] at hn;cases hn
theorem aN.join {r r':Env}{ow ow':Nat→Option Nat}{w w':World}{h h1:Heap}{c0 c1:Nat}{K:List Nat} (hs:Sat P r ow h w) (hf:bF r c0 c1)
  (hn:fm K c0 c1 h1=true) (hb:a8 c0 (h.cw K)=true)
  (hp:aN P r (Sx.part K ow) w (bb c0 (h.only K)) r' ow' w' (bb c1 h1)):aN P r ow w (bb c0 h) r' (Sx.join K ow ow') w' (bb c1 (h1++h.cw K)):=by
 have hgone:∀b m,ow b=some m→m ∉ K→ow' b=none∧w'.heap[b]? =w.heap[b]? :=fun b m e hm=>
  hp.frame.aq b (hs.bound b m e) (by unfold Sx.part;rw [e];simp [hm])
 have hnone:∀b,ow b=none→Sx.part K ow b=none:=fun b e=>by unfold Sx.part;rw [e]
 refine⟨hp.le,⟨fun n c hn'=> ?_,fun b n e=> ?_,fun b n e=> ?_⟩,⟨hp.frame.os,hp.frame.tape,hp.frame.output,hp.frame.size,fun b hb' ho=> ?_⟩,hp.new,hp.mono,fun b n e=> ?_⟩
 · change (h1++h.cw K).get n=some c at hn'
   rw [Heap.get_append] at hn'
   cases e1:h1.get n with
   |some x=>
    simp only [e1,Option.some.injEq] at hn'
    subst hn'
    have hwh:=pD hn e1
    refine Chunk.cR (fun _ _=>rfl) (fun b=> ?_) (hp.sat.chunk n x e1)
    unfold Sx.join
    cases e2:ow b with
    |none=>rfl
    |some m=>
     simp only
     by_cases hm:m∈K
     · simp [hm]
     · simp only [hm,if_false]
       have h3:=(hgone b m e2 hm).1
       rw [h3]
       simp only [Option.some.injEq,reduceCtorEq,iff_false]
       intro e3
       subst e3
       rcases hwh with q|⟨q1,q2⟩
       · exact hm q
       · have:=hf m q1 q2
         rcases hs.known b m e2 with k|k
         · exact k this.1
         · exact k this.2
   |none=>
    simp only [e1] at hn'
    have hlt:=gf hb hn'
    rw [Heap.dJ] at hn'
    by_cases hK:n∈K
    · rw [if_pos hK] at hn';cases hn'
    · rw [if_neg hK] at hn'
      refine Chunk.cR (w:=w) (ow:=ow) (fun b hb'=>(hgone b n hb' hK).2) (fun b=> ?_) (Chunk.dX hp.le (hs.chunk n c hn'))
      have hno:∀b,ow' b≠some n:=fun b e=>by
       rcases hp.own b n e with⟨b',q⟩|⟨q,_⟩
       · exact hK (j7.1 q).2
       · exact absurd hlt (Nat.not_lt.2 q)
      unfold Sx.join
      cases e2:ow b with
      |none=>simp only [reduceCtorEq,iff_false];exact hno b
      |some m=>
       simp only
       by_cases hm:m∈K
       · simp only [hm,if_true,Option.some.injEq]
         refine⟨fun e=>absurd e (hno b),fun e=>by subst e;exact absurd hm hK⟩
       · simp [hm]
 · unfold Sx.join at e
   cases e2:ow b with
   |none=>rw [e2] at e;exact hp.sat.bound b n e
   |some m=>
    rw [e2] at e
    by_cases hm:m∈K
    · simp only [hm,if_true] at e;exact hp.sat.bound b n e
    · exact Nat.lt_of_lt_of_le (hs.bound b m e2) hp.frame.size
 · unfold Sx.join at e
   cases e2:ow b with
   |none=>rw [e2] at e;exact hp.sat.known b n e
   |some m=>
    rw [e2] at e
    by_cases hm:m∈K
    · simp only [hm,if_true] at e;exact hp.sat.known b n e
    · simp only [hm,if_false,Option.some.injEq] at e
      subst e
      exact hp.le.known (hs.known b m e2)
 · have:=hp.frame.aq b hb' (hnone b ho)
   refine⟨?_,this.2⟩
   unfold Sx.join
   rw [ho];exact this.1
 · have key:ow' b=some n→(∃b',ow b'=some n)∨(c0≤n∧n < c1):=fun e=>by
    rcases hp.own b n e with⟨b',q⟩|q
    · exact .inl ⟨b',(j7.1 q).1⟩
    · exact .inr q
   unfold Sx.join at e
   cases e2:ow b with
   |none=>rw [e2] at e;exact key e
   |some m=>
    rw [e2] at e
    by_cases hm:m∈K
    · simp only [hm,if_true] at e;exact key e
    · simp only [hm,if_false,Option.some.injEq] at e
      subst e
      exact .inl ⟨b,e2⟩
def inside (c c' n:Nat):Bool:=Nat.ble c n && Nat.blt n c'
theorem b8 {c c' n:Nat}:inside c c' n=true ↔ c≤n∧n < c':=by
 unfold inside
 rw [Bool.and_eq_true]
 exact⟨fun h=>⟨Nat.le_of_ble_eq_true h.1,Nat.le_of_ble_eq_true h.2⟩,fun h=>⟨Nat.ble_eq_true_of_le h.1,Nat.ble_eq_true_of_le h.2⟩⟩
def Env.cut (r:Env) (c c':Nat):Env:=⟨fun n=>if inside c c' n then none else r.blk n,r.cap,fun n=>if inside c c' n then none else r.val n⟩
def gx (c c':Nat) (ow:Nat→Option Nat):Nat→Option Nat:=fun b=>match ow b with
 |some n=>if inside c c' n then none else some n
 |none=>none
theorem dM {c c':Nat}{ow:Nat→Option Nat}{b n:Nat}:gx c c' ow b=some n ↔ ow b=some n∧inside c c' n=false:=by
 unfold gx
 cases e:ow b with
 |none=>simp
 |some m=>
  simp only [Option.some.injEq]
  cases hm:inside c c' m with
  |true=>simp;intro e2;subst e2;exact hm
  |false=>simp;intro e2;subst e2;exact hm
def tX (c c':Nat) (v:Value):Prop:=∀(r:Env) (u:Value),Rel r v u→Rel (r.cut c c') v u
def cL (p:Value→Bool):List Value→Bool
 | []=>true
 |v::l=>p v && cL p l
def cD:Nat→Nat→Nat→Value→Bool
 |0,_,_,_=>false
 |f+1,c,c',v=>match v with
  | .bool _| .int _ _| .string _| .pointer none| .slice none _ _| .map none| .nilFunc| .nilIface| .chan none=>true
  | .pointer (some ⟨n,_,none⟩)=> !inside c c' n
  | .pointer (some ⟨_,_,some _⟩)=>true
  | .slice (some ⟨n,_,none⟩) _ _=> !inside c c' n
  | .slice (some ⟨_,_,some _⟩) _ _=>true
  | .map (some n)=> !inside c c' n
  | .chan (some n)=> !inside c c' n
  | .iface _ v=>cD f c c' v
  | .agg ⟨l⟩=>cL (cD f c c') l
  | .tuple ⟨l⟩=>cL (cD f c c') l
  | .func _ ⟨a⟩ ⟨b⟩=>cL (cD f c c') a && cL (cD f c c') b
  |_=>false
theorem iv {c c':Nat}{p:Value→Bool} (hp:∀v,p v=true→tX c c' v) {r:Env}:∀ {l us:List Value},cL p l=true→aw r l us→aw (r.cut c c') l us
 | [],_,_,h=>by cases h;exact .nil
 |v::l,_,hl,h=>by
  cases h with
  |cons hx ht=>
   simp only [cL,Bool.and_eq_true] at hl
   exact .cons (hp v hl.1 r _ hx) (iv hp hl.2 ht)
theorem eC {c c':Nat}:∀(f:Nat) (v:Value),cD f c c' v=true→tX c c' v
 |0,v,h=>by simp [cD] at h
 |f+1,v,h=>by
  intro r u hr
  unfold cD at h
  have hblk:∀n b,inside c c' n=false→r.blk n=some b→(r.cut c c').blk n=some b:=fun n b hi hb=>by simp [Env.cut,hi,hb]
  split at h
  · cases hr;exact .bool _
  · cases hr;exact .int _ _
  · cases hr;exact .string _
  · cases hr;exact .ptrNil
  · cases hr;exact .sliceNil
  · cases hr;exact .mapNil
  · cases hr;exact .nilFunc
  · cases hr;exact .nilIface
  · cases hr;exact .any
  · cases hr with|ptr hb=>exact .ptr (hblk _ _ (by simpa using h) hb)
  · cases hr with|litPtr=>exact .litPtr
  · cases hr with|slice hb ho hl h0 h2=>exact .slice (hblk _ _ (by simpa using h) hb) ho hl h0 h2
  · cases hr with|litSlice hl hs=>exact .litSlice hl hs
  · cases hr with|map hb=>exact .map (hblk _ _ (by simpa using h) hb)
  · cases hr with|opq hb=>exact .opq (by simp only [Env.cut];rw [if_neg (by simpa using h)];exact hb)
  · cases hr with|iface hb=>exact .iface (eC f _ h r _ hb)
  · obtain⟨ys,rfl,hl⟩:=hr.j3
    exact aw.kL (ys:=ys.toList) (iv (eC f) h hl)
  · obtain⟨ys,rfl,hl⟩:=hr.lS
    exact aw.mkTuple (ys:=ys.toList) (iv (eC f) h hl)
  · obtain⟨ys,bs,rfl,hl,hl'⟩:=hr.qd
    rw [Bool.and_eq_true] at h
    exact aw.rQ (ys:=ys.toList) (bs:=bs.toList) (iv (eC f) h.1 hl) (iv (eC f) h.2 hl')
  · cases h
def Chunk.tX (P:Program) (c c':Nat) (n:Nat) (x:Chunk):Prop:=∀(r:Env) (ow:Nat→Option Nat) (w:World),x.sat P r ow w n→x.sat P (r.cut c c') (gx c c' ow) w n
def Chunk.cD (c c':Nat):Chunk→Bool
 | .cells l _=>cL (Sx.cD 9 c c') l
 | .map es=>cL (Sx.cD 9 c c') (es.map (·.1)) && cL (Sx.cD 9 c c') (es.map (·.2))
 | .args _ _=>true
 | .froz _ _=>true
 | .bag _ _=>true
 | .iter _ _=>true
 | .sem _=>true
theorem Chunk.eC {c c' n:Nat}{x:Chunk} (hn:inside c c' n=false) (h:x.cD c c'=true):x.tX P c c' n:=by
 intro r ow w hs
 have hblk:∀b,r.blk n=some b→(r.cut c c').blk n=some b:=fun b hb=>by simp [Env.cut,hn,hb]
 cases x with
 |cells l t=>
  obtain⟨b,cs,h1,h2,h3,h4,h5,h6⟩:=hs
  exact⟨b,cs,hblk _ h1,dM.2 ⟨h2,hn⟩,h3,iv (Sx.eC 9) h h4,h5,h6⟩
 |map es=>
  obtain⟨b,es',k,h1,h2,h3,h4,h5⟩:=hs
  simp only [Chunk.cD,Bool.and_eq_true] at h
  exact⟨b,es',k,hblk _ h1,dM.2 ⟨h2,hn⟩,h3,iv (Sx.eC 9) h.1 h4,iv (Sx.eC 9) h.2 h5⟩
 |args B w0=>exact fun b hb=>⟨dM.2 ⟨(hs b hb).1,hn⟩,(hs b hb).2⟩
 |froz S w0=>exact fun b hb=>⟨dM.2 ⟨(hs b hb).1,hn⟩,(hs b hb).2⟩
 |sem x=>exact x.up (fun b hb=>dM.2 ⟨hb,hn⟩) hs
 |bag e m=>
  obtain⟨a,l,c,h1,h2,h3⟩:=hs
  exact⟨a,l,c,by simp [Env.cut,hn,h1],h2,h3.imp id fun⟨b,cs,q1,q2,q3⟩=>⟨b,cs,q1,dM.2 ⟨q2,hn⟩,q3⟩⟩
 |iter s pos=>
  obtain⟨b,h1,h2,h3⟩:=hs
  exact⟨b,hblk _ h1,dM.2 ⟨h2,hn⟩,h3⟩
def xW (P:Program) (c c':Nat) (h2 h':Heap):Prop:=∀n x,h'.get n=some x→inside c c' n=false∧h2.get n=some x∧x.tX P c c' n
theorem gJ.mono {c:Code}{Q Q':Exit→Act→World→Prop}{a:Act}{w:World} (h:gJ P c Q a w) (hq:∀e a w,Q e a w→Q' e a w):gJ P c Q' a w:=
 fun b k cs=>let ⟨e,a',w',q,r⟩:=h b k cs;⟨e,a',w',hq _ _ _ q,r⟩
theorem aN.upto {r r':Env}{ow ow':Nat→Option Nat}{w w':World}{c c1 c2:Nat}{h h1:Heap} (hp:aN P r ow w (bb c h) r' ow' w' (bb c1 h1)) (hc:c1≤c2):aN P r ow w (bb c h) r' ow' w' (bb c2 h1):=
 ⟨hp.le,hp.sat,hp.frame,⟨fun n e=>(hp.new.1 n e).imp id fun q=>⟨q.1,Nat.lt_of_lt_of_le q.2 hc⟩,fun n e=>(hp.new.2 n e).imp id fun q=>⟨q.1,Nat.lt_of_lt_of_le q.2 hc⟩⟩,Nat.le_trans hp.mono hc,
  fun b n e=>(hp.own b n e).imp id fun q=>⟨q.1,Nat.lt_of_lt_of_le q.2 hc⟩⟩
def Dz (P:Program) (c:Code) (T:List Value) (live aq:List Nat) (c1:Nat) (h1:Heap) (e:bU) (T':List Value):X dI:=fun _ s=>match Nat.ble s.c c1 && (fm aq s.c c1 h1 && a8 s.c (s.h.cw aq)) with
 |true=>some (.out e T', { s with c:=c1,h:=h1++s.h.cw aq,V:= .p (ab P s.c (s.h.only aq) c1 h1 (.inLoop c (x9 live 0 T)) (.out e T'))::s.V})
 |false=>none
def DI (v:Value):X Unit:=fun _ s=>some ((), { s with V:= .t (.tuple ⟨[v,.int .i64 (s.c:Int)]⟩) true::s.V})
def lj (P:Program) (ro rec:Rec) (c:Code) (T:List Value):Option eA→X dI
 |some (.loop live aq c1 h1 e T')=>Dz P c T live aq c1 h1 e T'
 |some (.cell v)=>X.bind (DI v) fun _=>stepT P ro rec (.inLoop c T)
 |some (.br _)=>stepT P ro rec (.inLoop c T)
 |none=>stepT P ro rec (.inLoop c T)
def DZ (P:Program) (ro rec:Rec):Task→X dI
 | .inLoop c T=>X.bind X.tick fun a=>lj P ro rec c T a
 | .call f asZ=>stepT P ro rec (.call f asZ)
 | .code c T=>stepT P ro rec (.code c T)
 | .inScope c b T=>stepT P ro rec (.inScope c b T)
theorem uG {c:Code}{T T':List Value}{live aq:List Nat}{c1:Nat}{h1:Heap}{e:bU}{d:bj}{s s':St}{a:dI} (h:Dz P c T live aq c1 h1 e T' d s=some (a,s')):
  (s.c≤c1∧fm aq s.c c1 h1=true∧a8 s.c (s.h.cw aq)=true)∧a= .out e T'∧
   s'= { s with c:=c1,h:=h1++s.h.cw aq,V:= .p (ab P s.c (s.h.only aq) c1 h1 (.inLoop c (x9 live 0 T)) (.out e T'))::s.V}:=by
 unfold Dz at h
 cases hb:Nat.ble s.c c1 && (fm aq s.c c1 h1 && a8 s.c (s.h.cw aq)) with
 |false=>simp [hb] at h
 |true=>
  simp only [hb,Option.some.injEq,Prod.mk.injEq] at h
  simp only [Bool.and_eq_true] at hb
  exact⟨⟨Nat.le_of_ble_eq_true hb.1,hb.2.1,hb.2.2⟩,h.1.symm,h.2.symm⟩
theorem xc {v:Value}{u:Unit}{d:bj}{s s':St} (h:DI v d s=some (u,s')):Calm s s':=by
 simp only [DI,Option.some.injEq,Prod.mk.injEq] at h
 obtain⟨_,rfl⟩:=h
 exact⟨rfl,rfl,nN⟩
theorem gF.calm {x:X dI}{t:Task}{d:bj}{s s1 s':St}{res:dI} (hx:gF P x t) (cm:Calm s s1) (h:x d s1=some (res,s')):
  (aW s'.V→aW s.V)∧(aW s'.V→∀r ow w,Sat P r ow s.h w→bF r s.c s'.c→uC P r ow w s s' t res):=by
 obtain⟨g1,g2⟩:=hx d s1 res s' h
 refine⟨fun hV=>cm.V (g1 hV),fun hV r ow w hs hf=> ?_⟩
 have:=g2 hV r ow w (by rw [cm.h];exact hs) (by rw [cm.c];exact hf)
 have hp:∀r' ow' w',aN P r ow w s1 r' ow' w' s'→aN P r ow w s r' ow' w' s':=fun r' ow' w' q=>
  ⟨q.le,q.sat,q.frame,by rw [←cm.c];exact q.new,by rw [←cm.c];exact q.mono,by rw [←cm.c];exact q.own⟩
 cases t <;> cases res <;> try trivial
 · exact fun us hu=>Calls.mono (this us hu) fun e w' ⟨r',ow',u,he,q,hv⟩=>⟨r',ow',u,he,hp _ _ _ q,hv⟩
 · exact fun a ha hd=>wp_mono (this a ha hd) fun e' a' w' ⟨q1,q2,r3,o3,q3,q4⟩=>⟨q1,q2,r3,o3,hp _ _ _ q3,q4⟩
 · exact fun a ha hd=>gJ.mono (this a ha hd) fun e' a' w' ⟨q1,q2,r3,o3,q3,q4⟩=>⟨q1,q2,r3,o3,hp _ _ _ q3,q4⟩
 · intro a ha hd b k cs
   obtain⟨e3,a3,w3,⟨q1,q2,r3,o3,q3,q4⟩,q5⟩:=this a ha hd b k cs
   exact⟨e3,a3,w3,⟨q1,q2,r3,o3,hp _ _ _ q3,q4⟩,q5⟩
theorem wx (hm:P.follows .mixedOrders=true) {ro rec:Rec} (ho:lT P ro) (hr:gC P rec):gC P (DZ P ro rec):=by
 have hM:=fun t=>EK (P:=P) ho.loc hr.mono t
 have hS:=fun t=>wy hm ho hr t
 refine⟨fun t=> ?_,fun t=> ?_⟩
 · cases t with
   |call f asZ=>exact hM (.call f asZ)
   |code c T=>exact hM (.code c T)
   |inScope c b T=>exact hM (.inScope c b T)
   |inLoop c T=>
    intro d s a s' h
    unfold DZ at h
    obtain⟨x,s1,h1,h2⟩:=bind_some h
    obtain rfl:=kb h1
    cases x with
    |none=>exact hM (.inLoop c T) d { s with k:=s.k+1} a s' h2
    |some x=>cases x with
     |br b=>exact hM (.inLoop c T) d { s with k:=s.k+1} a s' h2
     |cell v=>
      simp only [lj] at h2
      obtain⟨_,s2,h3,h4⟩:=bind_some h2
      have cm:=xc h3
      have:=hM (.inLoop c T) d s2 a s' h4
      rw [cm.c] at this
      exact this
     |loop live aq c1 h1' e T'=>
      simp only [lj] at h2
      obtain⟨h3,_,rfl⟩:=uG h2
      exact h3.1
 · cases t with
   |call f asZ=>exact hS (.call f asZ)
   |code c T=>exact hS (.code c T)
   |inScope c b T=>exact hS (.inScope c b T)
   |inLoop c T=>
    intro d s a s' h
    unfold DZ at h
    obtain⟨x,s1,h1,h2⟩:=bind_some h
    have cm0:=iu h1
    cases x with
    |none=>exact(hS (.inLoop c T)).calm cm0 h2
    |some x=>cases x with
     |br b=>exact(hS (.inLoop c T)).calm cm0 h2
     |cell v=>
      simp only [lj] at h2
      obtain⟨_,s2,h3,h4⟩:=bind_some h2
      exact(hS (.inLoop c T)).calm (cm0.trans (xc h3)) h4
     |loop live aq c1 h1' e T'=>
      obtain rfl:=kb h1
      simp only [lj] at h2
      obtain⟨hb,rfl,rfl⟩:=uG h2
      refine⟨fun hV=>nN hV,fun hV r ow w hs hf a ha hd=> ?_⟩
      have hdo:=nZ hV
      simp only [VC.ok] at hdo
      refine gJ.mono (hdo.2 r (part aq ow) w (hs.part aq) hf a (wu live T _ 0 ha) hd) ?_
      intro e' a' w' ⟨q1,q2,r3,o3,q3,q4⟩
      have q5:=aN.join hs hf hb.2.1 hb.2.2 q3
      exact⟨q1,q2,r3,_,⟨q5.le,q5.sat,q5.frame,q5.new,q5.mono,q5.own⟩,q4⟩
end
end Go.Sx

/- TxnNothing: the walk. No condition. -/
import Derived.Test.YtalanookmohdeaaGreatDoorM22
import Derived.Test.YtalanookmohdeaaGreatDoorM21
import Derived.Test.YtalanookmohdeaaGreatDoorM20
import Derived.Test.YtalanookmohdeaaGreatDoorM5
namespace Go.Proofs.YtalanookmohdeaaGreatDoor
open Go Go.Sx
noncomputable def pk:Code:=bD [1,1,1,0,1,0,0] (bA 3)
noncomputable def pc:Code:=bD [1,1,1,0,1,0,0,1,1,0,0,1,1,0,1,0,0] (bA 3)
abbrev CH (kd lim:Int) (rd unb rev:Bool) (key val low high:ByteArray):List Value:= [Value.int IntKind.i64 kd,Value.bool rd,Value.string key,Value.string val,Value.string low,Value.string high,Value.bool unb,Value.int IntKind.i64 lim,Value.bool rev]
section
set_option maxRecDepth 100000
set_option linter.unusedSectionVars false
variable {kd lim:Int}{rd unb rev:Bool}{key val low high:ByteArray}{i N b off cap B ba oa M ca k n:Nat}{L:List Value}{W0:World}{x35:Value}
variable (k0:(decide ((i:Int) < (N:Int)))=true)(k1:(decide (0≤(i:Int)∧(i:Int) < (N:Int)))=true)(k2:(kd==6)=true)(k3:(kd==6)=false)(k4:(decide ((i:Int) < (N:Int)))=false)(k5:(bz (n+1) 104)=true)(k6:aZ B W0 b (off+i*9) ((CH kd lim rd unb rev key val low high))∧((CH kd lim rd unb rev key val low high):List Value).length=9)(k7:List.take (n*9) (List.drop 0 L)=L∧L.length=n*9)
include k0 k1 k2 k6 in
theorem Rq {L:List Value}:ab Tryz.prog 7 [(0,.args B W0)] 10 [(0,.args B W0),(9,.cells ([iI 7,.bool rd,.string key,.string val,.string low,.string high,.bool unb,iI lim,.bool rev]) 34)] (.code pc (ay 111 0 [(1,pT 1),(3,pT 3),(6,sN),(29,.slice (some ⟨ba,oa,some 0⟩) M ca),(30,iI (M:Nat)),(31,iI (k:Nat)),(35,.slice (some ⟨b,off,some 0⟩) N cap),(36,iI (N:Nat)),(37,iI ((i:Nat)))])) (.out .normal (ay 111 0 [(1,pT 1),(3,pT 3),(6,sL 9 1),(29,.slice (some ⟨ba,oa,some 0⟩) M ca),(30,iI (M:Nat)),(31,iI (k:Nat)),(35,.slice (some ⟨b,off,some 0⟩) N cap),(36,iI (N:Nat)),(37,iI (IntKind.i64.wrap ((i:Int)+1)))])):=
 bW mixed ar (C:=cz) (nn:=600) (d:=aT [0,1,5] [(2,.cell (.tuple ⟨(CH kd lim rd unb rev key val low high)⟩))]) (e:= .normal) (by kernel_rfl) (vB k2 (vP k6 (vC k1 (vB k0 vN))))
include k0 k1 k3 k6 in
theorem Rr {L:List Value}:ab Tryz.prog 7 [(0,.args B W0)] 10 [(0,.args B W0),(9,.cells ([iI kd,.bool rd,.string key,.string val,.string low,.string high,.bool unb,iI lim,.bool rev]) 34)] (.code pc (ay 111 0 [(1,pT 1),(3,pT 3),(6,sN),(29,.slice (some ⟨ba,oa,some 0⟩) M ca),(30,iI (M:Nat)),(31,iI (k:Nat)),(35,.slice (some ⟨b,off,some 0⟩) N cap),(36,iI (N:Nat)),(37,iI ((i:Nat)))])) (.out .normal (ay 111 0 [(1,pT 1),(3,pT 3),(6,sL 9 1),(29,.slice (some ⟨ba,oa,some 0⟩) M ca),(30,iI (M:Nat)),(31,iI (k:Nat)),(35,.slice (some ⟨b,off,some 0⟩) N cap),(36,iI (N:Nat)),(37,iI (IntKind.i64.wrap ((i:Int)+1)))])):=
 bW mixed ar (C:=cz) (nn:=600) (d:=aT [0,1] (aF [5] [(2,.cell (.tuple ⟨(CH kd lim rd unb rev key val low high)⟩))])) (e:= .normal) (by kernel_rfl) (vB k3 (vP k6 (vC k1 (vB k0 vN))))
include k4 in
theorem KN {L:List Value}:ab Tryz.prog 7 [(0,.args B W0)] 7 [(0,.args B W0)] (.code pc (ay 111 0 [(1,pT 1),(3,pT 3),(6,sN),(29,.slice (some ⟨ba,oa,some 0⟩) M ca),(30,iI (M:Nat)),(31,iI (k:Nat)),(35,x35),(36,iI (N:Nat)),(37,iI ((i:Nat)))])) (.out (.exit 2) (ay 111 0 [(1,pT 1),(3,pT 3),(6,sN),(29,.slice (some ⟨ba,oa,some 0⟩) M ca),(30,iI (M:Nat)),(31,iI (k:Nat)),(35,x35),(36,iI (N:Nat)),(37,iI ((i:Nat)))])):=
 bW mixed ar (C:=cz) (nn:=600) (d:=aF [0] []) (e:=(.exit 2)) (by kernel_rfl) (vB k4 vN)
include k0 k1 k2 k5 k6 k7 in
theorem Rk:ab Tryz.prog 7 [(0,.args B W0),(6,.cells L 34)] 10 [(0,.args B W0),(9,.cells (L++ [iI 7,.bool rd,.string key,.string val,.string low,.string high,.bool unb,iI lim,.bool rev]) 34)] (.code pc (ay 111 0 [(1,pT 1),(3,pT 3),(6,sL 6 n),(29,.slice (some ⟨ba,oa,some 0⟩) M ca),(30,iI (M:Nat)),(31,iI (k:Nat)),(35,.slice (some ⟨b,off,some 0⟩) N cap),(36,iI (N:Nat)),(37,iI ((i:Nat)))])) (.out .normal (ay 111 0 [(1,pT 1),(3,pT 3),(6,sL 9 (n+1)),(29,.slice (some ⟨ba,oa,some 0⟩) M ca),(30,iI (M:Nat)),(31,iI (k:Nat)),(35,.slice (some ⟨b,off,some 0⟩) N cap),(36,iI (N:Nat)),(37,iI (IntKind.i64.wrap ((i:Int)+1)))])):=
 bW mixed ar (C:=cz) (nn:=600) (d:=aT [0,1,5,11] [(2,.cell (.tuple ⟨(CH kd lim rd unb rev key val low high)⟩)),(10,.cell (.tuple ⟨L⟩))]) (e:= .normal) (by kernel_rfl) (vC k5 (vP k7 (vB k2 (vP k6 (vC k1 (vB k0 vN))))))
include k0 k1 k3 k5 k6 k7 in
theorem Ra:ab Tryz.prog 7 [(0,.args B W0),(6,.cells L 34)] 10 [(0,.args B W0),(9,.cells (L++ [iI kd,.bool rd,.string key,.string val,.string low,.string high,.bool unb,iI lim,.bool rev]) 34)] (.code pc (ay 111 0 [(1,pT 1),(3,pT 3),(6,sL 6 n),(29,.slice (some ⟨ba,oa,some 0⟩) M ca),(30,iI (M:Nat)),(31,iI (k:Nat)),(35,.slice (some ⟨b,off,some 0⟩) N cap),(36,iI (N:Nat)),(37,iI ((i:Nat)))])) (.out .normal (ay 111 0 [(1,pT 1),(3,pT 3),(6,sL 9 (n+1)),(29,.slice (some ⟨ba,oa,some 0⟩) M ca),(30,iI (M:Nat)),(31,iI (k:Nat)),(35,.slice (some ⟨b,off,some 0⟩) N cap),(36,iI (N:Nat)),(37,iI (IntKind.i64.wrap ((i:Int)+1)))])):=
 bW mixed ar (C:=cz) (nn:=600) (d:=aT [0,1,10] (aF [5] [(2,.cell (.tuple ⟨(CH kd lim rd unb rev key val low high)⟩)),(9,.cell (.tuple ⟨L⟩))])) (e:= .normal) (by kernel_rfl) (vC k5 (vP k7 (vB k3 (vP k6 (vC k1 (vB k0 vN))))))
include k4 in
theorem Th:ab Tryz.prog 7 [(0,.args B W0),(6,.cells L 34)] 7 [(0,.args B W0),(6,.cells L 34)] (.code pc (ay 111 0 [(1,pT 1),(3,pT 3),(6,sL 6 n),(29,.slice (some ⟨ba,oa,some 0⟩) M ca),(30,iI (M:Nat)),(31,iI (k:Nat)),(35,x35),(36,iI (N:Nat)),(37,iI ((i:Nat)))])) (.out (.exit 2) (ay 111 0 [(1,pT 1),(3,pT 3),(6,sL 6 n),(29,.slice (some ⟨ba,oa,some 0⟩) M ca),(30,iI (M:Nat)),(31,iI (k:Nat)),(35,x35),(36,iI (N:Nat)),(37,iI ((i:Nat)))])):=
 bW mixed ar (C:=cz) (nn:=600) (d:=aF [0] []) (e:=(.exit 2)) (by kernel_rfl) (vB k4 vN)
end
section
open Go Go.Sx
abbrev CM (k M ba oa ca:Nat):List Value:=ay 111 0 [(1,pT 1),(3,pT 3),(29,.slice (some ⟨ba,oa,some 0⟩) M ca),(30,iI (M:Nat)),(31,iI ((k:Nat)))]
abbrev N1 (k M ba oa ca:Nat):List Value:=ay 111 0 [(1,pT 1),(3,pT 3),(6,sN),(29,.slice (some ⟨ba,oa,some 0⟩) M ca),(30,iI (M:Nat)),(31,iI (k:Nat))]
abbrev OG (k M ba oa ca AN:Nat):List Value:=ay 111 0 [(1,pT 1),(3,pT 3),(6,sL 6 AN),(29,.slice (some ⟨ba,oa,some 0⟩) M ca),(30,iI (M:Nat)),(31,iI (k:Nat))]
abbrev P8 (a b c d e g:Int) (B nr:Nat) (pl R:List Value) (W0 w1:World) (S:List Nat) (tu:Value):Heap:= [(0,.args B W0),(1,.cells pl 27),(3,.cells [iI a,iI b,iI c,iI d,iI e,iI g,sL 5 nr,tu] 27),(4,.froz S w1),(5,.cells R 30)]
abbrev KZ:List Nat:= [1,3,6,29,30,31,35,36,37]
abbrev TD:=fun(k M ba oa ca:Nat) h0=>ab Tryz.prog 6 h0 6 h0 (.code pk (CM k M ba oa ca)) (.out (.exit 0) (CM k M ba oa ca))
section
set_option maxRecDepth 100000
set_option linter.unusedSectionVars false
variable {a b c d e g:Int}{k M ba oa ca N cap B AN nr:Nat}{pt:Option Addr}{pl A R:List Value}{W0 w1:World}{S:List Nat}{tu:Value}
variable (k0:(decide ((k:Int) < (M:Int)))=true)(k1:(decide (0≤(k:Int)∧(k:Int) < (M:Int)))=true)(k2:(decide ((k:Int) < (M:Int)))=false)(k3:(bz (nr+1) 24)=true)(k4:aZ B W0 ba (oa+k*1) ([Value.slice pt N cap])∧([Value.slice pt N cap]:List Value).length=1)(k5:List.take (nr*1) (List.drop 0 R)=R∧R.length=nr*1)(k6:ab Tryz.prog 6 [(0,.args B W0)] 12 [(0,.args B W0),(6,.cells A 34)] (.inLoop pc (ay 111 0 [(1,pT 1),(3,pT 3),(6,sN),(29,.slice (some ⟨ba,oa,some 0⟩) M ca),(30,iI (M:Nat)),(31,iI (k:Nat)),(35,.slice pt N cap),(36,iI (N:Nat)),(37,iI 0)])) (.out (.exit 2) (OG k M ba oa ca AN)))(k7:ab Tryz.prog 6 [(0,.args B W0)] 12 [(0,.args B W0)] (.inLoop pc (ay 111 0 [(1,pT 1),(3,pT 3),(6,sN),(29,.slice (some ⟨ba,oa,some 0⟩) M ca),(30,iI (M:Nat)),(31,iI (k:Nat)),(35,.slice pt N cap),(36,iI (N:Nat)),(37,iI 0)])) (.out (.exit 2) (N1 k M ba oa ca)))
include k0 k1 k4 k7 in
theorem S3:ab Tryz.prog 6 [(0,.args B W0),(1,.cells pl 27),(3,.cells [iI a,iI b,iI c,iI d,iI e,iI g,sN,tu] 27),(4,.froz S w1)] 14 [(0,.args B W0),(1,.cells pl 27),(3,.cells [iI a,iI b,iI c,iI d,iI e,iI g,sL 13 1,tu] 27),(4,.froz S w1),(13,.cells ([sN]) 30)] (.code pk (CM k M ba oa ca)) (.out .normal (ay 111 0 [(1,pT 1),(3,pT 3),(29,.slice (some ⟨ba,oa,some 0⟩) M ca),(30,iI (M:Nat)),(31,iI (IntKind.i64.wrap ((k:Int)+1)))])):=
 bW mixed ar (C:=cz) (nn:=600) (d:=aT [0,1] [(2,.cell (.tuple ⟨[Value.slice pt N cap]⟩)),(3,.loop KZ [0] 12 [(0,.args B W0)] (.exit 2) (N1 k M ba oa ca))]) (e:= .normal) (by kernel_rfl) (vP k7 (vP k4 (vC k1 (vB k0 vN))))
include k0 k1 k4 k6 in
theorem Sy:ab Tryz.prog 6 [(0,.args B W0),(1,.cells pl 27),(3,.cells [iI a,iI b,iI c,iI d,iI e,iI g,sN,tu] 27),(4,.froz S w1)] 14 [(0,.args B W0),(1,.cells pl 27),(3,.cells [iI a,iI b,iI c,iI d,iI e,iI g,sL 13 1,tu] 27),(4,.froz S w1),(13,.cells ([sL 6 AN]) 30),(6,.cells A 34)] (.code pk (CM k M ba oa ca)) (.out .normal (ay 111 0 [(1,pT 1),(3,pT 3),(29,.slice (some ⟨ba,oa,some 0⟩) M ca),(30,iI (M:Nat)),(31,iI (IntKind.i64.wrap ((k:Int)+1)))])):=
 bW mixed ar (C:=cz) (nn:=600) (d:=aT [0,1] [(2,.cell (.tuple ⟨[Value.slice pt N cap]⟩)),(3,.loop KZ [0] 12 [(0,.args B W0),(6,.cells A 34)] (.exit 2) (OG k M ba oa ca AN))]) (e:= .normal) (by kernel_rfl) (vP k6 (vP k4 (vC k1 (vB k0 vN))))
include k2 in
theorem SA:TD k M ba oa ca [(0,.args B W0),(1,.cells pl 27),(3,.cells [iI a,iI b,iI c,iI d,iI e,iI g,sN,tu] 27),(4,.froz S w1)]:=
 bW mixed ar (C:=cz) (nn:=600) (d:=aF [0] []) (e:=(.exit 0)) (by kernel_rfl) (vB k2 vN)
include k0 k1 k3 k4 k5 k7 in
theorem SW:ab Tryz.prog 6 (P8 a b c d e g B nr pl R W0 w1 S tu) 14 [(0,.args B W0),(1,.cells pl 27),(3,.cells [iI a,iI b,iI c,iI d,iI e,iI g,sL 13 (nr+1),tu] 27),(4,.froz S w1),(13,.cells (R++ [sN]) 30)] (.code pk (CM k M ba oa ca)) (.out .normal (ay 111 0 [(1,pT 1),(3,pT 3),(29,.slice (some ⟨ba,oa,some 0⟩) M ca),(30,iI (M:Nat)),(31,iI (IntKind.i64.wrap ((k:Int)+1)))])):=
 bW mixed ar (C:=cz) (nn:=600) (d:=aT [0,1,8] [(2,.cell (.tuple ⟨[Value.slice pt N cap]⟩)),(3,.loop KZ [0] 12 [(0,.args B W0)] (.exit 2) (N1 k M ba oa ca)),(7,.cell (.tuple ⟨R⟩))]) (e:= .normal) (by kernel_rfl) (vC k3 (vP k5 (vP k7 (vP k4 (vC k1 (vB k0 vN))))))
include k0 k1 k3 k4 k5 k6 in
theorem RM:ab Tryz.prog 6 (P8 a b c d e g B nr pl R W0 w1 S tu) 14 [(0,.args B W0),(1,.cells pl 27),(3,.cells [iI a,iI b,iI c,iI d,iI e,iI g,sL 13 (nr+1),tu] 27),(4,.froz S w1),(13,.cells (R++ [sL 6 AN]) 30),(6,.cells A 34)] (.code pk (CM k M ba oa ca)) (.out .normal (ay 111 0 [(1,pT 1),(3,pT 3),(29,.slice (some ⟨ba,oa,some 0⟩) M ca),(30,iI (M:Nat)),(31,iI (IntKind.i64.wrap ((k:Int)+1)))])):=
 bW mixed ar (C:=cz) (nn:=600) (d:=aT [0,1,8] [(2,.cell (.tuple ⟨[Value.slice pt N cap]⟩)),(3,.loop KZ [0] 12 [(0,.args B W0),(6,.cells A 34)] (.exit 2) (OG k M ba oa ca AN)),(7,.cell (.tuple ⟨R⟩))]) (e:= .normal) (by kernel_rfl) (vC k3 (vP k5 (vP k6 (vP k4 (vC k1 (vB k0 vN))))))
include k2 in
theorem RT:TD k M ba oa ca (P8 a b c d e g B nr pl R W0 w1 S tu):=
 bW mixed ar (C:=cz) (nn:=600) (d:=aF [0] []) (e:=(.exit 0)) (by kernel_rfl) (vB k2 vN)
end
end
section
open Go Go.Sx
def q7 (a:Ac):Ac:= { a with kd:=if a.kd=6 then 7 else a.kd}
def fe:List Ac→List Value
 | []=> []
 |a::l=>a.cells++fe l
theorem wR:∀(l m:List Ac),fe (l++m)=fe l++fe m
 | [],_=>rfl
 |a::l,m=>by show a.cells++fe (l++m)=(a.cells++fe l)++fe m;rw [wR l m,List.append_assoc]
theorem mc:∀l:List Ac,(fe l).length=l.length*9
 | []=>rfl
 |a::l=>by show(a.cells++fe l).length=_;rw [List.length_append,mc l,List.length_cons,Nat.succ_mul];show 9+_=_;omega
theorem xa:∀ {l:List Ac}{i:Nat}{a:Ac},l[i]? =some a→∀(j:Nat) v,a.cells[j]? =some v→(fe l)[i*9+j]? =some v
 | [],_,_,h,_,_,_=>by simp at h
 |b::l,0,a,h,j,v,hv=>by
  simp only [List.getElem?_cons_zero,Option.some.injEq] at h
  subst h
  have hj:=(List.getElem?_eq_some_iff.1 hv).1
  show(b.cells++fe l)[0*9+j]? =_
  rw [Nat.zero_mul,Nat.zero_add,List.getElem?_append_left hj];exact hv
 |b::l,i+1,a,h,j,v,hv=>by
  have:=xa (l:=l) (i:=i) (a:=a) (by simpa using h) j v hv
  have h9:b.cells.length=9:=rfl
  show(b.cells++fe l)[(i+1)*9+j]? =_
  rw [List.getElem?_append_right (by omega),show(i+1)*9+j - b.cells.length=i*9+j by omega];exact this
theorem Gi (a:Ac) (j:Nat) (v:Value) (h:a.cells[j]? =some v):pW v:=by
 match j,h with
 |0,h=>cases h;exact uI _ _
 |1,h=>cases h;exact pC _
 |2,h=>cases h;exact jF _
 |3,h=>cases h;exact jF _
 |4,h=>cases h;exact jF _
 |5,h=>cases h;exact jF _
 |6,h=>cases h;exact pC _
 |7,h=>cases h;exact uI _ _
 |8,h=>cases h;exact pC _
 |_+9,h=>simp [Ac.cells] at h
theorem rr:∀l:List Ac,dG (fe l)
 | []=>ot
 |_::l=>qw (cW (cE _ _) (cW (cX _) (cW ⟨rfl,fun _=>rfl⟩ (cW ⟨rfl,fun _=>rfl⟩ (cW ⟨rfl,fun _=>rfl⟩ (cW ⟨rfl,fun _=>rfl⟩ (cW (cX _) (cW (cE _ _) (cW (cX _) ot))))))))) (rr l)
def qq (n:Nat):Value:=match n with
 |0=> .slice none 0 0
 |n+1=> .slice (some ⟨6,0,none⟩) (n+1) 0
def lH (B:Nat) (W0:World) (l:List Ac):Heap:=match l with
 | []=> [(0,.args B W0)]
 |a::l=> [(0,.args B W0),(6,.cells (fe (a::l)) 34)]
abbrev qL (ba oa M ca k:Nat) (s x:Value) (N i:Nat):List (Nat×Value):= [(1,.pointer (some ⟨1,0,none⟩)),(3,.pointer (some ⟨3,0,none⟩)),(6,s),(29,.slice (some ⟨ba,oa,some 0⟩) M ca),(30,.int .i64 (M:Nat)),(31,.int .i64 (k:Nat)),(35,x),(36,.int .i64 (N:Nat)),(37,.int .i64 (i:Nat))]
abbrev qE (ba oa M ca k:Nat) (s:Value):List (Nat×Value):= [(1,.pointer (some ⟨1,0,none⟩)),(3,.pointer (some ⟨3,0,none⟩)),(6,s),(29,.slice (some ⟨ba,oa,some 0⟩) M ca),(30,.int .i64 (M:Nat)),(31,.int .i64 (k:Nat))]
section
variable {B:Nat}{W0:World}{ba oa M ca k b off cap N:Nat}{acts:List Ac}
theorem Ch {r:Env}{us:List Value}{s x:Value}{i:Nat} (h:aw r (ay 111 0 (qL ba oa M ca k s x N i)) us):aw r (ay 111 0 (qE ba oa M ca k s)) us:=qG h fun i _=>by
 have hi:i=1∨i=3∨i=6∨i=29∨i=30∨i=31∨(1≠i∧3≠i∧6≠i∧29≠i∧30≠i∧31≠i):=by omega
 rcases hi with rfl|rfl|rfl|rfl|rfl|rfl|⟨e1,e2,e3,e4,e5,e6⟩
 · exact .inl rfl
 · exact .inl rfl
 · exact .inl rfl
 · exact .inl rfl
 · exact .inl rfl
 · exact .inl rfl
 · exact .inr (by simp [eL,cj,e1,e2,e3,e4,e5,e6])
theorem PD (hN:acts.length=N) (h40:N≤100) (hc:∀i a,acts[i]? =some a→aZ B W0 b (off+i*9) a.cells) {h0:Heap}:∀(r i:Nat),N - i=r→i≤N→
  Mid Tryz.prog 6 h0 7 (lH B W0 ((acts.take i).map q7)) 12 (lH B W0 (acts.map q7)) pc (ay 111 0 (qL ba oa M ca k (qq i) (.slice (some ⟨b,off,some 0⟩) N cap) N i)) (.exit 2) (ay 111 0 (qE ba oa M ca k (qq N))):=by
 intro r
 induction r with
 |zero=>
  intro i hr hi
  have:i=N:=by omega
  subst this
  have hd:decide ((i:Int) < (i:Int))=false:=decide_eq_false (by omega)
  rw [List.take_of_length_le (by omega)]
  have hend:ab Tryz.prog 7 (lH B W0 (acts.map q7)) 7 (lH B W0 (acts.map q7)) (.code pc (ay 111 0 (qL ba oa M ca k (qq i) (.slice (some ⟨b,off,some 0⟩) i cap) i i))) (.out (.exit 2) (ay 111 0 (qL ba oa M ca k (qq i) (.slice (some ⟨b,off,some 0⟩) i cap) i i))):=by
   cases acts with
   |nil=>simp at hN;subst hN;exact KN (L:= []) hd
   |cons a l=>simp at hN;subst hN;exact Th hd
  refine mid_end (ρ:= [(6,6)]) nofun rfl (by decide) (by decide) hend ⟨?_,fun r r2 us hb h=>Ch (i:=i) (N:=i) (x:= .slice (some ⟨b,off,some 0⟩) i cap) (gI hb ?_ h)⟩
  · cases acts with
    |nil=>
     intro n x hx
     have hm:=get_mem hx
     simp only [List.map_nil,lH,List.mem_cons,List.not_mem_nil,or_false,Prod.mk.injEq] at hm
     obtain⟨rfl,rfl⟩:=hm
     exact⟨0,_,rfl,rfl,.args⟩
    |cons a l=>
     intro n x hx
     have hm:=get_mem hx
     simp only [List.map_cons,lH,List.mem_cons,List.not_mem_nil,or_false,Prod.mk.injEq] at hm
     rcases hm with⟨rfl,rfl⟩|⟨rfl,rfl⟩
     · exact⟨0,_,rfl,rfl,.args⟩
     · exact⟨6,_,rfl,rfl,bq (rr _) _⟩
  · cases acts with
    |nil=>simp at hN;subst hN;rfl
    |cons a l=>simp at hN;subst hN;rfl
 |succ r ih=>
  intro i hr hi
  have hlt:i < N:=by omega
  obtain⟨a,ha⟩:∃a,acts[i]? =some a:=⟨_,List.getElem?_eq_getElem (by omega)⟩
  have hcell:=hc i a ha
  have hd0:decide ((i:Int) < (N:Int))=true:=decide_eq_true (by omega)
  have hd1:decide ((0:Int)≤(i:Int)∧(i:Int) < (N:Int))=true:=decide_eq_true ⟨by omega,by omega⟩
  have htk:(acts.take (i+1)).map q7=(acts.take i).map q7++ [q7 a]:=by
   rw [List.take_add_one,ha];simp
  have hlen:((acts.take i).map q7).length=i:=by simp;omega
  have hwr:IntKind.i64.wrap ((i:Int)+1)=((i+1:Nat):Int):=by rw [wrap64 (by omega) (by omega)];rfl
  have hnext:=ih (i+1) (by omega) (by omega)
  rw [htk] at hnext
  have key:∀s,s=qq i→∃H1,ab Tryz.prog 7 (lH B W0 ((acts.take i).map q7)) 10 H1 (.code pc (ay 111 0 (qL ba oa M ca k (qq i) (.slice (some ⟨b,off,some 0⟩) N cap) N i))) (.out .normal (ay 111 0 [(1,.pointer (some ⟨1,0,none⟩)),(3,.pointer (some ⟨3,0,none⟩)),(6,.slice (some ⟨9,0,none⟩) (i+1) 0),(29,.slice (some ⟨ba,oa,some 0⟩) M ca),(30,.int .i64 (M:Nat)),(31,.int .i64 (k:Nat)),(35,.slice (some ⟨b,off,some 0⟩) N cap),(36,.int .i64 (N:Nat)),(37,.int .i64 (IntKind.i64.wrap ((i:Int)+1)))]))∧
    H1= [(0,.args B W0),(9,.cells (fe ((acts.take i).map q7++ [q7 a])) 34)]:=fun s hs=>by
   obtain⟨kd,rd,key,val,lo,hi,un,li,rv⟩:=a
   have hq:∀kd',fe ((acts.take i).map q7++ [⟨kd',rd,key,val,lo,hi,un,li,rv⟩])=fe ((acts.take i).map q7)++ [.int .i64 kd',.bool rd,.string key,.string val,.string lo,.string hi,.bool un,.int .i64 li,.bool rv]:=fun kd'=>by rw [wR];rfl
   by_cases h6:kd=6
   · have e6:(kd==(6:Int))=true:=by simp [h6]
     have eq7:q7 ⟨kd,rd,key,val,lo,hi,un,li,rv⟩=⟨7,rd,key,val,lo,hi,un,li,rv⟩:=by simp [q7,h6]
     refine⟨_,?_,rfl⟩
     rw [eq7,hq]
     cases e:(acts.take i).map q7 with
     |nil=>
      rw [e] at hlen
      simp at hlen
      subst hlen
      exact Rq (L:= []) hd0 hd1 e6 ⟨hcell,rfl⟩
     |cons a0 l0=>
      rw [e] at hlen
      obtain⟨n,rfl⟩:∃n,i=n+1:=⟨i - 1,by simp at hlen;omega⟩
      exact Rk hd0 hd1 e6 (Nat.ble_eq_true_of_le (by omega)) ⟨hcell,rfl⟩ ⟨by rw [List.drop_zero,List.take_of_length_le (by rw [mc,hlen];exact Nat.le_refl _)],by rw [mc,hlen]⟩
   · have e6:(kd==(6:Int))=false:=by simp [h6]
     have eq7:q7 ⟨kd,rd,key,val,lo,hi,un,li,rv⟩=⟨kd,rd,key,val,lo,hi,un,li,rv⟩:=by simp [q7,h6]
     refine⟨_,?_,rfl⟩
     rw [eq7,hq]
     cases e:(acts.take i).map q7 with
     |nil=>
      rw [e] at hlen
      simp at hlen
      subst hlen
      exact Rr (L:= []) hd0 hd1 e6 ⟨hcell,rfl⟩
     |cons a0 l0=>
      rw [e] at hlen
      obtain⟨n,rfl⟩:∃n,i=n+1:=⟨i - 1,by simp at hlen;omega⟩
      exact Ra hd0 hd1 e6 (Nat.ble_eq_true_of_le (by omega)) ⟨hcell,rfl⟩ ⟨by rw [List.drop_zero,List.take_of_length_le (by rw [mc,hlen];exact Nat.le_refl _)],by rw [mc,hlen]⟩
  obtain⟨H1,hb,rfl⟩:=key _ rfl
  refine mid_step (ρ:= [(6,9)]) rfl (by decide) (by decide) (by decide) hb ⟨?_,fun r r2 us hbm h=>gI hbm ?_ h⟩ hnext
  · intro n x hx
    have hm:=get_mem hx
    have hne:∃a0 l0,(acts.take i).map q7++ [q7 a]=a0::l0:=by cases (acts.take i).map q7 <;> exact⟨_,_,rfl⟩
    obtain⟨a0,l0,e0⟩:=hne
    rw [e0] at hm
    simp only [lH,List.mem_cons,List.not_mem_nil,or_false,Prod.mk.injEq] at hm
    rcases hm with⟨rfl,rfl⟩|⟨rfl,rfl⟩
    · exact⟨0,_,rfl,rfl,.args⟩
    · refine⟨9,_,rfl,rfl,?_⟩
      rw [←e0];exact bq (rr _) _
  · simp only [List.map_cons,List.map_nil,hwr]
    rfl
theorem M6 (hN:acts.length=N) (h40:N≤100) (hc:∀i a,acts[i]? =some a→aZ B W0 b (off+i*9) a.cells):
  ab Tryz.prog 6 [(0,.args B W0)] 12 (lH B W0 (acts.map q7)) (.inLoop pc (ay 111 0 (qL ba oa M ca k (.slice none 0 0) (.slice (some ⟨b,off,some 0⟩) N cap) N 0))) (.out (.exit 2) (ay 111 0 (qE ba oa M ca k (qq N)))):=by
 refine gX (ρ:= [(6,6)]) rfl (by decide) (by decide) ⟨fun n x hx=> ?_,fun r r2 us hbm h=>gI hbm rfl h⟩ (PD hN h40 hc N 0 (by omega) (Nat.zero_le _))
 have hm:=get_mem hx
 simp only [List.take_zero,List.map_nil,lH,List.mem_cons,List.not_mem_nil,or_false,Prod.mk.injEq] at hm
 obtain⟨rfl,rfl⟩:=hm
 exact⟨0,_,rfl,rfl,.args⟩
theorem Jl {pt:Option Addr}:ab Tryz.prog 6 [(0,.args B W0)] 12 [(0,.args B W0)] (.inLoop pc (ay 111 0 (qL ba oa M ca k (.slice none 0 0) (.slice pt 0 cap) 0 0))) (.out (.exit 2) (ay 111 0 (qE ba oa M ca k (.slice none 0 0)))):=by
 have hend:ab Tryz.prog 7 [(0,.args B W0)] 7 [(0,.args B W0)] (.code pc (ay 111 0 (qL ba oa M ca k (.slice none 0 0) (.chan none) 0 0))) (.out (.exit 2) (ay 111 0 (qL ba oa M ca k (.slice none 0 0) (.chan none) 0 0))):=KN (L:= []) rfl
 have hmem:∀(nm:Nat→Option Nat),nm 0=some 0→∀n x,Heap.get [(0,Chunk.args B W0)] n=some x→∃s y,nm s=some n∧Heap.get [(0,Chunk.args B W0)] s=some y∧az (y.bC nm) x:=fun nm h0 n x hx=>by
  have hm:=get_mem hx
  simp only [List.mem_cons,List.not_mem_nil,or_false,Prod.mk.injEq] at hm
  obtain⟨rfl,rfl⟩:=hm
  exact⟨0,_,h0,rfl,.args⟩
 refine gX (ρ:= []) (cm:=7) (T:=ay 111 0 (qL ba oa M ca k (.slice none 0 0) (.chan none) 0 0)) rfl (by decide) (by decide) ⟨hmem _ rfl,fun r r2 us hb h=>gI hb rfl (qG (l2:=qL ba oa M ca k (.slice none 0 0) (.chan none) 0 0) h fun i _=> ?_)⟩
  (mid_end (ρ:= []) nofun rfl (by decide) (by decide) hend ⟨hmem _ rfl,fun r r2 us hb h=>Ch (i:=0) (N:=0) (x:= .chan none) (gI hb rfl h)⟩)
 by_cases e:i=35
 · subst e;exact .inr rfl
 · left
   simp only [eL,cj]
   by_cases e1:1=i <;> by_cases e2:3=i <;> by_cases e3:6=i <;> by_cases e4:29=i <;> by_cases e5:30=i <;> by_cases e6:31=i <;> simp [e1,e2,e3,e4,e5,e6,Ne.symm e]
end
end
section
open Go Go.Sx
structure Src (W:World) (ba oa M:Nat) (ac:Nat→List Ac):Prop where
 list:∀j,j < M→∃s,aZ W.heap.size W ba (oa+j*1) [s]∧((s= .slice none 0 0∧ac j= [])∨∃b off cap,s= .slice (some ⟨b,off,some 0⟩) (ac j).length cap∧∀i a,(ac j)[i]? =some a→aZ W.heap.size W b (off+i*9) a.cells)
 len:∀j,j < M→(ac j).length≤100
structure QS where
 al:List (Nat×Nat×List Ac)
 S:List Nat
 w:World
def dw (x:Nat×Nat×List Ac):Value:=match x.2.2 with
 | []=> .slice none 0 0
 |a::l=> .slice (some ⟨x.1,0,some 1⟩) (l.length+1) x.2.1
structure QS.Ok (ac:Nat→List Ac) (k:Nat) (q:QS):Prop where
 len:q.al.length=k
 acts:∀(j:Nat) x,q.al[j]? =some x→x.2.2=(ac j).map q7
 cells:∀(j:Nat) x (i:Nat) y,q.al[j]? =some x→x.2.2[i]? =some y→dz q.S q.w x.1 (0+i*9) y.cells
def mB (a b c d e g:Int) (ba oa M ca:Nat) (u:Tu):List Value:= [.int .i64 a,.int .i64 b,.int .i64 c,.int .i64 d,.int .i64 e,.int .i64 g,.slice (some ⟨ba,oa,some 0⟩) M ca,fx u]
def qV (a b c d e g:Int) (x:Value) (u:Tu):Chunk:= .cells [.int .i64 a,.int .i64 b,.int .i64 c,.int .i64 d,.int .i64 e,.int .i64 g,x,fx u] 27
section
variable {W:World}{ba oa M ca:Nat}{ac:Nat→List Ac}{a b c d e g:Int}{u:Tu}
def i6 (W:World) (a b c d e g:Int) (ba oa M ca:Nat) (u:Tu) (z x:Nat) (S:List Nat) (w:World):List Value→Heap
 | []=> [(0,.args W.heap.size W),(1,.cells (mB a b c d e g ba oa M ca u) 27),(3,qV a b c d e g (.slice none 0 0) u),(z,.froz S w)]
 |v::R=> [(0,.args W.heap.size W),(1,.cells (mB a b c d e g ba oa M ca u) 27),(3,qV a b c d e g (.slice (some ⟨x,0,none⟩) (R.length+1) 0) u),(z,.froz S w),(x,.cells (v::R) 30)]
abbrev oL (ba oa M ca k:Nat):List (Nat×Value):= [(1,.pointer (some ⟨1,0,none⟩)),(3,.pointer (some ⟨3,0,none⟩)),(29,.slice (some ⟨ba,oa,some 0⟩) M ca),(30,.int .i64 (M:Nat)),(31,.int .i64 (k:Nat))]
theorem zO (x:Nat×Nat×List Ac):eB (dw x):=by
 unfold dw
 split
 · exact uX
 · exact Ey
theorem qD (l:List (Nat×Nat×List Ac)):dG (l.map dw):=ny zO l
theorem Dj (nm:Nat→Option Nat):az (Chunk.bC nm (.cells (mB a b c d e g ba oa M ca u) 27)) (.cells (mB a b c d e g ba oa M ca u) 27):=
 .cells (.same rfl (.same rfl (.same rfl (.same rfl (.same rfl (.same rfl (.same rfl (.same (jT u nm).symm .nil))))))))
theorem Dc {nm:Nat→Option Nat}{x y:Value} (h:ao nm 9 x=y):az (Chunk.bC nm (qV a b c d e g x u)) (qV a b c d e g y u):=
 .cells (.same rfl (.same rfl (.same rfl (.same rfl (.same rfl (.same rfl (.same h.symm (.same (jT u nm).symm .nil))))))))
theorem Ah {nm:Nat→Option Nat}{z x z' x':Nat}{S:List Nat}{w:World}{R:List Value} (hk:cu (aY (i6 W a b c d e g ba oa M ca u z x S w R))=true) (h0:nm 0=some 0) (h1:nm 1=some 1) (h3:nm 3=some 3) (hz:nm z=some z') (hx:nm x=some x') (hr:dG R):
  ∀n y,(i6 W a b c d e g ba oa M ca u z' x' S w R).get n=some y→∃s t,nm s=some n∧(i6 W a b c d e g ba oa M ca u z x S w R).get s=some t∧az (t.bC nm) y:=by
 refine pP hk fun q hq=> ?_
 cases R with
 |nil=>
  simp only [i6,List.mem_cons,List.not_mem_nil,or_false] at hq
  rcases hq with rfl|rfl|rfl|rfl
  · exact⟨(0,.args W.heap.size W),by simp [i6],h0,.args⟩
  · exact⟨(1,.cells (mB a b c d e g ba oa M ca u) 27),by simp [i6],h1,Dj _⟩
  · exact⟨(3,qV a b c d e g (.slice none 0 0) u),by simp [i6],h3,Dc rfl⟩
  · exact⟨(z,.froz S w),by simp [i6],hz,.froz⟩
 |cons v R=>
  simp only [i6,List.mem_cons,List.not_mem_nil,or_false] at hq
  rcases hq with rfl|rfl|rfl|rfl|rfl
  · exact⟨(0,.args W.heap.size W),by simp [i6],h0,.args⟩
  · exact⟨(1,.cells (mB a b c d e g ba oa M ca u) 27),by simp [i6],h1,Dj _⟩
  · exact⟨(3,qV a b c d e g (.slice (some ⟨x,0,none⟩) (R.length+1) 0) u),by simp [i6],h3,Dc (by simp [ao,hx])⟩
  · exact⟨(z,.froz S w),by simp [i6],hz,.froz⟩
  · exact⟨(x,.cells (v::R) 30),by simp [i6],hx,bq hr _⟩
def QS.heap (W:World) (a b c d e g:Int) (ba oa M ca:Nat) (u:Tu) (q:QS):Heap:=i6 W a b c d e g ba oa M ca u 4 5 q.S q.w (q.al.map dw)
theorem tF {z x:Nat}{S:List Nat}{w:World}{R:List Value} (h:(z,x)∈ [(4,5),(4,13),(14,13)]):cu (aY (i6 W a b c d e g ba oa M ca u z x S w R))=true:=by
 simp only [List.mem_cons,List.not_mem_nil,or_false,Prod.mk.injEq] at h
 rcases h with⟨rfl,rfl⟩|⟨rfl,rfl⟩|⟨rfl,rfl⟩ <;> cases R <;> rfl
theorem CF {nm:Nat→Option Nat}{r r2:Env}{us:List Value}{k:Nat} (hk:k < 1000) (h1:nm 1=some 1) (h3:nm 3=some 3) (hb:∀n m,nm n=some m→r2.blk m=r.blk n∧r2.cap m=r.cap n∧r2.val m=r.val n)
  (h:aw r (ay 111 0 [(1,.pointer (some ⟨1,0,none⟩)),(3,.pointer (some ⟨3,0,none⟩)),(29,.slice (some ⟨ba,oa,some 0⟩) M ca),(30,.int .i64 (M:Nat)),(31,.int .i64 (IntKind.i64.wrap ((k:Int)+1)))]) us):aw r2 (ay 111 0 (oL ba oa M ca (k+1))) us:=by
 refine gI hb ?_ h
 simp only [List.map_cons,List.map_nil,ao,h1,h3]
 rw [wrap64 (by omega) (by omega)];rfl
theorem LD (hM:M≤8) (A:Src W ba oa M ac) {h0:Heap}:∀(r k:Nat) (q:QS),M - k=r→k≤M→q.Ok ac k→
  jb Tryz.prog 4 h0 6 (q.heap W a b c d e g ba oa M ca u) 30 (fun f: {f:QS // f.Ok ac M}=>f.1.heap W a b c d e g ba oa M ca u) pk (ay 111 0 (oL ba oa M ca k)) (.exit 0) (fun _=>ay 111 0 (oL ba oa M ca M)):=by
 intro r
 induction r with
 |zero=>
  intro k q hr hk hq
  have:k=M:=by omega
  subst this
  have hd:decide ((k:Int) < (k:Int))=false:=decide_eq_false (by omega)
  have hend:ab Tryz.prog 6 (q.heap W a b c d e g ba oa k ca u) 6 (q.heap W a b c d e g ba oa k ca u) (.code pk (ay 111 0 (oL ba oa k ca k))) (.out (.exit 0) (ay 111 0 (oL ba oa k ca k))):=by
   unfold QS.heap
   cases q.al.map dw with
   |nil=>exact SA hd
   |cons v R=>exact RT hd
  refine p9 (ρ:= [(4,4),(5,5)]) ⟨q,hq⟩ nofun rfl (by decide) (by decide) hend ⟨?_,fun r r2 us hb h=>gI hb rfl h⟩
  exact Ah (tF (by simp)) rfl rfl rfl rfl rfl (qD _)
 |succ r ih=>
  intro k q hr hk hq
  have hlt:k < M:=by omega
  obtain⟨s,hcell,hs⟩:=A.list k hlt
  have h100:=A.len k hlt
  have hd0:decide ((k:Int) < (M:Int))=true:=decide_eq_true (by omega)
  have hd1:decide ((0:Int)≤(k:Int)∧(k:Int) < (M:Int))=true:=decide_eq_true ⟨by omega,by omega⟩
  have hlen:(q.al.map dw).length=k:=by rw [List.length_map];exact hq.len
  have hsh:∃pt cap,s= .slice pt (ac k).length cap∧(ac k≠ []→∃b off,pt=some ⟨b,off,some 0⟩∧∀i a,(ac k)[i]? =some a→aZ W.heap.size W b (off+i*9) a.cells):=by
   rcases hs with⟨rfl,e1⟩|⟨b0,off,cap,rfl,h1⟩
   · exact⟨none,0,by rw [e1];rfl,fun h=>absurd e1 h⟩
   · exact⟨_,cap,rfl,fun _=>⟨b0,off,rfl,h1⟩⟩
  obtain⟨pt,cap,rfl,hpt⟩:=hsh
  cases hac:ac k with
  |nil=>
   rw [hac] at hcell
   have hloop:=Jl (B:=W.heap.size) (W0:=W) (ba:=ba) (oa:=oa) (M:=M) (ca:=ca) (k:=k) (cap:=cap) (pt:=pt)
   have hq':QS.Ok ac (k+1) ⟨q.al++ [(0,0,[])],q.S,q.w⟩:=by
    refine⟨by simp [hq.len],fun j x hx=> ?_,fun j x i y hx hy=> ?_⟩
    · by_cases h:j < q.al.length
      · rw [List.getElem?_append_left h] at hx;exact hq.acts j x hx
      · have hj:j=k:=by have:=(List.getElem?_eq_some_iff.1 hx).1;simp at this;have:=hq.len;omega
        subst hj
        rw [List.getElem?_append_right (by omega),hq.len,Nat.sub_self] at hx
        cases hx;rw [hac];rfl
    · by_cases h:j < q.al.length
      · rw [List.getElem?_append_left h] at hx;exact hq.cells j x i y hx hy
      · have hj:j=k:=by have:=(List.getElem?_eq_some_iff.1 hx).1;simp at this;have:=hq.len;omega
        subst hj
        rw [List.getElem?_append_right (by omega),hq.len,Nat.sub_self] at hx
        cases hx;simp at hy
   have hb:ab Tryz.prog 6 (q.heap W a b c d e g ba oa M ca u) 14 (i6 W a b c d e g ba oa M ca u 4 13 q.S q.w ((q.al++ [(0,0,[])]).map dw)) (.code pk (ay 111 0 (oL ba oa M ca k))) (.out .normal (ay 111 0 [(1,.pointer (some ⟨1,0,none⟩)),(3,.pointer (some ⟨3,0,none⟩)),(29,.slice (some ⟨ba,oa,some 0⟩) M ca),(30,.int .i64 (M:Nat)),(31,.int .i64 (IntKind.i64.wrap ((k:Int)+1)))])):=by
    unfold QS.heap
    rw [List.map_append]
    cases e2:q.al.map dw with
    |nil=>exact S3 hd0 hd1 ⟨hcell,rfl⟩ hloop
    |cons v R=>
     rw [e2] at hlen
     simp at hlen
     have:=SW (a:=a) (b:=b) (c:=c) (d:=d) (e:=e) (g:=g) (R:=v::R) (nr:=R.length+1) (pl:=mB a b c d e g ba oa M ca u) (S:=q.S) (w1:=q.w) (tu:=fx u) hd0 hd1 (Nat.ble_eq_true_of_le (by omega)) ⟨hcell,rfl⟩ ⟨by rw [List.drop_zero,List.take_of_length_le (by simp)],by simp⟩ hloop
     have e3:(R++ [dw (0,0,[])]).length+1=R.length+1+1:=by simp
     show ab Tryz.prog 6 _ 14 [(0,.args W.heap.size W),(1,.cells (mB a b c d e g ba oa M ca u) 27),(3,qV a b c d e g (.slice (some ⟨13,0,none⟩) ((R++ [dw (0,0,[])]).length+1) 0) u),(4,.froz q.S q.w),(13,.cells (v::(R++ [dw (0,0,[])])) 30)] _ _
     rw [e3];exact this
   refine p8 (J:=Unit) (ρ:=fun _=> [(4,4),(5,13)]) (cn:=6) (c3:=14) (fun _=>rfl) (by decide) (by decide) (Nat.le_refl _) (by decide) hb Conv.refl (fun _=>⟨?_,fun r r2 us hbm h=>CF (nm:=nameOf [(4,4),(5,13)] 4 30) (by omega) rfl rfl hbm h⟩) fun _=>ih (k+1) ⟨q.al++ [(0,0,[])],q.S,q.w⟩ (by omega) (by omega) hq'
   exact Ah (tF (by simp)) rfl rfl rfl rfl rfl (qD _)
  |cons a0 l0=>
   obtain⟨b0,off,rfl,hcells⟩:=hpt (by rw [hac];simp)
   have hN:(ac k).length=l0.length+1:=by rw [hac];rfl
   rw [hN] at hcell h100
   have hloop:=M6 (B:=W.heap.size) (W0:=W) (ba:=ba) (oa:=oa) (M:=M) (ca:=ca) (k:=k) (cap:=cap) (b:=b0) (off:=off) hN h100 hcells
   rw [hac] at hloop
   have hb:ab Tryz.prog 6 (q.heap W a b c d e g ba oa M ca u) 14 (i6 W a b c d e g ba oa M ca u 4 13 q.S q.w (q.al.map dw++ [.slice (some ⟨6,0,none⟩) (l0.length+1) 0])++ [(6,.cells (fe ((a0::l0).map q7)) 34)]) (.code pk (ay 111 0 (oL ba oa M ca k))) (.out .normal (ay 111 0 [(1,.pointer (some ⟨1,0,none⟩)),(3,.pointer (some ⟨3,0,none⟩)),(29,.slice (some ⟨ba,oa,some 0⟩) M ca),(30,.int .i64 (M:Nat)),(31,.int .i64 (IntKind.i64.wrap ((k:Int)+1)))])):=by
    unfold QS.heap
    cases e2:q.al.map dw with
    |nil=>exact Sy hd0 hd1 ⟨hcell,rfl⟩ hloop
    |cons v R=>
     rw [e2] at hlen
     simp at hlen
     have:=RM (a:=a) (b:=b) (c:=c) (d:=d) (e:=e) (g:=g) (R:=v::R) (nr:=R.length+1) (pl:=mB a b c d e g ba oa M ca u) (S:=q.S) (w1:=q.w) (tu:=fx u) hd0 hd1 (Nat.ble_eq_true_of_le (by omega)) ⟨hcell,rfl⟩ ⟨by rw [List.drop_zero,List.take_of_length_le (by simp)],by simp⟩ hloop
     have e3:(R++ [Value.slice (some ⟨6,0,none⟩) (l0.length+1) 0]).length+1=R.length+1+1:=by simp
     show ab Tryz.prog 6 _ 14 ([(0,.args W.heap.size W),(1,.cells (mB a b c d e g ba oa M ca u) 27),(3,qV a b c d e g (.slice (some ⟨13,0,none⟩) ((R++ [Value.slice (some ⟨6,0,none⟩) (l0.length+1) 0]).length+1) 0) u),(4,.froz q.S q.w),(13,.cells (v::(R++ [Value.slice (some ⟨6,0,none⟩) (l0.length+1) 0])) 30)]++ [(6,.cells (fe ((a0::l0).map q7)) 34)]) _ _
     rw [e3];exact this
   have hset:∀x:Value,(q.al.map dw++ [Value.slice (some ⟨6,0,none⟩) (l0.length+1) 0]).set k x=q.al.map dw++ [x]:=fun x=>by
    rw [List.set_append_right _ _ (by omega),hlen,Nat.sub_self];rfl
   have hne:∀x:Value,∃v R,q.al.map dw++ [x]=v::R∧R.length=k:=fun x=>by
    cases e2:q.al.map dw with
    |nil=>rw [e2] at hlen;exact⟨x,[],rfl,hlen⟩
    |cons v R=>rw [e2] at hlen;exact⟨v,R++ [x],rfl,by simp at hlen ⊢;omega⟩
   let q':Nat×Nat×World→QS:=fun i=>⟨q.al++ [(i.1,i.2.1,(a0::l0).map q7)],i.1::q.S,i.2.2⟩
   have hrow:∀i:Nat×Nat×World,(q' i).al.map dw=q.al.map dw++ [.slice (some ⟨i.1,0,some 1⟩) (l0.length+1) i.2.1]:=fun i=>by
    show(q.al++ [_]).map dw=_
    rw [List.map_append]
    simp [dw]
   obtain⟨v0,R0,e0,hR0⟩:=hne (.slice (some ⟨6,0,none⟩) (l0.length+1) 0)
   have hconv:Conv Tryz.prog (I:=Ee q.S q.w (fe ((a0::l0).map q7)) (l0.length+1)) 14 15 (i6 W a b c d e g ba oa M ca u 4 13 q.S q.w (q.al.map dw++ [.slice (some ⟨6,0,none⟩) (l0.length+1) 0])++ [(6,.cells (fe ((a0::l0).map q7)) 34)]) (ay 111 0 [(1,.pointer (some ⟨1,0,none⟩)),(3,.pointer (some ⟨3,0,none⟩)),(29,.slice (some ⟨ba,oa,some 0⟩) M ca),(30,.int .i64 (M:Nat)),(31,.int .i64 (IntKind.i64.wrap ((k:Int)+1)))])
     (fun i=>i6 W a b c d e g ba oa M ca u 14 13 (q' i.1).S (q' i.1).w ((q' i.1).al.map dw)) (fun _=>ay 111 0 [(1,.pointer (some ⟨1,0,none⟩)),(3,.pointer (some ⟨3,0,none⟩)),(29,.slice (some ⟨ba,oa,some 0⟩) M ca),(30,.int .i64 (M:Nat)),(31,.int .i64 (IntKind.i64.wrap ((k:Int)+1)))]):=by
    have hp:(v0::R0)[k]? =some (.slice (some ⟨6,0,none⟩) (l0.length+1) 0):=by rw [←e0,List.getElem?_append_right (by omega),hlen,Nat.sub_self];rfl
    rw [e0]
    refine wm (z:=4) (z2:=14) (m:=6) (nT:=13) (p:=k) (K:=1) (l:=v0::R0) (t:=30) (e:=34) (H':=fun i=>i6 W a b c d e g ba oa M ca u 14 13 (q' i).S (q' i).w ((q' i).al.map dw)) (by decide) (by decide) rfl rfl rfl hp (by decide) (by decide) (by decide) (by decide) fun i x y hy=> ?_
    obtain⟨v1,R1,e1,hR1⟩:=hne (.slice (some ⟨i.1,0,some 1⟩) (l0.length+1) i.2.1)
    have hs2:=hset (.slice (some ⟨i.1,0,some 1⟩) (l0.length+1) i.2.1)
    rw [e0] at hs2
    have hm:=get_mem hy
    rw [hrow,e1] at hm
    simp only [i6,List.mem_cons,List.not_mem_nil,or_false,Prod.mk.injEq] at hm
    rcases hm with⟨rfl,rfl⟩|⟨rfl,rfl⟩|⟨rfl,rfl⟩|⟨rfl,rfl⟩|⟨rfl,rfl⟩
    · exact .inr (.inr ⟨by decide,by decide,by decide,rfl⟩)
    · exact .inr (.inr ⟨by decide,by decide,by decide,rfl⟩)
    · refine .inr (.inr ⟨by decide,by decide,by decide,?_⟩)
      rw [hR1,←hR0];rfl
    · exact .inl ⟨rfl,rfl⟩
    · refine .inr (.inl ⟨rfl,?_⟩)
      rw [hs2,e1]
   refine p8 (J:=Ee q.S q.w (fe ((a0::l0).map q7)) (l0.length+1)) (ρ:=fun _=> [(4,14),(5,13)]) (cn:=6) (c3:=15) (hm':=fun i=>(q' i.1).heap W a b c d e g ba oa M ca u) (T'':=fun _=>ay 111 0 (oL ba oa M ca (k+1))) (fun _=>rfl) (by decide) (by decide) (by decide) (by decide) hb hconv (fun i=>⟨?_,fun r r2 us hbm h=>CF (nm:=nameOf [(4,14),(5,13)] 4 30) (by omega) rfl rfl hbm h⟩) fun i=>ih (k+1) (q' i.1) (by omega) (by omega) ?_
   · exact Ah (tF (by simp)) rfl rfl rfl rfl rfl (qD _)
   · have hF:=i.2
     refine⟨by show(q.al++ [_]).length=_;simp [hq.len],fun j x hx=> ?_,fun j x i' y hx hy=> ?_⟩
     · change (q.al++ [(i.1.1,i.1.2.1,(a0::l0).map q7)])[j]? =some x at hx
       by_cases h:j < q.al.length
       · rw [List.getElem?_append_left h] at hx;exact hq.acts j x hx
       · have hj:j=k:=by have:=(List.getElem?_eq_some_iff.1 hx).1;simp at this;have:=hq.len;omega
         subst hj
         rw [List.getElem?_append_right (by omega),hq.len,Nat.sub_self] at hx
         cases hx;rw [hac]
     · change (q.al++ [(i.1.1,i.1.2.1,(a0::l0).map q7)])[j]? =some x at hx
       by_cases h:j < q.al.length
       · rw [List.getElem?_append_left h] at hx;exact hF.aq (hq.cells j x i' y hx hy)
       · have hj:j=k:=by have:=(List.getElem?_eq_some_iff.1 hx).1;simp at this;have:=hq.len;omega
         subst hj
         rw [List.getElem?_append_right (by omega),hq.len,Nat.sub_self] at hx
         cases hx
         exact hF.cells fun j2 v hv=>⟨by rw [Nat.zero_add];exact xa hy j2 v hv,Gi y j2 v hv⟩
end
end
section
open Go Go.Sx
noncomputable def act (kind:Int) (reads:Bool) (key value low high:ByteArray) (unb:Bool) (limit:Int) (rev:Bool):List Value:= [.int .i64 kind,.bool reads,.string key,.string value,.string low,.string high,.bool unb,.int .i64 limit,.bool rev]
noncomputable def fi:Code:=bD [1,1,0,1,0,0,1,1,0,0,1,1,1,0,0] (bA 4)
noncomputable def uu (n:Int) (ba oa M ca j:Nat) (s:Value) (i:Int):List Value:=ay 105 0 [(1,.pointer (some ⟨2,0,none⟩)),(3,.int .i64 n),(8,.slice (some ⟨ba,oa,some 0⟩) M ca),(9,.int .i64 M),(10,.int .i64 j),(5,s),(6,.int .i64 i)]
theorem eU {B:Nat}{w:World}{b off:Nat}{vs:List Value} (h:aZ B w b off vs) (o z:Nat):aZ B w b (off+o) ((vs.drop o).take z):=by
 refine⟨h.1,fun j v e=> ?_⟩
 rw [List.getElem?_take] at e
 split at e
 · rw [List.getElem?_drop] at e
   obtain⟨u,e1,e2⟩:=h.2 (o+j) v e
   exact⟨u,by rw [Nat.add_assoc];exact e1,e2⟩
 · cases e
abbrev yw:=fun(W:World) (n:Int) (ba oa M ca j:Nat) h0 h1 h2 h3=>Sx.Ends Tryz.prog 3 3 3 (aC W) fi (uu n ba oa M ca j h0 h1) h2 (aC W) (ay 105 0 h3)
section
set_option maxRecDepth 100000
set_option linter.unusedSectionVars false
variable {W:World}{n kind limit:Int}{ba oa M ca j blk off N cap i:Nat}{reads unb rev:Bool}{key value low high:ByteArray}
variable (k0:(decide ((i:Int) < (N:Int)))=true)(k1:(decide ((i:Int)≤40))=true)(k2:(decide (0≤(i:Int)∧(i:Int) < (N:Int)))=true)(k3:(decide ((key.data.toList.length:Int) > 100))=true)(k4:(decide ((key.data.toList.length:Int) > 100))=false)(k5:(decide ((value.data.toList.length:Int) > 100))=true)(k6:(decide ((value.data.toList.length:Int) > 100))=false)(k7:(decide ((low.data.toList.length:Int) > 100))=true)(k8:(decide ((low.data.toList.length:Int) > 100))=false)(k9:(decide ((high.data.toList.length:Int) > 100))=true)(k10:(decide ((high.data.toList.length:Int) > 100))=false)(k11:aZ W.heap.size W blk (off+i*9) (act kind reads key value low high unb limit rev))(k12:(decide ((i:Int) < (N:Int)))=false)(k13:(decide ((i:Int)≤40))=false)
include k0 k1 k2 k3 k11 in
theorem Qu:yw W n ba oa M ca j (.slice (some ⟨blk,off,some 0⟩) N cap) i .ret [(2,.bool false)]:=
 bL mixed cx [] [(0,false)] (d:=aT [0,1,2,3,4,6,7,8,9,10,11,12,13] [(5,.cell (.tuple ⟨(((act kind reads key value low high unb limit rev).drop 2).take 1)⟩))]) (n:=600) (c2:=3) (L':= []) (by kernel_rfl) rfl rfl (af)
  (mg k3 (vP (show aZ W.heap.size W blk (off+i*9+2) (((act kind reads key value low high unb limit rev).drop 2).take 1)∧(((act kind reads key value low high unb limit rev).drop 2).take 1).length=1 from⟨eU k11 2 1,rfl⟩) (vC k2 (vB k1 (aX k0 vN)))))
include k0 k1 k2 k4 k5 k11 in
theorem PT:yw W n ba oa M ca j (.slice (some ⟨blk,off,some 0⟩) N cap) i .ret [(2,.bool false)]:=
 bL mixed cx [] [(0,false)] (d:=aT [0,1,2,3,4,9,16,17,18,19,20,21,22,23,24] (aF [6,7,8,10,11,13,14,15] [(5,.cell (.tuple ⟨(((act kind reads key value low high unb limit rev).drop 2).take 1)⟩)),(12,.cell (.tuple ⟨(((act kind reads key value low high unb limit rev).drop 3).take 1)⟩))])) (n:=600) (c2:=3) (L':= []) (by kernel_rfl) rfl rfl (af)
  (KO k5 (aX k4 (vP (show aZ W.heap.size W blk (off+i*9+3) (((act kind reads key value low high unb limit rev).drop 3).take 1)∧(((act kind reads key value low high unb limit rev).drop 3).take 1).length=1 from⟨eU k11 3 1,rfl⟩) (cZ k4 (vC k2 (aX k4 (vP (show aZ W.heap.size W blk (off+i*9+2) (((act kind reads key value low high unb limit rev).drop 2).take 1)∧(((act kind reads key value low high unb limit rev).drop 2).take 1).length=1 from⟨eU k11 2 1,rfl⟩) (vC k2 (vB k1 (aX k0 vN))))))))))
include k0 k1 k2 k4 k6 k7 k11 in
theorem P7:yw W n ba oa M ca j (.slice (some ⟨blk,off,some 0⟩) N cap) i .ret [(2,.bool false)]:=
 bL mixed cx [] [(0,false)] (d:=aT [0,1,2,3,4,9,19,27,28,29,30,31,32,33,34,35] (aF [6,7,8,10,11,13,14,15,16,17,18,20,21,22,24,25,26] [(5,.cell (.tuple ⟨(((act kind reads key value low high unb limit rev).drop 2).take 1)⟩)),(12,.cell (.tuple ⟨(((act kind reads key value low high unb limit rev).drop 3).take 1)⟩)),(23,.cell (.tuple ⟨(((act kind reads key value low high unb limit rev).drop 4).take 1)⟩))])) (n:=600) (c2:=3) (L':= []) (by kernel_rfl) rfl rfl (af)
  (KO k7 (aX k6 (vP (show aZ W.heap.size W blk (off+i*9+4) (((act kind reads key value low high unb limit rev).drop 4).take 1)∧(((act kind reads key value low high unb limit rev).drop 4).take 1).length=1 from⟨eU k11 4 1,rfl⟩) (aX k6 (vC k2 (aX k6 (aX k4 (vP (show aZ W.heap.size W blk (off+i*9+3) (((act kind reads key value low high unb limit rev).drop 3).take 1)∧(((act kind reads key value low high unb limit rev).drop 3).take 1).length=1 from⟨eU k11 3 1,rfl⟩) (cZ k4 (vC k2 (aX k4 (vP (show aZ W.heap.size W blk (off+i*9+2) (((act kind reads key value low high unb limit rev).drop 2).take 1)∧(((act kind reads key value low high unb limit rev).drop 2).take 1).length=1 from⟨eU k11 2 1,rfl⟩) (vC k2 (vB k1 (aX k0 vN)))))))))))))))
include k0 k1 k2 k4 k6 k8 k9 k11 in
theorem Qf:yw W n ba oa M ca j (.slice (some ⟨blk,off,some 0⟩) N cap) i .ret [(2,.bool false)]:=
 bL mixed cx [] [(0,false)] (d:=aT [0,1,2,3,4,9,19,30,38] (aF [6,7,8,10,11,13,14,15,16,17,18,20,21,22,24,25,26,27,28,29,31,32,33,35,36,37] [(5,.cell (.tuple ⟨(((act kind reads key value low high unb limit rev).drop 2).take 1)⟩)),(12,.cell (.tuple ⟨(((act kind reads key value low high unb limit rev).drop 3).take 1)⟩)),(23,.cell (.tuple ⟨(((act kind reads key value low high unb limit rev).drop 4).take 1)⟩)),(34,.cell (.tuple ⟨(((act kind reads key value low high unb limit rev).drop 5).take 1)⟩))])) (n:=600) (c2:=3) (L':= []) (by kernel_rfl) rfl rfl (af)
  (vB k9 (aX k8 (vP (show aZ W.heap.size W blk (off+i*9+5) (((act kind reads key value low high unb limit rev).drop 5).take 1)∧(((act kind reads key value low high unb limit rev).drop 5).take 1).length=1 from⟨eU k11 5 1,rfl⟩) (aX k8 (vC k2 (aX k8 (aX k6 (vP (show aZ W.heap.size W blk (off+i*9+4) (((act kind reads key value low high unb limit rev).drop 4).take 1)∧(((act kind reads key value low high unb limit rev).drop 4).take 1).length=1 from⟨eU k11 4 1,rfl⟩) (aX k6 (vC k2 (aX k6 (aX k4 (vP (show aZ W.heap.size W blk (off+i*9+3) (((act kind reads key value low high unb limit rev).drop 3).take 1)∧(((act kind reads key value low high unb limit rev).drop 3).take 1).length=1 from⟨eU k11 3 1,rfl⟩) (cZ k4 (vC k2 (aX k4 (vP (show aZ W.heap.size W blk (off+i*9+2) (((act kind reads key value low high unb limit rev).drop 2).take 1)∧(((act kind reads key value low high unb limit rev).drop 2).take 1).length=1 from⟨eU k11 2 1,rfl⟩) (vC k2 (vB k1 (aX k0 vN))))))))))))))))))))
include k0 k1 k2 k4 k6 k8 k10 k11 in
theorem Ps:Sx.bX Tryz.prog 3 3 3 (aC W) fi (uu n ba oa M ca j (.slice (some ⟨blk,off,some 0⟩) N cap) i) (aC W) (ay 105 0 [(1,pT 2),(3,iI n),(8,.slice (some ⟨ba,oa,some 0⟩) M ca),(9,iI M),(10,iI j),(5,(.slice (some ⟨blk,off,some 0⟩) N cap)),(6,iI (IntKind.i64.wrap ((i:Int)+1)))]):=
 bc mixed cx [] [(0,false)] (d:=aT [0,1,2,3,4,9,19,30] (aF [6,7,8,10,11,13,14,15,16,17,18,20,21,22,24,25,26,27,28,29,31,32,33,35,36,37,38] [(5,.cell (.tuple ⟨(((act kind reads key value low high unb limit rev).drop 2).take 1)⟩)),(12,.cell (.tuple ⟨(((act kind reads key value low high unb limit rev).drop 3).take 1)⟩)),(23,.cell (.tuple ⟨(((act kind reads key value low high unb limit rev).drop 4).take 1)⟩)),(34,.cell (.tuple ⟨(((act kind reads key value low high unb limit rev).drop 5).take 1)⟩))])) (n:=600) (c2:=3) (L':= []) (by kernel_rfl) rfl rfl (af)
  (vB k10 (aX k8 (vP (show aZ W.heap.size W blk (off+i*9+5) (((act kind reads key value low high unb limit rev).drop 5).take 1)∧(((act kind reads key value low high unb limit rev).drop 5).take 1).length=1 from⟨eU k11 5 1,rfl⟩) (aX k8 (vC k2 (aX k8 (aX k6 (vP (show aZ W.heap.size W blk (off+i*9+4) (((act kind reads key value low high unb limit rev).drop 4).take 1)∧(((act kind reads key value low high unb limit rev).drop 4).take 1).length=1 from⟨eU k11 4 1,rfl⟩) (aX k6 (vC k2 (aX k6 (aX k4 (vP (show aZ W.heap.size W blk (off+i*9+3) (((act kind reads key value low high unb limit rev).drop 3).take 1)∧(((act kind reads key value low high unb limit rev).drop 3).take 1).length=1 from⟨eU k11 3 1,rfl⟩) (cZ k4 (vC k2 (aX k4 (vP (show aZ W.heap.size W blk (off+i*9+2) (((act kind reads key value low high unb limit rev).drop 2).take 1)∧(((act kind reads key value low high unb limit rev).drop 2).take 1).length=1 from⟨eU k11 2 1,rfl⟩) (vC k2 (vB k1 (aX k0 vN))))))))))))))))))))
include k12 in
theorem Nr:yw W n ba oa M ca j (.slice (some ⟨blk,off,some 0⟩) N cap) i (.exit 2) [(1,pT 2),(3,iI n),(8,.slice (some ⟨ba,oa,some 0⟩) M ca),(9,iI M),(10,iI j)]:=
 bL mixed cx [] [(0,false)] (d:=aF [0,1,2] []) (n:=600) (c2:=3) (L':= []) (by kernel_rfl) rfl rfl (af)
  (aX k12 vN)
include k0 k13 in
theorem LO:yw W n ba oa M ca j (.slice (some ⟨blk,off,some 0⟩) N cap) i (.exit 2) [(1,pT 2),(3,iI n),(8,.slice (some ⟨ba,oa,some 0⟩) M ca),(9,iI M),(10,iI j)]:=
 bL mixed cx [] [(0,false)] (d:=aT [0,1,2] (aF [3] [])) (n:=600) (c2:=3) (L':= []) (by kernel_rfl) rfl rfl (af)
  (vB k13 (aX k0 vN))
theorem CS:yw W n ba oa M ca j sN 0 (.exit 2) [(1,pT 2),(3,iI n),(8,.slice (some ⟨ba,oa,some 0⟩) M ca),(9,iI M),(10,iI j)]:=
 bL mixed cx [] [(0,false)] (d:= []) (n:=600) (c2:=3) (L':= []) (by kernel_rfl) rfl rfl (af)
  vN
end
end
end Go.Proofs.YtalanookmohdeaaGreatDoor
namespace Go.Sx
theorem ig {P:Program}{c0 c1:Nat}{h0 h1:Heap}{code:Code}{T Tf:List Value}{e:bU} (hc:c0≤c1) (m:Mid P c0 h0 c0 h0 c1 h1 code T e Tf):ab P c0 h0 c1 h1 (.inLoop code T) (.out e Tf):=
 ⟨hc,fun r ow w hs hf a ha hd=>m r ow w r ow w hf (aN.calm hs (Calm.refl _)) hf a ha hd⟩
end Go.Sx
namespace Go.Proofs.YtalanookmohdeaaGreatDoor
open Go Go.Sx
noncomputable def fo:Code:=bD [1,1,0,1,0,0] (bA 4)
noncomputable def oA (n:Int) (ba oa M ca:Nat) (j:Int):List Value:=ay 105 0 [(1,.pointer (some ⟨2,0,none⟩)),(3,.int .i64 n),(8,.slice (some ⟨ba,oa,some 0⟩) M ca),(9,.int .i64 M),(10,.int .i64 j)]
noncomputable def De (n:Int) (ba oa M ca j:Nat):List Value:=ay 105 0 [(1,.pointer (some ⟨2,0,none⟩)),(3,.int .i64 n),(8,.slice (some ⟨ba,oa,some 0⟩) M ca),(9,.int .i64 M),(10,.int .i64 j)]
def Qp (W:World) (blk off N:Nat):Prop:=∀i,i < N→∃kind reads key value low high unb limit rev,aZ W.heap.size W blk (off+i*9) (act kind reads key value low high unb limit rev)
inductive ki (W:World):Value→Nat→Prop
 |nil:ki W (.slice none 0 0) 0
 |some {blk off N cap:Nat} (h:Qp W blk off N):ki W (.slice (some ⟨blk,off,some 0⟩) N cap) N
theorem oX {n:Int} (h0:0≤n) (h1:n < 9223372036854775808):IntKind.i64.wrap n=n:=by
 have h2:n % (2 ^ 64:Int)=n:=by omega
 show(if(true && decide (n % (2 ^ 64:Int)≥(2 ^ 63:Int)))=true then n % (2 ^ 64:Int) - (2 ^ 64:Int) else n % (2 ^ 64:Int))=n
 rw [h2,if_neg]
 simp only [Bool.true_and,decide_eq_true_eq]
 omega
section
set_option maxRecDepth 100000
set_option linter.unusedSectionVars false
variable {W:World}{n:Int}{ba oa M ca blk off N cap j:Nat}
variable (k0:(Decidable.decide ((j:Int) < (M:Int)))=true)(k1:(Decidable.decide (0≤(j:Int)∧(j:Int) < (M:Int)))=true)(k2:aZ W.heap.size W ba (oa+j*1) [.slice (some ⟨blk,off,some 0⟩) N cap])(k3:ab Tryz.prog 3 (aC W) 3 (aC W) (.inLoop fi (uu (IntKind.i64.wrap (n+(N:Int))) ba oa M ca j (.slice (some ⟨blk,off,some 0⟩) N cap) 0)) (.out (.exit 2) (De (IntKind.i64.wrap (n+(N:Int))) ba oa M ca j)))(k4:aZ W.heap.size W ba (oa+j*1) [.slice none 0 0])(k5:ab Tryz.prog 3 (aC W) 3 (aC W) (.inLoop fi (uu (IntKind.i64.wrap (n+0)) ba oa M ca j (.slice none 0 0) 0)) (.out (.exit 2) (De (IntKind.i64.wrap (n+0)) ba oa M ca j)))(k6:ab Tryz.prog 3 (aC W) 3 (aC W) (.inLoop fi (uu (IntKind.i64.wrap (n+(N:Int))) ba oa M ca j (.slice (some ⟨blk,off,some 0⟩) N cap) 0)) (.out .ret (ay 105 0 [(2,.bool false)])))(k7:(Decidable.decide ((j:Int) < (M:Int)))=false)
include k0 k1 k2 k3 in
theorem Pd:Sx.bX Tryz.prog 3 3 3 (aC W) fo (oA n ba oa M ca j) (aC W) (ay 105 0 [(1,.pointer (some ⟨2,0,none⟩)),(3,.int .i64 (IntKind.i64.wrap (n+(N:Int)))),(8,.slice (some ⟨ba,oa,some 0⟩) M ca),(9,.int .i64 M),(10,.int .i64 (IntKind.i64.wrap ((j:Int)+1)))]):=
 bc mixed cx [] [(0,false)] (d:=aT [0,1] [(2,.cell (.tuple ⟨[.slice (some ⟨blk,off,some 0⟩) N cap]⟩)),(3,.loop [1,3,8,9,10,5,6] [0] 3 (aC W) (.exit 2) (De (IntKind.i64.wrap (n+(N:Int))) ba oa M ca j))]) (n:=600) (c2:=3) (L':= []) (by kernel_rfl) rfl rfl (af)
  (vP k3 (vP (show aZ W.heap.size W ba (oa+j*1) [.slice (some ⟨blk,off,some 0⟩) N cap]∧([.slice (some ⟨blk,off,some 0⟩) N cap]:List Value).length=1 from⟨k2,rfl⟩) (vC k1 (vB k0 vN))))
include k0 k1 k4 k5 in
theorem P1 {off:Nat}{blk:Nat}{cap:Nat}{N:Nat}:Sx.bX Tryz.prog 3 3 3 (aC W) fo (oA n ba oa M ca j) (aC W) (ay 105 0 [(1,.pointer (some ⟨2,0,none⟩)),(3,.int .i64 (IntKind.i64.wrap (n+0))),(8,.slice (some ⟨ba,oa,some 0⟩) M ca),(9,.int .i64 M),(10,.int .i64 (IntKind.i64.wrap ((j:Int)+1)))]):=
 bc mixed cx [] [(0,false)] (d:=aT [0,1] [(2,.cell (.tuple ⟨[.slice none 0 0]⟩)),(3,.loop [1,3,8,9,10,5,6] [0] 3 (aC W) (.exit 2) (De (IntKind.i64.wrap (n+0)) ba oa M ca j))]) (n:=600) (c2:=3) (L':= []) (by kernel_rfl) rfl rfl (af)
  (vP k5 (vP (show aZ W.heap.size W ba (oa+j*1) [.slice none 0 0]∧([.slice none 0 0]:List Value).length=1 from⟨k4,rfl⟩) (vC k1 (vB k0 vN))))
include k0 k1 k2 k6 in
theorem PQ:Sx.Ends Tryz.prog 3 3 3 (aC W) fo (oA n ba oa M ca j) .ret (aC W) (ay 105 0 [(2,.bool false)]):=
 bL mixed cx [] [(0,false)] (d:=aT [0,1] [(2,.cell (.tuple ⟨[.slice (some ⟨blk,off,some 0⟩) N cap]⟩)),(3,.loop [1,3,8,9,10,5,6] [0] 3 (aC W) .ret (ay 105 0 [(2,.bool false)]))]) (n:=600) (c2:=3) (L':= []) (by kernel_rfl) rfl rfl (af)
  (vP k6 (vP (show aZ W.heap.size W ba (oa+j*1) [.slice (some ⟨blk,off,some 0⟩) N cap]∧([.slice (some ⟨blk,off,some 0⟩) N cap]:List Value).length=1 from⟨k2,rfl⟩) (vC k1 (vB k0 vN))))
include k7 in
theorem JK:Sx.Ends Tryz.prog 3 3 3 (aC W) fo (oA n ba oa M ca j) (.exit 0) (aC W) (ay 105 0 [(1,.pointer (some ⟨2,0,none⟩)),(3,.int .i64 n)]):=
 bL mixed cx [] [(0,false)] (d:=aF [0] []) (n:=600) (c2:=3) (L':= []) (by kernel_rfl) rfl rfl (af)
  (vB k7 vN)
end
section
open Go Go.Sx

end
section
open Go Go.Sx
theorem Gl:yc (ex Tryz.prog Gm 800 (.call 5 []) [] Sx.s0)=some (.bool true,[]):=by kernel_rfl
theorem A8:cQ Tryz.prog 5 [] (.bool true):=bw mixed bk.holds Gl af rfl rfl
end
section
open Go Go.Sx
def KH (xs:List Value):Option (Bool×Value):=match xs with
 | []=>some (true,.bool true)
 |_=>none
noncomputable def pw:aP:=iZ pv 5 KH
theorem bl:cC Tryz.prog pw:=cC.iZ cx fun xs b v h _=>by
 unfold KH at h
 split at h
 · cases h;exact A8
 · cases h
noncomputable def Et (a b c d e g:Int) (acts turns:Value):List Value:= [.int .i64 a,.int .i64 b,.int .i64 c,.int .i64 d,.int .i64 e,.int .i64 g,acts,turns]
noncomputable def TI:Code:=bD [0] (bA 3)
noncomputable def j8:Code:=bD [1,0] (bA 3)
noncomputable def kD (W:World) (a b c d e g:Int) (acts turns:Value):Heap:= [(0,.args W.heap.size W),(1,.cells (Et a b c d e g acts turns) 27)]
noncomputable def eS:List Value:=ay 111 0 [(1,.pointer (some ⟨1,0,none⟩))]
abbrev uZ (W:World) (n:Int):bj:= [(2,.loop [1,3,8,9,10] [0] 3 (aC W) (.exit 0) (ay 105 0 [(1,pT 2),(3,iI n)]))]
abbrev od:List Value:=ay 111 0 [(2,.bool true)]
noncomputable abbrev rH (W:World) (a b c d e g:Int) (ba oa M ca Tn ct:Nat) (pt:Option Addr):Heap:=kD W a b c d e g (.slice (some ⟨ba,oa,some 0⟩) M ca) (.slice pt Tn ct)
abbrev mD:=fun h0 h1 h2 h3 h4 h5 h6 h7=>ab Tryz.prog h0 h1 h2 h3 (.code h4 h5) (.out h6 h7)
section
set_option maxRecDepth 100000
set_option linter.unusedSectionVars false
variable {W:World}{a b c d e g n:Int}{acts turns:Value}{ba oa M ca Tn ct:Nat}{pt:Option Addr}
variable (k0:ab Tryz.prog 3 (aC W) 3 (aC W) (.inLoop fo (oA 0 ba oa M ca 0)) (.out .ret (ay 105 0 [(2,.bool false)])))(k1:(Go.Proofs.YtalanookmohdeaaGreatDoor.aM a b c d e g)=false)(k2:(Go.Proofs.YtalanookmohdeaaGreatDoor.aM a b c d e g)=true)(k3:(decide (a≤300))=false)(k4:(decide (a≤300))=true)(k5:(decide (b≤60))=false)(k6:(decide (b≤60))=true)(k7:(decide (c≤8))=false)(k8:(decide (c≤8))=true)(k9:(decide ((M:Int)≤c))=false)(k10:(decide ((M:Int)≤c))=true)(k11:(decide (n≤40))=false)(k12:(decide (n≤40))=true)(k13:(decide (↑0≤c))=true)(k14:(!decide ((Tn:Int)≤3000))=false)(k15:((M:Int)==0)=true)(k16:((M:Int)==0)=false)(k17:(!decide ((Tn:Int)≤3000))=true)(k18:ab Tryz.prog 3 (aC W) 3 (aC W) (.inLoop fo (oA 0 ba oa M ca 0)) (.out (.exit 0) (ay 105 0 [(1,pT 2),(3,iI n)])))
theorem SG:mD 1 (aC W) 2 (kD W a b c d e g acts turns) TI ([.agg ⟨Et a b c d e g acts turns⟩]++List.replicate 110 undef) .normal eS:=
 fj mixed bl (d:= []) (n:=600) (l:= [(1,pT 1)]) (by kernel_rfl) vN
include k0 in
theorem Lo {n:Int}:ab Tryz.prog 2 (rH W a b c d e g ba oa M ca Tn ct pt) 3 (aC W) (.code j8 eS) (.out .ret od):=
 fg mixed bl [] [(0,false)] (d:= [(2,.loop [1,3,8,9,10] [0] 3 (aC W) .ret (ay 105 0 [(2,.bool false)]))]) (n:=600) (c2:=3) (L':= []) (by kernel_rfl) rfl rfl (af)
  (vP k0 vN)
include k1 k18 in
theorem Fx:mD 2 (rH W a b c d e g ba oa M ca Tn ct pt) 3 (aC W) j8 eS .ret od:=
 fg mixed bl [] [(0,false)] (d:=aF [5,6,7,8,9] (uZ W n)) (n:=600) (c2:=3) (L':= []) (by kernel_rfl) rfl rfl (af)
  (a7 k1 (vP k18 vN))
include k2 k3 k18 in
theorem SJ:mD 2 (rH W a b c d e g ba oa M ca Tn ct pt) 3 (aC W) j8 eS .ret od:=
 fg mixed bl [] [(0,false)] (d:=aT [5,6,7,9,10] (aF [11,12,13,14,15] (uZ W n))) (n:=600) (c2:=3) (L':= []) (by kernel_rfl) rfl rfl (af)
  (a7 k3 (a7 k2 (vP k18 vN)))
include k2 k4 k5 k18 in
theorem QW:mD 2 (rH W a b c d e g ba oa M ca Tn ct pt) 3 (aC W) j8 eS .ret od:=
 fg mixed bl [] [(0,false)] (d:=aT [5,6,7,9,10,11,12,13,15,16] (aF [17,18,19,20,21] (uZ W n))) (n:=600) (c2:=3) (L':= []) (by kernel_rfl) rfl rfl (af)
  (a7 k5 (a7 k4 (a7 k2 (vP k18 vN))))
include k2 k4 k6 k7 k18 in
theorem RR:mD 2 (rH W a b c d e g ba oa M ca Tn ct pt) 3 (aC W) j8 eS .ret od:=
 fg mixed bl [] [(0,false)] (d:=aT [5,6,7,9,10,11,12,13,15,16,17,18,19,21,22] (aF [23,24,25,26,27,28,29,30] (uZ W n))) (n:=600) (c2:=3) (L':= []) (by kernel_rfl) rfl rfl (af)
  (mg k7 (a7 k6 (a7 k4 (a7 k2 (vP k18 vN)))))
include k2 k4 k6 k8 k9 k18 in
theorem SI:mD 2 (rH W a b c d e g ba oa M ca Tn ct pt) 3 (aC W) j8 eS .ret od:=
 fg mixed bl [] [(0,false)] (d:=aT [5,6,7,9,10,11,12,13,15,16,17,18,19,21,22,23,24,26,27,28,29,31,32] (aF [33,34,35] (uZ W n))) (n:=600) (c2:=3) (L':= []) (by kernel_rfl) rfl rfl (af)
  (aX k9 (mg k8 (a7 k6 (a7 k4 (a7 k2 (vP k18 vN))))))
include k2 k4 k6 k8 k10 k11 k18 in
theorem Sd:mD 2 (rH W a b c d e g ba oa M ca Tn ct pt) 3 (aC W) j8 eS .ret od:=
 fg mixed bl [] [(0,false)] (d:=aT [5,6,7,9,10,11,12,13,15,16,17,18,19,21,22,23,24,26,27,28,29,31,32,33,34,35] (aF [36,37,38,39,40] (uZ W n))) (n:=600) (c2:=3) (L':= []) (by kernel_rfl) rfl rfl (af)
  (a7 k11 (aX k10 (mg k8 (a7 k6 (a7 k4 (a7 k2 (vP k18 vN)))))))
include k2 k4 k6 k8 k10 k12 k17 k18 in
theorem Si:mD 2 (rH W a b c d e g ba oa M ca Tn ct pt) 3 (aC W) j8 eS .ret od:=
 fg mixed bl [] [(0,false)] (d:=aT [5,6,7,9,10,11,12,13,15,16,17,18,19,21,22,23,24,26,27,28,29,31,32,33,34,35,36,37,39,40,41,42,43,44,45,46] (uZ W n)) (n:=600) (c2:=3) (L':= []) (by kernel_rfl) rfl rfl (af)
  (a7 k17 (a7 k12 (aX k10 (mg k8 (a7 k6 (a7 k4 (a7 k2 (vP k18 vN))))))))
include k2 k4 k6 k8 k10 k12 k14 k16 k18 in
theorem OD:mD 2 (rH W a b c d e g ba oa M ca Tn ct pt) 3 (rH W a b c d e g ba oa M ca Tn ct pt) j8 eS .normal (ay 111 0 [(1,pT 1)]):=
 bW mixed bl (d:=aT [5,6,7,9,10,11,12,13,15,16,17,18,19,21,22,23,24,26,27,28,29,31,32,33,34,35,36,37,39,40,41] (aF [42,43,45,46,47,48] (uZ W n))) (nn:=600) (by kernel_rfl)
  (vB k16 (a7 k14 (a7 k12 (aX k10 (mg k8 (a7 k6 (a7 k4 (a7 k2 (vP k18 vN)))))))))
include k2 k4 k6 k8 k10 k12 k14 k15 k18 in
theorem IV:mD 2 (rH W a b c d e g ba oa M ca Tn ct pt) 3 (aC W) j8 eS .ret od:=
 fg mixed bl [] [(0,false)] (d:=aT [5,6,7,9,10,11,12,13,15,16,17,18,19,21,22,23,24,26,27,28,29,31,32,33,34,35,36,37,39,40,41,48] (aF [42,43,45,46,47] (uZ W n))) (n:=600) (c2:=3) (L':= []) (by kernel_rfl) rfl rfl (af)
  (vB k15 (a7 k14 (a7 k12 (aX k10 (mg k8 (a7 k6 (a7 k4 (a7 k2 (vP k18 vN)))))))))
include k1 in
theorem Ft:mD 2 (kD W a b c d e g sN (.slice pt Tn ct)) 3 (aC W) j8 eS .ret od:=
 fg mixed bl [] [(0,false)] (d:=aF [6,7,8,9,10] []) (n:=600) (c2:=3) (L':= []) (by kernel_rfl) rfl rfl (af)
  (a7 k1 vN)
include k2 k3 in
theorem NY:mD 2 (kD W a b c d e g sN (.slice pt Tn ct)) 3 (aC W) j8 eS .ret od:=
 fg mixed bl [] [(0,false)] (d:=aT [6,7,8,10,11] (aF [12,13,14,15,16] [])) (n:=600) (c2:=3) (L':= []) (by kernel_rfl) rfl rfl (af)
  (a7 k3 (a7 k2 vN))
include k2 k4 k5 in
theorem Pu:mD 2 (kD W a b c d e g sN (.slice pt Tn ct)) 3 (aC W) j8 eS .ret od:=
 fg mixed bl [] [(0,false)] (d:=aT [6,7,8,10,11,12,13,14,16,17] (aF [18,19,20,21,22] [])) (n:=600) (c2:=3) (L':= []) (by kernel_rfl) rfl rfl (af)
  (a7 k5 (a7 k4 (a7 k2 vN)))
include k2 k4 k6 k7 in
theorem Pj:mD 2 (kD W a b c d e g sN (.slice pt Tn ct)) 3 (aC W) j8 eS .ret od:=
 fg mixed bl [] [(0,false)] (d:=aT [6,7,8,10,11,12,13,14,16,17,18,19,20,22,23] (aF [24,25,26,27,28,29,30,31] [])) (n:=600) (c2:=3) (L':= []) (by kernel_rfl) rfl rfl (af)
  (mg k7 (a7 k6 (a7 k4 (a7 k2 vN))))
include k2 k4 k6 k8 k13 k17 in
theorem Qn:mD 2 (kD W a b c d e g sN (.slice pt Tn ct)) 3 (aC W) j8 eS .ret od:=
 fg mixed bl [] [(0,false)] (d:=aT [6,7,8,10,11,12,13,14,16,17,18,19,20,22,23,24,25,27,28,29,30,32,33,34,35,36,43,44,45,46,47] []) (n:=600) (c2:=3) (L':= []) (by kernel_rfl) rfl rfl (af)
  (a7 k17 (aX k13 (mg k8 (a7 k6 (a7 k4 (a7 k2 vN))))))
include k2 k4 k6 k8 k13 k14 in
theorem NJ:mD 2 (kD W a b c d e g sN (.slice pt Tn ct)) 3 (aC W) j8 eS .ret od:=
 fg mixed bl [] [(0,false)] (d:=aT [6,7,8,10,11,12,13,14,16,17,18,19,20,22,23,24,25,27,28,29,30,32,33,34,35,36] (aF [43,44,46,47,48] [])) (n:=600) (c2:=3) (L':= []) (by kernel_rfl) rfl rfl (af)
  (a7 k14 (aX k13 (mg k8 (a7 k6 (a7 k4 (a7 k2 vN))))))
end
end
end Go.Proofs.YtalanookmohdeaaGreatDoor

/- TxnNothing: the walk. No condition. -/
import Derived.Test.YtalanookmohdeaaGreatDoorM11
import Derived.Test.YtalanookmohdeaaGreatDoorM6
namespace Go.Proofs.YtalanookmohdeaaGreatDoor
open Go.Sx
set_option maxRecDepth 100000 in
theorem Sh {ws:List Wt}{key:ByteArray}{p:Nat} (h0:(decide ((p:Int) < (ws.length:Int)))=true) (h1:(decide (0≤(p:Int)∧(p:Int) < (ws.length:Int)))=true) (h2:((bp ws ((0+p*3) / 3)).fst.data.toList.length.ble 4294967295)=true) (hd:ab Tryz.prog 1 (iK ws) 2 (iK ws) (.inLoop Du (rY ws key 0 ws.length)) (.out (.exit 0) (rY ws key p p))) (hr:List.take 3 (List.drop (0+p*3) (ah ws))= [Value.string (bp ws ((0+p*3) / 3)).fst,Value.string (bp ws ((0+p*3) / 3)).snd.fst,Value.bool (bp ws ((0+p*3) / 3)).snd.snd]∧ [Value.string (bp ws ((0+p*3) / 3)).fst,Value.string (bp ws ((0+p*3) / 3)).snd.fst,Value.bool (bp ws ((0+p*3) / 3)).snd.snd].length=3):ab Tryz.prog 1 (iK ws) 3 (iK ws) (.call 68 [sL 0 ws.length,.string key,.func (.func 69) ⟨[]⟩ ⟨[]⟩]) (.val (.tuple ⟨[iI ((p:Int)),.bool (de (bp ws ((0+p*3) / 3)).fst key==0),]⟩)):=
 bZ mixed ae [] [(0,true)] (d:=aT [1,2,3,4,5,6,8,9,11,12,13] [(0,.loop [0,1,2,6,7,8,9,10] [0] 2 (iK ws) (.exit 0) (rY ws key p p)),(7,.cell (.tuple ⟨[Value.string (bp ws ((0+p*3) / 3)).fst,Value.string (bp ws ((0+p*3) / 3)).snd.fst,Value.bool (bp ws ((0+p*3) / 3)).snd.snd]⟩))]) (n:=600) (c2:=3) (L':= [.p (aj (ah ws) ((ah ws).map (ao (nameOf [] 1 3) 9)))]) (by kernel_rfl) rfl rfl (ag bm af) (cZ h0 (vC h2 (cZ h0 (vP hr (vB h0 (vC h1 (ax h0 (vP hd vN))))))))
set_option maxRecDepth 100000 in
theorem Rj {ws:List Wt}{key:ByteArray}{p:Nat} (h0:(decide ((p:Int) < (ws.length:Int)))=false) (hd:ab Tryz.prog 1 (iK ws) 2 (iK ws) (.inLoop Du (rY ws key 0 ws.length)) (.out (.exit 0) (rY ws key p p))):ab Tryz.prog 1 (iK ws) 3 (iK ws) (.call 68 [sL 0 ws.length,.string key,.func (.func 69) ⟨[]⟩ ⟨[]⟩]) (.val (.tuple ⟨[iI ((p:Int)),.bool false,]⟩)):=
 bZ mixed ae [] [(0,true)] (d:=aF [1,2,3,4,5,6,7,8,9] [(0,.loop [0,1,2,6,7,8,9,10] [0] 2 (iK ws) (.exit 0) (rY ws key p p))]) (n:=600) (c2:=2) (L':= [.p (aj (ah ws) ((ah ws).map (ao (nameOf [] 1 3) 9)))]) (by kernel_rfl) rfl rfl (ag bm af) (KO h0 (vP hd vN))
theorem C1 {ws:List Wt}{key:ByteArray} (hs:fa ws) (hl:ws.length < 1000000):∃(p:Nat) (there:Bool),p≤ws.length∧(there=true→p < ws.length)∧
  ab Tryz.prog 1 (iK ws) 3 (iK ws) (.call 68 [.slice (some ⟨0,0,none⟩) ws.length 0,.string key,.func (.func 69) ⟨[]⟩ ⟨[]⟩]) (.val (.tuple ⟨[.int .i64 p,.bool there]⟩)):=by
 obtain⟨p,hp,m⟩:=PU (key:=key) (h0:=iK ws) hs hl ws.length 0 ws.length (by omega) (by omega) (by omega)
 have hd:=fG (by decide) m
 by_cases q:p < ws.length
 · have ho:0+p*3=3*p:=by omega
   have hrd:=EZ ho q
   have hd3:(0+p*3) / 3=p:=by omega
   rw [←hd3] at hrd
   have hb:(bp ws ((0+p*3) / 3)).1.data.toList.length.ble 4294967295=true:=Nat.ble_eq_true_of_le (by have:=oT hs ((0+p*3) / 3);omega)
   rw [hd3] at hrd
   exact⟨p,_,hp,fun _=>q,Sh (decide_eq_true (by omega)) (decide_eq_true (by omega)) hb hd (by rw [hd3];exact hrd)⟩
 · exact⟨p,false,hp,(fun h=>by cases h),Rj (decide_eq_false (by omega)) hd⟩
section
open Go.Sx
set_option maxRecDepth 100000 in
theorem SV {ws:List Wt}{w:Wt} (h0:(decide ((0:Int)≤(↑ws.length:Int)∧(↑ws.length:Int)≤(↑ws.length:Int)∧(↑ws.length:Int)≤(↑ws.length:Int)∧(↑ws.length:Int)=(↑ws.length:Int)))=true) (h1:(decide ((↑ws.length:Int)=(0:Int)))=false) (h2:((↑ws.length:Int)==(↑ws.length:Int))=true) (h3:(bz (ws.length+(1:Nat)) (40:Nat))=true) (r0:List.take (ws.length*(3:Nat)) (List.drop (0:Nat) (ah ws))=ah ws∧(ah ws).length=ws.length*(3:Nat)):ab Tryz.prog 2 (yE ws w) 3 [(2,.cells (ah ws++eO w) 112)] (.call 71 [.slice (some ⟨0,0,none⟩) ws.length 0,.int .i64 ws.length,.slice (some ⟨1,0,none⟩) 1 0]) (.val (.slice (some ⟨2,0,none⟩) (ws.length+(1:Nat)) 0)):=
 bZ mixed aA [(2,2)] [(2,true)] (d:=aT [0,3,7] (aF [1] [(6,.cell (.tuple ⟨ah ws⟩))])) (n:=600) (c2:=3) (L':= [.p (aj (ah ws++eO w) ((ah ws++eO w).map (ao (nameOf [(2,2)] 2 3) 9)))]) (by kernel_rfl) rfl rfl (ag (rD ⟨ws++ [w],(gz ws [w]).symm⟩) af) (vC h3 (vP r0 (vB h2 (vB h1 (vC h0 vN)))))
theorem xb {ws:List Wt}{x:Wt}{i:Nat} (h0:ws≠ []) (hi:i≤ws.length) (hl:ws.length < 100000):
  ab Tryz.prog 2 (yE ws x) 3 [(2,.cells (ah (dR ws i x)) 112)] (.call 71 [.slice (some ⟨0,0,none⟩) ws.length 0,.int .i64 i,.slice (some ⟨1,0,none⟩) 1 0]) (.val (.slice (some ⟨2,0,none⟩) (ws.length+1) 0)):=by
 by_cases q:i < ws.length
 · exact J9 q hl
 · obtain rfl:i=ws.length:=by omega
   have hpos:0 < ws.length:=List.length_pos_iff.2 h0
   have e:dR ws ws.length x=ws++ [x]:=by simp [dR]
   rw [e,gz]
   exact SV (decide_eq_true (by omega)) (decide_eq_false (by omega)) (by simp) (Nat.ble_eq_true_of_le (by omega)) ⟨by rw [List.drop_zero];exact List.take_of_length_le (by rw [fy];omega),by rw [fy];omega⟩
theorem Sa {ws:List Wt}{w:Wt}{t:Bool}{key:ByteArray} (h:ab Tryz.prog 2 (wE ws) 4 (wE ws) (.call 123 [.string key,.slice (some ⟨1,0,none⟩) 1 0]) (.val (.tuple ⟨[.agg ⟨[.string w.1,.string w.2.1,.bool w.2.2]⟩,.bool t]⟩))):ab Tryz.prog 63 [(34,.cells (ah ws) 112),(62,.cells [.slice (some ⟨34,0,none⟩) ws.length 0] 99)] 65 [(34,.cells (ah ws) 112),(62,.cells [.slice (some ⟨34,0,none⟩) ws.length 0] 99)] (.call 123 [.string key,.slice (some ⟨62,0,none⟩) 1 0]) (.val (.tuple ⟨[.agg ⟨[.string w.1,.string w.2.1,.bool w.2.2]⟩,.bool t]⟩)):=by
 refine fp (l:= [34,62]) (c:=63) h rfl (fun n hn=>by simp at hn;omega) (by decide) (fun i zz e=> ?_) (fun r r2 us hb hr=> ?_) (fun n zz e=> ?_) (fun r r2 u hb hr=> ?_)
 · change Heap.get [(0,.cells (ah ws) 112),(1,.cells [.slice (some ⟨0,0,none⟩) ws.length 0] 99)] i=some zz at e
   rw [aQ] at e
   split at e
   · rename_i q;subst q;cases e
     exact⟨34,_,rfl,rfl,.cells bm⟩
   rw [aQ] at e
   split at e
   · rename_i q;subst q;cases e
     exact⟨62,_,rfl,rfl,.cells (aj.refl _)⟩
   simp [Heap.get] at e
 · have:=cV (b9 (r:=r) (r2:=r2) hb 9) hr
   exact this
 · change Heap.get [(34,.cells (ah ws) 112),(62,.cells [.slice (some ⟨34,0,none⟩) ws.length 0] 99)] n=some zz at e
   rw [aQ] at e
   split at e
   · rename_i q;subst q;cases e
     exact .inl ⟨0,_,rfl,rfl,.cells bm⟩
   rw [aQ] at e
   split at e
   · rename_i q;subst q;cases e
     exact .inl ⟨1,_,rfl,rfl,.cells (aj.refl _)⟩
   simp [Heap.get] at e
 · have:=b9 (r:=r) (r2:=r2) hb 9 _ _ hr
   exact this
theorem Gs {ws:List Wt}{p:Nat}{t:Bool}{key:ByteArray} (h:ab Tryz.prog 1 (iK ws) 3 (iK ws) (.call 68 [.slice (some ⟨0,0,none⟩) ws.length 0,.string key,.func (.func 69) ⟨[]⟩ ⟨[]⟩]) (.val (.tuple ⟨[.int .i64 p,.bool t]⟩))):ab Tryz.prog 64 [(34,.cells (ah ws) 112)] 66 [(34,.cells (ah ws) 112)] (.call 68 [.slice (some ⟨34,0,none⟩) ws.length 0,.string key,.func (.func 69) ⟨[]⟩ ⟨[]⟩]) (.val (.tuple ⟨[.int .i64 p,.bool t]⟩)):=by
 refine fp (l:= [34]) (c:=64) h rfl (fun n hn=>by simp at hn;omega) (by decide) (fun i zz e=> ?_) (fun r r2 us hb hr=> ?_) (fun n zz e=> ?_) (fun r r2 u hb hr=> ?_)
 · change Heap.get [(0,.cells (ah ws) 112)] i=some zz at e
   rw [aQ] at e
   split at e
   · rename_i q;subst q;cases e
     exact⟨34,_,rfl,rfl,.cells bm⟩
   simp [Heap.get] at e
 · have:=cV (b9 (r:=r) (r2:=r2) hb 9) hr
   exact this
 · change Heap.get [(34,.cells (ah ws) 112)] n=some zz at e
   rw [aQ] at e
   split at e
   · rename_i q;subst q;cases e
     exact .inl ⟨0,_,rfl,rfl,.cells bm⟩
   simp [Heap.get] at e
 · have:=b9 (r:=r) (r2:=r2) hb 9 _ _ hr
   exact this
theorem DA {ws:List Wt}{x:Wt}{p:Nat} (h:ab Tryz.prog 2 (yE ws x) 3 [(2,.cells (ah (dR ws p x)) 112)] (.call 71 [.slice (some ⟨0,0,none⟩) ws.length 0,.int .i64 p,.slice (some ⟨1,0,none⟩) 1 0]) (.val (.slice (some ⟨2,0,none⟩) (ws.length+1) 0))):ab Tryz.prog 67 [(34,.cells (ah ws) 112),(66,.cells (eO x) 112)] 68 [(67,.cells (ah (dR ws p x)) 112)] (.call 71 [.slice (some ⟨34,0,none⟩) ws.length 0,.int .i64 p,.slice (some ⟨66,0,none⟩) 1 0]) (.val (.slice (some ⟨67,0,none⟩) (ws.length+1) 0)):=by
 refine fp (l:= [34,66]) (c:=67) h rfl (fun n hn=>by simp at hn;omega) (by decide) (fun i zz e=> ?_) (fun r r2 us hb hr=> ?_) (fun n zz e=> ?_) (fun r r2 u hb hr=> ?_)
 · change Heap.get [(0,.cells (ah ws) 112),(1,.cells (eO x) 112)] i=some zz at e
   rw [aQ] at e
   split at e
   · rename_i q;subst q;cases e
     exact⟨34,_,rfl,rfl,.cells bm⟩
   rw [aQ] at e
   split at e
   · rename_i q;subst q;cases e
     exact⟨66,_,rfl,rfl,.cells (aj.refl _)⟩
   simp [Heap.get] at e
 · have:=cV (b9 (r:=r) (r2:=r2) hb 9) hr
   exact this
 · change Heap.get [(67,.cells (ah (dR ws p x)) 112)] n=some zz at e
   rw [aQ] at e
   split at e
   · rename_i q;subst q;cases e
     exact .inl ⟨2,_,rfl,rfl,.cells bm⟩
   simp [Heap.get] at e
 · have:=b9 (r:=r) (r2:=r2) hb 9 _ _ hr
   exact this
theorem DC {ws:List Wt}{p:Nat}{t:Bool}{key:ByteArray} (h:ab Tryz.prog 1 (iK ws) 3 (iK ws) (.call 68 [.slice (some ⟨0,0,none⟩) ws.length 0,.string key,.func (.func 69) ⟨[]⟩ ⟨[]⟩]) (.val (.tuple ⟨[.int .i64 p,.bool t]⟩))):ab Tryz.prog 63 [(34,.cells (ah ws) 112)] 65 [(34,.cells (ah ws) 112)] (.call 68 [.slice (some ⟨34,0,none⟩) ws.length 0,.string key,.func (.func 69) ⟨[]⟩ ⟨[]⟩]) (.val (.tuple ⟨[.int .i64 p,.bool t]⟩)):=by
 refine fp (l:= [34]) (c:=63) h rfl (fun n hn=>by simp at hn;omega) (by decide) (fun i zz e=> ?_) (fun r r2 us hb hr=> ?_) (fun n zz e=> ?_) (fun r r2 u hb hr=> ?_)
 · change Heap.get [(0,.cells (ah ws) 112)] i=some zz at e
   rw [aQ] at e
   split at e
   · rename_i q;subst q;cases e
     exact⟨34,_,rfl,rfl,.cells bm⟩
   simp [Heap.get] at e
 · have:=cV (b9 (r:=r) (r2:=r2) hb 9) hr
   exact this
 · change Heap.get [(34,.cells (ah ws) 112)] n=some zz at e
   rw [aQ] at e
   split at e
   · rename_i q;subst q;cases e
     exact .inl ⟨0,_,rfl,rfl,.cells bm⟩
   simp [Heap.get] at e
 · have:=b9 (r:=r) (r2:=r2) hb 9 _ _ hr
   exact this
theorem BS {ws:List Wt}{x:Wt}{p:Nat} (h:ab Tryz.prog 2 (yE ws x) 3 [(2,.cells (ah (dR ws p x)) 112)] (.call 71 [.slice (some ⟨0,0,none⟩) ws.length 0,.int .i64 p,.slice (some ⟨1,0,none⟩) 1 0]) (.val (.slice (some ⟨2,0,none⟩) (ws.length+1) 0))):ab Tryz.prog 66 [(34,.cells (ah ws) 112),(65,.cells (eO x) 112)] 67 [(66,.cells (ah (dR ws p x)) 112)] (.call 71 [.slice (some ⟨34,0,none⟩) ws.length 0,.int .i64 p,.slice (some ⟨65,0,none⟩) 1 0]) (.val (.slice (some ⟨66,0,none⟩) (ws.length+1) 0)):=by
 refine fp (l:= [34,65]) (c:=66) h rfl (fun n hn=>by simp at hn;omega) (by decide) (fun i zz e=> ?_) (fun r r2 us hb hr=> ?_) (fun n zz e=> ?_) (fun r r2 u hb hr=> ?_)
 · change Heap.get [(0,.cells (ah ws) 112),(1,.cells (eO x) 112)] i=some zz at e
   rw [aQ] at e
   split at e
   · rename_i q;subst q;cases e
     exact⟨34,_,rfl,rfl,.cells bm⟩
   rw [aQ] at e
   split at e
   · rename_i q;subst q;cases e
     exact⟨65,_,rfl,rfl,.cells (aj.refl _)⟩
   simp [Heap.get] at e
 · have:=cV (b9 (r:=r) (r2:=r2) hb 9) hr
   exact this
 · change Heap.get [(66,.cells (ah (dR ws p x)) 112)] n=some zz at e
   rw [aQ] at e
   split at e
   · rename_i q;subst q;cases e
     exact .inl ⟨2,_,rfl,rfl,.cells bm⟩
   simp [Heap.get] at e
 · have:=b9 (r:=r) (r2:=r2) hb 9 _ _ hr
   exact this
end
section
open Go.Sx
abbrev l5 (j b nb:Nat) (k:Int) (y:Bool) (L:List aG) (ws:List Wt):Heap:= [(29,.sem (ad (L.set j (aL b nb ws (fun nk ns Wr=>bd k nk ns Wr y cN cN cN cN cN [])))))]
abbrev yV (j b:Nat) (k:Int) (y:Bool) (L:List aG):Heap:= [(29,.sem (ad (L.set j (bu b (jP k y cN)))))]
abbrev yB (limit:Int) (unb rev:Bool) (low high:ByteArray):List Value:= [.agg ⟨[.string low,.string high,.bool unb]⟩,iI limit,.bool rev]
abbrev cA:=fun(b kk:Nat) (L:List aG) h0 h1 h2 h3=>ab Tryz.prog 30 (([]:Heap)++ [(29,.sem (ad L))]) 200 (([]:Heap)++h0) (.call h1 (pK b kk::h2)) (.val h3)
section
set_option maxRecDepth 100000
set_option linter.unusedSectionVars false
variable {n j b kk nb:Nat}{k limit x2 x4 x6:Int}{y rd unb rev y0 y1 y3 y5:Bool}{L:List aG}{key low high value z1 z2:ByteArray}{ws:List Wt}
variable (k0:n≤100000)(k1:L[j]? =some (bu b (jP k y cN)))(k2:(decide ((low.data.toList.length:Int) > 16))=true)(k3:(decide ((low.data.toList.length:Int) > 16))=false)(k4:(decide ((high.data.toList.length:Int) > 16))=true)(k5:(decide ((high.data.toList.length:Int) > 16))=false)(k6:(unb)=true)(k7:(!cH high { data:= #[]})=true)(k8:(!cH high { data:= #[]})=false)(k9:(!unb)=false)(k10:(unb)=false)(k11:(!unb)=true)(k12:(low.data.toList.length.ble 4294967295)=true)(k13:(decide (de low high≥0))=true)(k14:(decide (de low high≥0))=false)(k15:nb≤1000)(k16:(y)=true)(k17:(y)=false)(k18:(decide ((key.data.toList.length:Int)≥1))=false)(k19:(decide ((key.data.toList.length:Int)≥1))=true)(k20:(!decide ((key.data.toList.length:Int)≤16))=true)(k21:(!decide ((key.data.toList.length:Int)≤16))=false)(k22:(decide ((value.data.toList.length:Int) > 16))=true)(k23:L[j]? =some (aL b nb ws (fun nk ns Wr=>bd k nk ns Wr y cN cN cN cN cN [])))(k24:L[j]? =some (bu b (qQ k y0 y1)))(k25:L[j]? =some (bu b (pO k y0 y1)))(k26:L[j]? =some (bu b (oy k y0 y1)))(k27:L[j]? =some (bu b (oI k y0 y1)))(k28:L[j]? =some (aL b nb ws (fun nk ns Wr=>ka k nk ns Wr y0)))(k29:L[j]? =some (bu b (pF k y0)))(k30:L[j]? =some (bu b (rh k y0)))(k31:L[j]? =some (bu b (ri k y0)))(k32:L[j]? =some (bu b (pU k y0)))(k33:L[j]? =some (aL b nb ws (fun nk ns Wr=>kT k nk ns Wr y0 z1)))(k34:L[j]? =some (aL b nb ws (fun nk ns Wr=>kf k nk ns Wr y0 z1)))(k35:L[j]? =some (aL b nb ws (fun nk ns Wr=>kV k nk ns Wr y0 z1 x2)))(k36:L[j]? =some (aL b nb ws (fun nk ns Wr=>kN k nk ns Wr y0 z1)))(k37:L[j]? =some (aL b nb ws (fun nk ns Wr=>kU k nk ns Wr y0 z1)))(k38:L[j]? =some (aL b nb ws (fun nk ns Wr=>kR k nk ns Wr y0 z1 z2)))(k39:L[j]? =some (aL b nb ws (fun nk ns Wr=>jf k nk ns Wr y0 z1 z2 y3 x4 y5)))(k40:L[j]? =some (aL b nb ws (fun nk ns Wr=>i7 k nk ns Wr y0 z1 z2 y3 x4 y5)))(k41:L[j]? =some (aL b nb ws (fun nk ns Wr=>jE k nk ns Wr y0 z1 z2 y3 x4 y5 x6)))(k42:L[j]? =some (aL b nb ws (fun nk ns Wr=>kO k nk ns Wr y0 z1 z2 y3 x4 y5)))(k43:L[j]? =some (aL b nb ws (fun nk ns Wr=>kM k nk ns Wr y0 z1 z2 y3 x4 y5)))(k44:L[j]? =some (aL b nb ws (fun nk ns Wr=>kQ k nk ns Wr y0 z1 z2 y3 x4 y5)))
include k0 in
theorem Kl:bz n 40=true:=Nat.ble_eq_true_of_le (by omega)
include k1 in
theorem DN:cA b kk L [(29,.sem (ad (L.set j (bu b (qQ k (y) (rd))))))] 14 [.bool rd] (.nilIface):=
 bM (S:= []) (S1:= []) k1 rfl rfl rfl rfl ⟨_,_,rfl⟩ (by decide) (Ld)
include k1 in
theorem ER:cA b kk L [(29,.sem (ad (L.set j (bu b (pF k (y))))))] 111 [] (.nilIface):=
 bM (S:= []) (S1:= []) k1 rfl rfl rfl rfl ⟨_,_,rfl⟩ (by decide) (Ny)
include k1 in
theorem EV:cA b kk L (yV j b k y L) 110 [] (.iface 72 (iI 13)):=
 bM (S:= []) (S1:= []) k1 rfl rfl rfl rfl ⟨_,_,rfl⟩ (by decide) (Ly)
include k1 in
theorem D5:cA b kk L (yV j b k y L) 107 [.string key] (.iface 72 (iI 13)):=
 bM (S:= []) (S1:= []) k1 rfl rfl rfl rfl ⟨_,_,rfl⟩ (by decide) (LR)
include k1 in
theorem DH:cA b kk L (yV j b k y L) 109 (yB limit unb rev low high) (.iface 72 (iI 13)):=
 bM (S:= []) (S1:= []) k1 rfl rfl rfl rfl ⟨_,_,rfl⟩ (by decide) (LW)
include k1 in
theorem DL:cA b kk L (yV j b k y L) 16 [.agg ⟨[.string key,.string value]⟩] (.iface 72 (iI 13)):=
 bM (S:= []) (S1:= []) k1 rfl rfl rfl rfl ⟨_,_,rfl⟩ (by decide) (Mk)
include k1 in
theorem EO:cA b kk L (yV j b k y L) 108 [.string key] (.iface 72 (iI 13)):=
 bM (S:= []) (S1:= []) k1 rfl rfl rfl rfl ⟨_,_,rfl⟩ (by decide) (MW)
include k1 in
theorem AU:cA b kk L (yV j b k y L) 40 [] (.bool false):=
 bM (S:= []) (S1:= []) k1 rfl rfl rfl rfl ⟨_,_,rfl⟩ (by decide) (Jj)
include k1 in
theorem BN:cA b kk L (yV j b k y L) 19 [] (.bool false):=
 bM (S:= []) (S1:= []) k1 rfl rfl rfl rfl ⟨_,_,rfl⟩ (by decide) (HW)
include k23 in
theorem DF:cA b kk L (l5 j b nb k y L ws) 14 [.bool rd] (.iface 72 (iI 13)):=
 aK (S:= []) (S1:= []) (X:=(fun nk ns Wr=>bd k nk ns Wr y cN cN cN cN cN [])) (X':=(fun nk ns Wr=>bd k nk ns Wr y cN cN cN cN cN [])) (nk':=id) (ns':=id) k23 rfl rfl rfl (fun _ _ _=>rfl) (fun _ _ _=>⟨_,_,rfl⟩) (by decide) rfl (fun _ h=>h) (fun _ h=>h) (fun nk ns Wr _ _=>(Lf))
include k23 in
theorem DJ:cA b kk L (l5 j b nb k y L ws) 111 [] (.iface 72 (iI 13)):=
 aK (S:= []) (S1:= []) (X:=(fun nk ns Wr=>bd k nk ns Wr y cN cN cN cN cN [])) (X':=(fun nk ns Wr=>bd k nk ns Wr y cN cN cN cN cN [])) (nk':=id) (ns':=id) k23 rfl rfl rfl (fun _ _ _=>rfl) (fun _ _ _=>⟨_,_,rfl⟩) (by decide) rfl (fun _ h=>h) (fun _ h=>h) (fun nk ns Wr _ _=>(NG))
include k23 in
theorem DV:cA b kk L [(29,.sem (ad (L.set j (aL b nb ws (fun nk ns Wr=>ka k (nk) (ns) Wr (y))))))] 110 [] (.nilIface):=
 aK (S:= []) (S1:= []) (X:=(fun nk ns Wr=>bd k nk ns Wr y cN cN cN cN cN [])) (X':=(fun nk ns Wr=>ka k (nk) (ns) Wr (y))) (nk':=id) (ns':=id) k23 rfl rfl rfl (fun _ _ _=>rfl) (fun _ _ _=>⟨_,_,rfl⟩) (by decide) rfl (fun _ h=>h) (fun _ h=>h) (fun nk ns Wr _ _=>(MG))
include k19 k20 k23 in
theorem Ez:cA b kk L (l5 j b nb k y L ws) 107 [.string key] (.iface 72 (iI 1)):=
 aK (S:= []) (S1:= []) (X:=(fun nk ns Wr=>bd k nk ns Wr y cN cN cN cN cN [])) (X':=(fun nk ns Wr=>bd k nk ns Wr y cN cN cN cN cN [])) (nk':=id) (ns':=id) k23 rfl rfl rfl (fun _ _ _=>rfl) (fun _ _ _=>⟨_,_,rfl⟩) (by decide) rfl (fun _ h=>h) (fun _ h=>h) (fun nk ns Wr _ _=>(Nc k19 k20))
include k18 k23 in
theorem EN:cA b kk L (l5 j b nb k y L ws) 107 [.string key] (.iface 72 (iI 1)):=
 aK (S:= []) (S1:= []) (X:=(fun nk ns Wr=>bd k nk ns Wr y cN cN cN cN cN [])) (X':=(fun nk ns Wr=>bd k nk ns Wr y cN cN cN cN cN [])) (nk':=id) (ns':=id) k23 rfl rfl rfl (fun _ _ _=>rfl) (fun _ _ _=>⟨_,_,rfl⟩) (by decide) rfl (fun _ h=>h) (fun _ h=>h) (fun nk ns Wr _ _=>(Li k18))
include k2 k23 in
theorem EB:cA b kk L (l5 j b nb k y L ws) 109 (yB limit unb rev low high) (.iface 72 (iI 1)):=
 aK (S:= []) (S1:= []) (X:=(fun nk ns Wr=>bd k nk ns Wr y cN cN cN cN cN [])) (X':=(fun nk ns Wr=>bd k nk ns Wr y cN cN cN cN cN [])) (nk':=id) (ns':=id) k23 rfl rfl rfl (fun _ _ _=>rfl) (fun _ _ _=>⟨_,_,rfl⟩) (by decide) rfl (fun _ h=>h) (fun _ h=>h) (fun nk ns Wr _ _=>(Mh k2))
include k3 k4 k23 in
theorem E1:cA b kk L (l5 j b nb k y L ws) 109 (yB limit unb rev low high) (.iface 72 (iI 1)):=
 aK (S:= []) (S1:= []) (X:=(fun nk ns Wr=>bd k nk ns Wr y cN cN cN cN cN [])) (X':=(fun nk ns Wr=>bd k nk ns Wr y cN cN cN cN cN [])) (nk':=id) (ns':=id) k23 rfl rfl rfl (fun _ _ _=>rfl) (fun _ _ _=>⟨_,_,rfl⟩) (by decide) rfl (fun _ h=>h) (fun _ h=>h) (fun nk ns Wr _ _=>(Nz k3 k4))
include k3 k5 k6 k7 k23 in
theorem E7:cA b kk L (l5 j b nb k y L ws) 109 (yB limit unb rev low high) (.iface 72 (iI 1)):=
 aK (S:= []) (S1:= []) (X:=(fun nk ns Wr=>bd k nk ns Wr y cN cN cN cN cN [])) (X':=(fun nk ns Wr=>bd k nk ns Wr y cN cN cN cN cN [])) (nk':=id) (ns':=id) k23 rfl rfl rfl (fun _ _ _=>rfl) (fun _ _ _=>⟨_,_,rfl⟩) (by decide) rfl (fun _ h=>h) (fun _ h=>h) (fun nk ns Wr _ _=>(MH k3 k5 k6 k7))
include k3 k5 k6 k8 k9 k15 k23 in
theorem Fv:cA b kk L [(29,.sem (ad (L.set j (aL b (nb+1) ws (fun nk ns Wr=>jf k (nk) ((ns+(nat_lit 0+1))) Wr (y) (low) (high) (unb) (limit) (rev))))))] 109 (yB limit unb rev low high) (.nilIface):=
 aK (S:= []) (S1:= []) (X:=(fun nk ns Wr=>bd k nk ns Wr y cN cN cN cN cN [])) (X':=(fun nk ns Wr=>jf k (nk) ((ns+(nat_lit 0+1))) Wr (y) (low) (high) (unb) (limit) (rev))) (nk':=id) (ns':=id) k23 rfl rfl rfl (fun _ _ _=>rfl) (fun _ _ _=>⟨_,_,rfl⟩) (by decide) rfl (fun n h=>by first|exact Nat.le_succ_of_le h|exact Nat.succ_le_succ h) (fun n h=>by first|exact Nat.le_succ_of_le h|exact Nat.succ_le_succ h) (fun nk ns Wr hnk hns=>LH k3 k5 k6 k8 k9 (Kl (by omega)))
include k3 k5 k10 k11 k12 k13 k23 in
theorem DW:cA b kk L (l5 j b nb k y L ws) 109 (yB limit unb rev low high) (.iface 72 (iI 1)):=
 aK (S:= []) (S1:= []) (X:=(fun nk ns Wr=>bd k nk ns Wr y cN cN cN cN cN [])) (X':=(fun nk ns Wr=>bd k nk ns Wr y cN cN cN cN cN [])) (nk':=id) (ns':=id) k23 rfl rfl rfl (fun _ _ _=>rfl) (fun _ _ _=>⟨_,_,rfl⟩) (by decide) rfl (fun _ h=>h) (fun _ h=>h) (fun nk ns Wr _ _=>(MF k3 k5 k10 k11 k12 k13))
include k3 k5 k10 k11 k12 k14 k15 k23 in
theorem Ed:cA b kk L [(29,.sem (ad (L.set j (aL b (nb+1) ws (fun nk ns Wr=>jf k (nk) ((ns+(nat_lit 0+1))) Wr (y) (low) (high) (unb) (limit) (rev))))))] 109 (yB limit unb rev low high) (.nilIface):=
 aK (S:= []) (S1:= []) (X:=(fun nk ns Wr=>bd k nk ns Wr y cN cN cN cN cN [])) (X':=(fun nk ns Wr=>jf k (nk) ((ns+(nat_lit 0+1))) Wr (y) (low) (high) (unb) (limit) (rev))) (nk':=id) (ns':=id) k23 rfl rfl rfl (fun _ _ _=>rfl) (fun _ _ _=>⟨_,_,rfl⟩) (by decide) rfl (fun n h=>by first|exact Nat.le_succ_of_le h|exact Nat.succ_le_succ h) (fun n h=>by first|exact Nat.le_succ_of_le h|exact Nat.succ_le_succ h) (fun nk ns Wr hnk hns=>MS k3 k5 k10 k11 k12 k14 (Kl (by omega)))
include k16 k23 in
theorem Ff:cA b kk L (l5 j b nb k y L ws) 16 [.agg ⟨[.string key,.string value]⟩] (.iface 72 (iI 15)):=
 aK (S:= []) (S1:= []) (X:=(fun nk ns Wr=>bd k nk ns Wr y cN cN cN cN cN [])) (X':=(fun nk ns Wr=>bd k nk ns Wr y cN cN cN cN cN [])) (nk':=id) (ns':=id) k23 rfl rfl rfl (fun _ _ _=>rfl) (fun _ _ _=>⟨_,_,rfl⟩) (by decide) rfl (fun _ h=>h) (fun _ h=>h) (fun nk ns Wr _ _=>(LL k16))
include k17 k19 k20 k23 in
theorem Ea:cA b kk L (l5 j b nb k y L ws) 16 [.agg ⟨[.string key,.string value]⟩] (.iface 72 (iI 1)):=
 aK (S:= []) (S1:= []) (X:=(fun nk ns Wr=>bd k nk ns Wr y cN cN cN cN cN [])) (X':=(fun nk ns Wr=>bd k nk ns Wr y cN cN cN cN cN [])) (nk':=id) (ns':=id) k23 rfl rfl rfl (fun _ _ _=>rfl) (fun _ _ _=>⟨_,_,rfl⟩) (by decide) rfl (fun _ h=>h) (fun _ h=>h) (fun nk ns Wr _ _=>(MD k17 k19 k20))
include k17 k19 k21 k22 k23 in
theorem E0:cA b kk L (l5 j b nb k y L ws) 16 [.agg ⟨[.string key,.string value]⟩] (.iface 72 (iI 1)):=
 aK (S:= []) (S1:= []) (X:=(fun nk ns Wr=>bd k nk ns Wr y cN cN cN cN cN [])) (X':=(fun nk ns Wr=>bd k nk ns Wr y cN cN cN cN cN [])) (nk':=id) (ns':=id) k23 rfl rfl rfl (fun _ _ _=>rfl) (fun _ _ _=>⟨_,_,rfl⟩) (by decide) rfl (fun _ h=>h) (fun _ h=>h) (fun nk ns Wr _ _=>(L4 k17 k19 k21 k22))
include k17 k18 k23 in
theorem DE:cA b kk L (l5 j b nb k y L ws) 16 [.agg ⟨[.string key,.string value]⟩] (.iface 72 (iI 1)):=
 aK (S:= []) (S1:= []) (X:=(fun nk ns Wr=>bd k nk ns Wr y cN cN cN cN cN [])) (X':=(fun nk ns Wr=>bd k nk ns Wr y cN cN cN cN cN [])) (nk':=id) (ns':=id) k23 rfl rfl rfl (fun _ _ _=>rfl) (fun _ _ _=>⟨_,_,rfl⟩) (by decide) rfl (fun _ h=>h) (fun _ h=>h) (fun nk ns Wr _ _=>(Me k17 k18))
include k16 k23 in
theorem Em:cA b kk L (l5 j b nb k y L ws) 108 [.string key] (.iface 72 (iI 15)):=
 aK (S:= []) (S1:= []) (X:=(fun nk ns Wr=>bd k nk ns Wr y cN cN cN cN cN [])) (X':=(fun nk ns Wr=>bd k nk ns Wr y cN cN cN cN cN [])) (nk':=id) (ns':=id) k23 rfl rfl rfl (fun _ _ _=>rfl) (fun _ _ _=>⟨_,_,rfl⟩) (by decide) rfl (fun _ h=>h) (fun _ h=>h) (fun nk ns Wr _ _=>(Lw k16))
include k17 k19 k20 k23 in
theorem Es:cA b kk L (l5 j b nb k y L ws) 108 [.string key] (.iface 72 (iI 1)):=
 aK (S:= []) (S1:= []) (X:=(fun nk ns Wr=>bd k nk ns Wr y cN cN cN cN cN [])) (X':=(fun nk ns Wr=>bd k nk ns Wr y cN cN cN cN cN [])) (nk':=id) (ns':=id) k23 rfl rfl rfl (fun _ _ _=>rfl) (fun _ _ _=>⟨_,_,rfl⟩) (by decide) rfl (fun _ h=>h) (fun _ h=>h) (fun nk ns Wr _ _=>(Mm k17 k19 k20))
include k17 k18 k23 in
theorem DD:cA b kk L (l5 j b nb k y L ws) 108 [.string key] (.iface 72 (iI 1)):=
 aK (S:= []) (S1:= []) (X:=(fun nk ns Wr=>bd k nk ns Wr y cN cN cN cN cN [])) (X':=(fun nk ns Wr=>bd k nk ns Wr y cN cN cN cN cN [])) (nk':=id) (ns':=id) k23 rfl rfl rfl (fun _ _ _=>rfl) (fun _ _ _=>⟨_,_,rfl⟩) (by decide) rfl (fun _ h=>h) (fun _ h=>h) (fun nk ns Wr _ _=>(M8 k17 k18))
include k23 in
theorem BM:cA b kk L (l5 j b nb k y L ws) 40 [] (.bool false):=
 aK (S:= []) (S1:= []) (X:=(fun nk ns Wr=>bd k nk ns Wr y cN cN cN cN cN [])) (X':=(fun nk ns Wr=>bd k nk ns Wr y cN cN cN cN cN [])) (nk':=id) (ns':=id) k23 rfl rfl rfl (fun _ _ _=>rfl) (fun _ _ _=>⟨_,_,rfl⟩) (by decide) rfl (fun _ h=>h) (fun _ h=>h) (fun nk ns Wr _ _=>(Hu))
include k23 in
theorem AP:cA b kk L (l5 j b nb k y L ws) 19 [] (.bool true):=
 aK (S:= []) (S1:= []) (X:=(fun nk ns Wr=>bd k nk ns Wr y cN cN cN cN cN [])) (X':=(fun nk ns Wr=>bd k nk ns Wr y cN cN cN cN cN [])) (nk':=id) (ns':=id) k23 rfl rfl rfl (fun _ _ _=>rfl) (fun _ _ _=>⟨_,_,rfl⟩) (by decide) rfl (fun _ h=>h) (fun _ h=>h) (fun nk ns Wr _ _=>(I4))
include k24 in
theorem Bb:cA b kk L [(29,.sem (ad (L.set j (bu b (qQ k y0 y1)))))] 40 [] (.bool true):=
 bM (S:= []) (S1:= []) k24 rfl rfl rfl rfl ⟨_,_,rfl⟩ (by decide) (H9)
include k24 in
theorem Ba:cA b kk L [(29,.sem (ad (L.set j (bu b (qQ k y0 y1)))))] 19 [] (.bool false):=
 bM (S:= []) (S1:= []) k24 rfl rfl rfl rfl ⟨_,_,rfl⟩ (by decide) (Ju)
include k25 in
theorem Bg:cA b kk L [(29,.sem (ad (L.set j (bu b (pO k y0 y1)))))] 40 [] (.bool true):=
 bM (S:= []) (S1:= []) k25 rfl rfl rfl rfl ⟨_,_,rfl⟩ (by decide) (HU)
include k25 in
theorem B2:cA b kk L [(29,.sem (ad (L.set j (bu b (pO k y0 y1)))))] 19 [] (.bool false):=
 bM (S:= []) (S1:= []) k25 rfl rfl rfl rfl ⟨_,_,rfl⟩ (by decide) (Hj)
include k26 in
theorem Bs:cA b kk L [(29,.sem (ad (L.set j (bu b (oy k y0 y1)))))] 40 [] (.bool true):=
 bM (S:= []) (S1:= []) k26 rfl rfl rfl rfl ⟨_,_,rfl⟩ (by decide) (Jx)
include k26 in
theorem A2:cA b kk L [(29,.sem (ad (L.set j (bu b (oy k y0 y1)))))] 19 [] (.bool false):=
 bM (S:= []) (S1:= []) k26 rfl rfl rfl rfl ⟨_,_,rfl⟩ (by decide) (Kd)
include k27 in
theorem BQ:cA b kk L [(29,.sem (ad (L.set j (bu b (oI k y0 y1)))))] 40 [] (.bool true):=
 bM (S:= []) (S1:= []) k27 rfl rfl rfl rfl ⟨_,_,rfl⟩ (by decide) (IC)
include k27 in
theorem BA:cA b kk L [(29,.sem (ad (L.set j (bu b (oI k y0 y1)))))] 19 [] (.bool false):=
 bM (S:= []) (S1:= []) k27 rfl rfl rfl rfl ⟨_,_,rfl⟩ (by decide) (Iw)
include k28 in
theorem Cd:cA b kk L [(29,.sem (ad (L.set j (aL b nb ws (fun nk ns Wr=>ka k nk ns Wr y0)))))] 40 [] (.bool true):=
 aK (S:= []) (S1:= []) (X:=(fun nk ns Wr=>ka k nk ns Wr y0)) (X':=(fun nk ns Wr=>ka k nk ns Wr y0)) (nk':=id) (ns':=id) k28 rfl rfl rfl (fun _ _ _=>rfl) (fun _ _ _=>⟨_,_,rfl⟩) (by decide) rfl (fun _ h=>h) (fun _ h=>h) (fun nk ns Wr _ _=>(Jf))
include k28 in
theorem An:cA b kk L [(29,.sem (ad (L.set j (aL b nb ws (fun nk ns Wr=>ka k nk ns Wr y0)))))] 19 [] (.bool true):=
 aK (S:= []) (S1:= []) (X:=(fun nk ns Wr=>ka k nk ns Wr y0)) (X':=(fun nk ns Wr=>ka k nk ns Wr y0)) (nk':=id) (ns':=id) k28 rfl rfl rfl (fun _ _ _=>rfl) (fun _ _ _=>⟨_,_,rfl⟩) (by decide) rfl (fun _ h=>h) (fun _ h=>h) (fun nk ns Wr _ _=>(J8))
include k29 in
theorem AR:cA b kk L [(29,.sem (ad (L.set j (bu b (pF k y0)))))] 40 [] (.bool true):=
 bM (S:= []) (S1:= []) k29 rfl rfl rfl rfl ⟨_,_,rfl⟩ (by decide) (H4)
include k29 in
theorem AV:cA b kk L [(29,.sem (ad (L.set j (bu b (pF k y0)))))] 19 [] (.bool false):=
 bM (S:= []) (S1:= []) k29 rfl rfl rfl rfl ⟨_,_,rfl⟩ (by decide) (H8)
include k30 in
theorem AK:cA b kk L [(29,.sem (ad (L.set j (bu b (rh k y0)))))] 40 [] (.bool true):=
 bM (S:= []) (S1:= []) k30 rfl rfl rfl rfl ⟨_,_,rfl⟩ (by decide) (Ib)
include k30 in
theorem Bo:cA b kk L [(29,.sem (ad (L.set j (bu b (rh k y0)))))] 19 [] (.bool false):=
 bM (S:= []) (S1:= []) k30 rfl rfl rfl rfl ⟨_,_,rfl⟩ (by decide) (Hm)
include k31 in
theorem AL:cA b kk L [(29,.sem (ad (L.set j (bu b (ri k y0)))))] 40 [] (.bool true):=
 bM (S:= []) (S1:= []) k31 rfl rfl rfl rfl ⟨_,_,rfl⟩ (by decide) (HF)
include k31 in
theorem Bc:cA b kk L [(29,.sem (ad (L.set j (bu b (ri k y0)))))] 19 [] (.bool false):=
 bM (S:= []) (S1:= []) k31 rfl rfl rfl rfl ⟨_,_,rfl⟩ (by decide) (IU)
include k32 in
theorem BD:cA b kk L [(29,.sem (ad (L.set j (bu b (pU k y0)))))] 40 [] (.bool true):=
 bM (S:= []) (S1:= []) k32 rfl rfl rfl rfl ⟨_,_,rfl⟩ (by decide) (IJ)
include k32 in
theorem Bu:cA b kk L [(29,.sem (ad (L.set j (bu b (pU k y0)))))] 19 [] (.bool false):=
 bM (S:= []) (S1:= []) k32 rfl rfl rfl rfl ⟨_,_,rfl⟩ (by decide) (Jb)
include k33 in
theorem Ca:cA b kk L [(29,.sem (ad (L.set j (aL b nb ws (fun nk ns Wr=>kT k nk ns Wr y0 z1)))))] 40 [] (.bool true):=
 aK (S:= []) (S1:= []) (X:=(fun nk ns Wr=>kT k nk ns Wr y0 z1)) (X':=(fun nk ns Wr=>kT k nk ns Wr y0 z1)) (nk':=id) (ns':=id) k33 rfl rfl rfl (fun _ _ _=>rfl) (fun _ _ _=>⟨_,_,rfl⟩) (by decide) rfl (fun _ h=>h) (fun _ h=>h) (fun nk ns Wr _ _=>(J0))
include k33 in
theorem BK:cA b kk L [(29,.sem (ad (L.set j (aL b nb ws (fun nk ns Wr=>kT k nk ns Wr y0 z1)))))] 19 [] (.bool true):=
 aK (S:= []) (S1:= []) (X:=(fun nk ns Wr=>kT k nk ns Wr y0 z1)) (X':=(fun nk ns Wr=>kT k nk ns Wr y0 z1)) (nk':=id) (ns':=id) k33 rfl rfl rfl (fun _ _ _=>rfl) (fun _ _ _=>⟨_,_,rfl⟩) (by decide) rfl (fun _ h=>h) (fun _ h=>h) (fun nk ns Wr _ _=>(ID))
include k34 in
theorem BH:cA b kk L [(29,.sem (ad (L.set j (aL b nb ws (fun nk ns Wr=>kf k nk ns Wr y0 z1)))))] 40 [] (.bool true):=
 aK (S:= []) (S1:= []) (X:=(fun nk ns Wr=>kf k nk ns Wr y0 z1)) (X':=(fun nk ns Wr=>kf k nk ns Wr y0 z1)) (nk':=id) (ns':=id) k34 rfl rfl rfl (fun _ _ _=>rfl) (fun _ _ _=>⟨_,_,rfl⟩) (by decide) rfl (fun _ h=>h) (fun _ h=>h) (fun nk ns Wr _ _=>(IX))
include k34 in
theorem Br:cA b kk L [(29,.sem (ad (L.set j (aL b nb ws (fun nk ns Wr=>kf k nk ns Wr y0 z1)))))] 19 [] (.bool true):=
 aK (S:= []) (S1:= []) (X:=(fun nk ns Wr=>kf k nk ns Wr y0 z1)) (X':=(fun nk ns Wr=>kf k nk ns Wr y0 z1)) (nk':=id) (ns':=id) k34 rfl rfl rfl (fun _ _ _=>rfl) (fun _ _ _=>⟨_,_,rfl⟩) (by decide) rfl (fun _ h=>h) (fun _ h=>h) (fun nk ns Wr _ _=>(Ir))
include k35 in
theorem B0:cA b kk L [(29,.sem (ad (L.set j (aL b nb ws (fun nk ns Wr=>kV k nk ns Wr y0 z1 x2)))))] 40 [] (.bool true):=
 aK (S:= []) (S1:= []) (X:=(fun nk ns Wr=>kV k nk ns Wr y0 z1 x2)) (X':=(fun nk ns Wr=>kV k nk ns Wr y0 z1 x2)) (nk':=id) (ns':=id) k35 rfl rfl rfl (fun _ _ _=>rfl) (fun _ _ _=>⟨_,_,rfl⟩) (by decide) rfl (fun _ h=>h) (fun _ h=>h) (fun nk ns Wr _ _=>(IH))
include k35 in
theorem AX:cA b kk L [(29,.sem (ad (L.set j (aL b nb ws (fun nk ns Wr=>kV k nk ns Wr y0 z1 x2)))))] 19 [] (.bool true):=
 aK (S:= []) (S1:= []) (X:=(fun nk ns Wr=>kV k nk ns Wr y0 z1 x2)) (X':=(fun nk ns Wr=>kV k nk ns Wr y0 z1 x2)) (nk':=id) (ns':=id) k35 rfl rfl rfl (fun _ _ _=>rfl) (fun _ _ _=>⟨_,_,rfl⟩) (by decide) rfl (fun _ h=>h) (fun _ h=>h) (fun nk ns Wr _ _=>(Jt))
include k36 in
theorem AG:cA b kk L [(29,.sem (ad (L.set j (aL b nb ws (fun nk ns Wr=>kN k nk ns Wr y0 z1)))))] 40 [] (.bool true):=
 aK (S:= []) (S1:= []) (X:=(fun nk ns Wr=>kN k nk ns Wr y0 z1)) (X':=(fun nk ns Wr=>kN k nk ns Wr y0 z1)) (nk':=id) (ns':=id) k36 rfl rfl rfl (fun _ _ _=>rfl) (fun _ _ _=>⟨_,_,rfl⟩) (by decide) rfl (fun _ h=>h) (fun _ h=>h) (fun nk ns Wr _ _=>(JG))
include k36 in
theorem B5:cA b kk L [(29,.sem (ad (L.set j (aL b nb ws (fun nk ns Wr=>kN k nk ns Wr y0 z1)))))] 19 [] (.bool true):=
 aK (S:= []) (S1:= []) (X:=(fun nk ns Wr=>kN k nk ns Wr y0 z1)) (X':=(fun nk ns Wr=>kN k nk ns Wr y0 z1)) (nk':=id) (ns':=id) k36 rfl rfl rfl (fun _ _ _=>rfl) (fun _ _ _=>⟨_,_,rfl⟩) (by decide) rfl (fun _ h=>h) (fun _ h=>h) (fun nk ns Wr _ _=>(I8))
include k37 in
theorem BO:cA b kk L [(29,.sem (ad (L.set j (aL b nb ws (fun nk ns Wr=>kU k nk ns Wr y0 z1)))))] 40 [] (.bool true):=
 aK (S:= []) (S1:= []) (X:=(fun nk ns Wr=>kU k nk ns Wr y0 z1)) (X':=(fun nk ns Wr=>kU k nk ns Wr y0 z1)) (nk':=id) (ns':=id) k37 rfl rfl rfl (fun _ _ _=>rfl) (fun _ _ _=>⟨_,_,rfl⟩) (by decide) rfl (fun _ h=>h) (fun _ h=>h) (fun nk ns Wr _ _=>(IW))
include k37 in
theorem Bj:cA b kk L [(29,.sem (ad (L.set j (aL b nb ws (fun nk ns Wr=>kU k nk ns Wr y0 z1)))))] 19 [] (.bool true):=
 aK (S:= []) (S1:= []) (X:=(fun nk ns Wr=>kU k nk ns Wr y0 z1)) (X':=(fun nk ns Wr=>kU k nk ns Wr y0 z1)) (nk':=id) (ns':=id) k37 rfl rfl rfl (fun _ _ _=>rfl) (fun _ _ _=>⟨_,_,rfl⟩) (by decide) rfl (fun _ h=>h) (fun _ h=>h) (fun nk ns Wr _ _=>(HJ))
include k38 in
theorem AH:cA b kk L [(29,.sem (ad (L.set j (aL b nb ws (fun nk ns Wr=>kR k nk ns Wr y0 z1 z2)))))] 40 [] (.bool true):=
 aK (S:= []) (S1:= []) (X:=(fun nk ns Wr=>kR k nk ns Wr y0 z1 z2)) (X':=(fun nk ns Wr=>kR k nk ns Wr y0 z1 z2)) (nk':=id) (ns':=id) k38 rfl rfl rfl (fun _ _ _=>rfl) (fun _ _ _=>⟨_,_,rfl⟩) (by decide) rfl (fun _ h=>h) (fun _ h=>h) (fun nk ns Wr _ _=>(Ig))
include k38 in
theorem B1:cA b kk L [(29,.sem (ad (L.set j (aL b nb ws (fun nk ns Wr=>kR k nk ns Wr y0 z1 z2)))))] 19 [] (.bool true):=
 aK (S:= []) (S1:= []) (X:=(fun nk ns Wr=>kR k nk ns Wr y0 z1 z2)) (X':=(fun nk ns Wr=>kR k nk ns Wr y0 z1 z2)) (nk':=id) (ns':=id) k38 rfl rfl rfl (fun _ _ _=>rfl) (fun _ _ _=>⟨_,_,rfl⟩) (by decide) rfl (fun _ h=>h) (fun _ h=>h) (fun nk ns Wr _ _=>(H0))
include k39 in
theorem Ar:cA b kk L [(29,.sem (ad (L.set j (aL b nb ws (fun nk ns Wr=>jf k nk ns Wr y0 z1 z2 y3 x4 y5)))))] 40 [] (.bool true):=
 aK (S:= []) (S1:= []) (X:=(fun nk ns Wr=>jf k nk ns Wr y0 z1 z2 y3 x4 y5)) (X':=(fun nk ns Wr=>jf k nk ns Wr y0 z1 z2 y3 x4 y5)) (nk':=id) (ns':=id) k39 rfl rfl rfl (fun _ _ _=>rfl) (fun _ _ _=>⟨_,_,rfl⟩) (by decide) rfl (fun _ h=>h) (fun _ h=>h) (fun nk ns Wr _ _=>(JX))
include k39 in
theorem Ce:cA b kk L [(29,.sem (ad (L.set j (aL b nb ws (fun nk ns Wr=>jf k nk ns Wr y0 z1 z2 y3 x4 y5)))))] 19 [] (.bool true):=
 aK (S:= []) (S1:= []) (X:=(fun nk ns Wr=>jf k nk ns Wr y0 z1 z2 y3 x4 y5)) (X':=(fun nk ns Wr=>jf k nk ns Wr y0 z1 z2 y3 x4 y5)) (nk':=id) (ns':=id) k39 rfl rfl rfl (fun _ _ _=>rfl) (fun _ _ _=>⟨_,_,rfl⟩) (by decide) rfl (fun _ h=>h) (fun _ h=>h) (fun nk ns Wr _ _=>(Ia))
include k40 in
theorem BZ:cA b kk L [(29,.sem (ad (L.set j (aL b nb ws (fun nk ns Wr=>i7 k nk ns Wr y0 z1 z2 y3 x4 y5)))))] 40 [] (.bool true):=
 aK (S:= []) (S1:= []) (X:=(fun nk ns Wr=>i7 k nk ns Wr y0 z1 z2 y3 x4 y5)) (X':=(fun nk ns Wr=>i7 k nk ns Wr y0 z1 z2 y3 x4 y5)) (nk':=id) (ns':=id) k40 rfl rfl rfl (fun _ _ _=>rfl) (fun _ _ _=>⟨_,_,rfl⟩) (by decide) rfl (fun _ h=>h) (fun _ h=>h) (fun nk ns Wr _ _=>(IA))
include k40 in
theorem Bq:cA b kk L [(29,.sem (ad (L.set j (aL b nb ws (fun nk ns Wr=>i7 k nk ns Wr y0 z1 z2 y3 x4 y5)))))] 19 [] (.bool true):=
 aK (S:= []) (S1:= []) (X:=(fun nk ns Wr=>i7 k nk ns Wr y0 z1 z2 y3 x4 y5)) (X':=(fun nk ns Wr=>i7 k nk ns Wr y0 z1 z2 y3 x4 y5)) (nk':=id) (ns':=id) k40 rfl rfl rfl (fun _ _ _=>rfl) (fun _ _ _=>⟨_,_,rfl⟩) (by decide) rfl (fun _ h=>h) (fun _ h=>h) (fun nk ns Wr _ _=>(HR))
include k41 in
theorem A3:cA b kk L [(29,.sem (ad (L.set j (aL b nb ws (fun nk ns Wr=>jE k nk ns Wr y0 z1 z2 y3 x4 y5 x6)))))] 40 [] (.bool true):=
 aK (S:= []) (S1:= []) (X:=(fun nk ns Wr=>jE k nk ns Wr y0 z1 z2 y3 x4 y5 x6)) (X':=(fun nk ns Wr=>jE k nk ns Wr y0 z1 z2 y3 x4 y5 x6)) (nk':=id) (ns':=id) k41 rfl rfl rfl (fun _ _ _=>rfl) (fun _ _ _=>⟨_,_,rfl⟩) (by decide) rfl (fun _ h=>h) (fun _ h=>h) (fun nk ns Wr _ _=>(Hs))
include k41 in
theorem BE:cA b kk L [(29,.sem (ad (L.set j (aL b nb ws (fun nk ns Wr=>jE k nk ns Wr y0 z1 z2 y3 x4 y5 x6)))))] 19 [] (.bool true):=
 aK (S:= []) (S1:= []) (X:=(fun nk ns Wr=>jE k nk ns Wr y0 z1 z2 y3 x4 y5 x6)) (X':=(fun nk ns Wr=>jE k nk ns Wr y0 z1 z2 y3 x4 y5 x6)) (nk':=id) (ns':=id) k41 rfl rfl rfl (fun _ _ _=>rfl) (fun _ _ _=>⟨_,_,rfl⟩) (by decide) rfl (fun _ h=>h) (fun _ h=>h) (fun nk ns Wr _ _=>(JA))
include k42 in
theorem Bm:cA b kk L [(29,.sem (ad (L.set j (aL b nb ws (fun nk ns Wr=>kO k nk ns Wr y0 z1 z2 y3 x4 y5)))))] 40 [] (.bool true):=
 aK (S:= []) (S1:= []) (X:=(fun nk ns Wr=>kO k nk ns Wr y0 z1 z2 y3 x4 y5)) (X':=(fun nk ns Wr=>kO k nk ns Wr y0 z1 z2 y3 x4 y5)) (nk':=id) (ns':=id) k42 rfl rfl rfl (fun _ _ _=>rfl) (fun _ _ _=>⟨_,_,rfl⟩) (by decide) rfl (fun _ h=>h) (fun _ h=>h) (fun nk ns Wr _ _=>(J6))
include k42 in
theorem B4:cA b kk L [(29,.sem (ad (L.set j (aL b nb ws (fun nk ns Wr=>kO k nk ns Wr y0 z1 z2 y3 x4 y5)))))] 19 [] (.bool true):=
 aK (S:= []) (S1:= []) (X:=(fun nk ns Wr=>kO k nk ns Wr y0 z1 z2 y3 x4 y5)) (X':=(fun nk ns Wr=>kO k nk ns Wr y0 z1 z2 y3 x4 y5)) (nk':=id) (ns':=id) k42 rfl rfl rfl (fun _ _ _=>rfl) (fun _ _ _=>⟨_,_,rfl⟩) (by decide) rfl (fun _ h=>h) (fun _ h=>h) (fun nk ns Wr _ _=>(IT))
include k43 in
theorem Bw:cA b kk L [(29,.sem (ad (L.set j (aL b nb ws (fun nk ns Wr=>kM k nk ns Wr y0 z1 z2 y3 x4 y5)))))] 40 [] (.bool true):=
 aK (S:= []) (S1:= []) (X:=(fun nk ns Wr=>kM k nk ns Wr y0 z1 z2 y3 x4 y5)) (X':=(fun nk ns Wr=>kM k nk ns Wr y0 z1 z2 y3 x4 y5)) (nk':=id) (ns':=id) k43 rfl rfl rfl (fun _ _ _=>rfl) (fun _ _ _=>⟨_,_,rfl⟩) (by decide) rfl (fun _ h=>h) (fun _ h=>h) (fun nk ns Wr _ _=>(Hl))
include k43 in
theorem Bt:cA b kk L [(29,.sem (ad (L.set j (aL b nb ws (fun nk ns Wr=>kM k nk ns Wr y0 z1 z2 y3 x4 y5)))))] 19 [] (.bool true):=
 aK (S:= []) (S1:= []) (X:=(fun nk ns Wr=>kM k nk ns Wr y0 z1 z2 y3 x4 y5)) (X':=(fun nk ns Wr=>kM k nk ns Wr y0 z1 z2 y3 x4 y5)) (nk':=id) (ns':=id) k43 rfl rfl rfl (fun _ _ _=>rfl) (fun _ _ _=>⟨_,_,rfl⟩) (by decide) rfl (fun _ h=>h) (fun _ h=>h) (fun nk ns Wr _ _=>(JQ))
include k44 in
theorem BF:cA b kk L [(29,.sem (ad (L.set j (aL b nb ws (fun nk ns Wr=>kQ k nk ns Wr y0 z1 z2 y3 x4 y5)))))] 40 [] (.bool true):=
 aK (S:= []) (S1:= []) (X:=(fun nk ns Wr=>kQ k nk ns Wr y0 z1 z2 y3 x4 y5)) (X':=(fun nk ns Wr=>kQ k nk ns Wr y0 z1 z2 y3 x4 y5)) (nk':=id) (ns':=id) k44 rfl rfl rfl (fun _ _ _=>rfl) (fun _ _ _=>⟨_,_,rfl⟩) (by decide) rfl (fun _ h=>h) (fun _ h=>h) (fun nk ns Wr _ _=>(H3))
include k44 in
theorem AE:cA b kk L [(29,.sem (ad (L.set j (aL b nb ws (fun nk ns Wr=>kQ k nk ns Wr y0 z1 z2 y3 x4 y5)))))] 19 [] (.bool true):=
 aK (S:= []) (S1:= []) (X:=(fun nk ns Wr=>kQ k nk ns Wr y0 z1 z2 y3 x4 y5)) (X':=(fun nk ns Wr=>kQ k nk ns Wr y0 z1 z2 y3 x4 y5)) (nk':=id) (ns':=id) k44 rfl rfl rfl (fun _ _ _=>rfl) (fun _ _ _=>⟨_,_,rfl⟩) (by decide) rfl (fun _ h=>h) (fun _ h=>h) (fun nk ns Wr _ _=>(HC))
end
end
section
open Go.Sx
def dY (k:Int) (y:Bool):Nat→Nat→Value→Heap→Heap:=fun nk ns wv m4=>gu k nk ns wv y (.chan none) (.chan none) (.chan none) (.chan none) (.chan none)++([]++m4)
def oz (k:Int) (y:Bool):Nat→Nat→aG→Heap:=fun nk ns Wr=>bd k nk ns Wr y (.chan none) (.chan none) (.chan none) (.chan none) (.chan none) []
theorem gL {b nb:Nat}{ws:List Wt}{k:Int}{y:Bool}:∀w T,(aL b nb ws (oz k y)).holds w T→(rM b nb ws (dY k y)).holds w T:=
 Dk (fun nk ns=>ll rfl rfl) (fun nk ns Wr m=>oo rfl nk ns Wr m)
theorem jo {b nb:Nat}{ws:List Wt}{k:Int}{y:Bool}:∀w T,(rM b nb ws (dY k y)).holds w T→(aL b nb ws (oz k y)).holds w T:=
 jO (fun nk ns=>ll rfl rfl) (fun nk ns Wr m=>oo rfl nk ns Wr m)
theorem uE {nm:Nat→Option Nat}:∀ws:List Wt,(ah ws).map (ao nm 9)=ah ws
 | []=>rfl
 |w::ws=>by simp only [ah,List.map_cons,uE ws];rfl
theorem gM (A:Heap) (ws:List Wt):aB 30 30 (A++([]++ [(4,.cells (ah ws) 112)]))=aB 30 30 A++ [(34,.cells (ah ws) 112)]:=by
 unfold aB
 rw [List.nil_append,List.map_append]
 simp only [List.map_cons,List.map_nil,Chunk.bC,uE]
theorem pV {α:Type}:∀ {n:Nat}{l:List α},n≤l.length→cK n l=true
 |0,_,_=>rfl
 |n+1,[],h=>by simp at h
 |n+1,_::l,h=>pV (n:=n) (l:=l) (Nat.le_of_succ_le_succ h)
theorem K4 {ws:List Wt}{x:Wt}{p:Nat} (h:p < ws.length):aH (ah ws) ((0:Nat)+p*(3:Nat)) (eO x)=ah (ws.set p x):=by
 have e:ws=ws.take p++ws[p]::ws.drop (p+1):=by rw [←List.drop_eq_getElem_cons h,List.take_append_drop]
 have e2:ws.set p x=ws.take p++x::ws.drop (p+1):=List.set_eq_take_append_cons_drop .. |>.trans (if_pos h)
 have e1:ah ws=ah (ws.take p)++eO ws[p]++ah (ws.drop (p+1)):=by
  conv=>lhs;rw [e,gz]
  simp [ah,eO]
 have hl:(ah (ws.take p)).length=(0:Nat)+p*(3:Nat):=by rw [fy,List.length_take];omega
 rw [e1,←hl,qA (ah (ws.take p)) (eO ws[p]) (eO x) (ah (ws.drop (p+1))) rfl,e2,gz]
 simp [ah,eO]
theorem vd {ws:List Wt}{x:Wt}{p:Nat} (h:fa ws) (hx:x.1.data.toList.length≤16):fa (ws.set p x):=fun w hw=>by
 rcases List.mem_or_eq_of_mem_set hw with q|q
 · exact h w q
 · subst q;exact hx
theorem vl {ws:List Wt}{x:Wt}{p:Nat} (h:fa ws) (hx:x.1.data.toList.length≤16):fa (dR ws p x):=fun w hw=>by
 unfold dR at hw
 rcases List.mem_append.1 hw with q|q
 · exact h w (List.mem_of_mem_take q)
 · rcases List.mem_cons.1 q with q|q
   · subst q;exact hx
   · exact h w (List.mem_of_mem_drop q)
theorem pL {ws:List Wt}{x:Wt}{p:Nat}:(dR ws p x).length=ws.length+1:=by
 unfold dR;simp only [List.length_append,List.length_cons,List.length_take,List.length_drop];omega
theorem yW (ws:List Wt) (p:Nat) (x:Wt):∃x2 t2,dR ws p x=x2::t2:=by
 cases e:dR ws p x with
 |nil=>have:=pL (ws:=ws) (x:=x) (p:=p);rw [e] at this;simp at this
 |cons a l=>exact⟨a,l,rfl⟩
theorem Ae (x:Wt) (t:List Wt) (p:Nat) (v:Wt):∃x2 t2,(x::t).set p v=x2::t2:=by
 cases p with
 |zero=>exact⟨_,_,rfl⟩
 |succ p=>exact⟨_,_,rfl⟩
theorem Oc {k:Int}{y:Bool}{nb:Nat}{ws:List Wt}{key value:ByteArray}{L:List aG}{j b kk:Nat} (hy:y=false) (h1:(key.data.toList.length:Int)≥1) (h2:(key.data.toList.length:Int)≤16) (hv:¬((value.data.toList.length:Int) > 16)) (hs:fa ws) (hl:ws.length < 1000)
  (hk:L[j]? =some (aL b nb ws (oz k y))):∃ws',fa ws'∧ws'.length≤ws.length+1∧
  ab Tryz.prog 30 (([]:Heap)++ [(29,.sem (ad L))]) 400 (([]:Heap)++ [(29,.sem (ad (L.set j (aL b nb ws' (oz k y)))))]) (.call 16 (.pointer (some ⟨b,0,some kk⟩):: [.agg ⟨[.string key,.string value]⟩])) (.val .nilIface):=by
 have hkey:key.data.toList.length≤16:=by omega
 have n2:(!decide ((key.data.toList.length:Int)≤16))=false:=by rw [decide_eq_true h2];rfl
 cases ws with
 |nil=>
  refine⟨[(key,value,false)],(fun w hw=>by rw [List.mem_singleton] at hw;subst hw;exact hkey),Nat.le_refl _,?_⟩
  exact gh (S:= []) (S1:= []) (X:=dY k y) (X':=dY k y) (nk':=id) (ns':=id) hk gL jo rfl rfl rfl (fun _ _=>rfl) (fun _ _=>⟨_,_,rfl⟩) (by decide) (fun _ h=>h) (fun _ h=>h)
   (fun nk ns _ _=>D3 hy (decide_eq_true h1) n2 (decide_eq_false hv))
 |cons x t=>
  obtain⟨p,there,hp,hth,hd⟩:=C1 (ws:=x::t) (key:=key) hs (by omega)
  have hb:=Gs hd
  cases there with
  |true=>
   have hlt:=hth rfl
   have hset:=K4 (x:=(key,value,false)) hlt
   refine⟨(x::t).set p (key,value,false),vd hs hkey,by simp,?_⟩
   obtain⟨x2,t2,e2⟩:=Ae x t p (key,value,false)
   have he:(x2::t2).length=(x::t).length:=by rw [←e2];simp
   rw [e2]
   exact gh (S:= []) (S1:= []) (X:=dY k y) (X':=dY k y) (nk':=id) (ns':=id) hk gL jo rfl rfl rfl (fun _ _=>rfl) (fun _ _=>⟨_,_,rfl⟩) (by decide) (fun _ h=>h) (fun _ h=>h)
    (fun nk ns _ _=>by
     rw [show aB 30 30 (fM (dY k y) nk ns (x::t))=_ from gM (gu k nk ns (.slice (some ⟨4,0,none⟩) (x::t).length 0) y (.chan none) (.chan none) (.chan none) (.chan none) (.chan none)) (x::t)]
     have:=Eg (k:=k) (nk:=nk) (ns:=ns) (y:=y) (ws:=x::t) (w:=x) (b:=true) (p:=p) hy (decide_eq_true h1) n2 (decide_eq_false hv) rfl (decide_eq_true (by omega)) (pV (by rw [fy];omega)) hb ⟨_,hset⟩
     rw [hset,e2] at this
     rw [show fM (dY k y) (id nk) (id ns) (x2::t2)=gu k nk ns (.slice (some ⟨4,0,none⟩) (x::t).length 0) y (.chan none) (.chan none) (.chan none) (.chan none) (.chan none)++ [(4,.cells (ah (x2::t2)) 112)] from by rw [←he];rfl]
     exact this)
  |false=>
   have hi:=DA (xb (x:=(key,value,false)) (i:=p) (by simp) hp (by omega))
   refine⟨dR (x::t) p (key,value,false),vl hs hkey,Nat.le_of_eq pL,?_⟩
   obtain⟨x2,t2,e2⟩:=yW (x::t) p (key,value,false)
   have he:(x2::t2).length=(x::t).length+1:=by rw [←e2,pL]
   rw [e2]
   exact gh (S:= []) (S1:= []) (X:=dY k y) (X':=dY k y) (nk':=id) (ns':=id) hk gL jo rfl rfl rfl (fun _ _=>rfl) (fun _ _=>⟨_,_,rfl⟩) (by decide) (fun _ h=>h) (fun _ h=>h)
    (fun nk ns _ _=>by
     rw [show aB 30 30 (fM (dY k y) nk ns (x::t))=_ from gM (gu k nk ns (.slice (some ⟨4,0,none⟩) (x::t).length 0) y (.chan none) (.chan none) (.chan none) (.chan none) (.chan none)) (x::t)]
     have:=ET (k:=k) (nk:=nk) (ns:=ns) (y:=y) (ws:=x::t) (w:=x) (b:=false) (p:=p) hy (decide_eq_true h1) n2 (decide_eq_false hv) rfl hb hi
     rw [e2] at this
     rw [show fM (dY k y) (id nk) (id ns) (x2::t2)=gu k nk ns (.slice (some ⟨4,0,none⟩) ((x::t).length+1) 0) y (.chan none) (.chan none) (.chan none) (.chan none) (.chan none)++ [(4,.cells (ah (x2::t2)) 112)] from by rw [←he];rfl]
     exact this)
theorem LS {k:Int}{y:Bool}{nb:Nat}{ws:List Wt}{key:ByteArray}{L:List aG}{j b kk:Nat} (hy:y=false) (h1:(key.data.toList.length:Int)≥1) (h2:(key.data.toList.length:Int)≤16) (hs:fa ws) (hl:ws.length < 1000)
  (hk:L[j]? =some (aL b nb ws (oz k y))):∃ws',fa ws'∧ws'.length≤ws.length+1∧
  ab Tryz.prog 30 (([]:Heap)++ [(29,.sem (ad L))]) 400 (([]:Heap)++ [(29,.sem (ad (L.set j (aL b nb ws' (oz k y)))))]) (.call 108 (.pointer (some ⟨b,0,some kk⟩):: [.string key])) (.val .nilIface):=by
 have hkey:key.data.toList.length≤16:=by omega
 have n2:(!decide ((key.data.toList.length:Int)≤16))=false:=by rw [decide_eq_true h2];rfl
 cases ws with
 |nil=>
  refine⟨[(key,⟨#[]⟩,true)],(fun w hw=>by rw [List.mem_singleton] at hw;subst hw;exact hkey),Nat.le_refl _,?_⟩
  exact gh (S:= []) (S1:= []) (X:=dY k y) (X':=dY k y) (nk':=id) (ns':=id) hk gL jo rfl rfl rfl (fun _ _=>rfl) (fun _ _=>⟨_,_,rfl⟩) (by decide) (fun _ h=>h) (fun _ h=>h)
   (fun nk ns _ _=>BX hy (decide_eq_true h1) n2)
 |cons x t=>
  obtain⟨p,there,hp,hth,hd⟩:=C1 (ws:=x::t) (key:=key) hs (by omega)
  have hb:=DC hd
  cases there with
  |true=>
   have hlt:=hth rfl
   have hset:=K4 (x:=(key,⟨#[]⟩,true)) hlt
   refine⟨(x::t).set p (key,⟨#[]⟩,true),vd hs hkey,by simp,?_⟩
   obtain⟨x2,t2,e2⟩:=Ae x t p (key,⟨#[]⟩,true)
   have he:(x2::t2).length=(x::t).length:=by rw [←e2];simp
   rw [e2]
   exact gh (S:= []) (S1:= []) (X:=dY k y) (X':=dY k y) (nk':=id) (ns':=id) hk gL jo rfl rfl rfl (fun _ _=>rfl) (fun _ _=>⟨_,_,rfl⟩) (by decide) (fun _ h=>h) (fun _ h=>h)
    (fun nk ns _ _=>by
     rw [show aB 30 30 (fM (dY k y) nk ns (x::t))=_ from gM (gu k nk ns (.slice (some ⟨4,0,none⟩) (x::t).length 0) y (.chan none) (.chan none) (.chan none) (.chan none) (.chan none)) (x::t)]
     have:=Ao (k:=k) (nk:=nk) (ns:=ns) (y:=y) (ws:=x::t) (w:=x) (b:=true) (p:=p) hy (decide_eq_true h1) n2 rfl (decide_eq_true (by omega)) (pV (by rw [fy];omega)) hb ⟨_,hset⟩
     rw [hset,e2] at this
     rw [show fM (dY k y) (id nk) (id ns) (x2::t2)=gu k nk ns (.slice (some ⟨4,0,none⟩) (x::t).length 0) y (.chan none) (.chan none) (.chan none) (.chan none) (.chan none)++ [(4,.cells (ah (x2::t2)) 112)] from by rw [←he];rfl]
     exact this)
  |false=>
   have hi:=BS (xb (x:=(key,⟨#[]⟩,true)) (i:=p) (by simp) hp (by omega))
   refine⟨dR (x::t) p (key,⟨#[]⟩,true),vl hs hkey,Nat.le_of_eq pL,?_⟩
   obtain⟨x2,t2,e2⟩:=yW (x::t) p (key,⟨#[]⟩,true)
   have he:(x2::t2).length=(x::t).length+1:=by rw [←e2,pL]
   rw [e2]
   exact gh (S:= []) (S1:= []) (X:=dY k y) (X':=dY k y) (nk':=id) (ns':=id) hk gL jo rfl rfl rfl (fun _ _=>rfl) (fun _ _=>⟨_,_,rfl⟩) (by decide) (fun _ h=>h) (fun _ h=>h)
    (fun nk ns _ _=>by
     rw [show aB 30 30 (fM (dY k y) nk ns (x::t))=_ from gM (gu k nk ns (.slice (some ⟨4,0,none⟩) (x::t).length 0) y (.chan none) (.chan none) (.chan none) (.chan none) (.chan none)) (x::t)]
     have:=AJ (k:=k) (nk:=nk) (ns:=ns) (y:=y) (ws:=x::t) (w:=x) (b:=false) (p:=p) hy (decide_eq_true h1) n2 rfl hb hi
     rw [e2] at this
     rw [show fM (dY k y) (id nk) (id ns) (x2::t2)=gu k nk ns (.slice (some ⟨4,0,none⟩) ((x::t).length+1) 0) y (.chan none) (.chan none) (.chan none) (.chan none) (.chan none)++ [(4,.cells (ah (x2::t2)) 112)] from by rw [←he];rfl]
     exact this)
end
section
open Go.Sx
theorem Ak {A B:Heap}{n:Nat}{x:Chunk}{m:Nat} (h:cY n (aY B)=false):Heap.get ((A++B)++ [(n,x)]) m=Heap.get (A++(n,x)::B) m:=by
 induction A with
 |nil=>
  rw [List.nil_append,List.nil_append,jv (.inr h),aQ]
  by_cases q:m=n
  · subst q;simp
  · rw [if_neg q,if_neg (fun e=>q e.symm)]
 |cons a A ih=>
  obtain⟨p,y⟩:=a
  simp only [List.cons_append,aQ]
  split
  · rfl
  · exact ih
theorem bI {P:Program}{c0 c1 c2:Nat}{h0 h1:Heap}{f:FuncId}{args:List Value}{v:Value} (h:ab P c0 h0 c1 h1 (.call f args) (.val v)) (hc:c1≤c2):ab P c0 h0 c2 h1 (.call f args) (.val v):=
 ⟨Nat.le_trans h.1 hc,fun r ow w hs hf us hu=>Calls.mono (h.2 r ow w hs (hf.sub (Nat.le_refl _) hc) us hu) fun e w' ⟨r',ow',u,he,hp,hv⟩=>⟨r',ow',u,he,hp.upto hc,hv⟩⟩
theorem OW {k:Int}{y0:Bool}{z1:ByteArray}{nk ns:Nat}:Ctx 4 (fun wv m4=>Gn k nk ns wv m4 y0 z1) [.int .i64 (k),.pointer (some ⟨1,0,none⟩),.func (.func 150) ⟨[]⟩ ⟨[.pointer (some ⟨5,0,none⟩),.pointer (some ⟨6,0,none⟩)]⟩,.bool true,.bool y0,.int .i64 0] [.chan (some 2),.chan (some 3),.bool true,.string ({ data:= #[]}),.bool false,.slice none 0 0,.int .i64 0,.nilIface,.chan none] 104 [(1,.cells [.int .i64 (k),.slice none 0 0,.chan none,.chan none,.chan none,.chan none,.chan none,.chan none,.chan none,.chan none,.chan none,.nilFunc,.chan none,.chan none,.chan none,.chan none,.chan none,.chan none,.chan none,.chan none,.chan none,.chan none,.chan none,.chan none,.chan none,.chan none,.chan none,.chan none,.chan none,.chan none] 167),(2,.bag 9 nk),(3,.bag 32 ns),(5,.cells [.pointer (some ⟨0,0,none⟩)] 58),(6,.cells [.func (.func 126) ⟨[]⟩ ⟨[.pointer (some ⟨7,0,none⟩),.pointer (some ⟨8,0,none⟩)]⟩] 248),(7,.cells [.string z1] 9),(8,.cells [.pointer (some ⟨0,0,none⟩)] 58)]:=
 ⟨fun _ _ _=>rfl,by decide,fun m x h=>fW (n:=4) (h:= [(1,.cells [.int .i64 (k),.slice none 0 0,.chan none,.chan none,.chan none,.chan none,.chan none,.chan none,.chan none,.chan none,.chan none,.nilFunc,.chan none,.chan none,.chan none,.chan none,.chan none,.chan none,.chan none,.chan none,.chan none,.chan none,.chan none,.chan none,.chan none,.chan none,.chan none,.chan none,.chan none,.chan none] 167),(2,.bag 9 nk),(3,.bag 32 ns),(5,.cells [.pointer (some ⟨0,0,none⟩)] 58),(6,.cells [.func (.func 126) ⟨[]⟩ ⟨[.pointer (some ⟨7,0,none⟩),.pointer (some ⟨8,0,none⟩)]⟩] 248),(7,.cells [.string z1] 9),(8,.cells [.pointer (some ⟨0,0,none⟩)] 58)]) rfl h,rfl,rfl⟩
theorem Tv {k:Int}{y0:Bool}{z1:ByteArray} (nk ns:Nat) (Wr:aG) (m:Nat):Heap.get (Gn k nk ns (.chan (some 4)) [(4,.sem Wr)] y0 z1) m=(kT k nk ns Wr y0 z1).get m:=
 Ak (n:=4) (x:= .sem Wr) (m:=m) (A:= [(0,.cells (([.int .i64 (k),.pointer (some ⟨1,0,none⟩),.func (.func 150) ⟨[]⟩ ⟨[.pointer (some ⟨5,0,none⟩),.pointer (some ⟨6,0,none⟩)]⟩,.bool true,.bool y0,.int .i64 0]:List Value)++ .chan (some 4)::([.chan (some 2),.chan (some 3),.bool true,.string ({ data:= #[]}),.bool false,.slice none 0 0,.int .i64 0,.nilIface,.chan none]:List Value)) 104),(1,.cells [.int .i64 (k),.slice none 0 0,.chan none,.chan none,.chan none,.chan none,.chan none,.chan none,.chan none,.chan none,.chan none,.nilFunc,.chan none,.chan none,.chan none,.chan none,.chan none,.chan none,.chan none,.chan none,.chan none,.chan none,.chan none,.chan none,.chan none,.chan none,.chan none,.chan none,.chan none,.chan none] 167),(2,.bag 9 nk),(3,.bag 32 ns)]) (B:= [(5,.cells [.pointer (some ⟨0,0,none⟩)] 58),(6,.cells [.func (.func 126) ⟨[]⟩ ⟨[.pointer (some ⟨7,0,none⟩),.pointer (some ⟨8,0,none⟩)]⟩] 248),(7,.cells [.string z1] 9),(8,.cells [.pointer (some ⟨0,0,none⟩)] 58)]) rfl
theorem KV {n:Nat} (h:n≤100000):bz n 16=true:=Nat.ble_eq_true_of_le (by omega)
abbrev FK (k:Int) (y:Bool) (v:ByteArray) (th:Bool):Nat→Nat→aG→Heap:=fun nk ns Wr=>bd k nk ns Wr y (.string v) (.bool th) (.slice none 0 0) (.int .i64 0) .nilIface []
theorem Qs {k:Int}{y:Bool}{nb:Nat}{ws:List Wt}{key:ByteArray}{L:List aG}{j b kk:Nat} (h1:(key.data.toList.length:Int)≥1) (h2:(key.data.toList.length:Int)≤16) (hs:fa ws) (hl:ws.length < 1000) (hnb:nb < 1000)
  (hk:L[j]? =some (aL b nb ws (oz k y))):
  (∃v th,ab Tryz.prog 30 (([]:Heap)++ [(29,.sem (ad L))]) 400 (([]:Heap)++ [(29,.sem (ad (L.set j (aL b nb ws (FK k y v th)))))]) (.call 107 (.pointer (some ⟨b,0,some kk⟩):: [.string key])) (.val .nilIface))∨
  ab Tryz.prog 30 (([]:Heap)++ [(29,.sem (ad L))]) 400 (([]:Heap)++ [(29,.sem (ad (L.set j (aL b (nb+1) ws fun nk ns Wr=>kT k nk ns Wr y key))))]) (.call 107 (.pointer (some ⟨b,0,some kk⟩):: [.string key])) (.val .nilIface):=by
 have n2:(!decide ((key.data.toList.length:Int)≤16))=false:=by rw [decide_eq_true h2];rfl
 have hcl:∀w T,(rM b (nb+1) ws (fun nk ns wv m4=>Gn k nk ns wv m4 y key)).holds w T→(aL b (nb+1) ws fun nk ns Wr=>kT k nk ns Wr y key).holds w T:=jO (fun nk ns=>OW) (fun nk ns Wr m=>Tv nk ns Wr m)
 cases ws with
 |nil=>
  right
  exact bI (gh (S:= []) (S1:= []) (X:=dY k y) (nk':=fun n=>n+1) (ns':=id) hk gL hcl rfl rfl rfl (fun _ _=>rfl) (fun _ _=>⟨_,_,rfl⟩) (by decide) (fun n h=>Nat.succ_le_succ h) (fun n h=>Nat.le_succ_of_le h)
   (fun nk ns h3 _=>H6 (decide_eq_true h1) n2 (KV (by omega)))) (by decide)
 |cons x t=>
  obtain⟨w,there,hd⟩:=Mz (ws:=x::t) (key:=key) (by omega)
  have hb:=Sa hd
  cases there with
  |true=>
   left
   refine⟨w.2.1,!w.2.2,?_⟩
   exact gh (S:= []) (S1:= []) (X:=dY k y) (X':=fun nk ns wv m4=>gu k nk ns wv y (.string w.2.1) (.bool (!w.2.2)) (.slice none 0 0) (.int .i64 0) .nilIface++([]++m4)) (nk':=id) (ns':=id) hk gL
    (jO (fun nk ns=>ll rfl rfl) (fun nk ns Wr m=>oo rfl nk ns Wr m)) rfl rfl rfl (fun _ _=>rfl) (fun _ _=>⟨_,_,rfl⟩) (by decide) (fun _ h=>h) (fun _ h=>h)
    (fun nk ns _ _=>by
     rw [show aB 30 30 (fM (dY k y) nk ns (x::t))=_ from gM (gu k nk ns (.slice (some ⟨4,0,none⟩) (x::t).length 0) y (.chan none) (.chan none) (.chan none) (.chan none) (.chan none)) (x::t)]
     exact y7 (b:=true) (p:=0) (decide_eq_true h1) n2 rfl hb)
  |false=>
   right
   exact gh (S:= []) (S1:= []) (X:=dY k y) (nk':=fun n=>n+1) (ns':=id) hk gL hcl rfl rfl rfl (fun _ _=>rfl) (fun _ _=>⟨_,_,rfl⟩) (by decide) (fun n h=>Nat.succ_le_succ h) (fun n h=>Nat.le_succ_of_le h)
    (fun nk ns h3 _=>by
     rw [show aB 30 30 (fM (dY k y) nk ns (x::t))=_ from gM (gu k nk ns (.slice (some ⟨4,0,none⟩) (x::t).length 0) y (.chan none) (.chan none) (.chan none) (.chan none) (.chan none)) (x::t)]
     exact GZ (b:=false) (p:=0) (decide_eq_true h1) n2 rfl (KV (by omega)) hb)
end
end Go.Proofs.YtalanookmohdeaaGreatDoor

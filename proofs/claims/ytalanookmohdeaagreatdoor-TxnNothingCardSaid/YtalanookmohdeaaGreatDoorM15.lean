/- TxnNothing: the walk. No condition. -/
import Derived.Test.YtalanookmohdeaaGreatDoorM14
import Derived.Test.YtalanookmohdeaaGreatDoorM12
import Derived.Test.YtalanookmohdeaaGreatDoorM11
import Derived.Test.YtalanookmohdeaaGreatDoorM9
import Derived.Test.YtalanookmohdeaaGreatDoorM8
namespace Go.Proofs.YtalanookmohdeaaGreatDoor
open Go.Sx
theorem PY {k:Int}{y0:Bool}{z1:ByteArray}{z2:ByteArray}{y3:Bool}{x4:Int}{y5:Bool}{nk ns:Nat}:Ctx 4 (fun wv m4=>l7 k nk ns wv m4 y0 z1 z2 y3 x4 y5) [iI (k),pT 1,.func (.func 131) ⟨[]⟩ ⟨[pT 5,pT 6,pT 7,pT 8,pT 9,pT 10]⟩,.bool true,.bool y0,iI 0] [cS 2,cS 3,.bool true,.string ({ data:= #[]}),.bool false,sN,iI 0,.nilIface,sN] 104 [(1,.cells [iI (k),sN,cN,cN,cN,cN,.bool false,cN,cN,pT 11,pT 11,.func (.func 213) ⟨[]⟩ ⟨[pT 12]⟩,.bool false,iI 0,iI 0,iI 0,.string ({ data:= #[]}),.string ({ data:= #[]}),.bool false,iI 0,sN,.bool false,iI 0,iI 0,.string ({ data:= #[]}),cN,cN,cN,cN,cN] 167),(2,.bag 9 nk),(3,.bag 32 ns),(5,.cells [pT 13] 249),(6,.cells [pT 0] 58),(7,.cells [sN] 102),(8,.cells [.string z1,.string z2,.bool y3] 32),(9,.cells [iI x4] 3),(10,.cells [.bool y5] 4),(11,.cells [.string z1,.string z2,.bool y3,.bool false,sN,.string ({ data:= #[]}),.string ({ data:= #[]}),.bool false,.bool true,.nilIface] 304),(12,.cells [pT 1] 97),(13,.cells [pT 1,.string z1,.string z2,.bool y3,iI 0,.bool false,.bool true,.bool false,.nilIface,sN,sN] 277)]:=
 ⟨fun _ _ _=>rfl,by decide,fun m x h=>fW (n:=4) (h:= [(1,.cells [iI (k),sN,cN,cN,cN,cN,.bool false,cN,cN,pT 11,pT 11,.func (.func 213) ⟨[]⟩ ⟨[pT 12]⟩,.bool false,iI 0,iI 0,iI 0,.string ({ data:= #[]}),.string ({ data:= #[]}),.bool false,iI 0,sN,.bool false,iI 0,iI 0,.string ({ data:= #[]}),cN,cN,cN,cN,cN] 167),(2,.bag 9 nk),(3,.bag 32 ns),(5,.cells [pT 13] 249),(6,.cells [pT 0] 58),(7,.cells [sN] 102),(8,.cells [.string z1,.string z2,.bool y3] 32),(9,.cells [iI x4] 3),(10,.cells [.bool y5] 4),(11,.cells [.string z1,.string z2,.bool y3,.bool false,sN,.string ({ data:= #[]}),.string ({ data:= #[]}),.bool false,.bool true,.nilIface] 304),(12,.cells [pT 1] 97),(13,.cells [pT 1,.string z1,.string z2,.bool y3,iI 0,.bool false,.bool true,.bool false,.nilIface,sN,sN] 277)]) rfl h,rfl,rfl⟩
theorem Q3 {k:Int}{y0:Bool}{z1:ByteArray}{z2:ByteArray}{y3:Bool}{x4:Int}{y5:Bool} (nk ns:Nat) (Wr:aG) (m:Nat):Heap.get (l7 k nk ns (cS 4) [(4,.sem Wr)] y0 z1 z2 y3 x4 y5) m=(kQ k nk ns Wr y0 z1 z2 y3 x4 y5).get m:=
 Ak (n:=4) (x:= .sem Wr) (m:=m) (A:= [(0,.cells (([iI (k),pT 1,.func (.func 131) ⟨[]⟩ ⟨[pT 5,pT 6,pT 7,pT 8,pT 9,pT 10]⟩,.bool true,.bool y0,iI 0]:List Value)++cS 4::([cS 2,cS 3,.bool true,.string ({ data:= #[]}),.bool false,sN,iI 0,.nilIface,sN]:List Value)) 104),(1,.cells [iI (k),sN,cN,cN,cN,cN,.bool false,cN,cN,pT 11,pT 11,.func (.func 213) ⟨[]⟩ ⟨[pT 12]⟩,.bool false,iI 0,iI 0,iI 0,.string ({ data:= #[]}),.string ({ data:= #[]}),.bool false,iI 0,sN,.bool false,iI 0,iI 0,.string ({ data:= #[]}),cN,cN,cN,cN,cN] 167),(2,.bag 9 nk),(3,.bag 32 ns)]) (B:= [(5,.cells [pT 13] 249),(6,.cells [pT 0] 58),(7,.cells [sN] 102),(8,.cells [.string z1,.string z2,.bool y3] 32),(9,.cells [iI x4] 3),(10,.cells [.bool y5] 4),(11,.cells [.string z1,.string z2,.bool y3,.bool false,sN,.string ({ data:= #[]}),.string ({ data:= #[]}),.bool false,.bool true,.nilIface] 304),(12,.cells [pT 1] 97),(13,.cells [pT 1,.string z1,.string z2,.bool y3,iI 0,.bool false,.bool true,.bool false,.nilIface,sN,sN] 277)]) rfl
theorem KX {a b:Nat}:∀os:List Rt,cL (cD 9 a b) (aa os)=true
 | []=>rfl
 |w::os=>by
  show(true && (true && cL (cD 9 a b) (aa os)))=true
  rw [KX os];rfl
theorem sW {os:List Rt}:kg 4 [(5,.cells (aa os) 64)]=true:=by
 show(true && true && cL (cD 9 4 5) (aa os) && true)=true
 rw [KX os];rfl
set_option maxRecDepth 100000 in
theorem JC:cQ Tryz.prog 134 [sN,sN] sN:=by
 exact bo (n:=600) (d:= []) mixed aA (by kernel_rfl) vN rfl rfl
theorem xF {P:Program}{f:FuncId}{args:List Value}{v:Value}{c:Nat}{h:Heap} (hg:cQ P f args v):ab P c h c h (.call f args) (.val v):=
 ⟨Nat.le_refl _,fun r ow w hs _ us hu=>Calls.mono (hg r us w hu) fun _ _ ⟨u,he,hv,ho⟩=>⟨r,ow,u,he,aN.old hs ho,hv⟩⟩
theorem Ln {ws:List Wt} (h:ab Tryz.prog 2 (eP ws []) 60 (eP ws []) (.call 134 [.slice none 0 0,.slice (some ⟨1,0,none⟩) 1 0]) (.val (.slice none 0 0))):ab Tryz.prog 74 [(34,.cells (ah ws) 112),(73,.cells [.slice (some ⟨34,0,none⟩) ws.length 0] 99)] 132 [(34,.cells (ah ws) 112),(73,.cells [.slice (some ⟨34,0,none⟩) ws.length 0] 99)] (.call 134 [.slice none 0 0,.slice (some ⟨73,0,none⟩) 1 0]) (.val (.slice none 0 0)):=by
 refine fp (l:= [34,73]) (c:=74) h rfl (fun n hn=>by simp at hn;omega) (by decide) (fun i zz e=> ?_) (fun r r2 us hb hr=> ?_) (fun n zz e=> ?_) (fun r r2 u hb hr=> ?_)
 · change Heap.get [(0,.cells (ah ws) 112),(1,.cells [.slice (some ⟨0,0,none⟩) ws.length 0] 99)] i=some zz at e
   rw [aQ] at e
   split at e
   · rename_i q;subst q;cases e
     exact⟨34,_,rfl,rfl,.cells bm⟩
   rw [aQ] at e
   split at e
   · rename_i q;subst q;cases e
     exact⟨73,_,rfl,rfl,.cells (aj.refl _)⟩
   simp [Heap.get] at e
 · have:=cV (b9 (r:=r) (r2:=r2) hb 9) hr
   exact this
 · change Heap.get [(34,.cells (ah ws) 112),(73,.cells [.slice (some ⟨34,0,none⟩) ws.length 0] 99)] n=some zz at e
   rw [aQ] at e
   split at e
   · rename_i q;subst q;cases e
     exact .inl ⟨0,_,rfl,rfl,.cells bm⟩
   rw [aQ] at e
   split at e
   · rename_i q;subst q;cases e
     exact .inl ⟨1,_,rfl,rfl,.cells (aj.refl _)⟩
   simp [Heap.get] at e
 · have:=b9 (r:=r) (r2:=r2) hb 9 _ _ hr
   exact this
theorem C4 {ws:List Wt}{os:List Rt} (h:ab Tryz.prog 2 (eP ws []) 60 (eP ws [(2,.cells (aa os) 64)]) (.call 134 [.slice none 0 0,.slice (some ⟨1,0,none⟩) 1 0]) (.val (.slice (some ⟨2,0,none⟩) os.length 0))):ab Tryz.prog 74 [(34,.cells (ah ws) 112),(73,.cells [.slice (some ⟨34,0,none⟩) ws.length 0] 99)] 132 [(34,.cells (ah ws) 112),(73,.cells [.slice (some ⟨34,0,none⟩) ws.length 0] 99),(74,.cells (aa os) 64)] (.call 134 [.slice none 0 0,.slice (some ⟨73,0,none⟩) 1 0]) (.val (.slice (some ⟨74,0,none⟩) os.length 0)):=by
 refine fp (l:= [34,73]) (c:=74) h rfl (fun n hn=>by simp at hn;omega) (by decide) (fun i zz e=> ?_) (fun r r2 us hb hr=> ?_) (fun n zz e=> ?_) (fun r r2 u hb hr=> ?_)
 · change Heap.get [(0,.cells (ah ws) 112),(1,.cells [.slice (some ⟨0,0,none⟩) ws.length 0] 99)] i=some zz at e
   rw [aQ] at e
   split at e
   · rename_i q;subst q;cases e
     exact⟨34,_,rfl,rfl,.cells bm⟩
   rw [aQ] at e
   split at e
   · rename_i q;subst q;cases e
     exact⟨73,_,rfl,rfl,.cells (aj.refl _)⟩
   simp [Heap.get] at e
 · have:=cV (b9 (r:=r) (r2:=r2) hb 9) hr
   exact this
 · change Heap.get [(34,.cells (ah ws) 112),(73,.cells [.slice (some ⟨34,0,none⟩) ws.length 0] 99),(74,.cells (aa os) 64)] n=some zz at e
   rw [aQ] at e
   split at e
   · rename_i q;subst q;cases e
     exact .inl ⟨0,_,rfl,rfl,.cells bm⟩
   rw [aQ] at e
   split at e
   · rename_i q;subst q;cases e
     exact .inl ⟨1,_,rfl,rfl,.cells (aj.refl _)⟩
   rw [aQ] at e
   split at e
   · rename_i q;subst q;cases e
     exact .inl ⟨2,_,rfl,rfl,.cells aV⟩
   simp [Heap.get] at e
 · have:=b9 (r:=r) (r2:=r2) hb 9 _ _ hr
   exact this
theorem M0 {os:List Rt}{z1 z2:ByteArray}{y3:Bool}{x4:Int}{y5:Bool} (h:ab Tryz.prog 1 (db os) 30 ([]:Heap) (.call 91 [.slice (some ⟨0,0,none⟩) os.length 0,.agg ⟨[.string z1,.string z2,.bool y3]⟩,.int .i64 x4,.bool y5]) (.val (.slice none 0 0))):ab Tryz.prog 132 [(74,.cells (aa os) 64)] 161 [] (.call 91 [.slice (some ⟨74,0,none⟩) os.length 0,.agg ⟨[.string z1,.string z2,.bool y3]⟩,.int .i64 x4,.bool y5]) (.val (.slice none 0 0)):=by
 refine fp (l:= [74]) (c:=132) h rfl (fun n hn=>by simp at hn;omega) (by decide) (fun i zz e=> ?_) (fun r r2 us hb hr=> ?_) (fun n zz e=> ?_) (fun r r2 u hb hr=> ?_)
 · change Heap.get [(0,.cells (aa os) 64)] i=some zz at e
   rw [aQ] at e
   split at e
   · rename_i q;subst q;cases e
     exact⟨74,_,rfl,rfl,.cells aV⟩
   simp [Heap.get] at e
 · have:=cV (b9 (r:=r) (r2:=r2) hb 9) hr
   exact this
 · change Heap.get [] n=some zz at e
   simp [Heap.get] at e
 · have:=b9 (r:=r) (r2:=r2) hb 9 _ _ hr
   exact this
theorem LI {os os2:List Rt}{z1 z2:ByteArray}{y3:Bool}{x4:Int}{y5:Bool} (h:ab Tryz.prog 1 (db os) 30 [(1,.cells (aa os2) 64)] (.call 91 [.slice (some ⟨0,0,none⟩) os.length 0,.agg ⟨[.string z1,.string z2,.bool y3]⟩,.int .i64 x4,.bool y5]) (.val (.slice (some ⟨1,0,none⟩) os2.length 0))):ab Tryz.prog 132 [(74,.cells (aa os) 64)] 161 [(132,.cells (aa os2) 64)] (.call 91 [.slice (some ⟨74,0,none⟩) os.length 0,.agg ⟨[.string z1,.string z2,.bool y3]⟩,.int .i64 x4,.bool y5]) (.val (.slice (some ⟨132,0,none⟩) os2.length 0)):=by
 refine fp (l:= [74]) (c:=132) h rfl (fun n hn=>by simp at hn;omega) (by decide) (fun i zz e=> ?_) (fun r r2 us hb hr=> ?_) (fun n zz e=> ?_) (fun r r2 u hb hr=> ?_)
 · change Heap.get [(0,.cells (aa os) 64)] i=some zz at e
   rw [aQ] at e
   split at e
   · rename_i q;subst q;cases e
     exact⟨74,_,rfl,rfl,.cells aV⟩
   simp [Heap.get] at e
 · have:=cV (b9 (r:=r) (r2:=r2) hb 9) hr
   exact this
 · change Heap.get [(132,.cells (aa os2) 64)] n=some zz at e
   rw [aQ] at e
   split at e
   · rename_i q;subst q;cases e
     exact .inl ⟨1,_,rfl,rfl,.cells aV⟩
   simp [Heap.get] at e
 · have:=b9 (r:=r) (r2:=r2) hb 9 _ _ hr
   exact this
theorem R6 {s q:Nat}{c d e g now count holder:Int}{ins mks:List (Value×Value)}{k:Int}{y0:Bool}{z1 z2:ByteArray}{y3:Bool}{x4:Int}{y5:Bool}{i0:Nat}{v0:Int}{nb:Nat}{ws:List Wt}{L:List aG}{j b kk:Nat}
  (h0:(decide (k≥0))=true) (h1:(!decide (k < c))=false) (e0:dv IntKind.i64 k ins 0=some (some (i0,Value.int IntKind.i64 v0)))
  (hz:z1.data.toList.length.ble 4294967295=true) (hs:fa ws) (hl:ws.length < 1000)
  (hk:L[j]? =some (aL b nb ws (fun nk ns Wr=>kQ k nk ns Wr y0 z1 z2 y3 x4 y5))):
  (ab Tryz.prog 30 ((aD s q c d e g now count holder ins mks)++ [(29,.sem (ad L))]) 400 ((aD s q c d e g now (IntKind.i64.wrap (count+1)) holder (ins.eraseIdx i0) mks)++ [(29,.sem (ad (L.set j (aL b nb ws (fun nk ns Wr=>bd k nk ns Wr y0 (.string { data:= #[]}) (.bool false) (.slice none 0 0) (.int .i64 0) .nilIface [])))))]) (.call 15 (.pointer (some ⟨b,0,some kk⟩):: [dc])) (.val (.bool true)))∨
  ∃os2:List Rt,os2.length≤ws.length+2∧ab Tryz.prog 30 ((aD s q c d e g now count holder ins mks)++ [(29,.sem (ad L))]) 400 ((aD s q c d e g now (IntKind.i64.wrap (count+1)) holder (ins.eraseIdx i0) mks)++ [(29,.sem (ad (L.set j (aL b nb ws (fun nk ns Wr=>bd k nk ns Wr y0 (.string { data:= #[]}) (.bool false) (.slice (some ⟨5,0,none⟩) os2.length 0) (.int .i64 0) .nilIface [(5,.cells (aa os2) 64)])))))]) (.call 15 (.pointer (some ⟨b,0,some kk⟩):: [dc])) (.val (.bool true)):=by
 have hop:∀w T,(aL b nb ws (fun nk ns Wr=>kQ k nk ns Wr y0 z1 z2 y3 x4 y5)).holds w T→(rM b nb ws (fun nk ns wv m4=>l7 k nk ns wv m4 y0 z1 z2 y3 x4 y5)).holds w T:=Dk (fun nk ns=>PY) (fun nk ns Wr m=>Q3 nk ns Wr m)
 have hnn:ab Tryz.prog 73 [] 73 [] (.call 134 [.slice none 0 0,.slice none 0 0]) (.val (.slice none 0 0)):=xF JC
 cases ws with
 |nil=>exact .inl (gh (S:=(aD s q c d e g now count holder ins mks)) (S1:=(aD s q c d e g now (IntKind.i64.wrap (count+1)) holder (ins.eraseIdx i0) mks)) (X:=fun nk ns wv m4=>l7 k nk ns wv m4 y0 z1 z2 y3 x4 y5) (X':=fun nk ns wv m4=>gu k nk ns wv y0 (.string { data:= #[]}) (.bool false) (.slice none 0 0) (.int .i64 0) .nilIface++([]++m4)) (nk':=id) (ns':=id) hk hop (jO (fun nk ns=>ll rfl rfl) (fun nk ns Wr m=>oo rfl nk ns Wr m)) rfl rfl rfl (fun _ _=>rfl) (fun _ _=>⟨_,_,rfl⟩) (by decide) (fun _ h=>h) (fun _ h=>h)
   (fun nk ns _ _=>Od (ws:= []) (os:= []) (os2:= []) h0 h1 e0))
 |cons x t=>
  rcases LP (ws:=x::t) hs (by omega) with ho|⟨os,_,hlen,hrs,ho⟩
  · exact .inl (gh (S:=(aD s q c d e g now count holder ins mks)) (S1:=(aD s q c d e g now (IntKind.i64.wrap (count+1)) holder (ins.eraseIdx i0) mks)) (X:=fun nk ns wv m4=>l7 k nk ns wv m4 y0 z1 z2 y3 x4 y5) (X':=fun nk ns wv m4=>gu k nk ns wv y0 (.string { data:= #[]}) (.bool false) (.slice none 0 0) (.int .i64 0) .nilIface++([]++m4)) (nk':=id) (ns':=id) hk hop (jO (fun nk ns=>ll rfl rfl) (fun nk ns Wr m=>oo rfl nk ns Wr m)) rfl rfl rfl (fun _ _=>rfl) (fun _ _=>⟨_,_,rfl⟩) (by decide) (fun _ h=>h) (fun _ h=>h)
      (fun nk ns _ _=>by
       rw [show aB 30 30 (fM (fun nk ns wv m4=>l7 k nk ns wv m4 y0 z1 z2 y3 x4 y5) nk ns (x::t))=_ from gM (l7 k nk ns (.slice (some ⟨4,0,none⟩) (x::t).length 0) [] y0 z1 z2 y3 x4 y5) (x::t)]
       exact Oy (os:= []) (os2:= []) h0 h1 e0 hnn (Ln ho)))
  · rcases Ns (rs:=os) (low:=z1) (high:=z2) (unb:=y3) (rev:=y5) (limit:=x4) hrs hz (by omega) with hq|⟨os2,_,hlen2,_,hq⟩
    · exact .inl (gh (S:=(aD s q c d e g now count holder ins mks)) (S1:=(aD s q c d e g now (IntKind.i64.wrap (count+1)) holder (ins.eraseIdx i0) mks)) (X:=fun nk ns wv m4=>l7 k nk ns wv m4 y0 z1 z2 y3 x4 y5) (X':=fun nk ns wv m4=>gu k nk ns wv y0 (.string { data:= #[]}) (.bool false) (.slice none 0 0) (.int .i64 0) .nilIface++([]++m4)) (nk':=id) (ns':=id) hk hop (jO (fun nk ns=>ll rfl rfl) (fun nk ns Wr m=>oo rfl nk ns Wr m)) rfl rfl rfl (fun _ _=>rfl) (fun _ _=>⟨_,_,rfl⟩) (by decide) (fun _ h=>h) (fun _ h=>h)
       (fun nk ns _ _=>by
        rw [show aB 30 30 (fM (fun nk ns wv m4=>l7 k nk ns wv m4 y0 z1 z2 y3 x4 y5) nk ns (x::t))=_ from gM (l7 k nk ns (.slice (some ⟨4,0,none⟩) (x::t).length 0) [] y0 z1 z2 y3 x4 y5) (x::t)]
        exact Om (os2:= []) h0 h1 e0 hnn (C4 ho) (M0 hq)))
    · exact .inr ⟨os2,by omega,gh (S:=(aD s q c d e g now count holder ins mks)) (S1:=(aD s q c d e g now (IntKind.i64.wrap (count+1)) holder (ins.eraseIdx i0) mks)) (X:=fun nk ns wv m4=>l7 k nk ns wv m4 y0 z1 z2 y3 x4 y5) (X':=fun nk ns wv m4=>gu k nk ns wv y0 (.string { data:= #[]}) (.bool false) (.slice (some ⟨5,0,none⟩) os2.length 0) (.int .i64 0) .nilIface++([(5,.cells (aa os2) 64)]++m4)) (nk':=id) (ns':=id) hk hop (jO (fun nk ns=>ll rfl sW) (fun nk ns Wr m=>oo sW nk ns Wr m)) rfl rfl rfl (fun _ _=>rfl) (fun _ _=>⟨_,_,rfl⟩) (by decide) (fun _ h=>h) (fun _ h=>h)
       (fun nk ns _ _=>by
        rw [show aB 30 30 (fM (fun nk ns wv m4=>l7 k nk ns wv m4 y0 z1 z2 y3 x4 y5) nk ns (x::t))=_ from gM (l7 k nk ns (.slice (some ⟨4,0,none⟩) (x::t).length 0) [] y0 z1 z2 y3 x4 y5) (x::t)]
        exact P0 h0 h1 e0 hnn (C4 ho) (LI hq))⟩
section
open Go.Sx
abbrev yN (k:Int):Heap:= [(5,.cells [.string ({ data:= #[(116:UInt8),(114:UInt8),(101:UInt8),(101:UInt8)]}),iI (k),.iface 201 (pT 6)] 203),(6,.cells [.string ({ data:= #[(99:UInt8),(108:UInt8),(111:UInt8),(99:UInt8),(107:UInt8)]}),iI 0,.iface 72 (iI 5)] 203)]
abbrev Ob (k:Int):Heap:= [(35,.cells [.string ({ data:= #[(116:UInt8),(114:UInt8),(101:UInt8),(101:UInt8)]}),iI (k),.iface 201 (pT 36)] 203),(36,.cells [.string ({ data:= #[(99:UInt8),(108:UInt8),(111:UInt8),(99:UInt8),(107:UInt8)]}),iI 0,.iface 72 (iI 5)] 203)]
abbrev CQ:Value:= .tuple ⟨[.agg ⟨[.string ({ data:= #[]}),.bool false,sN,iI 0,.nilIface,]⟩,.nilIface,]⟩
abbrev uq:List (Nat×Bool):= [(30,false),(31,false),(32,false),(33,false),(34,false)]
abbrev xd (k:Int) (y:Bool):Heap:=DR k y (.string ⟨#[]⟩) (.bool false) sN (iI 0) .nilIface []
abbrev nX (os:List Rt):Heap:= [(5,.cells (aa os) 64)]
abbrev FD (k:Int) (y:Bool) (nk ns:Nat) (Wr:aG):Heap:=bd k nk ns Wr y (.string ⟨#[]⟩) (.bool false) sN (iI 0) (.iface 201 (pT 5)) (yN k)
abbrev F6 (k:Int) (y:Bool) (nk ns:Nat) (Wr:aG):Heap:=bd k nk ns Wr y (.string ⟨#[]⟩) (.bool false) sN (iI 0) .nilIface []
abbrev FJ (k:Int) (y:Bool) (j b nb:Nat) (L:List aG) (ws:List Wt):Heap:= [(29,.sem (ad (L.set j (aL b nb ws (fun nk ns Wr=>bd k nk ns Wr y cN cN cN cN cN [])))))]
abbrev TE:Value:= .tuple ⟨[.agg ⟨[.string ({ data:= #[]}),.bool false,sN,iI 0,.iface 201 (pT 35),]⟩,.nilIface,]⟩
abbrev Ke (k:Int) (y:Bool) (b nb:Nat) (ws:List Wt):aG:=aL b nb ws (fun nk ns Wr=>bd k nk ns Wr y (.string ⟨#[]⟩) (.bool false) sN (iI 0) (.iface 201 (pT 5)) (yN k))
abbrev mC:=fun(b kk:Nat) (L:List aG) h0 h1 h2 h3=>ab Tryz.prog 30 (([]:Heap)++ [(29,.sem (ad L))]) 400 ((h0:Heap)++h1) (.call h2 (pK b kk:: [])) (.val h3)
abbrev mJ:=fun h0 h1 h2 h3 h4 h5=>cg Tryz.prog 30 30 29 400 h0 [] h1 h2 [pT 30] h3 h4 h5
section
set_option maxRecDepth 100000
set_option linter.unusedSectionVars false
variable {nm:Nat→Option Nat}{k:Int}{y th:Bool}{nk ns j b kk nb:Nat}{Wr:aG}{v:ByteArray}{os:List Rt}{L:List aG}{ws:List Wt}
variable (k0:(os.length.beq 0)=true)(k1:(os.length.beq 0)=false)(k2:(bz os.length 32)=true)(k3:List.take (os.length*2) (List.drop 0 (aa os))=aa os∧(aa os).length=os.length*2)(k4:(aa os).all ed)(k5:L[j]? =some (bu b (xd k y)))(k6:L[j]? =some (aL b nb ws (fun nk ns Wr=>bd k nk ns Wr y (.string ⟨#[]⟩) (.bool false) sN (iI 0) .nilIface [])))(k7:L[j]? =some (aL b nb ws (fun nk ns Wr=>bd k nk ns Wr y (.string v) (.bool th) sN (iI 0) .nilIface [])))(k8:L[j]? =some (Ke k y b nb ws))(k9:L[j]? =some (aL b nb ws (fun nk ns Wr=>bd k nk ns Wr y (.string ⟨#[]⟩) (.bool false) (sL 5 os.length) (iI 0) .nilIface (nX os))))
theorem uT:∀os:List Rt,(aa os).map (ao nm 9)=aa os
 | []=>rfl
 |w::os=>by simp only [aa,List.map_cons,uT os];rfl
theorem mY (A:Heap) (os:List Rt):aB 30 30 (A++ [(5,.cells (aa os) 64)])=aB 30 30 A++ [(35,.cells (aa os) 64)]:=by
 unfold aB
 rw [List.map_append]
 simp only [List.map_cons,List.map_nil,Chunk.bC,uT]
theorem JV:mJ [31] (aB 30 30 (xd k y)) 40 (.bool false) [] (xd k y):=
 ak mixed aA _ [(30,false),(31,false)] (C:=eM) (d:= []) (nn:=600) (c2:=60) (fun _=>by kernel_rfl) rfl rfl rfl vN vN rfl
theorem JB:mJ [31] (aB 30 30 (xd k y)) 19 (.bool false) [] (xd k y):=
 ak mixed aA _ [(30,false),(31,false)] (C:=eM) (d:= []) (nn:=600) (c2:=60) (fun _=>by kernel_rfl) rfl rfl rfl vN vN rfl
theorem HI:mJ [31] (aB 30 30 (xd k y)) 18 CQ [] (jP k y cN):=
 ak mixed aA _ [(30,false),(31,false)] (C:=eM) (d:= []) (nn:=600) (c2:=63) (fun _=>by kernel_rfl) rfl rfl rfl vN vN rfl
theorem JJ:mJ [31,32,33,34] (aB 30 30 (F6 k y nk ns Wr)) 40 (.bool false) [] (F6 k y nk ns Wr):=
 ak mixed aA _ uq (C:=eM) (d:= []) (nn:=600) (c2:=60) (fun _=>by kernel_rfl) rfl rfl rfl vN vN rfl
theorem Jz:mJ [31,32,33,34] (aB 30 30 (F6 k y nk ns Wr)) 19 (.bool true) [] (F6 k y nk ns Wr):=
 ak mixed aA _ uq (C:=eM) (d:= []) (nn:=600) (c2:=60) (fun _=>by kernel_rfl) rfl rfl rfl vN vN rfl
theorem I0:mJ [31,32,33,34] (aB 30 30 (F6 k y nk ns Wr)) 18 CQ [] (bd k nk ns Wr y cN cN cN cN cN []):=
 ak mixed aA _ uq (C:=eM) (d:= []) (nn:=600) (c2:=63) (fun _=>by kernel_rfl) rfl rfl rfl vN vN rfl
theorem JI:mJ [31,32,33,34] (aB 30 30 (bd k nk ns Wr y (.string v) (.bool th) sN (iI 0) .nilIface [])) 40 (.bool false) [] (bd k nk ns Wr y (.string v) (.bool th) sN (iI 0) .nilIface []):=
 ak mixed aA _ uq (C:=eM) (d:= []) (nn:=600) (c2:=60) (fun _=>by kernel_rfl) rfl rfl rfl vN vN rfl
theorem I7:mJ [31,32,33,34] (aB 30 30 (bd k nk ns Wr y (.string v) (.bool th) sN (iI 0) .nilIface [])) 19 (.bool true) [] (bd k nk ns Wr y (.string v) (.bool th) sN (iI 0) .nilIface []):=
 ak mixed aA _ uq (C:=eM) (d:= []) (nn:=600) (c2:=60) (fun _=>by kernel_rfl) rfl rfl rfl vN vN rfl
theorem HH:mJ [31,32,33,34] (aB 30 30 (bd k nk ns Wr y (.string v) (.bool th) sN (iI 0) .nilIface [])) 18 (.tuple ⟨[.agg ⟨[.string (v),.bool (th),sN,iI 0,.nilIface,]⟩,.nilIface,]⟩) [] (bd k nk ns Wr y cN cN cN cN cN []):=
 ak mixed aA _ uq (C:=eM) (d:= []) (nn:=600) (c2:=63) (fun _=>by kernel_rfl) rfl rfl rfl vN vN rfl
theorem J2:mJ [31,32,33,34,35,36] (aB 30 30 (FD k y nk ns Wr)) 40 (.bool false) [] (FD k y nk ns Wr):=
 ak mixed aA _ [(30,false),(31,false),(32,false),(33,false),(34,false),(35,false),(36,false)] (C:=eM) (d:= []) (nn:=600) (c2:=60) (fun _=>by kernel_rfl) rfl rfl rfl vN vN rfl
theorem Hi:mJ [31,32,33,34,35,36] (aB 30 30 (FD k y nk ns Wr)) 19 (.bool true) [] (FD k y nk ns Wr):=
 ak mixed aA _ [(30,false),(31,false),(32,false),(33,false),(34,false),(35,false),(36,false)] (C:=eM) (d:= []) (nn:=600) (c2:=60) (fun _=>by kernel_rfl) rfl rfl rfl vN vN rfl
theorem I5:mJ [31,32,33,34] (aB 30 30 (FD k y nk ns Wr)) 18 TE (Ob k) (bd k nk ns Wr y cN cN cN cN cN []):=
 ak mixed aA _ uq (C:=eM) (d:= []) (nn:=600) (c2:=63) (fun _=>by kernel_rfl) rfl rfl rfl vN vN rfl
theorem JZ:mJ [31,32,33,34,35] (aB 30 30 (bd k nk ns Wr y (.string ⟨#[]⟩) (.bool false) (sL 5 os.length) (iI 0) .nilIface [])++ [(35,.cells (aa os) 64)]) 40 (.bool false) [] (bd k nk ns Wr y (.string ⟨#[]⟩) (.bool false) (sL 5 os.length) (iI 0) .nilIface (nX os)):=
 ak mixed aA _ [(30,false),(31,false),(32,false),(33,false),(34,false),(35,true)] (C:=eM) (d:= []) (nn:=600) (c2:=60) (fun _=>by kernel_rfl) rfl rfl rfl (vP (show aj (aa os) ((aa os).map (ao (back [30,31,32,33,34,35]) 9)) from aV) vN) vN rfl
theorem JN:mJ [31,32,33,34,35] (aB 30 30 (bd k nk ns Wr y (.string ⟨#[]⟩) (.bool false) (sL 5 os.length) (iI 0) .nilIface [])++ [(35,.cells (aa os) 64)]) 19 (.bool true) [] (bd k nk ns Wr y (.string ⟨#[]⟩) (.bool false) (sL 5 os.length) (iI 0) .nilIface (nX os)):=
 ak mixed aA _ [(30,false),(31,false),(32,false),(33,false),(34,false),(35,true)] (C:=eM) (d:= []) (nn:=600) (c2:=60) (fun _=>by kernel_rfl) rfl rfl rfl (vP (show aj (aa os) ((aa os).map (ao (back [30,31,32,33,34,35]) 9)) from aV) vN) vN rfl
include k0 in
theorem Hb:mJ [31,32,33,34] (aB 30 30 (bd k nk ns Wr y (.string ⟨#[]⟩) (.bool false) (sL 5 os.length) (iI 0) .nilIface [])++ [(35,.cells (aa os) 64)]) 18 CQ [] (bd k nk ns Wr y cN cN cN cN cN []):=
 ak mixed aA _ uq (C:=eM) (d:=aT [18] []) (nn:=600) (c2:=63) (Lg:= []) (fun _=>by kernel_rfl) rfl rfl rfl (af) (vB k0 vN) rfl
include k1 k2 k3 k4 in
theorem Gy:mJ [31,32,33,34] (aB 30 30 (bd k nk ns Wr y (.string ⟨#[]⟩) (.bool false) (sL 5 os.length) (iI 0) .nilIface [])++ [(35,.cells (aa os) 64)]) 18 (.tuple ⟨[.agg ⟨[.string ({data:= #[]}),.bool false,sL 63 (os.length),iI 0,.nilIface,]⟩,.nilIface,]⟩) [(63,.cells (aa os) 64)] (bd k nk ns Wr y cN cN cN cN cN []):=
 ak mixed aA _ uq (C:=eM) (d:=aT [21] (aF [18] [(19,.cell (.tuple ⟨aa os⟩)),(20,.cell .nilFunc)])) (nn:=600) (c2:=64) (Lg:= []) (fun _=>by kernel_rfl) rfl rfl rfl (af) (vC k2 (vC k4 (vP k3 (vB k1 vN)))) rfl
include k5 in
theorem Al:mC b kk L [] [(29,.sem (ad (L.set j (bu b (xd k y)))))] 40 (.bool false):=
 bM (S:= []) (S1:= []) k5 rfl rfl rfl rfl ⟨_,_,rfl⟩ (by decide) JV
include k5 in
theorem AM:mC b kk L [] [(29,.sem (ad (L.set j (bu b (xd k y)))))] 19 (.bool false):=
 bM (S:= []) (S1:= []) k5 rfl rfl rfl rfl ⟨_,_,rfl⟩ (by decide) JB
include k5 in
theorem Cc:mC b kk L [] [(29,.sem (ad (L.set j (bu b (jP k y cN)))))] 18 CQ:=
 bM (S:= []) (S1:= []) k5 rfl rfl rfl rfl ⟨_,_,rfl⟩ (by decide) HI
include k6 in
theorem Bz:mC b kk L [] [(29,.sem (ad (L.set j (aL b nb ws (fun nk ns Wr=>bd k nk ns Wr y (.string ⟨#[]⟩) (.bool false) sN (iI 0) .nilIface [])))))] 40 (.bool false):=
 aK (S:= []) (S1:= []) (X:=fun nk ns Wr=>bd k nk ns Wr y (.string ⟨#[]⟩) (.bool false) sN (iI 0) .nilIface []) (X':=fun nk ns Wr=>bd k nk ns Wr y (.string ⟨#[]⟩) (.bool false) sN (iI 0) .nilIface []) (nk':=id) (ns':=id) k6 rfl rfl rfl (fun _ _ _=>rfl) (fun _ _ _=>⟨_,_,rfl⟩) (by decide) rfl (fun _ h=>h) (fun _ h=>h) (fun nk ns Wr _ _=>JJ)
include k6 in
theorem Bx:mC b kk L [] [(29,.sem (ad (L.set j (aL b nb ws (fun nk ns Wr=>bd k nk ns Wr y (.string ⟨#[]⟩) (.bool false) sN (iI 0) .nilIface [])))))] 19 (.bool true):=
 aK (S:= []) (S1:= []) (X:=fun nk ns Wr=>bd k nk ns Wr y (.string ⟨#[]⟩) (.bool false) sN (iI 0) .nilIface []) (X':=fun nk ns Wr=>bd k nk ns Wr y (.string ⟨#[]⟩) (.bool false) sN (iI 0) .nilIface []) (nk':=id) (ns':=id) k6 rfl rfl rfl (fun _ _ _=>rfl) (fun _ _ _=>⟨_,_,rfl⟩) (by decide) rfl (fun _ h=>h) (fun _ h=>h) (fun nk ns Wr _ _=>Jz)
include k6 in
theorem Bk:mC b kk L [] (FJ k y j b nb L ws) 18 CQ:=
 aK (S:= []) (S1:= []) (X:=fun nk ns Wr=>bd k nk ns Wr y (.string ⟨#[]⟩) (.bool false) sN (iI 0) .nilIface []) (X':=fun nk ns Wr=>bd k nk ns Wr y cN cN cN cN cN []) (nk':=id) (ns':=id) k6 rfl rfl rfl (fun _ _ _=>rfl) (fun _ _ _=>⟨_,_,rfl⟩) (by decide) rfl (fun _ h=>h) (fun _ h=>h) (fun nk ns Wr _ _=>I0)
include k7 in
theorem Cf:mC b kk L [] [(29,.sem (ad (L.set j (aL b nb ws (fun nk ns Wr=>bd k nk ns Wr y (.string v) (.bool th) sN (iI 0) .nilIface [])))))] 40 (.bool false):=
 aK (S:= []) (S1:= []) (X:=fun nk ns Wr=>bd k nk ns Wr y (.string v) (.bool th) sN (iI 0) .nilIface []) (X':=fun nk ns Wr=>bd k nk ns Wr y (.string v) (.bool th) sN (iI 0) .nilIface []) (nk':=id) (ns':=id) k7 rfl rfl rfl (fun _ _ _=>rfl) (fun _ _ _=>⟨_,_,rfl⟩) (by decide) rfl (fun _ h=>h) (fun _ h=>h) (fun nk ns Wr _ _=>JI)
include k7 in
theorem Ap:mC b kk L [] [(29,.sem (ad (L.set j (aL b nb ws (fun nk ns Wr=>bd k nk ns Wr y (.string v) (.bool th) sN (iI 0) .nilIface [])))))] 19 (.bool true):=
 aK (S:= []) (S1:= []) (X:=fun nk ns Wr=>bd k nk ns Wr y (.string v) (.bool th) sN (iI 0) .nilIface []) (X':=fun nk ns Wr=>bd k nk ns Wr y (.string v) (.bool th) sN (iI 0) .nilIface []) (nk':=id) (ns':=id) k7 rfl rfl rfl (fun _ _ _=>rfl) (fun _ _ _=>⟨_,_,rfl⟩) (by decide) rfl (fun _ h=>h) (fun _ h=>h) (fun nk ns Wr _ _=>I7)
include k7 in
theorem Ax:mC b kk L [] (FJ k y j b nb L ws) 18 (.tuple ⟨[.agg ⟨[.string (v),.bool (th),sN,iI 0,.nilIface,]⟩,.nilIface,]⟩):=
 aK (S:= []) (S1:= []) (X:=fun nk ns Wr=>bd k nk ns Wr y (.string v) (.bool th) sN (iI 0) .nilIface []) (X':=fun nk ns Wr=>bd k nk ns Wr y cN cN cN cN cN []) (nk':=id) (ns':=id) k7 rfl rfl rfl (fun _ _ _=>rfl) (fun _ _ _=>⟨_,_,rfl⟩) (by decide) rfl (fun _ h=>h) (fun _ h=>h) (fun nk ns Wr _ _=>HH)
include k8 in
theorem Bp:mC b kk L [] [(29,.sem (ad (L.set j (Ke k y b nb ws))))] 40 (.bool false):=
 aK (S:= []) (S1:= []) (X:=fun nk ns Wr=>bd k nk ns Wr y (.string ⟨#[]⟩) (.bool false) sN (iI 0) (.iface 201 (pT 5)) (yN k)) (X':=fun nk ns Wr=>bd k nk ns Wr y (.string ⟨#[]⟩) (.bool false) sN (iI 0) (.iface 201 (pT 5)) (yN k)) (nk':=id) (ns':=id) k8 rfl rfl rfl (fun _ _ _=>rfl) (fun _ _ _=>⟨_,_,rfl⟩) (by decide) rfl (fun _ h=>h) (fun _ h=>h) (fun nk ns Wr _ _=>J2)
include k8 in
theorem AO:mC b kk L [] [(29,.sem (ad (L.set j (Ke k y b nb ws))))] 19 (.bool true):=
 aK (S:= []) (S1:= []) (X:=fun nk ns Wr=>bd k nk ns Wr y (.string ⟨#[]⟩) (.bool false) sN (iI 0) (.iface 201 (pT 5)) (yN k)) (X':=fun nk ns Wr=>bd k nk ns Wr y (.string ⟨#[]⟩) (.bool false) sN (iI 0) (.iface 201 (pT 5)) (yN k)) (nk':=id) (ns':=id) k8 rfl rfl rfl (fun _ _ _=>rfl) (fun _ _ _=>⟨_,_,rfl⟩) (by decide) rfl (fun _ h=>h) (fun _ h=>h) (fun nk ns Wr _ _=>Hi)
include k8 in
theorem A9:mC b kk L (Ob k) (FJ k y j b nb L ws) 18 TE:=
 aK (S:= []) (S1:=(Ob k)) (X:=fun nk ns Wr=>bd k nk ns Wr y (.string ⟨#[]⟩) (.bool false) sN (iI 0) (.iface 201 (pT 5)) (yN k)) (X':=fun nk ns Wr=>bd k nk ns Wr y cN cN cN cN cN []) (nk':=id) (ns':=id) k8 rfl rfl rfl (fun _ _ _=>rfl) (fun _ _ _=>⟨_,_,rfl⟩) (by decide) rfl (fun _ h=>h) (fun _ h=>h) (fun nk ns Wr _ _=>I5)
include k9 in
theorem A1:mC b kk L [] [(29,.sem (ad (L.set j (aL b nb ws (fun nk ns Wr=>bd k nk ns Wr y (.string ⟨#[]⟩) (.bool false) (sL 5 os.length) (iI 0) .nilIface (nX os))))))] 40 (.bool false):=
 aK (S:= []) (S1:= []) (X:=fun nk ns Wr=>bd k nk ns Wr y (.string ⟨#[]⟩) (.bool false) (sL 5 os.length) (iI 0) .nilIface (nX os)) (X':=fun nk ns Wr=>bd k nk ns Wr y (.string ⟨#[]⟩) (.bool false) (sL 5 os.length) (iI 0) .nilIface (nX os)) (nk':=id) (ns':=id) k9 rfl rfl rfl (fun _ _ _=>rfl) (fun _ _ _=>⟨_,_,rfl⟩) (by decide) rfl (fun _ h=>h) (fun _ h=>h) (fun nk ns Wr _ _=>by rw [show aB 30 30 (bd k nk ns Wr y (.string ⟨#[]⟩) (.bool false) (sL 5 os.length) (iI 0) .nilIface (nX os))=_ from mY (bd k nk ns Wr y (.string ⟨#[]⟩) (.bool false) (sL 5 os.length) (iI 0) .nilIface []) os];exact JZ)
include k9 in
theorem Bd:mC b kk L [] [(29,.sem (ad (L.set j (aL b nb ws (fun nk ns Wr=>bd k nk ns Wr y (.string ⟨#[]⟩) (.bool false) (sL 5 os.length) (iI 0) .nilIface (nX os))))))] 19 (.bool true):=
 aK (S:= []) (S1:= []) (X:=fun nk ns Wr=>bd k nk ns Wr y (.string ⟨#[]⟩) (.bool false) (sL 5 os.length) (iI 0) .nilIface (nX os)) (X':=fun nk ns Wr=>bd k nk ns Wr y (.string ⟨#[]⟩) (.bool false) (sL 5 os.length) (iI 0) .nilIface (nX os)) (nk':=id) (ns':=id) k9 rfl rfl rfl (fun _ _ _=>rfl) (fun _ _ _=>⟨_,_,rfl⟩) (by decide) rfl (fun _ h=>h) (fun _ h=>h) (fun nk ns Wr _ _=>by rw [show aB 30 30 (bd k nk ns Wr y (.string ⟨#[]⟩) (.bool false) (sL 5 os.length) (iI 0) .nilIface (nX os))=_ from mY (bd k nk ns Wr y (.string ⟨#[]⟩) (.bool false) (sL 5 os.length) (iI 0) .nilIface []) os];exact JN)
include k0 k9 in
theorem yq:mC b kk L [] (FJ k y j b nb L ws) 18 CQ:=
 aK (S:= []) (S1:= []) (X:=fun nk ns Wr=>bd k nk ns Wr y (.string ⟨#[]⟩) (.bool false) (sL 5 os.length) (iI 0) .nilIface (nX os)) (X':=fun nk ns Wr=>bd k nk ns Wr y cN cN cN cN cN []) (nk':=id) (ns':=id) k9 rfl rfl rfl (fun _ _ _=>rfl) (fun _ _ _=>⟨_,_,rfl⟩) (by decide) rfl (fun _ h=>h) (fun _ h=>h) (fun nk ns Wr _ _=>by rw [show aB 30 30 (bd k nk ns Wr y (.string ⟨#[]⟩) (.bool false) (sL 5 os.length) (iI 0) .nilIface (nX os))=_ from mY (bd k nk ns Wr y (.string ⟨#[]⟩) (.bool false) (sL 5 os.length) (iI 0) .nilIface []) os];exact Hb k0)
include k1 k2 k3 k4 k9 in
theorem yT:mC b kk L [(63,.cells (aa os) 64)] (FJ k y j b nb L ws) 18 (.tuple ⟨[.agg ⟨[.string ({data:= #[]}),.bool false,sL 63 (os.length),iI 0,.nilIface,]⟩,.nilIface,]⟩):=
 aK (S:= []) (S1:= [(63,.cells (aa os) 64)]) (X:=fun nk ns Wr=>bd k nk ns Wr y (.string ⟨#[]⟩) (.bool false) (sL 5 os.length) (iI 0) .nilIface (nX os)) (X':=fun nk ns Wr=>bd k nk ns Wr y cN cN cN cN cN []) (nk':=id) (ns':=id) k9 rfl rfl rfl (fun _ _ _=>rfl) (fun _ _ _=>⟨_,_,rfl⟩) (by decide) rfl (fun _ h=>h) (fun _ h=>h) (fun nk ns Wr _ _=>by rw [show aB 30 30 (bd k nk ns Wr y (.string ⟨#[]⟩) (.bool false) (sL 5 os.length) (iI 0) .nilIface (nX os))=_ from mY (bd k nk ns Wr y (.string ⟨#[]⟩) (.bool false) (sL 5 os.length) (iI 0) .nilIface []) os];exact Gy k1 k2 k3 k4)
end
end
section
open Go Go.Sx
abbrev uk:List Nat:= [17,14,107,16,108,109,110,111]
abbrev TC (kd lim:Int) (rd unb rev:Bool) (key val low high:ByteArray) (b kk:Nat):List Value:= [pK b kk,.agg ⟨[iI kd,.bool rd,.string key,.string val,.string low,.string high,.bool unb,iI lim,.bool rev]⟩]
noncomputable abbrev wD:aP:=aE Tryz.prog Ip uk
abbrev zA:=fun(kd lim:Int) (rd unb rev:Bool) (key val low high:ByteArray) (b kk:Nat) (Y Y2:aG) (ev:Value)  =>ab Tryz.prog 30 [(29,.sem Y)] 31 [(29,.sem Y2)] (.call 81 (TC kd lim rd unb rev key val low high b kk)) (.val ev)
section
set_option maxRecDepth 100000
set_option linter.unusedSectionVars false
variable {kd lim:Int}{rd unb rev:Bool}{key val low high:ByteArray}{b kk:Nat}{Y Y2:aG}{ev:Value}
variable (k0:(kd==1)=true)(k1:ab Tryz.prog 31 [(29,.sem Y)] 31 [(29,.sem Y2)] (.call 14 (pK b kk:: [.bool rd])) (.val ev))(k2:(kd==1)=false)(k3:(kd==2)=true)(k4:ab Tryz.prog 31 [(29,.sem Y)] 31 [(29,.sem Y2)] (.call 107 (pK b kk:: [.string key])) (.val ev))(k5:(kd==2)=false)(k6:(kd==3)=true)(k7:ab Tryz.prog 31 [(29,.sem Y)] 31 [(29,.sem Y2)] (.call 16 (pK b kk:: [.agg ⟨[.string key,.string val]⟩])) (.val ev))(k8:(kd==3)=false)(k9:(kd==4)=true)(k10:ab Tryz.prog 31 [(29,.sem Y)] 31 [(29,.sem Y2)] (.call 108 (pK b kk:: [.string key])) (.val ev))(k11:(kd==4)=false)(k12:(kd==5)=true)(k13:ab Tryz.prog 31 [(29,.sem Y)] 31 [(29,.sem Y2)] (.call 109 (pK b kk:: [.agg ⟨[.string low,.string high,.bool unb]⟩,iI lim,.bool rev])) (.val ev))(k14:(kd==5)=false)(k15:(kd==6)=false)(k16:(kd==7)=true)(k17:ab Tryz.prog 31 [(29,.sem Y)] 31 [(29,.sem Y2)] (.call 110 (pK b kk:: [])) (.val ev))(k18:(kd==7)=false)(k19:(kd==8)=true)(k20:ab Tryz.prog 31 [(29,.sem Y)] 31 [(29,.sem Y2)] (.call 111 (pK b kk:: [])) (.val ev))(k21:(kd==8)=false)
include k0 k1 in
theorem KQ:zA kd lim rd unb rev key val low high b kk Y Y2 ev:=
 bh mixed (aR.aE uk) (C:=wD) (d:=aT [1] [(3,.loop [] [29] 31 [(29,.sem Y2)] .normal [ev])]) (nn:=600) (by kernel_rfl) (vP k1 (vB k0 vN))
include k2 k3 k4 in
theorem vf:zA kd lim rd unb rev key val low high b kk Y Y2 ev:=
 bh mixed (aR.aE uk) (C:=wD) (d:=aT [2] (aF [1] [(4,.loop [] [29] 31 [(29,.sem Y2)] .normal [ev])])) (nn:=600) (by kernel_rfl) (vP k4 (vB k3 (vB k2 vN)))
include k2 k5 k6 k7 in
theorem sC:zA kd lim rd unb rev key val low high b kk Y Y2 ev:=
 bh mixed (aR.aE uk) (C:=wD) (d:=aT [3] (aF [1,2] [(6,.loop [] [29] 31 [(29,.sem Y2)] .normal [ev])])) (nn:=600) (by kernel_rfl) (vP k7 (vB k6 (vB k5 (vB k2 vN))))
include k2 k5 k8 k9 k10 in
theorem uU:zA kd lim rd unb rev key val low high b kk Y Y2 ev:=
 bh mixed (aR.aE uk) (C:=wD) (d:=aT [4] (aF [1,2,3] [(6,.loop [] [29] 31 [(29,.sem Y2)] .normal [ev])])) (nn:=600) (by kernel_rfl) (vP k10 (vB k9 (vB k8 (vB k5 (vB k2 vN)))))
include k2 k5 k8 k11 k12 k13 in
theorem qf:zA kd lim rd unb rev key val low high b kk Y Y2 ev:=
 bh mixed (aR.aE uk) (C:=wD) (d:=aT [5] (aF [1,2,3,4] [(9,.loop [] [29] 31 [(29,.sem Y2)] .normal [ev])])) (nn:=600) (by kernel_rfl) (vP k13 (vB k12 (vB k11 (vB k8 (vB k5 (vB k2 vN))))))
include k2 k5 k8 k11 k14 k15 k16 k17 in
theorem Kt:zA kd lim rd unb rev key val low high b kk Y Y2 ev:=
 bh mixed (aR.aE uk) (C:=wD) (d:=aT [7] (aF [1,2,3,4,5,6] [(8,.loop [] [29] 31 [(29,.sem Y2)] .normal [ev])])) (nn:=600) (by kernel_rfl) (vP k17 (vB k16 (vB k15 (vB k14 (vB k11 (vB k8 (vB k5 (vB k2 vN))))))))
include k2 k5 k8 k11 k14 k15 k18 k19 k20 in
theorem KG:zA kd lim rd unb rev key val low high b kk Y Y2 ev:=
 bh mixed (aR.aE uk) (C:=wD) (d:=aT [8] (aF [1,2,3,4,5,6,7] [(9,.loop [] [29] 31 [(29,.sem Y2)] .normal [ev])])) (nn:=600) (by kernel_rfl) (vP k20 (vB k19 (vB k18 (vB k15 (vB k14 (vB k11 (vB k8 (vB k5 (vB k2 vN)))))))))
include k2 k5 k8 k11 k14 k15 k18 k21 in
theorem RO {ev:Value}{Y2:aG}:ab Tryz.prog 30 [(29,.sem Y)] 31 [(29,.sem Y)] (.call 81 (TC kd lim rd unb rev key val low high b kk)) (.val (.iface 72 (iI 1))):=
 bh mixed (aR.aE uk) (C:=wD) (d:=aF [1,2,3,4,5,6,7,8] []) (nn:=600) (by kernel_rfl) (vB k21 (vB k18 (vB k15 (vB k14 (vB k11 (vB k8 (vB k5 (vB k2 vN))))))))
end
end
section
open Go.Sx
def Fa:ByteArray:= { data:= #[(116:UInt8),(114:UInt8),(101:UInt8),(101:UInt8)]}
inductive OM where
 |idle|zero|b1 (r:Bool)|b2 (r:Bool)|b3 (r:Bool)|b4 (r:Bool)|f1|f2|f3|f4
inductive IM where
 |idle|zero|fault|found (v:ByteArray) (th:Bool)|rows (os:List Rt)|a1
 |g1 (key:ByteArray)|g2 (key:ByteArray)|g3 (key:ByteArray) (x:Int)|g4 (key:ByteArray)|g5 (key:ByteArray)|g6 (key:ByteArray)
 |r1 (lo hi:ByteArray) (un:Bool) (li:Int) (rv:Bool)|r2 (lo hi:ByteArray) (un:Bool) (li:Int) (rv:Bool)|r3 (lo hi:ByteArray) (un:Bool) (li:Int) (rv:Bool) (x:Int)
 |r4 (lo hi:ByteArray) (un:Bool) (li:Int) (rv:Bool)|r5 (lo hi:ByteArray) (un:Bool) (li:Int) (rv:Bool)|r6 (lo hi:ByteArray) (un:Bool) (li:Int) (rv:Bool)
abbrev Q2 (k:Int) (y:Bool):Heap:=DR k y (.string ⟨#[]⟩) (.bool false) (.slice none 0 0) (.int .i64 0) .nilIface []
def OM.heap (k:Int) (y:Bool):OM→Heap
 | .idle=>jP k y (.chan none)
 | .zero=>Q2 k y
 | .b1 r=>qQ k y r
 | .b2 r=>pO k y r
 | .b3 r=>oy k y r
 | .b4 r=>oI k y r
 | .f1=>pF k y
 | .f2=>rh k y
 | .f3=>ri k y
 | .f4=>pU k y
abbrev R7 (k:Int) (y:Bool):Nat→Nat→aG→Heap:=fun nk ns Wr=>bd k nk ns Wr y (.string ⟨#[]⟩) (.bool false) (.slice none 0 0) (.int .i64 0) .nilIface []
abbrev Ph (k:Int):Heap:= [(5,.cells [.string Fa,.int .i64 (k),.iface 201 (.pointer (some ⟨6,0,none⟩))] 203),(6,.cells [.string ({ data:= #[(99:UInt8),(108:UInt8),(111:UInt8),(99:UInt8),(107:UInt8)]}),.int .i64 0,.iface 72 (.int .i64 5)] 203)]
abbrev OQ (k:Int) (y:Bool):Nat→Nat→aG→Heap:=fun nk ns Wr=>bd k nk ns Wr y (.string ⟨#[]⟩) (.bool false) (.slice none 0 0) (.int .i64 0) (.iface 201 (.pointer (some ⟨5,0,none⟩))) (Ph k)
abbrev Q8 (k:Int) (y:Bool) (os:List Rt):Nat→Nat→aG→Heap:=fun nk ns Wr=>bd k nk ns Wr y (.string ⟨#[]⟩) (.bool false) (.slice (some ⟨5,0,none⟩) os.length 0) (.int .i64 0) .nilIface [(5,.cells (aa os) 64)]
def IM.heap (k:Int) (y:Bool):IM→Nat→Nat→aG→Heap
 | .idle=>oz k y
 | .zero=>R7 k y
 | .fault=>OQ k y
 | .found v th=>FK k y v th
 | .rows os=>Q8 k y os
 | .a1=>fun nk ns Wr=>ka k nk ns Wr y
 | .g1 key=>fun nk ns Wr=>kT k nk ns Wr y key
 | .g2 key=>fun nk ns Wr=>kf k nk ns Wr y key
 | .g3 key x=>fun nk ns Wr=>kV k nk ns Wr y key x
 | .g4 key=>fun nk ns Wr=>kN k nk ns Wr y key
 | .g5 key=>fun nk ns Wr=>kU k nk ns Wr y key
 | .g6 key=>fun nk ns Wr=>kR k nk ns Wr y key Fa
 | .r1 lo hi un li rv=>fun nk ns Wr=>jf k nk ns Wr y lo hi un li rv
 | .r2 lo hi un li rv=>fun nk ns Wr=>i7 k nk ns Wr y lo hi un li rv
 | .r3 lo hi un li rv x=>fun nk ns Wr=>jE k nk ns Wr y lo hi un li rv x
 | .r4 lo hi un li rv=>fun nk ns Wr=>kO k nk ns Wr y lo hi un li rv
 | .r5 lo hi un li rv=>fun nk ns Wr=>kM k nk ns Wr y lo hi un li rv
 | .r6 lo hi un li rv=>fun nk ns Wr=>kQ k nk ns Wr y lo hi un li rv
inductive Cs where
 |out (y:Bool) (m:OM)
 |inn (y:Bool) (nb:Nat) (ws:List Wt) (m:IM)
def Cs.res (k:Int) (b:Nat):Cs→aG
 | .out y m=>bu b (m.heap k y)
 | .inn y nb ws m=>aL b nb ws (m.heap k y)
def OM.bN:OM→Nat
 | .idle| .zero=>0
 | .b1 _| .f1=>4
 | .b2 _| .f2=>3
 | .b3 _| .f3=>2
 | .b4 _| .f4=>1
def IM.bN:IM→Nat
 | .idle| .zero| .fault| .found _ _| .rows _=>0
 | .a1=>1
 | .g1 _| .r1 _ _ _ _ _=>6
 | .g2 _| .r2 _ _ _ _ _=>5
 | .g3 _ _| .r3 _ _ _ _ _ _=>4
 | .g4 _| .r4 _ _ _ _ _=>3
 | .g5 _| .r5 _ _ _ _ _=>2
 | .g6 _| .r6 _ _ _ _ _=>1
def Cs.bN:Cs→Nat
 | .out _ m=>m.bN
 | .inn _ _ _ m=>m.bN
def Cs.bt (s:Cs):Bool:=Nat.blt 0 s.bN
def Cs.inside:Cs→Bool
 | .out _ _=>false
 | .inn _ _ _ _=>true
def Cs.flag:Cs→Bool
 | .out y _=>y
 | .inn y _ _ _=>y
def Cs.dB:Cs→Bool
 | .out _ .idle| .inn _ _ _ .idle=>true
 |_=>false
def Cs.isZero:Cs→Bool
 | .out _ .zero| .inn _ _ _ .zero=>true
 |_=>false
def Cs.isDone:Cs→Bool
 | .out _ .zero| .inn _ _ _ .zero| .inn _ _ _ .fault| .inn _ _ _ (.found _ _)| .inn _ _ _ (.rows _)=>true
 |_=>false
def OM.act:OM→Int
 | .idle| .zero=>0
 | .b1 _| .b2 _| .b3 _| .b4 _=>1
 | .f1| .f2| .f3| .f4=>8
def IM.act:IM→Int
 | .idle| .zero| .fault| .found _ _| .rows _=>0
 | .a1=>7
 | .g1 _| .g2 _| .g3 _ _| .g4 _| .g5 _| .g6 _=>2
 | .r1 _ _ _ _ _| .r2 _ _ _ _ _| .r3 _ _ _ _ _ _| .r4 _ _ _ _ _| .r5 _ _ _ _ _| .r6 _ _ _ _ _=>5
def Cs.act:Cs→Int
 | .out _ m=>m.act
 | .inn _ _ _ m=>m.act
def IM.walk:IM→Bool
 | .g4 _| .g5 _| .g6 _| .r4 _ _ _ _ _| .r5 _ _ _ _ _| .r6 _ _ _ _ _=>true
 |_=>false
def Cs.walk:Cs→Bool
 | .out _ _=>false
 | .inn _ _ _ m=>m.walk
def Cs.goal:Cs→Bool
 | .out _ (.b1 r)| .out _ (.b2 r)| .out _ (.b3 r)| .out _ (.b4 r)=>r
 |s=>s.flag
def OY (key:ByteArray):Prop:=(key.data.toList.length:Int)≥1∧(key.data.toList.length:Int)≤16
def KJ (lo hi:ByteArray) (un:Bool):Prop:=(lo.data.toList.length:Int)≤16∧(hi.data.toList.length:Int)≤16∧(if un then cH hi { data:= #[]}=true else de lo hi < 0)
def IM.wf (now:Int):IM→Prop
 | .g1 k| .g2 k| .g4 k| .g5 k| .g6 k=>OY k
 | .g3 k x=>OY k∧1≤x∧x≤now
 | .r1 lo hi un _ _| .r2 lo hi un _ _| .r4 lo hi un _ _| .r5 lo hi un _ _| .r6 lo hi un _ _=>KJ lo hi un
 | .r3 lo hi un _ _ x=>KJ lo hi un∧1≤x∧x≤now
 | .rows os=>os.length < 1100
 |_=>True
def Cs.wf (now:Int) (u:Nat):Cs→Prop
 | .out _ _=>True
 | .inn _ nb ws m=>nb≤u∧ws.length≤u∧fa ws∧m.wf now
theorem IM.vo {m:IM}{n n':Int} (h:m.wf n) (hn:n≤n'):m.wf n':=by
 cases m <;> first|exact h|exact⟨h.1,h.2.1,Int.le_trans h.2.2 hn⟩
theorem Cs.vo {s:Cs}{n n':Int}{u u':Nat} (h:s.wf n u) (hn:n≤n') (hu:u≤u'):s.wf n' u':=by
 cases s with
 |out=>trivial
 |inn y nb ws m=>exact⟨Nat.le_trans h.1 hu,Nat.le_trans h.2.1 hu,h.2.2.1,IM.vo (m:=m) h.2.2.2 hn⟩
def mp (l:List (Int×Int)):List (Value×Value):=l.map fun p=>(.int .i64 p.1,.int .i64 p.2)
def bS (l:List (Int×Int)):List Int:=l.map (·.1)
theorem kh (k:Int):∀(l:List (Int×Int)) (i:Nat),(k ∉ bS l∧dv .i64 k (mp l) i=some none)∨∃j v,l[j]? =some (k,v)∧dv .i64 k (mp l) i=some (some (i+j,.int .i64 v))
 | [],i=> .inl ⟨by simp [bS],rfl⟩
 |(a,b)::l,i=>by
  by_cases h:k=a
  · subst h
    exact .inr ⟨0,b,rfl,by show dv .i64 k ((.int .i64 k,.int .i64 b)::mp l) i=_;simp [dv]⟩
  · rcases kh k l (i+1) with⟨h1,h2⟩|⟨j,v,h1,h2⟩
    · refine .inl ⟨?_,?_⟩
      · simp only [bS,List.map_cons,List.mem_cons,not_or];exact⟨h,h1⟩
      · show dv .i64 k ((.int .i64 a,.int .i64 b)::mp l) i=_
        have hb:(k==a)=false:=beq_false_of_ne h
        simp [dv,hb,h2]
    · refine .inr ⟨j+1,v,by simpa using h1,?_⟩
      show dv .i64 k ((.int .i64 a,.int .i64 b)::mp l) i=_
      have hb:(k==a)=false:=beq_false_of_ne h
      simp only [dv,hb,h2,if_true]
      rw [show i+1+j=i+(j+1) by omega]
theorem ug (l:List (Int×Int)) (k v:Int):mp l++ [(.int .i64 k,.int .i64 v)]=mp (l++ [(k,v)]):=by simp [mp]
theorem ov:∀(l:List (Int×Int)) (i:Nat),(mp l).eraseIdx i=mp (l.eraseIdx i)
 | [],_=>by simp [mp]
 |_::_,0=>rfl
 |a::l,i+1=>by
  show(_::(mp l).eraseIdx i)=_
  rw [ov l i];rfl
theorem yK:∀(l:List (Int×Int)) (i:Nat) (k v w:Int),l[i]? =some (k,w)→nK (mp l) i (.int .i64 v)=mp (l.set i (k,v))
 | [],i,_,_,_,h=>by simp at h
 |(a,b)::l,0,k,v,w,h=>by
  simp at h;obtain⟨rfl,rfl⟩:=h;rfl
 |(a,b)::l,i+1,k,v,w,h=>by
  have:=yK l i k v w (by simpa using h)
  show(_::nK (mp l) i _)=_
  rw [this];rfl
theorem ue (l:List (Int×Int)) (k v:Int):bS (l++ [(k,v)])=bS l++ [k]:=by simp [bS]
theorem Eu {l:List (Int×Int)}{i:Nat}{k w:Int} (h:l[i]? =some (k,w)) (hn:(bS l).Nodup):(bS (l.eraseIdx i)).Nodup∧∀x,x∈bS (l.eraseIdx i) ↔ x∈bS l∧x≠k:=by
 induction l generalizing i with
 |nil=>simp at h
 |cons p l ih=>
  obtain⟨a,b⟩:=p
  simp only [bS,List.map_cons,List.nodup_cons] at hn
  cases i with
  |zero=>
   simp at h;obtain⟨rfl,rfl⟩:=h
   refine⟨hn.2,fun x=> ?_⟩
   simp only [List.eraseIdx_cons_zero,bS,List.map_cons,List.mem_cons]
   constructor
   · intro hx;exact⟨.inr hx,fun e=>by subst e;exact hn.1 hx⟩
   · rintro ⟨rfl|hx,hne⟩
     · exact absurd rfl hne
     · exact hx
  |succ i=>
   have h':l[i]? =some (k,w):=by simpa using h
   obtain⟨g1,g2⟩:=ih h' hn.2
   have hk:k∈bS l:=List.mem_map.2 ⟨(k,w),List.mem_of_getElem? h',rfl⟩
   have hak:a≠k:=fun e=>by subst e;exact hn.1 hk
   refine⟨?_,fun x=> ?_⟩
   · simp only [List.eraseIdx_cons_succ,bS,List.map_cons,List.nodup_cons]
     exact⟨fun hx=>hn.1 ((g2 a).1 hx).1,g1⟩
   · have:=g2 x
     simp only [List.eraseIdx_cons_succ,bS,List.map_cons,List.mem_cons] at this ⊢
     rw [this]
     constructor
     · rintro (rfl|⟨hx,hne⟩)
       · exact⟨.inl rfl,hak⟩
       · exact⟨.inr hx,hne⟩
     · rintro ⟨rfl|hx,hne⟩
       · exact .inl rfl
       · exact .inr ⟨hx,hne⟩
end
section
open Go.Sx
section
set_option maxRecDepth 100000
set_option linter.unusedSectionVars false
variable {s q nk ns i0:Nat}{c d e g now count holder k x2 v0:Int}{ins mks:List (Value×Value)}{Wr:aG}{y0:Bool}{z1 z2:ByteArray}
variable (k0:(decide ((z1.data.toList.length:Int)≥1))=true)(k1:(!decide ((z1.data.toList.length:Int)≤16))=false)(k2:(now==g)=true)(k3:(now==g)=false)(k4:(decide (k≥0))=true)(k5:(!decide (k < c))=false)(k6:(decide (x2 < 1))=false)(k7:(decide (x2 > now))=false)(k8:dv IntKind.i64 k ins 0=some none)(k9:(decide ((0:Int)≤0∧0 < (↑(q+1):Int)))=true)(k10:(decide ((0:Int)≤0∧0 < (↑(s+1):Int)))=true)(k11:(decide (de { data:= #[]} z1≤0))=true)(k12:dv IntKind.i64 k ins 0=some (some (i0,Value.int IntKind.i64 v0)))
include k0 k1 in
theorem Hg:cg Tryz.prog 30 30 29 200 [31,32,33,34,67,69,38] (aD s q c d e g now count holder ins mks) (aB 30 30 (kT k nk ns Wr y0 z1)) 15 [pT 30,dc] (.bool false) (aD s q c d e g ((now)) ((count)) ((holder)) ins mks) (kf k (nk) (ns) Wr (y0) (z1)):=
 ak mixed ae _ [(30,false),(31,false),(32,false),(33,false),(34,false),(67,false),(69,false),(38,false)] (d:=aT [48,49,50,51] (aF [54] [])) (nn:=600) (c2:=72) (Lg:= []) (fun _=>by kernel_rfl) rfl rfl rfl af (vB k1 (ax k0 vN)) rfl
include k2 in
theorem Iq:cg Tryz.prog 30 30 29 200 [31,32,33,34,65,63] (aD s q c d e g now count holder ins mks) (aB 30 30 (kf k nk ns Wr y0 z1)) 15 [pT 30,dc] (.bool true) (aD s q c d e g ((now)) ((IntKind.i64.wrap (count+1))) ((holder)) ins mks) (bd k nk ns Wr y0 (.string ({ data:= #[]})) (.bool false) sN (iI 0) (.iface 201 (pT 5)) [(5,.cells [.string ({ data:= #[(116:UInt8),(114:UInt8),(101:UInt8),(101:UInt8)]}),iI (k),.iface 201 (pT 6)] 203),(6,.cells [.string ({ data:= #[(99:UInt8),(108:UInt8),(111:UInt8),(99:UInt8),(107:UInt8)]}),iI 0,.iface 72 (iI 5)] 203)]):=
 ak mixed ae _ [(30,false),(31,false),(32,false),(33,false),(34,false),(65,false),(63,false)] (d:=aT [29] []) (nn:=600) (c2:=71) (Lg:= []) (fun _=>by kernel_rfl) rfl rfl rfl af (vB k2 vN) rfl
include k3 in
theorem HS:cg Tryz.prog 30 30 29 200 [31,32,33,34,35,36,62,63,37] (aD s q c d e g now count holder ins mks) (aB 30 30 (kf k nk ns Wr y0 z1)) 15 [pT 30,dc] (.bool false) (aD s q c d e g ((IntKind.i64.wrap (now+1))) ((IntKind.i64.wrap (count+1))) ((holder)) ins mks) (kV k (nk) (ns) Wr (y0) (z1) (IntKind.i64.wrap (now+1))):=
 ak mixed ae _ [(30,false),(31,false),(32,false),(33,false),(34,false),(35,false),(36,false),(62,false),(63,false),(37,false)] (d:=aF [29] []) (nn:=600) (c2:=64) (Lg:= []) (fun _=>by kernel_rfl) rfl rfl rfl af (vB k3 vN) rfl
include k4 k5 k6 k7 k8 in
theorem HO:cg Tryz.prog 30 30 29 200 [31,32,33,34,35,36,64,62,39,63] (aD s q c d e g now count holder ins mks) (aB 30 30 (kV k nk ns Wr y0 z1 x2)) 15 [pT 30,dc] (.bool false) (aD s q c d e g ((now)) ((IntKind.i64.wrap (count+1))) ((holder)) (ins++ [(iI k,iI x2)]) mks) (kN k (nk) (ns) Wr (y0) (z1)):=
 ak mixed ae _ [(30,false),(31,false),(32,false),(33,false),(34,false),(35,false),(36,false),(64,false),(62,false),(39,false),(63,false)] (d:=aT [32,33,34,35,36,38,39] (aF [40,44,45,46,47,48,50,51,52] [(42,.cell (.tuple ⟨[.nilFunc]⟩)),(54,.cell (.tuple ⟨[.nilFunc]⟩))])) (nn:=600) (c2:=65) (Lg:= []) (fun _=>by kernel_rfl) rfl rfl rfl af (vP k8 (vB k7 (kE k6 (vP k8 (vB k5 (kE k4 vN)))))) rfl
include k9 in
theorem HT:cg Tryz.prog 30 30 29 200 [31,32,33,34,35,36,37,38,39,40] (aD s q c d e g now count holder ins mks) (aB 30 30 (kN k nk ns Wr y0 z1)) 15 [pT 30,dc] (.bool false) (aD s q c d e g ((now)) ((IntKind.i64.wrap (count+1))) ((holder)) ins mks) (kU k (nk) (ns) Wr (y0) (z1)):=
 ak mixed ae _ [(30,false),(31,false),(32,false),(33,false),(34,false),(35,false),(36,false),(37,false),(38,false),(39,false),(40,false)] (d:=aT [51] []) (nn:=600) (c2:=66) (Lg:= []) (fun _=>by kernel_rfl) rfl rfl rfl af (vC k9 vN) rfl
include k10 k11 in
theorem HL:cg Tryz.prog 30 30 29 200 [31,32,33,34,35,36,121,122,39] (aD s q c d e g now count holder ins mks) (aB 30 30 (kU k nk ns Wr y0 z1)) 15 [pT 30,dc] (.bool false) (aD s q c d e g ((now)) ((IntKind.i64.wrap (count+1))) ((holder)) ins mks) (kR k (nk) (ns) Wr (y0) (z1) ({ data:= #[(116:UInt8),(114:UInt8),(101:UInt8),(101:UInt8)]})):=
 ak mixed ae _ [(30,false),(31,false),(32,false),(33,false),(34,false),(35,false),(36,false),(121,false),(122,false),(39,false)] (d:=aT [58,283,284,289,291] []) (nn:=600) (c2:=125) (Lg:= []) (fun _=>by kernel_rfl) rfl rfl rfl af (ax k11 (vC k10 vN)) rfl
include k4 k5 k12 in
theorem JR:cg Tryz.prog 30 30 29 200 [31,32,33,34] (aD s q c d e g now count holder ins mks) (aB 30 30 (kR k nk ns Wr y0 z1 z2)) 15 [pT 30,dc] (.bool true) (aD s q c d e g ((now)) ((IntKind.i64.wrap (count+1))) ((holder)) (ins.eraseIdx i0) mks) (bd k nk ns Wr y0 (.string ({ data:= #[]})) (.bool false) sN (iI 0) (.nilIface) []):=
 ak mixed ae _ [(30,false),(31,false),(32,false),(33,false),(34,false)] (d:=aT [31,32,33,34,35,37,38] (aF [39] [(41,.cell (.tuple ⟨[.nilFunc,iI (.ofNat i0),iI v0]⟩)),(44,.cell (.tuple ⟨[.nilFunc,iI (.ofNat i0),iI v0]⟩))])) (nn:=600) (c2:=66) (Lg:= []) (fun _=>by kernel_rfl) rfl rfl rfl af (vP k12 (vP k12 (vB k5 (kE k4 vN)))) rfl
end
end
section
open Go.Sx
abbrev Tw (nk ns:Nat) (k:Int) (Wr:aG) (y0:Bool):Heap:=bd k nk ns Wr y0 (.string ({ data:= #[]})) (.bool false) sN (iI 0) (.iface 201 (pT 5)) [(5,.cells [.string ({ data:= #[(116:UInt8),(114:UInt8),(101:UInt8),(101:UInt8)]}),iI (k),.iface 201 (pT 6)] 203),(6,.cells [.string ({ data:= #[(99:UInt8),(108:UInt8),(111:UInt8),(99:UInt8),(107:UInt8)]}),iI 0,.iface 72 (iI 5)] 203)]
abbrev TH:List (Nat×Bool):= [(30,false),(31,false),(32,false),(33,false),(34,false),(35,false),(36,false),(37,false),(38,false),(39,false),(40,false),(64,false),(65,false),(66,false),(41,false)]
section
set_option maxRecDepth 100000
set_option linter.unusedSectionVars false
variable {s q nk ns:Nat}{c d e g now count holder k x4 x6:Int}{ins mks:List (Value×Value)}{Wr:aG}{y0 y3 y5:Bool}{z1 z2:ByteArray}
variable (k0:(decide ((z1.data.toList.length:Int) > 16))=false)(k1:(decide ((z2.data.toList.length:Int) > 16))=false)(k2:(y3)=true)(k3:(!cH z2 { data:= #[]})=false)(k4:(y3)=false)(k5:(z1.data.toList.length.ble 4294967295)=true)(k6:(!decide (de z1 z2 < 0))=false)(k7:(now==g)=false)(k8:(now==g)=true)(k9:(decide (k≥0))=true)(k10:(!decide (k < c))=false)(k11:(decide (x6 < 1))=false)(k12:(decide (x6 > now))=false)(k13:dv IntKind.i64 k ins 0=some none)(k14:(decide ((0:Int)≤0∧0 < (↑(q+1):Int)))=true)(k15:(decide ((0:Int)≤0∧0 < (↑(s+1):Int)))=true)(k16:(decide (de { data:= #[]} z1≤0))=true)
theorem Ih:cg Tryz.prog 30 30 29 200 [31,32,33,34,38,37,65,39,40,41,42] (aD s q c d e g now count holder ins mks) (aB 30 30 (jf k nk ns Wr y0 z1 z2 y3 x4 y5)) 15 [pT 30,dc] (.bool false) (aD s q c d e g ((now)) ((count)) ((holder)) ins mks) (i7 k (nk) (ns) Wr (y0) (z1) (z2) (y3) (x4) (y5)):=
 ak mixed ae _ [(30,false),(31,false),(32,false),(33,false),(34,false),(38,false),(37,false),(65,false),(39,false),(40,false),(41,false),(42,false)] (d:= []) (nn:=600) (c2:=66) (fun _=>by kernel_rfl) rfl rfl rfl vN vN rfl
include k0 k1 k2 k3 k8 in
theorem Jk:cg Tryz.prog 30 30 29 200 [31,32,33,34,68,66] (aD s q c d e g now count holder ins mks) (aB 30 30 (i7 k nk ns Wr y0 z1 z2 y3 x4 y5)) 15 [pT 30,dc] (.bool true) (aD s q c d e g ((now)) ((IntKind.i64.wrap (count+1))) ((holder)) ins mks) (Tw nk ns k Wr y0):=
 ak mixed ae _ [(30,false),(31,false),(32,false),(33,false),(34,false),(68,false),(66,false)] (d:=aT [36,74] (aF [28,29,31,32,33,34,40] [])) (nn:=600) (c2:=75) (Lg:= []) (fun _=>by kernel_rfl) rfl rfl rfl af (vB k8 (vB k3 (vB k2 (vB k1 (a7 k0 vN))))) rfl
include k0 k1 k2 k3 k7 in
theorem HP:cg Tryz.prog 30 30 29 200 [31,32,33,34,35,36,37,38,39,40,64,65,66,41] (aD s q c d e g now count holder ins mks) (aB 30 30 (i7 k nk ns Wr y0 z1 z2 y3 x4 y5)) 15 [pT 30,dc] (.bool false) (aD s q c d e g ((IntKind.i64.wrap (now+1))) ((IntKind.i64.wrap (count+1))) ((holder)) ins mks) (jE k (nk) (ns) Wr (y0) (z1) (z2) (y3) (x4) (y5) (IntKind.i64.wrap (now+1))):=
 ak mixed ae _ TH (d:=aT [36] (aF [28,29,31,32,33,34,40,74] [])) (nn:=600) (c2:=67) (Lg:= []) (fun _=>by kernel_rfl) rfl rfl rfl af (vB k7 (vB k3 (vB k2 (vB k1 (a7 k0 vN))))) rfl
include k0 k1 k4 k5 k6 k8 in
theorem HA:cg Tryz.prog 30 30 29 200 [31,32,33,34,68,66] (aD s q c d e g now count holder ins mks) (aB 30 30 (i7 k nk ns Wr y0 z1 z2 y3 x4 y5)) 15 [pT 30,dc] (.bool true) (aD s q c d e g ((now)) ((IntKind.i64.wrap (count+1))) ((holder)) ins mks) (Tw nk ns k Wr y0):=
 ak mixed ae _ [(30,false),(31,false),(32,false),(33,false),(34,false),(68,false),(66,false)] (d:=aT [39,76] (aF [28,29,31,32,33,34,36,42] [])) (nn:=600) (c2:=75) (Lg:= []) (fun _=>by kernel_rfl) rfl rfl rfl af (vB k8 (vB k6 (vC k5 (vB k4 (vB k1 (a7 k0 vN)))))) rfl
include k0 k1 k4 k5 k6 k7 in
theorem Hn:cg Tryz.prog 30 30 29 200 [31,32,33,34,35,36,37,38,39,40,64,65,66,41] (aD s q c d e g now count holder ins mks) (aB 30 30 (i7 k nk ns Wr y0 z1 z2 y3 x4 y5)) 15 [pT 30,dc] (.bool false) (aD s q c d e g ((IntKind.i64.wrap (now+1))) ((IntKind.i64.wrap (count+1))) ((holder)) ins mks) (jE k (nk) (ns) Wr (y0) (z1) (z2) (y3) (x4) (y5) (IntKind.i64.wrap (now+1))):=
 ak mixed ae _ TH (d:=aT [39] (aF [28,29,31,32,33,34,36,42,76] [])) (nn:=600) (c2:=67) (Lg:= []) (fun _=>by kernel_rfl) rfl rfl rfl af (vB k7 (vB k6 (vC k5 (vB k4 (vB k1 (a7 k0 vN)))))) rfl
include k9 k10 k11 k12 k13 in
theorem HN:cg Tryz.prog 30 30 29 200 [31,32,33,34,35,36,37,38,39,40,41,64,62,44,63] (aD s q c d e g now count holder ins mks) (aB 30 30 (jE k nk ns Wr y0 z1 z2 y3 x4 y5 x6)) 15 [pT 30,dc] (.bool false) (aD s q c d e g ((now)) ((IntKind.i64.wrap (count+1))) ((holder)) (ins++ [(iI k,iI x6)]) mks) (kO k (nk) (ns) Wr (y0) (z1) (z2) (y3) (x4) (y5)):=
 ak mixed ae _ [(30,false),(31,false),(32,false),(33,false),(34,false),(35,false),(36,false),(37,false),(38,false),(39,false),(40,false),(41,false),(64,false),(62,false),(44,false),(63,false)] (d:=aT [41,42,43,44,45,47,48] (aF [49,53,54,55,56,57,59,60,61] [(51,.cell (.tuple ⟨[.nilFunc]⟩)),(63,.cell (.tuple ⟨[.nilFunc]⟩))])) (nn:=600) (c2:=65) (Lg:= []) (fun _=>by kernel_rfl) rfl rfl rfl af (vP k13 (vB k12 (kE k11 (vP k13 (vB k10 (kE k9 vN)))))) rfl
include k14 in
theorem HY:cg Tryz.prog 30 30 29 200 [31,32,33,34,35,36,37,38,39,40,41,42,43,44,45] (aD s q c d e g now count holder ins mks) (aB 30 30 (kO k nk ns Wr y0 z1 z2 y3 x4 y5)) 15 [pT 30,dc] (.bool false) (aD s q c d e g ((now)) ((IntKind.i64.wrap (count+1))) ((holder)) ins mks) (kM k (nk) (ns) Wr (y0) (z1) (z2) (y3) (x4) (y5)):=
 ak mixed ae _ [(30,false),(31,false),(32,false),(33,false),(34,false),(35,false),(36,false),(37,false),(38,false),(39,false),(40,false),(41,false),(42,false),(43,false),(44,false),(45,false)] (d:=aT [60] []) (nn:=600) (c2:=66) (Lg:= []) (fun _=>by kernel_rfl) rfl rfl rfl af (vC k14 vN) rfl
include k15 k16 in
theorem Jv:cg Tryz.prog 30 30 29 200 [31,32,33,34,35,36,37,38,39,40,41,125,44] (aD s q c d e g now count holder ins mks) (aB 30 30 (kM k nk ns Wr y0 z1 z2 y3 x4 y5)) 15 [pT 30,dc] (.bool false) (aD s q c d e g ((now)) ((IntKind.i64.wrap (count+1))) ((holder)) ins mks) (kQ k (nk) (ns) Wr (y0) (z1) (z2) (y3) (x4) (y5)):=
 ak mixed ae _ [(30,false),(31,false),(32,false),(33,false),(34,false),(35,false),(36,false),(37,false),(38,false),(39,false),(40,false),(41,false),(125,false),(44,false)] (d:=aT [67,296,297,302,304] []) (nn:=600) (c2:=128) (Lg:= []) (fun _=>by kernel_rfl) rfl rfl rfl af (ax k16 (vC k15 vN)) rfl
end
end
end Go.Proofs.YtalanookmohdeaaGreatDoor

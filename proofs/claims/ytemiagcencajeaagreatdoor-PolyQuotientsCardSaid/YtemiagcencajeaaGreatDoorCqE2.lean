import Derived.Test.YtemiagcencajeaaGreatDoorCqE1
import Derived.Laws.StructEq
import Derived.MapKept
set_option linter.unusedSimpArgs false
set_option linter.unusedVariables false
set_option linter.unusedSectionVars false
namespace Go.Eng
open Go Go.RowKit
section
variable {P:Program} {base:Nat} {okin:Nat->Prop} {σ:Nat->Option (Nat × Nat)} {h:af} {w:World} {G:Nat->Option J} {F:Nat->J} {a:Act}
theorem PB {i j sz:Nat} (aO:j<sz):(i*sz+j)/sz=i/\(i*sz+j)%sz=j:=by
 have aS:0<sz:=by omega
 constructor
 · rw[Nat.add_comm,Nat.add_mul_div_right _ _ aS,Nat.div_eq_of_lt aO,Nat.zero_add]
 · rw[Nat.add_comm,Nat.add_mul_mod_self_right,Nat.mod_eq_of_lt aO]
theorem xQ (H:cK base okin σ h w) {v:J} {cv:Value} (aF:bf w (bz base okin σ h) σ v cv) {ys:List J} (he:elems h v=some ys) {sz:Nat} (df:∀e∈ys,e.cells.length=sz) (aS:0<sz):
 ∃A c,cv= .slice A ys.length c/\∃arr,(Builtin.firstCells sz ys.length cv).run P w= .ok arr w/\lY w (bz base okin σ h) σ sz ys arr:=by
 unfold elems at he
 split at he
 · rename_i xs ex
   injection he with he
   subst he
   have aU:=aF.qC
   cases aU with
   | sl _ _ A c fO eo U h2 aN a8 cr eF=>
     refine⟨A,c,rfl,?_⟩
     by_cases aQ:xs.length=0
     · have ae:xs= []:=List.eq_nil_of_length_eq_zero aQ
       subst ae
       cases A with
       | none=>exact ⟨#[],by simp[Builtin.firstCells],by simp,fun i ab=>absurd ab (by simp)⟩
       | some cy=>exact ⟨#[],by simp[Builtin.firstCells,loadCells,loadCellsFrom],by simp,fun i ab=>absurd ab (by simp)⟩
     · have r3:fO=sz:=by
        have:=aN 0 (by omega)
        have:=df _ (List.getElem_mem (show 0<xs.length by omega))
        omega
       subst r3
       have bg:=cr (by omega)
       obtain⟨cy,rfl⟩:=Option.isSome_iff_exists.1 bg
       have aG:∀k,k<xs.length*fO->w.cell? (cy.add k)=some ((fun k=>eo (k/fO) (k%fO)) k):=by
        intro k ag
        have ab:k/fO<xs.length:=Nat.div_lt_of_lt_mul (by rw[Nat.mul_comm];exact ag)
        obtain⟨PC,e,_,I⟩:=a8 (k/fO) (k%fO) ab (Nat.mod_lt _ aS)
        cases e
        have:k/fO*fO+k%fO=k:=by rw[Nat.mul_comm];exact Nat.div_add_mod k fO
        rwa [this] at I
       refine⟨_,by simp only[Builtin.firstCells];exact run_loadCells w cy (xs.length*fO) _ aG,?_⟩
       refine⟨by simp,fun i ab=>⟨aN i ab,fun j aO ag=>?_⟩⟩
       have kh:j<fO:=by have:=aN i ab;omega
       have:=PB (i:=i) kh
       simp only[List.getElem_toArray,List.getElem_map,List.getElem_range,this.1,this.2]
       exact .val _ _ (eF i ab j aO)
 · rename_i id off len cap
   split at he<;>try(cases he;done)
   rename_i blk aa
   split at he<;>try(cases he;done)
   rename_i hle
   cases he
   obtain⟨A,c,b,b_,rfl,au,ax,a9,bX⟩:=aF.qD
   have hlen:((blk.drop off).take len).length=len:=by simp;omega
   rw[hlen]
   refine⟨A,c,rfl,?_⟩
   by_cases aQ:len=0
   · subst aQ
     refine⟨#[],?_,by simp,fun i ab=>absurd ab (by simp)⟩
     cases A with
     | none=>simp[Builtin.firstCells]
     | some cy=>simp[Builtin.firstCells,loadCells,loadCellsFrom]
   · obtain⟨j9,fO,arr,ty,f1,f2,f3⟩:=H.blk id blk aa
     rw[au] at f1;cases f1
     have kP:∀i,i<len->∃ab:off+i<blk.length,blk[off+i].cells.length=sz:=by
      intro i ab
      refine⟨by omega,df _ ?_⟩
      have:(((blk.drop off).take len)[i]'(by rw[hlen];exact ab))=blk[off+i]'(by omega):=by simp
      rw[<-this];exact List.getElem_mem _
     have r3:b_=sz:=by
      obtain⟨ab,e⟩:=kP 0 (by omega)
      have:=(f3 _ ab).1;omega
     subst r3
     obtain⟨rfl,_⟩:=bX (by omega)
     have aG:∀k,k<len*b_->w.cell? ((⟨b,off*b_,none⟩:Addr).add k)=some ((fun k=>(arr[off*b_+k]?).getD undef) k):=by
      intro k ag
      have ab:k/b_<len:=Nat.div_lt_of_lt_mul (by rw[Nat.mul_comm];exact ag)
      obtain⟨bW,e⟩:=kP _ ab
      have hm:=Nat.mod_lt k aS
      obtain⟨lG,bT,_⟩:=(f3 _ bW).2 (k%b_) (by omega)
      have:(off+k/b_)*b_+k%b_=off*b_+k:=by rw[Nat.add_mul,Nat.add_assoc];congr 1;rw[Nat.mul_comm];exact Nat.div_add_mod k b_
      rw[this] at bT
      rw[pt]
      simp only[World.cell?,f2,Option.isSome_none,Bool.false_eq_true,if_false]
      rw[bT];rfl
     refine⟨_,by simp only[Builtin.firstCells];exact run_loadCells w ⟨b,off*b_,none⟩ (len*b_) _ aG,?_⟩
     refine⟨by simp[hlen],fun i ab=>?_⟩
     have PD:i<len:=by rw[hlen] at ab;exact ab
     obtain⟨bW,e⟩:=kP i PD
     have bO:((blk.drop off).take len)[i]=blk[off+i]'(by omega):=by simp
     rw[bO]
     refine⟨e,fun j aO ag=>?_⟩
     obtain⟨lG,bT,cL⟩:=(f3 _ bW).2 j aO
     have:(off+i)*b_+j=off*b_+(i*b_+j):=by rw[Nat.add_mul];omega
     rw[this] at bT
     simp only[List.getElem_toArray,List.getElem_map,List.getElem_range]
     rw[bT];exact cL
 · cases he
theorem GB (n:Nat):∀(r c:Nat),256<=c->c<=2*n->Builtin.growBy n r c<=2*n
 | 0,c,_,h=>h
 | r+1,c,U,h2=>by
   unfold Builtin.growBy
   split
   · exact h2
   · exact GB n r _ (by omega) (by omega)
theorem PE {n c:Nat} (h:c<n):Builtin.nextslicecap n c<=2*n:=by
 unfold Builtin.nextslicecap
 split
 · omega
 · split
   · omega
   · exact GB n 4 c (by omega) (by omega)
theorem lY.append {ok:Nat->Prop} {sz:Nat} {xs ys:List J} {a1 e2:Array Value} (U:lY w ok σ sz xs a1) (h2:lY w ok σ sz ys e2):lY w ok σ sz (xs++ys) (a1++e2):=by
 refine⟨by simp[U.1,h2.1,Nat.add_mul],fun i ab=>?_⟩
 by_cases ae:i<xs.length
 · have e:(xs++ys)[i]=xs[i]:=List.getElem_append_left ae
   rw[e]
   refine⟨(U.2 i ae).1,fun j aO ag=>?_⟩
   have bF:i*sz+j<a1.size:=by rw[U.1];exact ov ae (by have:=(U.2 i ae).1;omega)
   rw[Array.getElem_append_left bF]
   exact (U.2 i ae).2 j aO bF
 · have a2:i - xs.length<ys.length:=by simp at ab;omega
   have e:(xs++ys)[i]=ys[i - xs.length]:=List.getElem_append_right (by omega)
   rw[e]
   refine⟨(h2.2 _ a2).1,fun j aO ag=>?_⟩
   have hle:xs.length*sz<=i*sz:=Nat.mul_le_mul_right _ (by omega)
   have bF:(i - xs.length)*sz+j<e2.size:=by rw[h2.1];exact ov a2 (by have:=(h2.2 _ a2).1;omega)
   have r4:a1.size<=i*sz+j:=by rw[U.1];omega
   rw[Array.getElem_append_right r4]
   have ax:i*sz+j - a1.size=(i - xs.length)*sz+j:=by rw[U.1,Nat.sub_mul];omega
   simp only[ax]
   exact (h2.2 _ a2).2 j aO bF
theorem GC {t u e e':TypeId} (aY:P.underlying t=some (.slice e)) (hu:P.underlying u=some (.slice e')) {sz bytes:Nat} (aE:jb P e=some sz) (aa:Be P e=some bytes) {z:J} (ay:zeroOf P e=some z)
 (A:Option Addr) (n c:Nat) (B:Option Addr) (m d:Nat) (GD:c<n+m) (c8:0<bytes) (r2:(n+m)*bytes<=35184372088832) {l0 new:Array Value}
 (aL:(Builtin.firstCells sz n (.slice A n c)).run P w.drew= .ok l0 w.drew) (az:(Builtin.firstCells sz m (.slice B m d)).run P w.drew= .ok new w.drew):
 ∃r5 rest,n+m<=r5/\(Builtin.append_ #[t,u] t #[.slice A n c,.slice B m d]).run P w= .ok (.slice (some ⟨w.heap.size,0,none⟩) (n+m) r5) (w.drew.alloc (.cells (l0++new++rest) e))/\(rest.size=(r5 -(n+m))*z.cells.length):=by
 obtain⟨aH,eb,iZ,xP,_⟩:=tH (P:=P) (w:=w.drew) (σ:=fun _=>none) (ok:=fun _=>True) ay
 obtain⟨i,ab,adR⟩:=Option.map_eq_some_iff.1 aE
 have Bz:i.bytes=bytes:=by
  obtain⟨iY,au,ax⟩:=Option.map_eq_some_iff.1 aa
  rw[ab] at au;cases au;exact ax
 have GF:=PE GD
 have PF:¬(Builtin.nextslicecap (n+m) c*i.bytes>2^48):=by
  rw[Bz]
  have:Builtin.nextslicecap (n+m) c*bytes<=2*(n+m)*bytes:=Nat.mul_le_mul_right _ GF
  rw[Nat.mul_assoc] at this
  omega
 have U:¬(n+m<=c):=by omega
 have lJ:i.bytes≠0:=by omega
 refine⟨(Question.appendCap (n+m) c e).cut (w.tape w.drawn (.appendCap (n+m) c e)),Builtin.zeroCells aH.cells ((Question.appendCap (n+m) c e).cut (w.tape w.drawn (.appendCap (n+m) c e)) -(n+m)),by simp[Question.cut],?_,by simp[Builtin.zeroCells,iZ.1]⟩
 simp[Builtin.append_,run_underlying aY,run_underlying hu,run_sizeOf aE,Builtin.lenOf,run_typeInfo ab,U,lJ,PF,Question.forced,aL,az,eb,newRow]
theorem cK.drew (H:cK base okin σ h w):cK base okin σ h w.drew/\Prog base okin σ h w σ h w.drew:=by
 have P:Prog base okin σ h w σ h w.drew:=⟨fun _ _ x=>x,fun _ _ aL=>⟨aL,rfl⟩,(Below.refl _ _).drew,fun _=>Nat.le_refl _⟩
 refine⟨⟨H.val,fun id fZ iC=>?_,H.inj,H.base⟩,P⟩
 obtain⟨b,s,a,t,au,ax,a9⟩:=H.blk id fZ iC
 refine⟨b,s,a,t,au,ax,fun i ab=>⟨(a9 i ab).1,fun j aO=>?_⟩⟩
 obtain⟨v,f1,f2⟩:=(a9 i ab).2 j aO
 exact ⟨v,f1,P.rep f2⟩
theorem cK.kill (H:cK base okin σ h w) (id:Nat):cK base okin σ {h with cells:=aw h.cells id none} w/\Prog base okin σ h w σ {h with cells:=aw h.cells id none} w:=by
 have P:Prog base okin σ h w σ {h with cells:=aw h.cells id none} w:=by
  refine⟨fun _ _ x=>x,fun b aa aL=>⟨?_,rfl⟩,Below.refl _ _,fun _=>Nat.le_refl _⟩
  rcases aL with aL|⟨U,h2⟩
  · exact .inl aL
  · refine .inr ⟨U,fun i s aE aG=>h2 i s aE ?_⟩
    by_cases e:i=id
    · simp[aw,e] at aG
    · simpa[aw,e] using aG
 refine⟨⟨H.val,fun i fZ iC=>?_,fun i iY b s aj U h2=>H.inj i iY b s aj ?_ ?_,H.base⟩,P⟩
 · by_cases e:i=id
   · simp[aw,e] at iC
   · have pq:h.cells i=some fZ:=by simpa[aw,e] using iC
     obtain⟨b,s,a,t,au,ax,a9⟩:=H.blk i fZ pq
     refine⟨b,s,a,t,au,ax,fun i ab=>⟨(a9 i ab).1,fun j aO=>?_⟩⟩
     obtain⟨v,f1,f2⟩:=(a9 i ab).2 j aO
     exact ⟨v,f1,P.rep f2⟩
 · by_cases e:i=id
   · simp[aw,e] at U
   · simpa[aw,e] using U
 · by_cases e:iY=id
   · simp[aw,e] at h2
   · simpa[aw,e] using h2
theorem lY.cell {ok:Nat->Prop} {sz:Nat} {es:List J} {arr:Array Value} (H:lY w ok σ sz es arr) (rest:Array Value) (i:Nat) (ab:i<es.length):
 es[i].cells.length=sz/\∀j (aO:j<es[i].cells.length),∃v,(arr++rest)[i*sz+j]? =some v/\bf w ok σ (es[i].cells[j]) v:=by
 refine⟨(H.2 i ab).1,fun j aO=>?_⟩
 have bF:i*sz+j<arr.size:=by rw[H.1];exact ov ab (by have:=(H.2 i ab).1;omega)
 exact ⟨_,by rw[Array.getElem?_append_left bF];exact Array.getElem?_eq_getElem bF,(H.2 i ab).2 j aO bF⟩
theorem xR {ys:List J} {sz:Nat} (h:(ys.all fun e=>e.cells.length == sz)=true):∀e∈ys,e.cells.length=sz:=fun e he=>by
 simpa using List.all_eq_true.1 h e he
theorem lY.vz {ok:Nat->Prop} {sz:Nat} {es:List J} {arr:Array Value} (H:lY w ok σ sz es arr) (aS:0<sz) (aE:∀e∈es,e.cells.all J.ch=true):∀v∈arr.toList,v.oneCell'=true:=by
 intro v aF
 obtain⟨k,ag,rfl⟩:=List.getElem_of_mem aF
 have jU:k<arr.size:=by simpa using ag
 have jG:k<es.length*sz:=by rw[<-H.1];exact jU
 have ab:k/sz<es.length:=Nat.div_lt_of_lt_mul (by rw[Nat.mul_comm];exact jG)
 have aO:=Nat.mod_lt k aS
 have e:k/sz*sz+k%sz=k:=by rw[Nat.mul_comm];exact Nat.div_add_mod k sz
 have aG:=(H.2 _ ab).1
 have r:=(H.2 _ ab).2 (k%sz) (by omega) (by rw[e];exact jU)
 have jd:=r.vz (List.all_eq_true.1 (aE _ (List.getElem_mem ab)) _ (List.getElem_mem (by omega)))
 simpa[e] using jd
theorem PG (H:cK base okin σ h w) (bG:ka G (bz base okin σ h) σ w F a) {r:Nat} (aU:σ r=none) {args:Array Operand} {argTypes:Array TypeId} {ty:TypeId} {lX:j7}
 (I:fN P (.call {callee:= .builtin .append,args,argTypes})=some lX) {bb:Nat} {v:J} {h':af} {c:dV}
 (he:evalOp bb r (a6.ev G F) h lX=some (v,h',c)):
 ∃bp cv a5,(Builtin.append_ argTypes ty (args.map a.eval)).run P w= .ok cv a5/\Prog base okin σ h w bp h' a5/\cK base okin bp h' a5/\bf a5 (bz base okin bp h') bp v cv/\∀id,id≠r->bp id=σ id:=by
 simp only[fN] at I
 split at I<;>try(cases I;done)
 rename_i t u X Y aY fF
 have BC:argTypes= #[t,u]:=by rw[<-Array.toList_inj];exact aY
 have r6:args= #[X,Y]:=by rw[<-Array.toList_inj];exact fF
 subst BC;subst r6
 split at I<;>try(cases I;done)
 rename_i e e' hu xS
 split at I<;>try(cases I;done)
 rename_i sz bytes z x y aE aa ay ae a2
 split at I<;>try(cases I;done)
 rename_i vI
 cases I
 simp only[evalOp] at he
 obtain⟨ys,ki,he⟩:=Option.bind_eq_some_iff.1 he
 split at he<;>try(cases he;done)
 rename_i nF
 obtain⟨bo,bB,bR⟩:=nF
 have GG:∀q∈ys,q.cells.length=sz:=fun q aT=>by
  have:=List.all_eq_true.1 bR q aT
  simp only[Bool.and_eq_true,beq_iff_eq] at this
  exact this.1
 have PH:∀q∈ys,q.cells.all J.ch=true:=fun q aT=>by
  have:=List.all_eq_true.1 bR q aT
  simp only[Bool.and_eq_true,beq_iff_eq] at this
  exact this.2
 have rx:=bG.dX ae
 have ry:=bG.dX a2
 obtain⟨vJ,vK⟩:=H.drew
 obtain⟨B,d,BD,new,xT,mU⟩:=xQ (P:=P) H ry ki GG bo
 obtain⟨adS,ph,GH,GI,BE,xU⟩:=xQ (P:=P) vJ (vK.rep ry) ki GG bo
 rw[BD] at GH;cases GH
 rw[BD] at xT BE
 have PI:(#[X,Y]:Array Operand).map a.eval= #[a.eval X,a.eval Y]:=by simp
 rw[PI,BD]
 have GJ:∀(A:Option Addr) (n dP:Nat),ys.length=0->n<=dP->
  (Builtin.append_ #[t,u] ty #[.slice A n dP,.slice B ys.length d]).run P w= .ok (.slice A n dP) w:=fun A n dP jW hle=>by
  have r7:new.toList= []:=List.eq_nil_of_length_eq_zero (by have:=mU.1;rw[jW,Nat.zero_mul] at this;simpa using this)
  rw[jW] at xT|-
  cases A<;>simp[Builtin.append_,run_underlying hu,run_underlying xS,run_sizeOf aE,Builtin.lenOf,hle,xT,r7,storeCells]
 split at he
 ·
  rename_i xs ex xV
  rw[xV] at rx
  split at he
  · rename_i jW
    cases he
    have nf:=rx.qC
    generalize kA:a.eval X=jo at nf rx
    cases nf with
    | sl _ _ A dP _ _ hle _ _ _ _ _=>
      refine⟨σ,_,w,GJ A xs.length dP jW hle,⟨fun _ _ x=>x,fun _ _ aL=>⟨aL,rfl⟩,Below.refl _ _,fun _=>Nat.le_refl _⟩,H,rx,fun _ _=>rfl⟩
  split at he<;>try(cases he;done)
  rename_i je
  obtain⟨dp,dr,gi,jV⟩:=je
  cases he
  have PJ:=xR jV
  obtain⟨A,dP,jr,l0,hold,Fold⟩:=xQ (P:=P) vJ (vK.rep rx) (ys:=xs) rfl PJ bo
  have GD:dP=xs.length:=by
   have nf:=rx.qC
   rw[jr] at nf
   cases nf with
   | sl _ _ _ _ _ _ _ h2=>exact h2 dp
  rw[jr] at hold|-
  obtain⟨r5,rest,bL,cj,dd⟩:=GC (P:=P) (w:=w) hu xS aE aa ay A xs.length dP B ys.length d (by omega) bB dr hold BE
  have BF:=Fold.append xU
  have vL:=vJ.alloc aU (xs++ys) (l0++GI++rest) e sz (fun i ab=>BF.cell rest i ab)
  refine⟨_,_,_,by simpa[Builtin.append_] using cj,vK.trans vL.2,vL.1,?_,fun id bC=>by simp[aw,bC]⟩
  refine .ref r 0 _ _ _ r5 w.heap.size sz (by simp[aw]) bL bL (fun _=>⟨by simp,?_⟩)
  rw[show w.heap.size=w.drew.heap.size from rfl,Bi]
  simp only[Array.size_append,Fold.1,xU.1,dd,vI]
  rw[<-Nat.add_mul,<-Nat.add_mul]
  exact Nat.le_of_eq (by congr 1;omega)
 ·
  rename_i id off len cap xV
  split at he
  · rename_i jW
    cases he
    rw[xV] at rx
    obtain⟨A,dP,b,b_,jr,bT,cL,fG,kb⟩:=rx.qD
    rw[jr] at rx|-
    exact ⟨σ,_,w,GJ A len dP jW cL,⟨fun _ _ x=>x,fun _ _ aL=>⟨aL,rfl⟩,Below.refl _ _,fun _=>Nat.le_refl _⟩,H,rx,fun _ _=>rfl⟩
  split at he<;>try(cases he;done)
  rename_i xW
  have xW:h.shut id=false:=by simpa using xW
  obtain⟨blk,nH,he⟩:=Option.bind_eq_some_iff.1 he
  split at he<;>try(cases he;done)
  rename_i je
  obtain⟨dp,dr,gi,jV⟩:=je
  rw[xV] at rx
  have GK:=xR jV
  obtain⟨A,dP,b,b_,jr,bT,cL,fG,kb⟩:=rx.qD
  obtain⟨j9,adT,arr,PK,f1,f2,f3⟩:=H.blk id blk nH
  rw[bT] at f1;cases f1
  have GL:0<blk.length->b_=sz:=fun aQ=>by
   have:=(f3 0 aQ).1
   have:=GK _ (List.getElem_mem aQ)
   omega
  have PL:iB w b=arr.size:=by unfold iB;rw[f2]
  have stay:len+ys.length<=dP->b_=sz->
   (Builtin.append_ #[t,u] ty #[.slice A len dP,.slice B ys.length d]).run P w= .ok (.slice A (len+ys.length) dP) (w.setRow b (arr.toList.take (off*sz+len*sz)++new.toList++arr.toList.drop (off*sz+len*sz+new.toList.length)).toArray)/\
     off*sz+len*sz+new.toList.length<=arr.toList.length:=by
   intro hle kj
   subst kj
   obtain⟨r6,BG⟩:=kb (by omega)
   rw[PL] at BG
   have xX:new.toList.length=ys.length*b_:=by simp[mU.1]
   have pv:off*b_+len*b_+new.toList.length<=arr.toList.length:=by
    rw[xX]
    have:(off+(len+ys.length))*b_<=(off+dP)*b_:=Nat.mul_le_mul_right _ (by omega)
    rw[Nat.add_mul,Nat.add_mul] at this
    simp;omega
   refine⟨?_,pv⟩
   have eN:=run_storeCells_at (P:=P) b (off*b_+len*b_) PK new.toList 0 arr w f2 (by simp only[Nat.add_zero];simpa using pv) (mU.vz bo PH)
   simp only[Nat.add_zero] at eN
   have PM:(⟨b,off*b_,none⟩:Addr).add (len*b_)=⟨b,off*b_+len*b_,none⟩:=pt _ _ _
   subst r6
   simp[Builtin.append_,run_underlying hu,run_underlying xS,run_sizeOf aE,Builtin.lenOf,hle,xT,PM,eN]
  have BH:∀(kj:b_=sz),off*sz+len*sz+new.toList.length<=arr.toList.length->∀i (ab:i<blk.length) j (aO:j<sz),¬(off+len<=i/\i<off+len+ys.length)->
   ∃v,(arr.toList.take (off*sz+len*sz)++new.toList++arr.toList.drop (off*sz+len*sz+new.toList.length)).toArray[i*sz+j]? =some v/\bf w (bz base okin σ h) σ (blk[i].cells[j]'(by rw[(f3 i ab).1,kj];exact aO)) v:=by
   intro kj pv i ab j aO xY
   subst kj
   obtain⟨v0,au,ax⟩:=(f3 i ab).2 j (by rw[(f3 i ab).1];exact aO)
   refine⟨v0,?_,ax⟩
   have bF:=(Array.getElem?_eq_some_iff.1 au).1
   have lH:=(Array.getElem?_eq_some_iff.1 au).2
   have xX:new.toList.length=ys.length*b_:=by simp[mU.1]
   rw[List.getElem?_toArray,List.getElem?_eq_getElem (by simp at pv|-;omega),qE pv _ _ (by simpa using bF),dif_neg]
   · simpa using lH
   · rw[xX]
     rintro ⟨eb,iZ⟩
     apply xY
     have a9:off*b_+len*b_=(off+len)*b_:=by rw[Nat.add_mul]
     have bX:off*b_+len*b_+ys.length*b_=(off+len+ys.length)*b_:=by rw[Nat.add_mul,Nat.add_mul]
     rw[a9] at eb
     rw[bX] at iZ
     constructor
     · refine Nat.le_of_not_lt fun PN=>?_
       have:=ov PN aO;omega
     · refine Nat.lt_of_not_le fun PO=>?_
       have:(off+len+ys.length)*b_<=i*b_:=Nat.mul_le_mul_right _ PO
       omega
  have BI:off*sz+len*sz+new.toList.length<=arr.toList.length->∀i (ab:i<ys.length) j (aO:j<sz),
   ∃v,(arr.toList.take (off*sz+len*sz)++new.toList++arr.toList.drop (off*sz+len*sz+new.toList.length)).toArray[(off+len+i)*sz+j]? =some v/\bf w (bz base okin σ h) σ (ys[i].cells[j]'(by rw[(mU.2 i ab).1];exact aO)) v:=by
   intro pv i ab j aO
   have xX:new.toList.length=ys.length*sz:=by simp[mU.1]
   have bF:=ov ab aO
   have a9:(off+len+i)*sz+j=off*sz+len*sz+(i*sz+j):=by rw[Nat.add_mul,Nat.add_mul];omega
   have lo:(off+len+i)*sz+j<arr.toList.length:=by omega
   rw[List.getElem?_toArray,List.getElem?_eq_getElem (by simp at pv lo|-;omega)]
   refine⟨_,rfl,?_⟩
   rw[qE pv _ _ lo,dif_pos (by omega)]
   have fc:(off+len+i)*sz+j -(off*sz+len*sz)=i*sz+j:=by omega
   have ag:i*sz+j<new.size:=by rw[mU.1];exact bF
   have:=(mU.2 i ab).2 j (by rw[(mU.2 i ab).1];exact aO) ag
   simpa[fc] using this
  have GM:∀(o:Nat),o+new.toList.length<=arr.toList.length->arr.size<=(arr.toList.take o++new.toList++arr.toList.drop (o+new.toList.length)).toArray.size:=by
   intro o aL
   simp at aL|-;omega
  split at he
  ·
   rename_i BG
   split at he<;>try(cases he;done)
   rename_i GF
   cases he
   have kj:=GL (by omega)
   obtain⟨s1,s2⟩:=stay (by omega) kj
   rw[jr]
   have W:=H.write (blk':=blk.take (off+len)++ys++blk.drop (off+len+ys.length)) (arr':=(arr.toList.take (off*sz+len*sz)++new.toList++arr.toList.drop (off*sz+len*sz+new.toList.length)).toArray) nH xW bT f2 (GM _ s2) (fun i ab=>by
    have k6:off+len+ys.length<=blk.length:=by omega
    have bW:i<blk.length:=by simp at ab;omega
    have bO:=qE (cs:=blk) (vs:=ys) (off:=off+len) k6 i ab bW
    rw[bO]
    by_cases cS:off+len<=i/\i<off+len+ys.length
    · simp only[dif_pos cS]
      refine⟨by rw[kj];exact (mU.2 _ (by omega)).1,fun j aO=>?_⟩
      have kh:j<sz:=by have:=(mU.2 (i -(off+len)) (by omega)).1;omega
      obtain⟨v,ll,ln⟩:=BI s2 (i -(off+len)) (by omega) j kh
      have:off+len+(i -(off+len))=i:=by omega
      rw[this] at ll
      exact ⟨v,by rw[kj];exact ll,ln⟩
    · simp only[dif_neg cS]
      refine⟨(f3 i bW).1,fun j aO=>?_⟩
      obtain⟨v,ll,ln⟩:=BH kj s2 i bW j (by rw[<-kj,<-(f3 i bW).1];exact aO) cS
      exact ⟨v,by rw[kj];exact ll,ln⟩)
   refine⟨σ,_,_,s1,W.2,W.1,?_,fun _ _=>rfl⟩
   exact .ref id off _ cap A dP b b_ bT (by omega) fG (fun jf=>⟨(kb jf).1,Nat.le_trans (kb jf).2 (W.2.grow b)⟩)
  · rename_i BG
    split at he<;>try(cases he;done)
    rename_i BJ
    cases he
    obtain⟨BJ,adU⟩:=BJ
    subst BJ
    have kj:=GL (by omega)
    rw[jr]
    by_cases lo:len+ys.length<=dP
    ·
     obtain⟨s1,s2⟩:=stay lo kj
     simp only[Nat.zero_mul,Nat.zero_add] at s1 s2 BH BI
     have R:=H.rename (r:=r) (blk':=blk.take len++ys) (arr':=(arr.toList.take (len*sz)++new.toList++arr.toList.drop (len*sz+new.toList.length)).toArray) nH xW aU bT f2 (GM _ s2) (fun i ab=>by
      by_cases cS:i<len
      · have bO:(blk.take len++ys)[i]=blk[i]'(by omega):=by
         rw[List.getElem_append_left (by simp;omega)];simp
        rw[bO]
        refine⟨(f3 i (by omega)).1,fun j aO=>?_⟩
        obtain⟨v,ll,ln⟩:=BH kj s2 i (by omega) j (by rw[<-kj,<-(f3 i (by omega)).1];exact aO) (by omega)
        exact ⟨v,by rw[kj];exact ll,ln⟩
      · have py:min len blk.length=len:=by omega
        have bW:i - len<ys.length:=by simp[py] at ab;omega
        have bO:(blk.take len++ys)[i]=ys[i - len]:=by
         rw[List.getElem_append_right (by simp;omega)];simp[py]
        rw[bO]
        refine⟨by rw[kj];exact (mU.2 _ bW).1,fun j aO=>?_⟩
        obtain⟨v,ll,ln⟩:=BI s2 (i - len) bW j (by rw[<-(mU.2 _ bW).1];exact aO)
        have:len+(i - len)=i:=by omega
        rw[this] at ll
        exact ⟨v,by rw[kj];exact ll,ln⟩)
     refine⟨_,_,_,s1,R.2,R.1,?_,fun gh bC=>by simp[aw,bC]⟩
     refine .ref r 0 _ _ A dP b b_ (by simp[aw]) lo lo (fun jf=>⟨(kb jf).1,Nat.le_trans (kb jf).2 (R.2.grow b)⟩)
    ·
     obtain⟨PQ,GN⟩:=vJ.kill id
     have nI:elems h (.ref id 0 len cap)=some (blk.take len):=by
      simp only[elems,nH];rw[if_pos dp];simp
     have PR:bf w (bz base okin σ h) σ (.ref id 0 len cap) (a.eval X):=rx
     have pz:(blk.take len).length=len:=by simp;omega
     obtain⟨adV,c',GO,l0,hold,Fold⟩:=xQ (P:=P) vJ (vK.rep PR) nI (fun q aT=>GK q (List.mem_of_mem_take aT)) bo
     rw[jr,pz] at GO;cases GO
     rw[jr,pz] at hold
     obtain⟨r5,rest,bL,cj,dd⟩:=GC (P:=P) (w:=w) hu xS aE aa ay A len dP B ys.length d (by omega) bB dr hold BE
     have BF:=Fold.append xU
     have vL:=PQ.alloc aU (blk.take len++ys) (l0++GI++rest) e sz (fun i ab=>by
      obtain⟨eb,iZ⟩:=BF.cell rest i ab
      refine⟨eb,fun j aO=>?_⟩
      obtain⟨v,y1,ed⟩:=iZ j aO
      exact ⟨v,y1,GN.rep ed⟩)
     refine⟨_,_,_,by simpa[Builtin.append_] using cj,(vK.trans GN).trans vL.2,vL.1,?_,fun gh bC=>by simp[aw,bC]⟩
     refine .ref r 0 _ _ _ r5 w.heap.size sz (by simp[aw]) bL bL (fun _=>⟨by simp,?_⟩)
     rw[show w.heap.size=w.drew.heap.size from rfl,Bi]
     simp only[Array.size_append,Fold.1,xU.1,dd,vI,pz]
     rw[<-Nat.add_mul,<-Nat.add_mul]
     exact Nat.le_of_eq (by congr 1;omega)
 · cases he
end
end Go.Eng
namespace Go.Eng
open Go Go.RowKit
section
variable {P:Program} {w:World} {σ:Nat->Option (Nat × Nat)}
theorem GP {e:TypeId} {k:IntKind} (hu:P.underlying e=some (.int k)) (cs:Array Value) (i:Nat) (v:Value) (h:cs[i]? =some v):(part e cs i).run P w= .ok v w:=by
 have dG:mR P e=some false:=by simp[mR,hu]
 simp[part,vB dG,h]
theorem GQ:∀ {xs ys:List J} {b:Bool},eY xs ys=some b->xs.length=ys.length/\
 ∀i (h:i<xs.length) (h':i<ys.length),∃k x y,xs[i]= .int k x/\ys[i]= .int k y
 | [],[],b,_=>⟨rfl,fun i h=>absurd h (by simp)⟩
 | .int k x::xs,.int k' y::ys,b,h=>by
   simp only[eY] at h
   split at h
   · rename_i ag
     subst ag
     obtain⟨r,U,_⟩:=Option.map_eq_some_iff.1 h
     obtain⟨l,q⟩:=GQ U
     refine⟨by simp[l],fun i ab bW=>?_⟩
     cases i with
     | zero=>exact ⟨k,x,y,rfl,rfl⟩
     | succ i=>exact q i (by simpa using ab) (by simpa using bW)
   · cases h
theorem GR {e:TypeId} {jH:IntKind} (hu:P.underlying e=some (.int jH)) (d:Nat) (xs ys:Array Value):∀(l:List Nat),
 (∀i∈l,∃k x y,xs[i]? =some (.int k x)/\ys[i]? =some (.int k y))->
 (forIn l ((none,()):Option Bool × Unit) (fun i adW=>do
         let BK <-part e xs (i*1)
         let PS <-part e ys (i*1)
         let BK <-Op.equalIn (d+1) e BK PS
         if (!BK)=true then pure (ForInStep.done (some false,())) else pure (ForInStep.yield (none,()))):Sem (Option Bool × Unit)).run P w
   = .ok (if l.all (fun i=>match xs[i]?,ys[i]? with
       | some (.int _ x),some (.int _ y)=>x == y
       | _,_=>false) then (none,()) else (some false,())) w
 | [],_=>by simp
 | i::l,h=>by
   obtain⟨k,x,y,au,ax⟩:=h i (by simp)
   have bj:=GR hu d xs ys l (fun j aO=>h j (by simp[aO]))
   rw[List.forIn_cons]
   have heq:(Op.equalIn (d+1) e (.int k x) (.int k y)).run P w= .ok (x == y) w:=by
    unfold Op.equalIn
    simp[run_underlying hu]
   simp only[Sem.run_bind,Nat.mul_one,GP hu xs i _ au,GP hu ys i _ ax,Result.andThen_ok,heq,List.all_cons,au,ax]
   by_cases nj:x=y
   · subst nj
     simp only[Nat.mul_one] at bj
     simp only[beq_self_eq_true,Bool.not_true,Bool.false_eq_true,if_false,Sem.run_pure,Result.andThen_ok,Bool.true_and]
     exact bj
   · have:(x == y)=false:=by simpa using nj
     simp[this]
theorem GS:∀ {xs ys:List J} {b:Bool} (vM vN:Nat->Option Value),eY xs ys=some b->
 (∀i (h:i<xs.length) k x,xs[i]= .int k x->vM i=some (.int k x))->(∀i (h:i<ys.length) k y,ys[i]= .int k y->vN i=some (.int k y))->
 ((List.range' 0 xs.length).all fun i=>match vM i,vN i with
       | some (.int _ x),some (.int _ y)=>x == y
       | _,_=>false)=b
 | [],[],b,vM,vN,h,_,_=>by simp only[eY] at h;cases h;rfl
 | .int k x::xs,.int k' y::ys,b,vM,vN,h,ae,a2=>by
   simp only[eY] at h
   split at h
   · rename_i ag
     subst ag
     obtain⟨r,U,h2⟩:=Option.map_eq_some_iff.1 h
     have bj:=GS (fun i=>vM (i+1)) (fun i=>vN (i+1)) U (fun i ab k x cS=>ae (i+1) (by simpa using ab) k x (by simpa using cS)) (fun i ab k y cS=>a2 (i+1) (by simpa using ab) k y (by simpa using cS))
     have a0:=ae 0 (by simp) k x rfl
     have b0:=a2 0 (by simp) k y rfl
     rw[<-h2,<-bj]
     simp only[List.length_cons,List.range'_succ,List.all_cons,a0,b0,Nat.zero_add]
     congr 1
     rw[<-List.map_add_range' (a:=1) (s:=0),List.all_map]
     congr 1
     funext i
     simp[Nat.add_comm]
   · cases h
theorem PT {ok:Nat->Prop} {t e:TypeId} {n:Nat} {jH:IntKind} (aY:P.underlying t=some (.array n e)) (aE:jb P e=some 1) (hu:P.underlying e=some (.int jH)) {xs ys:List J} {jo jc:Value}
 (ae:bf w ok σ (.agg xs) jo) (a2:bf w ok σ (.agg ys) jc) {b:Bool} (aa:eY xs ys=some b) (az:xs.length=n):
 (Op.equal t jo jc).run P w= .ok b w/\∃lK nk,jo= .agg lK/\jc= .agg nk:=by
 obtain⟨lK,rfl,cp,bJ⟩:=ae.tz
 obtain⟨nk,rfl,ea,dh⟩:=a2.tz
 refine⟨?_,lK,nk,rfl,rfl⟩
 obtain⟨aG,ag⟩:=GQ aa
 show (Op.equalIn (9999+1) t (.agg lK) (.agg nk)).run P w=_
 unfold Op.equalIn
 simp only[Sem.run_bind,run_underlying aY,Result.andThen_ok,run_sizeOf aE]
 rw[Std.Legacy.Range.forIn_eq_forIn_range']
 simp only[Std.Legacy.Range.size,Nat.sub_zero,Nat.add_sub_cancel,Nat.div_one]
 have L:=GR (w:=w) hu 9998 lK nk (List.range' 0 n) (fun i ab=>by
  have bW:i<n:=by simpa using ab
  obtain⟨k,x,y,au,ax⟩:=ag i (by omega) (by omega)
  have a1:=bJ i (by omega) (by omega)
  have e2:=dh i (by omega) (by omega)
  rw[au] at a1;rw[ax] at e2
  exact ⟨k,x,y,by rw[Array.getElem?_eq_getElem (by omega),a1.jF],by rw[Array.getElem?_eq_getElem (by omega),e2.jF]⟩)
 have A:=GS (fun i=>lK[i]?) (fun i=>nk[i]?) aa
  (fun i ab k x cS=>by
    have a1:=bJ i ab (by omega)
    rw[cS] at a1
    rw[Array.getElem?_eq_getElem (by omega),a1.jF])
  (fun i ab k y cS=>by
    have a1:=dh i ab (by omega)
    rw[cS] at a1
    rw[Array.getElem?_eq_getElem (by omega),a1.jF])
 rw[az] at A
 simp only[A] at L
 simp only[L,Result.andThen_ok]
 cases b<;>simp
end
end Go.Eng
namespace Go.Eng
open Go Go.RowKit
section
variable {P:Program} {base:Nat} {okin:Nat->Prop} {σ:Nat->Option (Nat × Nat)} {h:af} {w:World} {G:Nat->Option J} {F:Nat->J} {a:Act}
theorem GU (ok:Nat->Prop):∀(xs:List J) (k:IntKind) (x:Int) (cs:List Value) (v:J),jm (fun a b=>if b<a then b else a) (.int k x::xs)=some v->
 xs.length=cs.length->(∀i (h:i<xs.length) (h':i<cs.length),bf w ok σ xs[i] cs[i])->
 ∃cv,(cs.foldlM Builtin.min2 (.int k x):Sem Value).run P w= .ok cv w/\bf w ok σ v cv
 | [],k,x,cs,v,h,aG,_=>by
   have:cs= []:=List.eq_nil_of_length_eq_zero (by simpa using aG.symm)
   subst this
   simp only[jm] at h;cases h
   exact ⟨.int k x,by simp,.val _ _ (.int _ _)⟩
 | y::xs,k,x,[],v,h,aG,_=>by simp at aG
 | y::xs,k,x,c::cs,v,h,aG,aU=>by
   have r0:=aU 0 (by simp) (by simp)
   simp only[List.getElem_cons_zero] at r0
   cases y<;>simp only[jm] at h<;>try(cases h;done)
   rename_i k' y
   split at h<;>try(cases h;done)
   rename_i ag
   subst ag
   rw[r0.jF]
   obtain⟨cv,au,ax⟩:=GU ok xs k (if y<x then y else x) cs v h (by simpa using aG) (fun i ab bW=>by
    have:=aU (i+1) (by simp;omega) (by simp;omega)
    simpa using this)
   exact ⟨cv,by simpa[List.foldlM_cons,Builtin.min2] using au,ax⟩
theorem GV (ok:Nat->Prop):∀(xs:List J) (k:IntKind) (x:Int) (cs:List Value) (v:J),jm (fun a b=>if a<b then b else a) (.int k x::xs)=some v->
 xs.length=cs.length->(∀i (h:i<xs.length) (h':i<cs.length),bf w ok σ xs[i] cs[i])->
 ∃cv,(cs.foldlM Builtin.max2 (.int k x):Sem Value).run P w= .ok cv w/\bf w ok σ v cv
 | [],k,x,cs,v,h,aG,_=>by
   have:cs= []:=List.eq_nil_of_length_eq_zero (by simpa using aG.symm)
   subst this
   simp only[jm] at h;cases h
   exact ⟨.int k x,by simp,.val _ _ (.int _ _)⟩
 | y::xs,k,x,[],v,h,aG,_=>by simp at aG
 | y::xs,k,x,c::cs,v,h,aG,aU=>by
   have r0:=aU 0 (by simp) (by simp)
   simp only[List.getElem_cons_zero] at r0
   cases y<;>simp only[jm] at h<;>try(cases h;done)
   rename_i k' y
   split at h<;>try(cases h;done)
   rename_i ag
   subst ag
   rw[r0.jF]
   obtain⟨cv,au,ax⟩:=GV ok xs k (if x<y then y else x) cs v h (by simpa using aG) (fun i ab bW=>by
    have:=aU (i+1) (by simp;omega) (by simp;omega)
    simpa using this)
   exact ⟨cv,by simpa[List.foldlM_cons,Builtin.max2] using au,ax⟩
theorem GW {f:Field} {sz:Nat} (aE:jb P f.type=some sz) (aQ:sz≠0) (cy:Addr):(fieldPlace cy f).run P w= .ok (cy.add f.offset) w:=by
 simp[fieldPlace,run_sizeOf aE,aQ]
theorem GX {ok:Nat->Prop} {v:J} {cy:Addr} {eo:Nat->Value} (bT:∀j,j<v.cells.length->ok cy.block/\w.cell? (cy.add j)=some (eo j)) (cL:∀j (h:j<v.cells.length),dy w ok (v.cells[j]) (eo j))
 {off sz:Nat} {bZ:Bool} {cs:List J} {u:J} (I:cut v.cells off sz=some cs) (aS:partOf bZ cs=some u):bf w ok σ (.eV u) (.pointer (some (cy.add off))):=by
 obtain⟨cn,cd,dc⟩:=tA I
 have PU:∀j,j<cs.length->ok (cy.add off).block/\w.cell? ((cy.add off).add j)=some (eo (off+j)):=by
  intro j aO
  obtain⟨jT,d'⟩:=bT (off+j) (by omega)
  refine⟨by rw[Addr.qA];exact jT,?_⟩
  have PV:cy.spot=none\/0<off+j:=by
   by_cases aQ:0<off+j
   · exact .inr aQ
   · have pA:off+j=0:=by omega
     rw[pA] at d'
     refine .inl ?_
     cases aE:cy.spot with
     | none=>rfl
     | some s=>
       have e:cy.add 0=cy:=by unfold Addr.add;simp
       rw[e] at d'
       unfold World.cell? at d'
       simp only[aE,Option.isSome_some,if_true] at d'
       split at d'<;>cases d'
  rw[add_add _ _ _ PV];exact d'
 have hu:u.cells=cs:=by
  rcases Bl aS with⟨rfl,rfl⟩|⟨rfl,rfl,aE⟩
  · rfl
  · cases u<;>first|rfl|simp[J.ch] at aE
 refine .eV u _ (fun j=>eo (off+j)) (fun j aO=>PU j (by rw[<-hu];exact aO)) (fun j aO=>?_)
 have kh:j<cs.length:=by rw[<-hu];exact aO
 have e:u.cells[j]=v.cells[off+j]'(by omega):=by
  have:=dc j kh (by omega)
  simp only[hu];exact this
 rw[e];exact cL _ _
theorem xZ {x:Sem Next} {s:Sem Value} (ae:x=(do pure (.value (<-s)))) {cv:Value} {a5:World} (e:s.run P w= .ok cv a5):x.run P w= .ok (.value cv) a5:=by
 rw[ae];simp[e]
theorem cK.sized (H:cK base okin σ h w) {id b sz s:Nat} (aE:σ id=some (b,sz)) (aa:sizedB s (h.cells id)=true):sz=s:=by
 cases I:h.cells id with
 | none=>rw[I] at aa;cases aa
 | some blk=>
   rw[I] at aa
   simp only[sizedB,Bool.and_eq_true,decide_eq_true_eq] at aa
   obtain⟨j9,fO,arr,ty,au,_,a9⟩:=H.blk id blk I
   rw[aE] at au;cases au
   have U:=(a9 0 aa.1).1
   have h2:=xR aa.2 _ (List.getElem_mem aa.1)
   omega
theorem PW {v:Value} (h:qz v=some (.sl [] true)):v= .slice none 0 0:=by
 unfold qz at h
 split at h
 · obtain⟨as,_,e⟩:=Option.map_eq_some_iff.1 h;cases e
 · unfold qy at h
   split at h<;>first|rfl|cases h
theorem PX {op:BinOp} {t e:TypeId} {x y:Operand} {A:Option Addr} {l c:Nat} (hu:P.underlying t=some (.slice e)) (bg:A.isSome=true) (neg:Bool) (aL:op=if neg then .neq else .eql):
 (do eqGuard op t x y (.slice A l c) (.slice none 0 0);binOp op t (.slice A l c) (.slice none 0 0):Sem Value).run P w= .ok (.bool neg) w:=by
 obtain⟨cy,rfl⟩:=Option.isSome_iff_exists.1 bg
 have au:(Op.equal t (.slice (some cy) l c) (.slice none 0 0)).run P w= .ok false w:=by
  unfold Op.equal Op.maxDepth Op.equalIn
  simp[run_underlying hu]
 cases neg
 · simp only[Bool.false_eq_true,if_false] at aL
   subst aL
   have ax:(binOp .eql t (.slice (some cy) l c) (.slice none 0 0)).run P w= .ok (.bool false) w:=by
    show (do pure (.bool (<-Op.equal t (.slice (some cy) l c) (.slice none 0 0))):Sem Value).run P w=_
    simp[au]
   simp[eqGuard,ax]
 · simp only[if_true] at aL
   subst aL
   have ax:(binOp .neq t (.slice (some cy) l c) (.slice none 0 0)).run P w= .ok (.bool true) w:=by
    show (do pure (.bool !(<-Op.equal t (.slice (some cy) l c) (.slice none 0 0))):Sem Value).run P w=_
    simp[au]
   simp[eqGuard,ax]
theorem GY (H:cK base okin σ h w) (bG:ka G (bz base okin σ h) σ w F a) {bb r:Nat} {o:Oper} {op:BinOp} {t e GZ:TypeId} {x y:Operand} {ky:a6} (cM:o.op= .binOp op t x y GZ) (hu:P.underlying t=some (.slice e)) (U:ei x=some ky) (h2:ei y=some (.c (.sl [] true)))
 (neg:Bool) (aL:op=if neg then .neq else .eql) {v:J} {h':af} {c:dV} (he:evalOp bb r (a6.ev G F) h (.isnil neg ky)=some (v,h',c)):tB base okin σ h w r v h' ((execOp a.eval o).run P w):=by
 have a2:a.eval y= .slice none 0 0:=by
  cases y with
  | const k=>
    obtain⟨z,ay,e⟩:=Option.map_eq_some_iff.1 h2
    cases e
    exact PW ay
  | _=>cases h2
 have rx:=bG.dX U
 have fin:∀A l dP,a.eval x= .slice A l dP->A.isSome=true->tB base okin σ h w r (.bool neg) h ((execOp a.eval o).run P w):=by
  intro A l dP ex bg
  have ax:=PX (P:=P) (w:=w) (x:=x) (y:=y) (l:=l) (c:=dP) hu bg neg aL
  rw[<-ex,<-a2] at ax
  exact .pure H (cv:= .bool neg) (xZ (by simp only[execOp,cM]) ax) (.val _ _ (.bool _))
 simp only[evalOp] at he
 split at he<;>try(cases he;done)
 · rename_i xs ex aF
   split at he<;>try(cases he;done)
   rename_i r8
   cases he
   rw[aF] at rx
   have aU:=rx.qC
   generalize kA:a.eval x=jo at aU
   cases aU with
   | sl _ _ A c _ _ _ _ _ _ cr _=>exact fin _ _ _ kA (cr r8)
 · rename_i id off len cap aF
   split at he<;>try(cases he;done)
   rename_i r8
   cases he
   rw[aF] at rx
   obtain⟨A,c,b,sz,jr,_,cp,adX,ea⟩:=rx.qD
   obtain⟨rfl,_⟩:=ea (by omega)
   exact fin _ _ _ jr rfl
theorem G0:∀(m:List (Int × FuncId)) (n:Int) (es:List MapEntry) (i:Nat),es.length=m.length->(∀j (h:j<m.length) (h':j<es.length),es[j].key= .int .i64 m[j].1/\es[j].val= .func (.func m[j].2) #[] #[])->
 ∃r,Instr.findNow (.int .i64) (.int .i64 n) es i=some r/\r.map (·.2)=(m.lookup n).map fun f=>Value.func (.func f) #[] #[]
 | [],n,[],i,_,_=>⟨none,rfl,rfl⟩
 | (k,f)::m,n,e::es,i,aG,ae=>by
   obtain⟨au,ax⟩:=ae 0 (by simp) (by simp)
   simp only[List.getElem_cons_zero] at au ax
   unfold Instr.findNow
   rw[au]
   by_cases ag:n=k
   · subst ag
     refine⟨some (i,e.val),by simp[Instr.sameNow],by simp[ax]⟩
   · obtain⟨r,U,h2⟩:=G0 m n es (i+1) (by simpa using aG) (fun j h h'=>by have:=ae (j+1) (by simp;omega) (by simp;omega);simp only[List.getElem_cons_succ] at this;exact this)
     have aa:(n == k)=false:=by simpa using ag
     refine⟨r,by simp[Instr.sameNow,aa,U],?_⟩
     rw[h2,List.lookup_cons]
     simp[aa]
 | [],_,_::_,_,aG,_=>by simp at aG
 | _::_,_,[],_,aG,_=>by simp at aG
theorem PY (H:cK base okin σ h w) (bG:ka G (bz base okin σ h) σ w F a) {bb r:Nat} (aU:σ r=none) (o:Oper) {lX:j7} (I:fN P o.op=some lX)
 {v:J} {h':af} {c:dV} (he:evalOp bb r (a6.ev G F) h lX=some (v,h',c)):
 tB base okin σ h w r v h' ((execOp a.eval o).run P w):=by
 cases cM:o.op<;>rw[cM] at I<;>try(simp only[fN] at I;cases I;done)
 case panic x=>
  simp only[fN] at I;cases I
  simp only[evalOp,a6.ev] at he;cases he
 case move x=>
  obtain⟨y,a2,rfl⟩:=Option.map_eq_some_iff.1 I
  simp only[evalOp] at he;cases he
  exact .pure H (by simp[execOp,cM]) (bG.dX a2)
 case assign x=>
  obtain⟨y,a2,rfl⟩:=Option.map_eq_some_iff.1 I
  simp only[evalOp] at he;cases he
  exact .pure H (by simp[execOp,cM]) (bG.dX a2)
 case pick dP x y=>
  simp only[fN] at I
  split at I<;>try(cases I;done)
  rename_i c' ky oq U h2 aN
  cases I
  simp only[evalOp] at he
  split at he<;>try(cases he;done)
  rename_i t aY
  cases he
  have aa:=bG.dX U
  rw[aY] at aa
  refine .pure H (cv:=if t then a.eval x else a.eval y) (by simp[execOp,cM,aa.qB,asBool]) ?_
  cases t
  · exact bG.dX aN
  · exact bG.dX h2
 case alloc e=>
  obtain⟨z,ay,rfl⟩:=Option.map_eq_some_iff.1 I
  simp only[evalOp] at he;cases he
  obtain⟨aH,eb,iZ,xP,PZ,_⟩:=tH (P:=P) (w:=w) (σ:=σ) (ok:=bz base okin σ h) ay
  obtain⟨bp,a5,au,ax,a9,bX,fc⟩:=Gw (P:=P) H aU (t:=e) (bf.val _ _ PZ) xP
  exact ⟨bp,_,a5,.inl (by simp[execOp,cM,Instr.alloc,eb,au]),ax,a9,bX,fc⟩
 case box e x=>
  obtain⟨y,a2,rfl⟩:=Option.map_eq_some_iff.1 I
  simp only[evalOp] at he
  split at he<;>try(cases he;done)
  rename_i aE
  cases he
  obtain⟨bp,a5,au,ax,a9,bX,fc⟩:=Gw (P:=P) H aU (t:=e) (bG.dX a2) aE
  exact ⟨bp,_,a5,.inl (by simp[execOp,cM,Instr.box,au]),ax,a9,bX,fc⟩
 case build t ps=>
  obtain⟨rfl,cv,au,ax⟩:=Pp bG I he
  exact .pure H (by simp[execOp,cM] at au|-;simp[au]) ax
 case buildSlice t n ps=>
  obtain⟨rfl,cv,a5,au,ax,a9,bX⟩:=Pv H bG I he
  exact ⟨σ,cv,a5,.inl (by simp[execOp,cM] at au|-;simp[au]),ax,a9,bX,fun _ _=>rfl⟩
 case load t x=>
  simp only[fN] at I
  split at I<;>try(cases I;done)
  rename_i bZ s y U h2 aN
  split at I<;>try(cases I;done)
  rename_i a8
  cases I
  obtain⟨rfl,cv,au,ax⟩:=Pd (P:=P) H U h2 a8 (bG.dX aN) he
  exact .pure H (by simp[execOp,cM,au]) ax
 case store t x y=>
  simp only[fN] at I
  split at I<;>try(cases I;done)
  rename_i s ky oq U h2 aN
  cases I
  obtain⟨rfl,a5,au,ax,a9⟩:=Pe (P:=P) H U (bG.dX h2) (bG.dX aN) he
  exact ⟨σ,undef,a5,.inr ⟨by simp[execOp,cM,au],rfl⟩,ax,a9,.undef _,fun _ _=>rfl⟩
 case binOp op t x y GZ=>
  simp only[fN] at I
  split at I<;>try(cases I;done)
  rename_i ky oq U h2
  split at I<;>try(cases I;done)
  · cases I
    simp only[evalOp] at he
    obtain⟨u,aF,he⟩:=Option.map_eq_some_iff.1 he
    cases he
    obtain⟨cv,au,ax⟩:=Bt (P:=P) 0 op t x y (bG.dX U) (bG.dX h2) aF (fun e=>absurd e (by decide))
    exact .pure H (xZ (by simp only[execOp,cM]) au) ax
  · rename_i hu
    cases I
    simp only[evalOp] at he
    obtain⟨u,aF,he⟩:=Option.map_eq_some_iff.1 he
    cases he
    obtain⟨cv,au,ax⟩:=Bt (P:=P) 1 op t x y (bG.dX U) (bG.dX h2) aF (fun _=>hu)
    exact .pure H (xZ (by simp only[execOp,cM]) au) ax
  · cases I
    simp only[evalOp] at he
    obtain⟨u,aF,he⟩:=Option.map_eq_some_iff.1 he
    cases he
    obtain⟨cv,au,ax⟩:=Bt (P:=P) 2 op t x y (bG.dX U) (bG.dX h2) aF (fun e=>absurd e (by decide))
    exact .pure H (xZ (by simp only[execOp,cM]) au) ax
  · rename_i n e hu
    split at I<;>try(cases I;done)
    rename_i k G1 ou
    have P0:∃d,P.depth=d+1+1:=⟨2*(P.types.size+Made.depth),rfl⟩
    have P1:P.eqGuardType P.depth t=false:=by
     obtain⟨d,bk⟩:=P0
     rw[bk]
     simp[Program.eqGuardType,hu,G1]
    have main:∀neg,j7.eqA neg n ky oq=lX->(op=if neg then .neq else .eql)->tB base okin σ h w r v h' ((execOp a.eval o).run P w):=by
     rintro neg rfl x3
     simp only[evalOp] at he
     split at he<;>try(cases he;done)
     rename_i xs ys ae a2
     split at he<;>try(cases he;done)
     rename_i az
     obtain⟨b,aa,he⟩:=Option.map_eq_some_iff.1 he
     cases he
     have rx:=bG.dX U
     have ry:=bG.dX h2
     rw[ae] at rx;rw[a2] at ry
     obtain⟨au,lK,nk,ex,r9⟩:=PT (P:=P) hu ou G1 rx ry aa az
     rw[ex,r9] at au
     have ba:=run_eqGuard_agg w op t x y lK nk P1
     refine .pure H (cv:= .bool (b != neg)) ?_ (.val _ _ (.bool _))
     cases neg
     · simp only[Bool.false_eq_true,if_false] at x3
       subst x3
       have ax:(binOp .eql t (.agg lK) (.agg nk)).run P w= .ok (.bool b) w:=by
        show (do pure (.bool (<-Op.equal t (.agg lK) (.agg nk))):Sem Value).run P w=_
        simp[au]
       simp[execOp,cM,ex,r9,ba,ax]
     · simp only[if_true] at x3
       subst x3
       have ax:(binOp .neq t (.agg lK) (.agg nk)).run P w= .ok (.bool !b) w:=by
        show (do pure (.bool !(<-Op.equal t (.agg lK) (.agg nk))):Sem Value).run P w=_
        simp[au]
       simp[execOp,cM,ex,r9,ba,ax]
    split at I
    · rename_i aL
      cases I
      exact main false rfl (by simpa using aL)
    · split at I<;>try(cases I;done)
      rename_i aL
      cases I
      exact main true rfl (by simpa using aL)
  · rename_i e hu
    split at I<;>try(cases I;done)
    split at I
    · rename_i aL
      cases I
      exact GY H bG cM hu U h2 false (by simpa using aL) he
    · split at I<;>try(cases I;done)
      rename_i aL
      cases I
      exact GY H bG cM hu U h2 true (by simpa using aL) he
 case lookup t x i ok=>
  cases ok with
  | false=>simp only[fN] at I;cases I
  | true=>
    simp only[fN] at I
    split at I<;>try(cases I;done)
    rename_i k e hu
    split at I<;>try(cases I;done)
    rename_i ky iY ag ay U h2
    cases I
    simp only[evalOp] at he
    split at he<;>try(cases he;done)
    rename_i m n ae ab
    cases he
    have rx:=bG.dX U
    have ow:=bG.dX h2
    rw[ae] at rx;rw[ab] at ow
    have dL:=rx.Gc
    generalize kA:a.eval x=jo at dL
    cases dL with
    | mp _ kR es clock jT d' nJ vO=>
      obtain⟨aH,eb,iZ,_⟩:=Gl (w:=w) ay
      have P2:aH= .nilFunc:=by
       unfold qz at iZ
       split at iZ
       · obtain⟨as,_,e⟩:=Option.map_eq_some_iff.1 iZ;cases e
       · unfold qy at iZ
         split at iZ<;>first|rfl|cases iZ
      subst P2
      obtain⟨q,f1,f2⟩:=G0 m n es.toList 0 (by simpa using nJ) (fun j h h'=>by simpa using vO j h (by simpa using h'))
      have G2:=MapKept.run_checkKey (w:=w) ag (k:= .int .i64 n) (by simp[MapKept.IsKey]) es.isEmpty 9999
      have G3:=MapKept.run_findKey (w:=w) ag f1
      have r_:=MapKept.run_getObj_map (P:=P) d'
      cases aT:m.lookup n with
      | none=>
        rw[aT] at f2
        have qJ:q=none:=by simpa using f2
        subst qJ
        refine .pure H (cv:= .tuple #[.nilFunc,.bool false]) ?_ (.bD _ _ rfl fun i ab bW=>?_)
        · simp[execOp,cM,Instr.lookup,run_underlying hu,kA,ow.jF,r_,G2,G3,eb]
        · match i,ab with
          | 0,_=>exact .val _ _ .nilfn
          | 1,_=>exact .val _ _ (.bool _)
      | some f=>
        rw[aT] at f2
        obtain⟨⟨adY,adZ⟩,rfl,f3⟩:=Option.map_eq_some_iff.1 f2
        simp only at f3
        subst f3
        refine .pure H (cv:= .tuple #[.func (.func f) #[] #[],.bool true]) ?_ (.bD _ _ rfl fun i ab bW=>?_)
        · simp[execOp,cM,Instr.lookup,run_underlying hu,kA,ow.jF,r_,G2,G3]
        · match i,ab with
          | 0,_=>exact .fn f [] [] #[] #[] rfl rfl (fun i h=>absurd h (by simp)) (fun i h=>absurd h (by simp))
          | 1,_=>exact .val _ _ (.bool _)
 case unOp op t x=>
  obtain⟨y,a2,rfl⟩:=Option.map_eq_some_iff.1 I
  simp only[evalOp] at he
  obtain⟨u,aF,he⟩:=Option.map_eq_some_iff.1 he
  cases he
  obtain⟨cv,au,ax⟩:=Pl (P:=P) op (bG.dX a2) aF
  exact .pure H (by simp[execOp,cM,au]) ax
 case convert s d x=>
  simp only[fN] at I
  split at I<;>try(cases I;done)
  rename_i vP k y U h2 aN
  cases I
  simp only[evalOp] at he
  split at he<;>try(cases he;done)
  rename_i k' n ae
  cases he
  have rx:=bG.dX aN
  rw[ae] at rx
  refine .pure H (cv:= .int k (k.wrap n)) ?_ (.val _ _ (.int _ _))
  simp[execOp,cM,rx.jF,convert,run_underlying U,run_underlying h2,Conv.intToInt]
 case makeFunc f first caps=>
  cases f with
  | func f=>
    simp only[fN] at I
    split at I<;>try(cases I;done)
    rename_i x y U h2
    cases I
    simp only[evalOp] at he;cases he
    obtain⟨cp,bJ⟩:=rZ bG U
    obtain⟨ea,dh⟩:=rZ bG h2
    refine .pure H (cv:= .func (.func f) (first.map a.eval) (caps.map a.eval)) (by simp[execOp,cM,Instr.makeFunc]) ?_
    refine .fn f _ _ _ _ (by simp[cp]) (by simp[ea]) (fun i ab bW=>?_) (fun i ab bW=>?_)
    · have q:=bJ i (by simpa using ab) (by simpa using bW)
      rw[Array.getElem_toList] at q
      simpa using q
    · have q:=dh i (by simpa using ab) (by simpa using bW)
      rw[Array.getElem_toList] at q
      simpa using q
  | _=>simp only[fN] at I;cases I
 case makeSlice t x y=>
  obtain⟨bp,cv,a5,au,ax,a9,bX,fc⟩:=Px H bG aU I he
  exact ⟨bp,cv,a5,.inl (by simp[execOp,cM,au]),ax,a9,bX,fc⟩
 case slice t x cu ab j8=>
  simp only[fN] at I
  split at I<;>try(cases I;done)
  rename_i e hu
  split at I<;>try(cases I;done)
  rename_i s y tE bW kz U h2 aN a8 cr
  split at I<;>try(cases I;done)
  rename_i tF
  have tF:(kz.isSome&&bW.isNone)=false:=by simpa only[Bool.not_eq_true] using tF
  cases I
  have rx:=bG.dX h2
  simp only[evalOp] at he
  split at he
  · rename_i id off len cap ae
    rw[ae] at rx
    split at he<;>try(cases he;done)
    rename_i l u m b1 ej kQ
    split at he<;>try(cases he;done)
    rename_i aT
    obtain⟨dp,dr,gi,jV⟩:=aT
    cases he
    obtain⟨A,c,b,sz,jr,bT,cL,fG,kb⟩:=rx.qD
    have B:=Gr (P:=P) bG aN a8 cr tF len cap c fG (fun _=>cL) b1 ej kQ dp dr gi true
    have P3:m<=if kz.isSome then m else c:=by split<;>omega
    have ad0:(if kz.isSome then m else c)<=c:=by split<;>omega
    refine .pure H (cv:= .slice (if (if kz.isSome then m else c)=l then A else A.map (·.add (l*s))) (u - l) ((if kz.isSome then m else c) - l)) ?_ ?_
    · simp only[execOp,cM,Instr.sliceAt,Instr.slice,Sem.run_bind,run_underlying hu,Result.andThen_ok,jr,B,run_sizeOf U]
      simp
    · refine .ref id (off+l) (u - l) (m - l) _ _ b sz bT (by omega) (by omega) (fun r8=>?_)
      obtain⟨rfl,kS⟩:=kb (by omega)
      rw[if_neg (by omega)]
      refine⟨?_,Nat.le_trans (Nat.mul_le_mul_right _ (by omega)) kS⟩
      rcases jV with rfl|jV
      · simp[Addr.add]
      · have:=H.sized bT jV
        subst this
        simp[pt,Nat.add_mul]
  · rename_i xs ex ae
    rw[ae] at rx
    split at he<;>try(cases he;done)
    rename_i l u m b1 ej kQ
    split at he<;>try(cases he;done)
    rename_i aT
    obtain⟨dp,dr,gi,jV⟩:=aT
    cases he
    have aU:=rx.qC
    generalize kA:a.eval x=jo at aU rx
    cases aU with
    | sl _ _ A c fO eo bL cj dd my kB mV=>
      have B:=Gr (P:=P) bG aN a8 cr tF xs.length xs.length c bL (fun _=>bL) b1 ej kQ dp dr gi true
      have P3:m<=if kz.isSome then m else c:=by split<;>omega
      have hlen:((xs.drop l).take (u - l)).length=u - l:=by simp;omega
      refine .pure H (cv:= .slice (if (if kz.isSome then m else c)=l then A else A.map (·.add (l*s))) (u - l) ((if kz.isSome then m else c) - l)) ?_ ?_
      · simp only[execOp,cM,Instr.sliceAt,Instr.slice,Sem.run_bind,run_underlying hu,Result.andThen_ok,kA,B,run_sizeOf U]
        simp
      · refine .val _ _ ?_
        have kP:∀i (ab:i<u - l),((xs.drop l).take (u - l))[i]'(by rw[hlen];exact ab)=xs[l+i]'(by omega):=by intro i ab;simp
        have R:=dy.sl (w:=w) (ok:=bz base okin σ h) ((xs.drop l).take (u - l)) ((kz.isSome||ex)&&m == u) (if (if kz.isSome then m else c)=l then A else A.map (·.add (l*s))) ((if kz.isSome then m else c) - l) fO (fun i j=>eo (l+i) j)
         (by rw[hlen];omega) (fun hex=>by
           rw[hlen]
           simp only[Bool.and_eq_true,Bool.or_eq_true,beq_iff_eq] at hex
           obtain⟨eF,rfl⟩:=hex
           rcases eF with eF|eF
           · rw[if_pos eF]
           · have I:=cj eF
             by_cases hm:kz.isSome=true
             · rw[if_pos hm]
             · rw[if_neg hm]
               have lp:kz=none:=by cases kz<;>simp_all
               have:m=xs.length:=by rw[lp] at kQ;cases kQ;rfl
               omega)
         (fun i ab=>by rw[kP i (by rw[hlen] at ab;exact ab)];exact dd _ _)
         (fun i j ab aO=>by
           rw[hlen] at ab
           obtain⟨cy,au,ax,a9⟩:=my (l+i) j (by omega) aO
           rw[if_neg (by omega),au]
           rcases jV with rfl|jV
           · refine⟨cy,by simp[Addr.add],ax,?_⟩
             simpa using a9
           · have r3:fO=s:=by
              have r':=dd (l+i) (by omega)
              have ad1:=xR jV _ (List.getElem_mem (show l+i<xs.length by omega))
              omega
             subst r3
             refine⟨cy.add (l*fO),rfl,by rw[Addr.qA];exact ax,?_⟩
             rw[add_add]
             · rw[<-Nat.add_assoc,<-Nat.add_mul];exact a9
             · by_cases aQ:0<l*fO+(i*fO+j)
               · exact .inr aQ
               · have pA:(l+i)*fO+j=0:=by rw[Nat.add_mul];omega
                 rw[pA] at a9
                 refine .inl ?_
                 cases aE:cy.spot with
                 | none=>rfl
                 | some sp=>
                   have e:cy.add 0=cy:=by unfold Addr.add;simp
                   rw[e] at a9
                   unfold World.cell? at a9
                   simp only[aE,Option.isSome_some,if_true] at a9
                   split at a9<;>cases a9)
         (fun r8=>by
           rw[hlen] at r8
           rw[if_neg (by omega)]
           have:=kB (by omega)
           simpa using this)
         (fun i ab j aO=>by
           rw[hlen] at ab
           have:=kP i ab
           simp only[this]
           exact mV _ _ j _)
        rw[hlen] at R
        exact R
  · cases he
 case fieldAddr s x f=>
  simp only[fN] at I
  split at I<;>try(cases I;done)
  rename_i cc hu
  split at I<;>try(cases I;done)
  rename_i fd x4
  split at I<;>try(cases I;done)
  rename_i bZ sz y U h2 aN
  split at I<;>try(cases I;done)
  rename_i a8
  cases I
  have rx:=bG.dX aN
  simp only[evalOp] at he
  split at he
  · rename_i u ae
    rw[ae] at rx
    obtain⟨cy,eo,jr,bT,cL⟩:=rx.xL
    obtain⟨cs,ox,he⟩:=Option.bind_eq_some_iff.1 he
    obtain⟨p,aS,he⟩:=Option.map_eq_some_iff.1 he
    cases he
    refine .pure H (cv:= .pointer (some (cy.add fd.offset))) ?_ (GX bT cL ox aS)
    simp[execOp,cM,Instr.fieldAt,run_underlying hu,x4,jr,Instr.sureAddr,GW h2 a8]
  · rename_i id idx cQ ae
    rw[ae] at rx
    cases he
    obtain⟨b,b_,jr,bT⟩:=rx.vy
    have:=bf.ptr (w:=w) (ok:=bz base okin σ h) (σ:=σ) id idx (cQ+fd.offset) b b_ bT
    refine .pure H ?_ this
    simp[execOp,cM,Instr.fieldAt,run_underlying hu,x4,jr,Instr.sureAddr,GW h2 a8,pt,Nat.add_assoc]
  · cases he
 case field s x f=>
  simp only[fN] at I
  split at I<;>try(cases I;done)
  rename_i cc hu
  split at I<;>try(cases I;done)
  rename_i fd x4
  split at I<;>try(cases I;done)
  rename_i bZ sz y U h2 aN
  split at I<;>try(cases I;done)
  rename_i a8
  cases I
  simp only[evalOp] at he
  split at he<;>try(cases he;done)
  rename_i cs ae
  obtain⟨jE,ox,he⟩:=Option.bind_eq_some_iff.1 he
  obtain⟨u,aS,he⟩:=Option.map_eq_some_iff.1 he
  cases he
  have rx:=bG.dX aN
  rw[ae] at rx
  obtain⟨vs,ev,cp,bJ⟩:=rx.tz
  obtain⟨cv,au,ax⟩:=Gp (P:=P) U h2 a8 cp bJ ox aS
  exact .pure H (by simp[execOp,cM,Instr.field,run_underlying hu,x4,ev,asAgg,au]) ax
 case indexAddr t x i=>
  simp only[fN] at I
  split at I<;>try(cases I;done)
  · rename_i e hu
    split at I<;>try(cases I;done)
    rename_i s y j U h2 aN
    cases I
    have rx:=bG.dX h2
    have jI:=bG.dX aN
    simp only[evalOp] at he
    split at he
    · rename_i xs ex k n ae aO
      rw[ae] at rx;rw[aO] at jI
      split at he<;>try(cases he;done)
      rename_i az
      obtain⟨el,kP,he⟩:=Option.bind_eq_some_iff.1 he
      split at he<;>try(cases he;done)
      rename_i df
      cases he
      obtain⟨ab,rfl⟩:=List.getElem?_eq_some_iff.1 kP
      have aU:=rx.qC
      generalize kA:a.eval x=jo at aU rx
      cases aU with
      | sl _ _ A c fO eo bL cj dd my kB mV=>
        have bg:=kB (by omega)
        obtain⟨cy,rfl⟩:=Option.isSome_iff_exists.1 bg
        have es:fO=s:=by have:=dd _ ab;omega
        subst es
        have bF:n<(xs.length:Int):=by omega
        refine .pure H (cv:= .pointer (some (cy.add (n.toNat*fO)))) ?_ ?_
        · simp[execOp,cM,Instr.indexAt,jI.jF,asIntOf,run_underlying hu,kA,az,bF,run_sizeOf U]
        · refine .eV _ _ (fun mW=>eo n.toNat mW) (fun mW G4=>?_) (fun mW G4=>mV _ ab mW G4)
          obtain⟨PC,au,ax,a9⟩:=my n.toNat mW ab (by omega)
          cases au
          refine⟨by rw[Addr.qA];exact ax,?_⟩
          rw[add_add]
          · exact a9
          · by_cases aQ:0<n.toNat*fO+mW
            · exact .inr aQ
            · have pA:n.toNat*fO+mW=0:=by omega
              rw[pA] at a9
              refine .inl ?_
              cases aE:cy.spot with
              | none=>rfl
              | some sp=>
                have e:cy.add 0=cy:=by unfold Addr.add;simp
                rw[e] at a9
                unfold World.cell? at a9
                simp only[aE,Option.isSome_some,if_true] at a9
                split at a9<;>cases a9
    · rename_i id off len cap k n ae aO
      rw[ae] at rx;rw[aO] at jI
      split at he<;>try(cases he;done)
      rename_i az
      cases he
      obtain⟨A,c,b,sz,jr,bT,cL,fG,kb⟩:=rx.qD
      obtain⟨rfl,_⟩:=kb (by omega)
      have:=H.sized bT az.2.2
      subst this
      have R:=bf.ptr (w:=w) (ok:=bz base okin σ h) (σ:=σ) id (off+n.toNat) 0 b sz bT
      refine .pure H ?_ R
      simp[execOp,cM,Instr.indexAt,jI.jF,asIntOf,run_underlying hu,jr,az.1,az.2.1,run_sizeOf U,pt,Nat.add_mul]
    · cases he
  · rename_i n e hu
    split at I<;>try(cases I;done)
    rename_i bZ s y j U h2 aN a8
    cases I
    have rx:=bG.dX aN
    have jI:=bG.dX a8
    simp only[evalOp] at he
    split at he
    · rename_i u k mW ae aO
      rw[ae] at rx;rw[aO] at jI
      split at he<;>try(cases he;done)
      rename_i az
      obtain⟨cs,ox,he⟩:=Option.bind_eq_some_iff.1 he
      obtain⟨p,aS,he⟩:=Option.map_eq_some_iff.1 he
      cases he
      obtain⟨cy,eo,jr,bT,cL⟩:=rx.xL
      refine .pure H (cv:= .pointer (some (cy.add (mW.toNat*s)))) ?_ (GX bT cL ox aS)
      simp[execOp,cM,Instr.indexAt,jI.jF,asIntOf,run_underlying hu,jr,Instr.sureAddr,az.1,az.2,run_sizeOf h2]
    · rename_i id idx cQ k mW ae aO
      rw[ae] at rx;rw[aO] at jI
      split at he<;>try(cases he;done)
      rename_i az
      cases he
      obtain⟨b,b_,jr,bT⟩:=rx.vy
      have:=bf.ptr (w:=w) (ok:=bz base okin σ h) (σ:=σ) id idx (cQ+mW.toNat*s) b b_ bT
      refine .pure H ?_ this
      simp[execOp,cM,Instr.indexAt,jI.jF,asIntOf,run_underlying hu,jr,Instr.sureAddr,az.1,az.2,run_sizeOf h2,pt,Nat.add_assoc]
    · cases he
 case index t x i=>
  simp only[fN] at I
  split at I<;>try(cases I;done)
  · rename_i n e hu
    split at I<;>try(cases I;done)
    rename_i bZ s y j U h2 aN a8
    split at I<;>try(cases I;done)
    rename_i cr
    cases I
    have rx:=bG.dX aN
    have jI:=bG.dX a8
    simp only[evalOp] at he
    split at he<;>try(cases he;done)
    rename_i cs k mW ae aO
    rw[ae] at rx;rw[aO] at jI
    split at he<;>try(cases he;done)
    rename_i az
    obtain⟨jE,ox,he⟩:=Option.bind_eq_some_iff.1 he
    obtain⟨u,aS,he⟩:=Option.map_eq_some_iff.1 he
    cases he
    obtain⟨vs,ev,cp,bJ⟩:=rx.tz
    obtain⟨cv,au,ax⟩:=Gp (P:=P) U h2 cr cp bJ ox aS
    exact .pure H (by simp[execOp,cM,Instr.index,jI.jF,asIntOf,run_underlying hu,ev,az.1,az.2,run_sizeOf h2,au]) ax
  · rename_i hu
    split at I<;>try(cases I;done)
    rename_i y j U h2
    cases I
    have rx:=bG.dX U
    have jI:=bG.dX h2
    simp only[evalOp] at he
    split at he<;>try(cases he;done)
    rename_i str k mW ae aO
    rw[ae] at rx;rw[aO] at jI
    split at he<;>try(cases he;done)
    rename_i az
    obtain⟨G5,aa,he⟩:=Option.map_eq_some_iff.1 he
    cases he
    refine .pure H (cv:= .int .u8 G5.toNat) ?_ (.val _ _ (.int _ _))
    simp[execOp,cM,Instr.index,jI.jF,asIntOf,run_underlying hu,rx.vx,az,aa]
 case extract x i=>
  obtain⟨y,a2,rfl⟩:=Option.map_eq_some_iff.1 I
  simp only[evalOp] at he
  split at he<;>try(cases he;done)
  rename_i vs ae
  obtain⟨u,hu,he⟩:=Option.map_eq_some_iff.1 he
  cases he
  have rx:=bG.dX a2
  rw[ae] at rx
  obtain⟨cs,ev,cp,bJ⟩:=rx.Ge
  obtain⟨ab,rfl⟩:=List.getElem?_eq_some_iff.1 hu
  have bF:i<cs.size:=by omega
  exact .pure H (by simp[execOp,cM,Instr.extract,ev,bF]) (bJ i ab bF)
 case call BL=>
  obtain⟨callee,args,argTypes⟩:=BL
  cases callee with
  | value f=>
    simp only[fN] at I
    split at I<;>try(cases I;done)
    cases I
    simp only[evalOp] at he;cases he
  | invoke _ _=>simp only[fN] at I;cases I
  | builtin b=>
    cases b<;>try(simp only[fN] at I;cases I;done)
    case append=>
     obtain⟨bp,cv,a5,au,ax,a9,bX,fc⟩:=PG (ty:=o.type) H bG aU I he
     exact ⟨bp,cv,a5,.inl (by simp[execOp,cM,resolve,invoke,builtin,au]),ax,a9,bX,fc⟩
    case len=>
     simp only[fN] at I
     split at I<;>try(cases I;done)
     rename_i t X aY fF
     have r6:args= #[X]:=by rw[<-Array.toList_inj];exact fF
     subst r6
     split at I<;>try(cases I;done)
     · rename_i e x hu ae
       cases I
       have rx:=bG.dX ae
       simp only[evalOp] at he
       split at he
       · rename_i xs ex aF
         simp only[if_true] at he
         cases he
         rw[aF] at rx
         have aU:=rx.qC
         generalize kA:a.eval X=jo at aU rx
         cases aU with
         | sl _ _ A c _ _ _ _ _ _ _ _=>
           refine .pure H (cv:= .int .i64 xs.length) ?_ (.val _ _ (.int _ _))
           simp[execOp,cM,resolve,invoke,builtin,Builtin.len_,aY,run_underlying hu,kA,goInt]
       · rename_i id off len cap aF
         simp only[if_true] at he
         cases he
         rw[aF] at rx
         obtain⟨A,c,b,sz,jr,_⟩:=rx.qD
         refine .pure H (cv:= .int .i64 len) ?_ (.val _ _ (.int _ _))
         simp[execOp,cM,resolve,invoke,builtin,Builtin.len_,aY,run_underlying hu,jr,goInt]
       · simp only[Bool.false_eq_true,if_false] at he;cases he
       · cases he
     · rename_i x hu ae
       cases I
       have rx:=bG.dX ae
       simp only[evalOp] at he
       split at he
       · simp only[Bool.true_eq_false,if_false] at he;cases he
       · simp only[Bool.true_eq_false,if_false] at he;cases he
       · rename_i s aF
         simp only[if_true] at he
         cases he
         rw[aF] at rx
         refine .pure H (cv:= .int .i64 s.size) ?_ (.val _ _ (.int _ _))
         simp[execOp,cM,resolve,invoke,builtin,Builtin.len_,aY,run_underlying hu,rx.vx,goInt]
       · cases he
    case min=>
     obtain⟨xs,nI,rfl⟩:=Option.map_eq_some_iff.1 I
     obtain⟨cp,bJ⟩:=rZ bG nI
     simp only[evalOp] at he
     obtain⟨u,hu,he⟩:=Option.map_eq_some_iff.1 he
     cases he
     cases xs with
     | nil=>simp[jm] at hu
     | cons x xs=>
       cases fF:args.toList with
       | nil=>rw[fF] at cp;simp at cp
       | cons X BM=>
         rw[fF] at cp
         have r0:=bJ 0 (by simp) (by simp[fF])
         simp only[fF,List.getElem_cons_zero] at r0
         simp only[List.map_cons] at hu
         cases ae:x.ev G F<;>rw[ae] at hu<;>try(simp[jm] at hu;done)
         rename_i k n
         rw[ae] at r0
         obtain⟨cv,au,ax⟩:=GU (P:=P) (w:=w) (σ:=σ) (bz base okin σ h) (xs.map (a6.ev G F)) k n (BM.map a.eval) v hu (by simpa using cp) (fun i ab bW=>by
          have:=bJ (i+1) (by simpa using ab) (by simpa[fF] using bW)
          simpa[fF] using this)
         refine .pure H ?_ ax
         simp[execOp,cM,resolve,invoke,builtin,Builtin.min_,fF,r0.jF,au]
    case max=>
     obtain⟨xs,nI,rfl⟩:=Option.map_eq_some_iff.1 I
     obtain⟨cp,bJ⟩:=rZ bG nI
     simp only[evalOp] at he
     obtain⟨u,hu,he⟩:=Option.map_eq_some_iff.1 he
     cases he
     cases xs with
     | nil=>simp[jm] at hu
     | cons x xs=>
       cases fF:args.toList with
       | nil=>rw[fF] at cp;simp at cp
       | cons X BM=>
         rw[fF] at cp
         have r0:=bJ 0 (by simp) (by simp[fF])
         simp only[fF,List.getElem_cons_zero] at r0
         simp only[List.map_cons] at hu
         cases ae:x.ev G F<;>rw[ae] at hu<;>try(simp[jm] at hu;done)
         rename_i k n
         rw[ae] at r0
         obtain⟨cv,au,ax⟩:=GV (P:=P) (w:=w) (σ:=σ) (bz base okin σ h) (xs.map (a6.ev G F)) k n (BM.map a.eval) v hu (by simpa using cp) (fun i ab bW=>by
          have:=bJ (i+1) (by simpa using ab) (by simpa[fF] using bW)
          simpa[fF] using this)
         refine .pure H ?_ ax
         simp[execOp,cM,resolve,invoke,builtin,Builtin.max_,fF,r0.jF,au]
end
end Go.Eng

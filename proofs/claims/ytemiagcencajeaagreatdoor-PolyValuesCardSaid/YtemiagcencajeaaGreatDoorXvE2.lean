import Derived.Test.YtemiagcencajeaaGreatDoorXvE1
import Derived.Laws.StructEq
import Derived.MapKept
set_option linter.unusedSimpArgs false
set_option linter.unusedVariables false
set_option linter.unusedSectionVars false
namespace Go.Eng
open Go Go.RowKit
section
variable {P:Program} {base:Nat} {okin:Nat->Prop} {σ:Nat->Option (Nat × Nat)} {h:ah} {w:World} {G:Nat->Option I} {F:Nat->I} {a:Act}
theorem R7 {i j sz:Nat} (aC:j<sz):(i*sz+j)/sz=i/\(i*sz+j)%sz=j:=by
 have aF:0<sz:=by omega
 constructor
 · rw[Nat.add_comm,Nat.add_mul_div_right _ _ aF,Nat.div_eq_of_lt aC,Nat.zero_add]
 · rw[Nat.add_comm,Nat.add_mul_mod_self_right,Nat.mod_eq_of_lt aC]
theorem y6 (H:cJ base okin σ h w) {v:I} {cv:Value} (al:a5 w (bt base okin σ h) σ v cv) {ys:List I} (he:elems h v=some ys) {sz:Nat} (c6:∀e∈ys,e.cells.length=sz) (aF:0<sz):
 ∃A c,cv= .slice A ys.length c/\∃arr,(Builtin.firstCells sz ys.length cv).run P w= .ok arr w/\mb w (bt base okin σ h) σ sz ys arr:=by
 unfold elems at he
 split at he
 · rename_i xs ex
   injection he with he
   subst he
   have aR:=al.q3
   cases aR with
   | sl _ _ A c fZ ep U h2 aB aS cd ee=>
     refine⟨A,c,rfl,?_⟩
     by_cases aD:xs.length=0
     · have ae:xs= []:=List.eq_nil_of_length_eq_zero aD
       subst ae
       cases A with
       | none=>exact ⟨#[],by simp[Builtin.firstCells],by simp,fun i ab=>absurd ab (by simp)⟩
       | some cq=>exact ⟨#[],by simp[Builtin.firstCells,loadCells,loadCellsFrom],by simp,fun i ab=>absurd ab (by simp)⟩
     · have nP:fZ=sz:=by
        have:=aB 0 (by omega)
        have:=c6 _ (List.getElem_mem (show 0<xs.length by omega))
        omega
       subst nP
       have a6:=cd (by omega)
       obtain⟨cq,rfl⟩:=Option.isSome_iff_exists.1 a6
       have ay:∀k,k<xs.length*fZ->w.cell? (cq.add k)=some ((fun k=>ep (k/fZ) (k%fZ)) k):=by
        intro k ag
        have ab:k/fZ<xs.length:=Nat.div_lt_of_lt_mul (by rw[Nat.mul_comm];exact ag)
        obtain⟨R8,e,_,J⟩:=aS (k/fZ) (k%fZ) ab (Nat.mod_lt _ aF)
        cases e
        have:k/fZ*fZ+k%fZ=k:=by rw[Nat.mul_comm];exact Nat.div_add_mod k fZ
        rwa [this] at J
       refine⟨_,by simp only[Builtin.firstCells];exact run_loadCells w cq (xs.length*fZ) _ ay,?_⟩
       refine⟨by simp,fun i ab=>⟨aB i ab,fun j aC ag=>?_⟩⟩
       have kr:j<fZ:=by have:=aB i ab;omega
       have:=R7 (i:=i) kr
       simp only[List.getElem_toArray,List.getElem_map,List.getElem_range,this.1,this.2]
       exact .val _ _ (ee i ab j aC)
 · rename_i id off len cap
   split at he<;>try(cases he;done)
   rename_i blk ad
   split at he<;>try(cases he;done)
   rename_i hle
   cases he
   obtain⟨A,c,b,b_,rfl,ao,av,aW,bR⟩:=al.q4
   have hlen:((blk.drop off).take len).length=len:=by simp;omega
   rw[hlen]
   refine⟨A,c,rfl,?_⟩
   by_cases aD:len=0
   · subst aD
     refine⟨#[],?_,by simp,fun i ab=>absurd ab (by simp)⟩
     cases A with
     | none=>simp[Builtin.firstCells]
     | some cq=>simp[Builtin.firstCells,loadCells,loadCellsFrom]
   · obtain⟨kg,fZ,arr,ty,f1,f2,f3⟩:=H.blk id blk ad
     rw[ao] at f1;cases f1
     have kW:∀i,i<len->∃ab:off+i<blk.length,blk[off+i].cells.length=sz:=by
      intro i ab
      refine⟨by omega,c6 _ ?_⟩
      have:(((blk.drop off).take len)[i]'(by rw[hlen];exact ab))=blk[off+i]'(by omega):=by simp
      rw[<-this];exact List.getElem_mem _
     have nP:b_=sz:=by
      obtain⟨ab,e⟩:=kW 0 (by omega)
      have:=(f3 _ ab).1;omega
     subst nP
     obtain⟨rfl,_⟩:=bR (by omega)
     have ay:∀k,k<len*b_->w.cell? ((⟨b,off*b_,none⟩:Addr).add k)=some ((fun k=>(arr[off*b_+k]?).getD undef) k):=by
      intro k ag
      have ab:k/b_<len:=Nat.div_lt_of_lt_mul (by rw[Nat.mul_comm];exact ag)
      obtain⟨bY,e⟩:=kW _ ab
      have hm:=Nat.mod_lt k aF
      obtain⟨lO,bM,_⟩:=(f3 _ bY).2 (k%b_) (by omega)
      have:(off+k/b_)*b_+k%b_=off*b_+k:=by rw[Nat.add_mul,Nat.add_assoc];congr 1;rw[Nat.mul_comm];exact Nat.div_add_mod k b_
      rw[this] at bM
      rw[p4]
      simp only[World.cell?,f2,Option.isSome_none,Bool.false_eq_true,if_false]
      rw[bM];rfl
     refine⟨_,by simp only[Builtin.firstCells];exact run_loadCells w ⟨b,off*b_,none⟩ (len*b_) _ ay,?_⟩
     refine⟨by simp[hlen],fun i ab=>?_⟩
     have R9:i<len:=by rw[hlen] at ab;exact ab
     obtain⟨bY,e⟩:=kW i R9
     have bK:((blk.drop off).take len)[i]=blk[off+i]'(by omega):=by simp
     rw[bK]
     refine⟨e,fun j aC ag=>?_⟩
     obtain⟨lO,bM,cn⟩:=(f3 _ bY).2 j aC
     have:(off+i)*b_+j=off*b_+(i*b_+j):=by rw[Nat.add_mul];omega
     rw[this] at bM
     simp only[List.getElem_toArray,List.getElem_map,List.getElem_range]
     rw[bM];exact cn
 · cases he
theorem Ib (n:Nat):∀(r c:Nat),256<=c->c<=2*n->Builtin.growBy n r c<=2*n
 | 0,c,_,h=>h
 | r+1,c,U,h2=>by
   unfold Builtin.growBy
   split
   · exact h2
   · exact Ib n r _ (by omega) (by omega)
theorem R_ {n c:Nat} (h:c<n):Builtin.nextslicecap n c<=2*n:=by
 unfold Builtin.nextslicecap
 split
 · omega
 · split
   · omega
   · exact Ib n 4 c (by omega) (by omega)
theorem mb.append {ok:Nat->Prop} {sz:Nat} {xs ys:List I} {a1 eX:Array Value} (U:mb w ok σ sz xs a1) (h2:mb w ok σ sz ys eX):mb w ok σ sz (xs++ys) (a1++eX):=by
 refine⟨by simp[U.1,h2.1,Nat.add_mul],fun i ab=>?_⟩
 by_cases ae:i<xs.length
 · have e:(xs++ys)[i]=xs[i]:=List.getElem_append_left ae
   rw[e]
   refine⟨(U.2 i ae).1,fun j aC ag=>?_⟩
   have bG:i*sz+j<a1.size:=by rw[U.1];exact o5 ae (by have:=(U.2 i ae).1;omega)
   rw[Array.getElem_append_left bG]
   exact (U.2 i ae).2 j aC bG
 · have aN:i - xs.length<ys.length:=by simp at ab;omega
   have e:(xs++ys)[i]=ys[i - xs.length]:=List.getElem_append_right (by omega)
   rw[e]
   refine⟨(h2.2 _ aN).1,fun j aC ag=>?_⟩
   have hle:xs.length*sz<=i*sz:=Nat.mul_le_mul_right _ (by omega)
   have bG:(i - xs.length)*sz+j<eX.size:=by rw[h2.1];exact o5 aN (by have:=(h2.2 _ aN).1;omega)
   have p8:a1.size<=i*sz+j:=by rw[U.1];omega
   rw[Array.getElem_append_right p8]
   have av:i*sz+j - a1.size=(i - xs.length)*sz+j:=by rw[U.1,Nat.sub_mul];omega
   simp only[av]
   exact (h2.2 _ aN).2 j aC bG
theorem Ic {t u e e':TypeId} (aO:P.underlying t=some (.slice e)) (hu:P.underlying u=some (.slice e')) {sz bytes:Nat} (aw:jl P e=some sz) (ad:CK P e=some bytes) {z:I} (aq:zeroOf P e=some z)
 (A:Option Addr) (n c:Nat) (B:Option Addr) (m d:Nat) (Ie:c<n+m) (cp:0<bytes) (su:(n+m)*bytes<=35184372088832) {md new:Array Value}
 (az:(Builtin.firstCells sz n (.slice A n c)).run P w.drew= .ok md w.drew) (ai:(Builtin.firstCells sz m (.slice B m d)).run P w.drew= .ok new w.drew):
 ∃sv rest,n+m<=sv/\(Builtin.append_ #[t,u] t #[.slice A n c,.slice B m d]).run P w= .ok (.slice (some ⟨w.heap.size,0,none⟩) (n+m) sv) (w.drew.alloc (.cells (md++new++rest) e))/\(rest.size=(sv -(n+m))*z.cells.length):=by
 obtain⟨aj,dv,f_,y5,_⟩:=uz (P:=P) (w:=w.drew) (σ:=fun _=>none) (ok:=fun _=>True) aq
 obtain⟨i,ab,ai3⟩:=Option.map_eq_some_iff.1 aw
 have C4:i.bytes=bytes:=by
  obtain⟨i',ao,av⟩:=Option.map_eq_some_iff.1 ad
  rw[ab] at ao;cases ao;exact av
 have Ig:=R_ Ie
 have R':¬(Builtin.nextslicecap (n+m) c*i.bytes>2^48):=by
  rw[C4]
  have:Builtin.nextslicecap (n+m) c*bytes<=2*(n+m)*bytes:=Nat.mul_le_mul_right _ Ig
  rw[Nat.mul_assoc] at this
  omega
 have U:¬(n+m<=c):=by omega
 have ll:i.bytes≠0:=by omega
 refine⟨(Question.appendCap (n+m) c e).cut (w.tape w.drawn (.appendCap (n+m) c e)),Builtin.zeroCells aj.cells ((Question.appendCap (n+m) c e).cut (w.tape w.drawn (.appendCap (n+m) c e)) -(n+m)),by simp[Question.cut],?_,by simp[Builtin.zeroCells,f_.1]⟩
 simp[Builtin.append_,run_underlying aO,run_underlying hu,run_sizeOf aw,Builtin.lenOf,run_typeInfo ab,U,ll,R',Question.forced,az,ai,dv,newRow]
theorem cJ.drew (H:cJ base okin σ h w):cJ base okin σ h w.drew/\Prog base okin σ h w σ h w.drew:=by
 have P:Prog base okin σ h w σ h w.drew:=⟨fun _ _ x=>x,fun _ _ az=>⟨az,rfl⟩,(Below.refl _ _).drew,fun _=>Nat.le_refl _⟩
 refine⟨⟨H.val,fun id ih iJ=>?_,H.inj,H.base⟩,P⟩
 obtain⟨b,s,a,t,ao,av,aW⟩:=H.blk id ih iJ
 refine⟨b,s,a,t,ao,av,fun i ab=>⟨(aW i ab).1,fun j aC=>?_⟩⟩
 obtain⟨v,f1,f2⟩:=(aW i ab).2 j aC
 exact ⟨v,f1,P.rep f2⟩
theorem cJ.kill (H:cJ base okin σ h w) (id:Nat):cJ base okin σ {h with cells:=au h.cells id none} w/\Prog base okin σ h w σ {h with cells:=au h.cells id none} w:=by
 have P:Prog base okin σ h w σ {h with cells:=au h.cells id none} w:=by
  refine⟨fun _ _ x=>x,fun b ad az=>⟨?_,rfl⟩,Below.refl _ _,fun _=>Nat.le_refl _⟩
  rcases az with az|⟨U,h2⟩
  · exact .inl az
  · refine .inr ⟨U,fun i s aw ay=>h2 i s aw ?_⟩
    by_cases e:i=id
    · simp[au,e] at ay
    · simpa[au,e] using ay
 refine⟨⟨H.val,fun i ih iJ=>?_,fun i i' b s ar U h2=>H.inj i i' b s ar ?_ ?_,H.base⟩,P⟩
 · by_cases e:i=id
   · simp[au,e] at iJ
   · have p2:h.cells i=some ih:=by simpa[au,e] using iJ
     obtain⟨b,s,a,t,ao,av,aW⟩:=H.blk i ih p2
     refine⟨b,s,a,t,ao,av,fun i ab=>⟨(aW i ab).1,fun j aC=>?_⟩⟩
     obtain⟨v,f1,f2⟩:=(aW i ab).2 j aC
     exact ⟨v,f1,P.rep f2⟩
 · by_cases e:i=id
   · simp[au,e] at U
   · simpa[au,e] using U
 · by_cases e:i'=id
   · simp[au,e] at h2
   · simpa[au,e] using h2
theorem mb.cell {ok:Nat->Prop} {sz:Nat} {es:List I} {arr:Array Value} (H:mb w ok σ sz es arr) (rest:Array Value) (i:Nat) (ab:i<es.length):
 es[i].cells.length=sz/\∀j (aC:j<es[i].cells.length),∃v,(arr++rest)[i*sz+j]? =some v/\a5 w ok σ (es[i].cells[j]) v:=by
 refine⟨(H.2 i ab).1,fun j aC=>?_⟩
 have bG:i*sz+j<arr.size:=by rw[H.1];exact o5 ab (by have:=(H.2 i ab).1;omega)
 exact ⟨_,by rw[Array.getElem?_append_left bG];exact Array.getElem?_eq_getElem bG,(H.2 i ab).2 j aC bG⟩
theorem y7 {ys:List I} {sz:Nat} (h:(ys.all fun e=>e.cells.length == sz)=true):∀e∈ys,e.cells.length=sz:=fun e he=>by
 simpa using List.all_eq_true.1 h e he
theorem mb.wD {ok:Nat->Prop} {sz:Nat} {es:List I} {arr:Array Value} (H:mb w ok σ sz es arr) (aF:0<sz) (aw:∀e∈es,e.cells.all I.ca=true):∀v∈arr.toList,v.oneCell'=true:=by
 intro v al
 obtain⟨k,ag,rfl⟩:=List.getElem_of_mem al
 have j8:k<arr.size:=by simpa using ag
 have jz:k<es.length*sz:=by rw[<-H.1];exact j8
 have ab:k/sz<es.length:=Nat.div_lt_of_lt_mul (by rw[Nat.mul_comm];exact jz)
 have aC:=Nat.mod_lt k aF
 have e:k/sz*sz+k%sz=k:=by rw[Nat.mul_comm];exact Nat.div_add_mod k sz
 have ay:=(H.2 _ ab).1
 have r:=(H.2 _ ab).2 (k%sz) (by omega) (by rw[e];exact j8)
 have ja:=r.wD (List.all_eq_true.1 (aw _ (List.getElem_mem ab)) _ (List.getElem_mem (by omega)))
 simpa[e] using ja
theorem Sa (H:cJ base okin σ h w) (bI:ki G (bt base okin σ h) σ w F a) {r:Nat} (aR:σ r=none) {args:Array Operand} {argTypes:Array TypeId} {ty:TypeId} {ma:kf}
 (J:fY P (.call {callee:= .builtin .append,args,argTypes})=some ma) {aZ:Nat} {v:I} {h':ah} {c:eb}
 (he:evalOp aZ r (aT.ev G F) h ma=some (v,h',c)):
 ∃bg cv aQ,(Builtin.append_ argTypes ty (args.map a.eval)).run P w= .ok cv aQ/\Prog base okin σ h w bg h' aQ/\cJ base okin bg h' aQ/\a5 aQ (bt base okin bg h') bg v cv/\∀id,id≠r->bg id=σ id:=by
 simp only[fY] at J
 split at J<;>try(cases J;done)
 rename_i t u X Y aO fr
 have C7:argTypes= #[t,u]:=by rw[<-Array.toList_inj];exact aO
 have sw:args= #[X,Y]:=by rw[<-Array.toList_inj];exact fr
 subst C7;subst sw
 split at J<;>try(cases J;done)
 rename_i e e' hu y8
 split at J<;>try(cases J;done)
 rename_i sz bytes z x y aw ad aq ae aN
 split at J<;>try(cases J;done)
 rename_i Ih
 cases J
 simp only[evalOp] at he
 obtain⟨ys,e4,he⟩:=Option.bind_eq_some_iff.1 he
 split at he<;>try(cases he;done)
 rename_i og
 obtain⟨bb,bw,bV⟩:=og
 have Ii:∀q∈ys,q.cells.length=sz:=fun q aM=>by
  have:=List.all_eq_true.1 bV q aM
  simp only[Bool.and_eq_true,beq_iff_eq] at this
  exact this.1
 have Sb:∀q∈ys,q.cells.all I.ca=true:=fun q aM=>by
  have:=List.all_eq_true.1 bV q aM
  simp only[Bool.and_eq_true,beq_iff_eq] at this
  exact this.2
 have rx:=bI.ed ae
 have ry:=bI.ed aN
 obtain⟨wN,wO⟩:=H.drew
 obtain⟨B,d,C8,new,y9,nj⟩:=y6 (P:=P) H ry e4 Ii bb
 obtain⟨ai4,o0,Ij,Ik,C9,y_⟩:=y6 (P:=P) wN (wO.rep ry) e4 Ii bb
 rw[C8] at Ij;cases Ij
 rw[C8] at y9 C9
 have Sc:(#[X,Y]:Array Operand).map a.eval= #[a.eval X,a.eval Y]:=by simp
 rw[Sc,C8]
 have Il:∀(A:Option Addr) (n e9:Nat),ys.length=0->n<=e9->
  (Builtin.append_ #[t,u] ty #[.slice A n e9,.slice B ys.length d]).run P w= .ok (.slice A n e9) w:=fun A n e9 j9 hle=>by
  have me:new.toList= []:=List.eq_nil_of_length_eq_zero (by have:=nj.1;rw[j9,Nat.zero_mul] at this;simpa using this)
  rw[j9] at y9|-
  cases A<;>simp[Builtin.append_,run_underlying hu,run_underlying y8,run_sizeOf aw,Builtin.lenOf,hle,y9,me,storeCells]
 split at he
 ·
  rename_i xs ex y'
  rw[y'] at rx
  split at he
  · rename_i j9
    cases he
    have nh:=rx.q3
    generalize kG:a.eval X=jy at nh rx
    cases nh with
    | sl _ _ A e9 _ _ hle _ _ _ _ _=>
      refine⟨σ,_,w,Il A xs.length e9 j9 hle,⟨fun _ _ x=>x,fun _ _ az=>⟨az,rfl⟩,Below.refl _ _,fun _=>Nat.le_refl _⟩,H,rx,fun _ _=>rfl⟩
  split at he<;>try(cases he;done)
  rename_i jA
  obtain⟨da,db,fI,kj⟩:=jA
  cases he
  have Sd:=y7 kj
  obtain⟨A,e9,jB,md,hold,Fold⟩:=y6 (P:=P) wN (wO.rep rx) (ys:=xs) rfl Sd bb
  have Ie:e9=xs.length:=by
   have nh:=rx.q3
   rw[jB] at nh
   cases nh with
   | sl _ _ _ _ _ _ _ h2=>exact h2 da
  rw[jB] at hold|-
  obtain⟨sv,rest,bp,cb,c7⟩:=Ic (P:=P) (w:=w) hu y8 aw ad aq A xs.length e9 B ys.length d (by omega) bw db hold C9
  have C_:=Fold.append y_
  have wP:=wN.alloc aR (xs++ys) (md++Ik++rest) e sz (fun i ab=>C_.cell rest i ab)
  refine⟨_,_,_,by simpa[Builtin.append_] using cb,wO.trans wP.2,wP.1,?_,fun id bz=>by simp[au,bz]⟩
  refine .ref r 0 _ _ _ sv w.heap.size sz (by simp[au]) bp bp (fun _=>⟨by simp,?_⟩)
  rw[show w.heap.size=w.drew.heap.size from rfl,CO]
  simp only[Array.size_append,Fold.1,y_.1,c7,Ih]
  rw[<-Nat.add_mul,<-Nat.add_mul]
  exact Nat.le_of_eq (by congr 1;omega)
 ·
  rename_i id off len cap y'
  split at he
  · rename_i j9
    cases he
    rw[y'] at rx
    obtain⟨A,e9,b,b_,jB,bM,cn,eB,iB⟩:=rx.q4
    rw[jB] at rx|-
    exact ⟨σ,_,w,Il A len e9 j9 cn,⟨fun _ _ x=>x,fun _ _ az=>⟨az,rfl⟩,Below.refl _ _,fun _=>Nat.le_refl _⟩,H,rx,fun _ _=>rfl⟩
  split at he<;>try(cases he;done)
  rename_i za
  have za:h.shut id=false:=by simpa using za
  obtain⟨blk,oi,he⟩:=Option.bind_eq_some_iff.1 he
  split at he<;>try(cases he;done)
  rename_i jA
  obtain⟨da,db,fI,kj⟩:=jA
  rw[y'] at rx
  have Im:=y7 kj
  obtain⟨A,e9,b,b_,jB,bM,cn,eB,iB⟩:=rx.q4
  obtain⟨kg,ai5,arr,Se,f1,f2,f3⟩:=H.blk id blk oi
  rw[bM] at f1;cases f1
  have Io:0<blk.length->b_=sz:=fun aD=>by
   have:=(f3 0 aD).1
   have:=Im _ (List.getElem_mem aD)
   omega
  have Sf:iI w b=arr.size:=by unfold iI;rw[f2]
  have stay:len+ys.length<=e9->b_=sz->
   (Builtin.append_ #[t,u] ty #[.slice A len e9,.slice B ys.length d]).run P w= .ok (.slice A (len+ys.length) e9) (w.setRow b (arr.toList.take (off*sz+len*sz)++new.toList++arr.toList.drop (off*sz+len*sz+new.toList.length)).toArray)/\
     off*sz+len*sz+new.toList.length<=arr.toList.length:=by
   intro hle ks
   subst ks
   obtain⟨sw,C'⟩:=iB (by omega)
   rw[Sf] at C'
   have zb:new.toList.length=ys.length*b_:=by simp[nj.1]
   have p5:off*b_+len*b_+new.toList.length<=arr.toList.length:=by
    rw[zb]
    have:(off+(len+ys.length))*b_<=(off+e9)*b_:=Nat.mul_le_mul_right _ (by omega)
    rw[Nat.add_mul,Nat.add_mul] at this
    simp;omega
   refine⟨?_,p5⟩
   have eU:=run_storeCells_at (P:=P) b (off*b_+len*b_) Se new.toList 0 arr w f2 (by simp only[Nat.add_zero];simpa using p5) (nj.wD bb Sb)
   simp only[Nat.add_zero] at eU
   have Sg:(⟨b,off*b_,none⟩:Addr).add (len*b_)=⟨b,off*b_+len*b_,none⟩:=p4 _ _ _
   subst sw
   simp[Builtin.append_,run_underlying hu,run_underlying y8,run_sizeOf aw,Builtin.lenOf,hle,y9,Sg,eU]
  have Da:∀(ks:b_=sz),off*sz+len*sz+new.toList.length<=arr.toList.length->∀i (ab:i<blk.length) j (aC:j<sz),¬(off+len<=i/\i<off+len+ys.length)->
   ∃v,(arr.toList.take (off*sz+len*sz)++new.toList++arr.toList.drop (off*sz+len*sz+new.toList.length)).toArray[i*sz+j]? =some v/\a5 w (bt base okin σ h) σ (blk[i].cells[j]'(by rw[(f3 i ab).1,ks];exact aC)) v:=by
   intro ks p5 i ab j aC zc
   subst ks
   obtain⟨v0,ao,av⟩:=(f3 i ab).2 j (by rw[(f3 i ab).1];exact aC)
   refine⟨v0,?_,av⟩
   have bG:=(Array.getElem?_eq_some_iff.1 ao).1
   have lP:=(Array.getElem?_eq_some_iff.1 ao).2
   have zb:new.toList.length=ys.length*b_:=by simp[nj.1]
   rw[List.getElem?_toArray,List.getElem?_eq_getElem (by simp at p5|-;omega),q5 p5 _ _ (by simpa using bG),dif_neg]
   · simpa using lP
   · rw[zb]
     rintro ⟨dv,f_⟩
     apply zc
     have aW:off*b_+len*b_=(off+len)*b_:=by rw[Nat.add_mul]
     have bR:off*b_+len*b_+ys.length*b_=(off+len+ys.length)*b_:=by rw[Nat.add_mul,Nat.add_mul]
     rw[aW] at dv
     rw[bR] at f_
     constructor
     · refine Nat.le_of_not_lt fun Sh=>?_
       have:=o5 Sh aC;omega
     · refine Nat.lt_of_not_le fun Si=>?_
       have:(off+len+ys.length)*b_<=i*b_:=Nat.mul_le_mul_right _ Si
       omega
  have Db:off*sz+len*sz+new.toList.length<=arr.toList.length->∀i (ab:i<ys.length) j (aC:j<sz),
   ∃v,(arr.toList.take (off*sz+len*sz)++new.toList++arr.toList.drop (off*sz+len*sz+new.toList.length)).toArray[(off+len+i)*sz+j]? =some v/\a5 w (bt base okin σ h) σ (ys[i].cells[j]'(by rw[(nj.2 i ab).1];exact aC)) v:=by
   intro p5 i ab j aC
   have zb:new.toList.length=ys.length*sz:=by simp[nj.1]
   have bG:=o5 ab aC
   have aW:(off+len+i)*sz+j=off*sz+len*sz+(i*sz+j):=by rw[Nat.add_mul,Nat.add_mul];omega
   have lA:(off+len+i)*sz+j<arr.toList.length:=by omega
   rw[List.getElem?_toArray,List.getElem?_eq_getElem (by simp at p5 lA|-;omega)]
   refine⟨_,rfl,?_⟩
   rw[q5 p5 _ _ lA,dif_pos (by omega)]
   have fe:(off+len+i)*sz+j -(off*sz+len*sz)=i*sz+j:=by omega
   have ag:i*sz+j<new.size:=by rw[nj.1];exact bG
   have:=(nj.2 i ab).2 j (by rw[(nj.2 i ab).1];exact aC) ag
   simpa[fe] using this
  have Ip:∀(o:Nat),o+new.toList.length<=arr.toList.length->arr.size<=(arr.toList.take o++new.toList++arr.toList.drop (o+new.toList.length)).toArray.size:=by
   intro o az
   simp at az|-;omega
  split at he
  ·
   rename_i C'
   split at he<;>try(cases he;done)
   rename_i Ig
   cases he
   have ks:=Io (by omega)
   obtain⟨s1,s2⟩:=stay (by omega) ks
   rw[jB]
   have W:=H.write (blk':=blk.take (off+len)++ys++blk.drop (off+len+ys.length)) (arr':=(arr.toList.take (off*sz+len*sz)++new.toList++arr.toList.drop (off*sz+len*sz+new.toList.length)).toArray) oi za bM f2 (Ip _ s2) (fun i ab=>by
    have ln:off+len+ys.length<=blk.length:=by omega
    have bY:i<blk.length:=by simp at ab;omega
    have bK:=q5 (cs:=blk) (vs:=ys) (off:=off+len) ln i ab bY
    rw[bK]
    by_cases cX:off+len<=i/\i<off+len+ys.length
    · simp only[dif_pos cX]
      refine⟨by rw[ks];exact (nj.2 _ (by omega)).1,fun j aC=>?_⟩
      have kr:j<sz:=by have:=(nj.2 (i -(off+len)) (by omega)).1;omega
      obtain⟨v,lz,l'⟩:=Db s2 (i -(off+len)) (by omega) j kr
      have:off+len+(i -(off+len))=i:=by omega
      rw[this] at lz
      exact ⟨v,by rw[ks];exact lz,l'⟩
    · simp only[dif_neg cX]
      refine⟨(f3 i bY).1,fun j aC=>?_⟩
      obtain⟨v,lz,l'⟩:=Da ks s2 i bY j (by rw[<-ks,<-(f3 i bY).1];exact aC) cX
      exact ⟨v,by rw[ks];exact lz,l'⟩)
   refine⟨σ,_,_,s1,W.2,W.1,?_,fun _ _=>rfl⟩
   exact .ref id off _ cap A e9 b b_ bM (by omega) eB (fun iK=>⟨(iB iK).1,Nat.le_trans (iB iK).2 (W.2.grow b)⟩)
  · rename_i C'
    split at he<;>try(cases he;done)
    rename_i Dc
    cases he
    obtain⟨Dc,ai6⟩:=Dc
    subst Dc
    have ks:=Io (by omega)
    rw[jB]
    by_cases lA:len+ys.length<=e9
    ·
     obtain⟨s1,s2⟩:=stay lA ks
     simp only[Nat.zero_mul,Nat.zero_add] at s1 s2 Da Db
     have R:=H.rename (r:=r) (blk':=blk.take len++ys) (arr':=(arr.toList.take (len*sz)++new.toList++arr.toList.drop (len*sz+new.toList.length)).toArray) oi za aR bM f2 (Ip _ s2) (fun i ab=>by
      by_cases cX:i<len
      · have bK:(blk.take len++ys)[i]=blk[i]'(by omega):=by
         rw[List.getElem_append_left (by simp;omega)];simp
        rw[bK]
        refine⟨(f3 i (by omega)).1,fun j aC=>?_⟩
        obtain⟨v,lz,l'⟩:=Da ks s2 i (by omega) j (by rw[<-ks,<-(f3 i (by omega)).1];exact aC) (by omega)
        exact ⟨v,by rw[ks];exact lz,l'⟩
      · have p9:min len blk.length=len:=by omega
        have bY:i - len<ys.length:=by simp[p9] at ab;omega
        have bK:(blk.take len++ys)[i]=ys[i - len]:=by
         rw[List.getElem_append_right (by simp;omega)];simp[p9]
        rw[bK]
        refine⟨by rw[ks];exact (nj.2 _ bY).1,fun j aC=>?_⟩
        obtain⟨v,lz,l'⟩:=Db s2 (i - len) bY j (by rw[<-(nj.2 _ bY).1];exact aC)
        have:len+(i - len)=i:=by omega
        rw[this] at lz
        exact ⟨v,by rw[ks];exact lz,l'⟩)
     refine⟨_,_,_,s1,R.2,R.1,?_,fun ix bz=>by simp[au,bz]⟩
     refine .ref r 0 _ _ A e9 b b_ (by simp[au]) lA lA (fun iK=>⟨(iB iK).1,Nat.le_trans (iB iK).2 (R.2.grow b)⟩)
    ·
     obtain⟨Sj,Iq⟩:=wN.kill id
     have oj:elems h (.ref id 0 len cap)=some (blk.take len):=by
      simp only[elems,oi];rw[if_pos da];simp
     have Sk:a5 w (bt base okin σ h) σ (.ref id 0 len cap) (a.eval X):=rx
     have p_:(blk.take len).length=len:=by simp;omega
     obtain⟨ai7,c',Ir,md,hold,Fold⟩:=y6 (P:=P) wN (wO.rep Sk) oj (fun q aM=>Im q (List.mem_of_mem_take aM)) bb
     rw[jB,p_] at Ir;cases Ir
     rw[jB,p_] at hold
     obtain⟨sv,rest,bp,cb,c7⟩:=Ic (P:=P) (w:=w) hu y8 aw ad aq A len e9 B ys.length d (by omega) bw db hold C9
     have C_:=Fold.append y_
     have wP:=Sj.alloc aR (blk.take len++ys) (md++Ik++rest) e sz (fun i ab=>by
      obtain⟨dv,f_⟩:=C_.cell rest i ab
      refine⟨dv,fun j aC=>?_⟩
      obtain⟨v,y1,ef⟩:=f_ j aC
      exact ⟨v,y1,Iq.rep ef⟩)
     refine⟨_,_,_,by simpa[Builtin.append_] using cb,(wO.trans Iq).trans wP.2,wP.1,?_,fun ix bz=>by simp[au,bz]⟩
     refine .ref r 0 _ _ _ sv w.heap.size sz (by simp[au]) bp bp (fun _=>⟨by simp,?_⟩)
     rw[show w.heap.size=w.drew.heap.size from rfl,CO]
     simp only[Array.size_append,Fold.1,y_.1,c7,Ih,p_]
     rw[<-Nat.add_mul,<-Nat.add_mul]
     exact Nat.le_of_eq (by congr 1;omega)
 · cases he
end
end Go.Eng
namespace Go.Eng
open Go Go.RowKit
section
variable {P:Program} {w:World} {σ:Nat->Option (Nat × Nat)}
theorem Is {e:TypeId} {k:IntKind} (hu:P.underlying e=some (.int k)) (cs:Array Value) (i:Nat) (v:Value) (h:cs[i]? =some v):(part e cs i).run P w= .ok v w:=by
 have dF:nd P e=some false:=by simp[nd,hu]
 simp[part,wF dF,h]
theorem It:∀ {xs ys:List I} {b:Bool},eQ xs ys=some b->xs.length=ys.length/\
 ∀i (h:i<xs.length) (h':i<ys.length),∃k x y,xs[i]= .int k x/\ys[i]= .int k y
 | [],[],b,_=>⟨rfl,fun i h=>absurd h (by simp)⟩
 | .int k x::xs,.int k' y::ys,b,h=>by
   simp only[eQ] at h
   split at h
   · rename_i ag
     subst ag
     obtain⟨r,U,_⟩:=Option.map_eq_some_iff.1 h
     obtain⟨l,q⟩:=It U
     refine⟨by simp[l],fun i ab bY=>?_⟩
     cases i with
     | zero=>exact ⟨k,x,y,rfl,rfl⟩
     | succ i=>exact q i (by simpa using ab) (by simpa using bY)
   · cases h
theorem Iu {e:TypeId} {jb:IntKind} (hu:P.underlying e=some (.int jb)) (d:Nat) (xs ys:Array Value):∀(l:List Nat),
 (∀i∈l,∃k x y,xs[i]? =some (.int k x)/\ys[i]? =some (.int k y))->
 (forIn l ((none,()):Option Bool × Unit) (fun i ai8=>do
         let Dd <-part e xs (i*1)
         let Sl <-part e ys (i*1)
         let Dd <-Op.equalIn (d+1) e Dd Sl
         if (!Dd)=true then pure (ForInStep.done (some false,())) else pure (ForInStep.yield (none,()))):Sem (Option Bool × Unit)).run P w
   = .ok (if l.all (fun i=>match xs[i]?,ys[i]? with
       | some (.int _ x),some (.int _ y)=>x == y
       | _,_=>false) then (none,()) else (some false,())) w
 | [],_=>by simp
 | i::l,h=>by
   obtain⟨k,x,y,ao,av⟩:=h i (by simp)
   have a8:=Iu hu d xs ys l (fun j aC=>h j (by simp[aC]))
   rw[List.forIn_cons]
   have heq:(Op.equalIn (d+1) e (.int k x) (.int k y)).run P w= .ok (x == y) w:=by
    unfold Op.equalIn
    simp[run_underlying hu]
   simp only[Sem.run_bind,Nat.mul_one,Is hu xs i _ ao,Is hu ys i _ av,Result.andThen_ok,heq,List.all_cons,ao,av]
   by_cases mf:x=y
   · subst mf
     simp only[Nat.mul_one] at a8
     simp only[beq_self_eq_true,Bool.not_true,Bool.false_eq_true,if_false,Sem.run_pure,Result.andThen_ok,Bool.true_and]
     exact a8
   · have:(x == y)=false:=by simpa using mf
     simp[this]
theorem Iv:∀ {xs ys:List I} {b:Bool} (wQ wR:Nat->Option Value),eQ xs ys=some b->
 (∀i (h:i<xs.length) k x,xs[i]= .int k x->wQ i=some (.int k x))->(∀i (h:i<ys.length) k y,ys[i]= .int k y->wR i=some (.int k y))->
 ((List.range' 0 xs.length).all fun i=>match wQ i,wR i with
       | some (.int _ x),some (.int _ y)=>x == y
       | _,_=>false)=b
 | [],[],b,wQ,wR,h,_,_=>by simp only[eQ] at h;cases h;rfl
 | .int k x::xs,.int k' y::ys,b,wQ,wR,h,ae,aN=>by
   simp only[eQ] at h
   split at h
   · rename_i ag
     subst ag
     obtain⟨r,U,h2⟩:=Option.map_eq_some_iff.1 h
     have a8:=Iv (fun i=>wQ (i+1)) (fun i=>wR (i+1)) U (fun i ab k x cX=>ae (i+1) (by simpa using ab) k x (by simpa using cX)) (fun i ab k y cX=>aN (i+1) (by simpa using ab) k y (by simpa using cX))
     have a0:=ae 0 (by simp) k x rfl
     have b0:=aN 0 (by simp) k y rfl
     rw[<-h2,<-a8]
     simp only[List.length_cons,List.range'_succ,List.all_cons,a0,b0,Nat.zero_add]
     congr 1
     rw[<-List.map_add_range' (a:=1) (s:=0),List.all_map]
     congr 1
     funext i
     simp[Nat.add_comm]
   · cases h
theorem Sm {ok:Nat->Prop} {t e:TypeId} {n:Nat} {jb:IntKind} (aO:P.underlying t=some (.array n e)) (aw:jl P e=some 1) (hu:P.underlying e=some (.int jb)) {xs ys:List I} {jy jR:Value}
 (ae:a5 w ok σ (.agg xs) jy) (aN:a5 w ok σ (.agg ys) jR) {b:Bool} (ad:eQ xs ys=some b) (ai:xs.length=n):
 (Op.equal t jy jR).run P w= .ok b w/\∃lR nQ,jy= .agg lR/\jR= .agg nQ:=by
 obtain⟨lR,rfl,bJ,bF⟩:=ae.uo
 obtain⟨nQ,rfl,dG,dn⟩:=aN.uo
 refine⟨?_,lR,nQ,rfl,rfl⟩
 obtain⟨ay,ag⟩:=It ad
 show (Op.equalIn (9999+1) t (.agg lR) (.agg nQ)).run P w=_
 unfold Op.equalIn
 simp only[Sem.run_bind,run_underlying aO,Result.andThen_ok,run_sizeOf aw]
 rw[Std.Legacy.Range.forIn_eq_forIn_range']
 simp only[Std.Legacy.Range.size,Nat.sub_zero,Nat.add_sub_cancel,Nat.div_one]
 have L:=Iu (w:=w) hu 9998 lR nQ (List.range' 0 n) (fun i ab=>by
  have bY:i<n:=by simpa using ab
  obtain⟨k,x,y,ao,av⟩:=ag i (by omega) (by omega)
  have a1:=bF i (by omega) (by omega)
  have eX:=dn i (by omega) (by omega)
  rw[ao] at a1;rw[av] at eX
  exact ⟨k,x,y,by rw[Array.getElem?_eq_getElem (by omega),a1.jQ],by rw[Array.getElem?_eq_getElem (by omega),eX.jQ]⟩)
 have A:=Iv (fun i=>lR[i]?) (fun i=>nQ[i]?) ad
  (fun i ab k x cX=>by
    have a1:=bF i ab (by omega)
    rw[cX] at a1
    rw[Array.getElem?_eq_getElem (by omega),a1.jQ])
  (fun i ab k y cX=>by
    have a1:=dn i ab (by omega)
    rw[cX] at a1
    rw[Array.getElem?_eq_getElem (by omega),a1.jQ])
 rw[ai] at A
 simp only[A] at L
 simp only[L,Result.andThen_ok]
 cases b<;>simp
end
end Go.Eng
namespace Go.Eng
open Go Go.RowKit
section
variable {P:Program} {base:Nat} {okin:Nat->Prop} {σ:Nat->Option (Nat × Nat)} {h:ah} {w:World} {G:Nat->Option I} {F:Nat->I} {a:Act}
theorem Iw (ok:Nat->Prop):∀(xs:List I) (k:IntKind) (x:Int) (cs:List Value) (v:I),j6 (fun a b=>if b<a then b else a) (.int k x::xs)=some v->
 xs.length=cs.length->(∀i (h:i<xs.length) (h':i<cs.length),a5 w ok σ xs[i] cs[i])->
 ∃cv,(cs.foldlM Builtin.min2 (.int k x):Sem Value).run P w= .ok cv w/\a5 w ok σ v cv
 | [],k,x,cs,v,h,ay,_=>by
   have:cs= []:=List.eq_nil_of_length_eq_zero (by simpa using ay.symm)
   subst this
   simp only[j6] at h;cases h
   exact ⟨.int k x,by simp,.val _ _ (.int _ _)⟩
 | y::xs,k,x,[],v,h,ay,_=>by simp at ay
 | y::xs,k,x,c::cs,v,h,ay,aR=>by
   have r0:=aR 0 (by simp) (by simp)
   simp only[List.getElem_cons_zero] at r0
   cases y<;>simp only[j6] at h<;>try(cases h;done)
   rename_i k' y
   split at h<;>try(cases h;done)
   rename_i ag
   subst ag
   rw[r0.jQ]
   obtain⟨cv,ao,av⟩:=Iw ok xs k (if y<x then y else x) cs v h (by simpa using ay) (fun i ab bY=>by
    have:=aR (i+1) (by simp;omega) (by simp;omega)
    simpa using this)
   exact ⟨cv,by simpa[List.foldlM_cons,Builtin.min2] using ao,av⟩
theorem Ix (ok:Nat->Prop):∀(xs:List I) (k:IntKind) (x:Int) (cs:List Value) (v:I),j6 (fun a b=>if a<b then b else a) (.int k x::xs)=some v->
 xs.length=cs.length->(∀i (h:i<xs.length) (h':i<cs.length),a5 w ok σ xs[i] cs[i])->
 ∃cv,(cs.foldlM Builtin.max2 (.int k x):Sem Value).run P w= .ok cv w/\a5 w ok σ v cv
 | [],k,x,cs,v,h,ay,_=>by
   have:cs= []:=List.eq_nil_of_length_eq_zero (by simpa using ay.symm)
   subst this
   simp only[j6] at h;cases h
   exact ⟨.int k x,by simp,.val _ _ (.int _ _)⟩
 | y::xs,k,x,[],v,h,ay,_=>by simp at ay
 | y::xs,k,x,c::cs,v,h,ay,aR=>by
   have r0:=aR 0 (by simp) (by simp)
   simp only[List.getElem_cons_zero] at r0
   cases y<;>simp only[j6] at h<;>try(cases h;done)
   rename_i k' y
   split at h<;>try(cases h;done)
   rename_i ag
   subst ag
   rw[r0.jQ]
   obtain⟨cv,ao,av⟩:=Ix ok xs k (if x<y then y else x) cs v h (by simpa using ay) (fun i ab bY=>by
    have:=aR (i+1) (by simp;omega) (by simp;omega)
    simpa using this)
   exact ⟨cv,by simpa[List.foldlM_cons,Builtin.max2] using ao,av⟩
theorem Iy {f:Field} {sz:Nat} (aw:jl P f.type=some sz) (aD:sz≠0) (cq:Addr):(fieldPlace cq f).run P w= .ok (cq.add f.offset) w:=by
 simp[fieldPlace,run_sizeOf aw,aD]
theorem Iz {ok:Nat->Prop} {v:I} {cq:Addr} {ep:Nat->Value} (bM:∀j,j<v.cells.length->ok cq.block/\w.cell? (cq.add j)=some (ep j)) (cn:∀j (h:j<v.cells.length),dq w ok (v.cells[j]) (ep j))
 {off sz:Nat} {bT:Bool} {cs:List I} {u:I} (J:cut v.cells off sz=some cs) (aF:partOf bT cs=some u):a5 w ok σ (.e2 u) (.pointer (some (cq.add off))):=by
 obtain⟨b8,bQ,cE⟩:=uq J
 have Sn:∀j,j<cs.length->ok (cq.add off).block/\w.cell? ((cq.add off).add j)=some (ep (off+j)):=by
  intro j aC
  obtain⟨j7,du⟩:=bM (off+j) (by omega)
  refine⟨by rw[Addr.q1];exact j7,?_⟩
  have So:cq.spot=none\/0<off+j:=by
   by_cases aD:0<off+j
   · exact .inr aD
   · have p':off+j=0:=by omega
     rw[p'] at du
     refine .inl ?_
     cases aw:cq.spot with
     | none=>rfl
     | some s=>
       have e:cq.add 0=cq:=by unfold Addr.add;simp
       rw[e] at du
       unfold World.cell? at du
       simp only[aw,Option.isSome_some,if_true] at du
       split at du<;>cases du
  rw[add_add _ _ _ So];exact du
 have hu:u.cells=cs:=by
  rcases CR aF with⟨rfl,rfl⟩|⟨rfl,rfl,aw⟩
  · rfl
  · cases u<;>first|rfl|simp[I.ca] at aw
 refine .e2 u _ (fun j=>ep (off+j)) (fun j aC=>Sn j (by rw[<-hu];exact aC)) (fun j aC=>?_)
 have kr:j<cs.length:=by rw[<-hu];exact aC
 have e:u.cells[j]=v.cells[off+j]'(by omega):=by
  have:=cE j kr (by omega)
  simp only[hu];exact this
 rw[e];exact cn _ _
theorem zd {x:Sem Next} {s:Sem Value} (ae:x=(do pure (.value (<-s)))) {cv:Value} {aQ:World} (e:s.run P w= .ok cv aQ):x.run P w= .ok (.value cv) aQ:=by
 rw[ae];simp[e]
theorem cJ.sized (H:cJ base okin σ h w) {id b sz s:Nat} (aw:σ id=some (b,sz)) (ad:sizedB s (h.cells id)=true):sz=s:=by
 cases J:h.cells id with
 | none=>rw[J] at ad;cases ad
 | some blk=>
   rw[J] at ad
   simp only[sizedB,Bool.and_eq_true,decide_eq_true_eq] at ad
   obtain⟨kg,fZ,arr,ty,ao,_,aW⟩:=H.blk id blk J
   rw[aw] at ao;cases ao
   have U:=(aW 0 ad.1).1
   have h2:=y7 ad.2 _ (List.getElem_mem ad.1)
   omega
theorem Sp {v:Value} (h:q0 v=some (.sl [] true)):v= .slice none 0 0:=by
 unfold q0 at h
 split at h
 · obtain⟨as,_,e⟩:=Option.map_eq_some_iff.1 h;cases e
 · unfold qZ at h
   split at h<;>first|rfl|cases h
theorem Sq {op:BinOp} {t e:TypeId} {x y:Operand} {A:Option Addr} {l c:Nat} (hu:P.underlying t=some (.slice e)) (a6:A.isSome=true) (neg:Bool) (az:op=if neg then .neq else .eql):
 (do eqGuard op t x y (.slice A l c) (.slice none 0 0);binOp op t (.slice A l c) (.slice none 0 0):Sem Value).run P w= .ok (.bool neg) w:=by
 obtain⟨cq,rfl⟩:=Option.isSome_iff_exists.1 a6
 have ao:(Op.equal t (.slice (some cq) l c) (.slice none 0 0)).run P w= .ok false w:=by
  unfold Op.equal Op.maxDepth Op.equalIn
  simp[run_underlying hu]
 cases neg
 · simp only[Bool.false_eq_true,if_false] at az
   subst az
   have av:(binOp .eql t (.slice (some cq) l c) (.slice none 0 0)).run P w= .ok (.bool false) w:=by
    show (do pure (.bool (<-Op.equal t (.slice (some cq) l c) (.slice none 0 0))):Sem Value).run P w=_
    simp[ao]
   simp[eqGuard,av]
 · simp only[if_true] at az
   subst az
   have av:(binOp .neq t (.slice (some cq) l c) (.slice none 0 0)).run P w= .ok (.bool true) w:=by
    show (do pure (.bool !(<-Op.equal t (.slice (some cq) l c) (.slice none 0 0))):Sem Value).run P w=_
    simp[ao]
   simp[eqGuard,av]
theorem IA (H:cJ base okin σ h w) (bI:ki G (bt base okin σ h) σ w F a) {aZ r:Nat} {o:Oper} {op:BinOp} {t e IB:TypeId} {x y:Operand} {kE:aT} (cK:o.op= .binOp op t x y IB) (hu:P.underlying t=some (.slice e)) (U:ek x=some kE) (h2:ek y=some (.c (.sl [] true)))
 (neg:Bool) (az:op=if neg then .neq else .eql) {v:I} {h':ah} {c:eb} (he:evalOp aZ r (aT.ev G F) h (.isnil neg kE)=some (v,h',c)):ur base okin σ h w r v h' ((execOp a.eval o).run P w):=by
 have aN:a.eval y= .slice none 0 0:=by
  cases y with
  | const k=>
    obtain⟨z,aq,e⟩:=Option.map_eq_some_iff.1 h2
    cases e
    exact Sp aq
  | _=>cases h2
 have rx:=bI.ed U
 have fin:∀A l e9,a.eval x= .slice A l e9->A.isSome=true->ur base okin σ h w r (.bool neg) h ((execOp a.eval o).run P w):=by
  intro A l e9 ex a6
  have av:=Sq (P:=P) (w:=w) (x:=x) (y:=y) (l:=l) (c:=e9) hu a6 neg az
  rw[<-ex,<-aN] at av
  exact .pure H (cv:= .bool neg) (zd (by simp only[execOp,cK]) av) (.val _ _ (.bool _))
 simp only[evalOp] at he
 split at he<;>try(cases he;done)
 · rename_i xs ex al
   split at he<;>try(cases he;done)
   rename_i sx
   cases he
   rw[al] at rx
   have aR:=rx.q3
   generalize kG:a.eval x=jy at aR
   cases aR with
   | sl _ _ A c _ _ _ _ _ _ cd _=>exact fin _ _ _ kG (cd sx)
 · rename_i id off len cap al
   split at he<;>try(cases he;done)
   rename_i sx
   cases he
   rw[al] at rx
   obtain⟨A,c,b,sz,jB,_,bJ,Sr,dG⟩:=rx.q4
   obtain⟨rfl,_⟩:=dG (by omega)
   exact fin _ _ _ jB rfl
theorem IC:∀(m:List (Int × FuncId)) (n:Int) (es:List MapEntry) (i:Nat),es.length=m.length->(∀j (h:j<m.length) (h':j<es.length),es[j].key= .int .i64 m[j].1/\es[j].val= .func (.func m[j].2) #[] #[])->
 ∃r,Instr.findNow (.int .i64) (.int .i64 n) es i=some r/\r.map (·.2)=(m.lookup n).map fun f=>Value.func (.func f) #[] #[]
 | [],n,[],i,_,_=>⟨none,rfl,rfl⟩
 | (k,f)::m,n,e::es,i,ay,ae=>by
   obtain⟨ao,av⟩:=ae 0 (by simp) (by simp)
   simp only[List.getElem_cons_zero] at ao av
   unfold Instr.findNow
   rw[ao]
   by_cases ag:n=k
   · subst ag
     refine⟨some (i,e.val),by simp[Instr.sameNow],by simp[av]⟩
   · obtain⟨r,U,h2⟩:=IC m n es (i+1) (by simpa using ay) (fun j h h'=>by have:=ae (j+1) (by simp;omega) (by simp;omega);simp only[List.getElem_cons_succ] at this;exact this)
     have ad:(n == k)=false:=by simpa using ag
     refine⟨r,by simp[Instr.sameNow,ad,U],?_⟩
     rw[h2,List.lookup_cons]
     simp[ad]
 | [],_,_::_,_,ay,_=>by simp at ay
 | _::_,_,[],_,ay,_=>by simp at ay
theorem Ss (H:cJ base okin σ h w) (bI:ki G (bt base okin σ h) σ w F a) {aZ r:Nat} (aR:σ r=none) (o:Oper) {ma:kf} (J:fY P o.op=some ma)
 {v:I} {h':ah} {c:eb} (he:evalOp aZ r (aT.ev G F) h ma=some (v,h',c)):
 ur base okin σ h w r v h' ((execOp a.eval o).run P w):=by
 cases cK:o.op<;>rw[cK] at J<;>try(simp only[fY] at J;cases J;done)
 case panic x=>
  simp only[fY] at J;cases J
  simp only[evalOp,aT.ev] at he;cases he
 case move x=>
  obtain⟨y,aN,rfl⟩:=Option.map_eq_some_iff.1 J
  simp only[evalOp] at he;cases he
  exact .pure H (by simp[execOp,cK]) (bI.ed aN)
 case assign x=>
  obtain⟨y,aN,rfl⟩:=Option.map_eq_some_iff.1 J
  simp only[evalOp] at he;cases he
  exact .pure H (by simp[execOp,cK]) (bI.ed aN)
 case pick e9 x y=>
  simp only[fY] at J
  split at J<;>try(cases J;done)
  rename_i c' kE o2 U h2 aB
  cases J
  simp only[evalOp] at he
  split at he<;>try(cases he;done)
  rename_i t aO
  cases he
  have ad:=bI.ed U
  rw[aO] at ad
  refine .pure H (cv:=if t then a.eval x else a.eval y) (by simp[execOp,cK,ad.q2,asBool]) ?_
  cases t
  · exact bI.ed aB
  · exact bI.ed h2
 case alloc e=>
  obtain⟨z,aq,rfl⟩:=Option.map_eq_some_iff.1 J
  simp only[evalOp] at he;cases he
  obtain⟨aj,dv,f_,y5,St,_⟩:=uz (P:=P) (w:=w) (σ:=σ) (ok:=bt base okin σ h) aq
  obtain⟨bg,aQ,ao,av,aW,bR,fe⟩:=H9 (P:=P) H aR (t:=e) (a5.val _ _ St) y5
  exact ⟨bg,_,aQ,.inl (by simp[execOp,cK,Instr.alloc,dv,ao]),av,aW,bR,fe⟩
 case box e x=>
  obtain⟨y,aN,rfl⟩:=Option.map_eq_some_iff.1 J
  simp only[evalOp] at he
  split at he<;>try(cases he;done)
  rename_i aw
  cases he
  obtain⟨bg,aQ,ao,av,aW,bR,fe⟩:=H9 (P:=P) H aR (t:=e) (bI.ed aN) aw
  exact ⟨bg,_,aQ,.inl (by simp[execOp,cK,Instr.box,ao]),av,aW,bR,fe⟩
 case build t ps=>
  obtain⟨rfl,cv,ao,av⟩:=RV bI J he
  exact .pure H (by simp[execOp,cK] at ao|-;simp[ao]) av
 case buildSlice t n ps=>
  obtain⟨rfl,cv,aQ,ao,av,aW,bR⟩:=R1 H bI J he
  exact ⟨σ,cv,aQ,.inl (by simp[execOp,cK] at ao|-;simp[ao]),av,aW,bR,fun _ _=>rfl⟩
 case load t x=>
  simp only[fY] at J
  split at J<;>try(cases J;done)
  rename_i bT s y U h2 aB
  split at J<;>try(cases J;done)
  rename_i aS
  cases J
  obtain⟨rfl,cv,ao,av⟩:=RK (P:=P) H U h2 aS (bI.ed aB) he
  exact .pure H (by simp[execOp,cK,ao]) av
 case store t x y=>
  simp only[fY] at J
  split at J<;>try(cases J;done)
  rename_i s kE o2 U h2 aB
  cases J
  obtain⟨rfl,aQ,ao,av,aW⟩:=RL (P:=P) H U (bI.ed h2) (bI.ed aB) he
  exact ⟨σ,undef,aQ,.inr ⟨by simp[execOp,cK,ao],rfl⟩,av,aW,.undef _,fun _ _=>rfl⟩
 case binOp op t x y IB=>
  simp only[fY] at J
  split at J<;>try(cases J;done)
  rename_i kE o2 U h2
  split at J<;>try(cases J;done)
  · cases J
    simp only[evalOp] at he
    obtain⟨u,al,he⟩:=Option.map_eq_some_iff.1 he
    cases he
    obtain⟨cv,ao,av⟩:=CY (P:=P) 0 op t x y (bI.ed U) (bI.ed h2) al (fun e=>absurd e (by decide))
    exact .pure H (zd (by simp only[execOp,cK]) ao) av
  · rename_i hu
    cases J
    simp only[evalOp] at he
    obtain⟨u,al,he⟩:=Option.map_eq_some_iff.1 he
    cases he
    obtain⟨cv,ao,av⟩:=CY (P:=P) 1 op t x y (bI.ed U) (bI.ed h2) al (fun _=>hu)
    exact .pure H (zd (by simp only[execOp,cK]) ao) av
  · cases J
    simp only[evalOp] at he
    obtain⟨u,al,he⟩:=Option.map_eq_some_iff.1 he
    cases he
    obtain⟨cv,ao,av⟩:=CY (P:=P) 2 op t x y (bI.ed U) (bI.ed h2) al (fun e=>absurd e (by decide))
    exact .pure H (zd (by simp only[execOp,cK]) ao) av
  · rename_i n e hu
    split at J<;>try(cases J;done)
    rename_i k ID o4
    have Su:∃d,P.depth=d+1+1:=⟨2*(P.types.size+Made.depth),rfl⟩
    have Sv:P.eqGuardType P.depth t=false:=by
     obtain⟨d,a3⟩:=Su
     rw[a3]
     simp[Program.eqGuardType,hu,ID]
    have main:∀neg,kf.eqA neg n kE o2=ma->(op=if neg then .neq else .eql)->ur base okin σ h w r v h' ((execOp a.eval o).run P w):=by
     rintro neg rfl ze
     simp only[evalOp] at he
     split at he<;>try(cases he;done)
     rename_i xs ys ae aN
     split at he<;>try(cases he;done)
     rename_i ai
     obtain⟨b,ad,he⟩:=Option.map_eq_some_iff.1 he
     cases he
     have rx:=bI.ed U
     have ry:=bI.ed h2
     rw[ae] at rx;rw[aN] at ry
     obtain⟨ao,lR,nQ,ex,o6⟩:=Sm (P:=P) hu o4 ID rx ry ad ai
     rw[ex,o6] at ao
     have aX:=run_eqGuard_agg w op t x y lR nQ Sv
     refine .pure H (cv:= .bool (b != neg)) ?_ (.val _ _ (.bool _))
     cases neg
     · simp only[Bool.false_eq_true,if_false] at ze
       subst ze
       have av:(binOp .eql t (.agg lR) (.agg nQ)).run P w= .ok (.bool b) w:=by
        show (do pure (.bool (<-Op.equal t (.agg lR) (.agg nQ))):Sem Value).run P w=_
        simp[ao]
       simp[execOp,cK,ex,o6,aX,av]
     · simp only[if_true] at ze
       subst ze
       have av:(binOp .neq t (.agg lR) (.agg nQ)).run P w= .ok (.bool !b) w:=by
        show (do pure (.bool !(<-Op.equal t (.agg lR) (.agg nQ))):Sem Value).run P w=_
        simp[ao]
       simp[execOp,cK,ex,o6,aX,av]
    split at J
    · rename_i az
      cases J
      exact main false rfl (by simpa using az)
    · split at J<;>try(cases J;done)
      rename_i az
      cases J
      exact main true rfl (by simpa using az)
  · rename_i e hu
    split at J<;>try(cases J;done)
    split at J
    · rename_i az
      cases J
      exact IA H bI cK hu U h2 false (by simpa using az) he
    · split at J<;>try(cases J;done)
      rename_i az
      cases J
      exact IA H bI cK hu U h2 true (by simpa using az) he
 case lookup t x i ok=>
  cases ok with
  | false=>simp only[fY] at J;cases J
  | true=>
    simp only[fY] at J
    split at J<;>try(cases J;done)
    rename_i k e hu
    split at J<;>try(cases J;done)
    rename_i kE i' ag aq U h2
    cases J
    simp only[evalOp] at he
    split at he<;>try(cases he;done)
    rename_i m n ae ab
    cases he
    have rx:=bI.ed U
    have o7:=bI.ed h2
    rw[ae] at rx;rw[ab] at o7
    have e8:=rx.HP
    generalize kG:a.eval x=jy at e8
    cases e8 with
    | mp _ IE es clock j7 du om wS=>
      obtain⟨aj,dv,f_,_⟩:=HY (w:=w) aq
      have Sw:aj= .nilFunc:=by
       unfold q0 at f_
       split at f_
       · obtain⟨as,_,e⟩:=Option.map_eq_some_iff.1 f_;cases e
       · unfold qZ at f_
         split at f_<;>first|rfl|cases f_
      subst Sw
      obtain⟨q,f1,f2⟩:=IC m n es.toList 0 (by simpa using om) (fun j h h'=>by simpa using wS j h (by simpa using h'))
      have IF:=MapKept.run_checkKey (w:=w) ag (k:= .int .i64 n) (by simp[MapKept.IsKey]) es.isEmpty 9999
      have IG:=MapKept.run_findKey (w:=w) ag f1
      have sy:=MapKept.run_getObj_map (P:=P) du
      cases aM:m.lookup n with
      | none=>
        rw[aM] at f2
        have q9:q=none:=by simpa using f2
        subst q9
        refine .pure H (cv:= .tuple #[.nilFunc,.bool false]) ?_ (.bL _ _ rfl fun i ab bY=>?_)
        · simp[execOp,cK,Instr.lookup,run_underlying hu,kG,o7.jQ,sy,IF,IG,dv]
        · match i,ab with
          | 0,_=>exact .val _ _ .nilfn
          | 1,_=>exact .val _ _ (.bool _)
      | some f=>
        rw[aM] at f2
        obtain⟨⟨ai9,aja⟩,rfl,f3⟩:=Option.map_eq_some_iff.1 f2
        simp only at f3
        subst f3
        refine .pure H (cv:= .tuple #[.func (.func f) #[] #[],.bool true]) ?_ (.bL _ _ rfl fun i ab bY=>?_)
        · simp[execOp,cK,Instr.lookup,run_underlying hu,kG,o7.jQ,sy,IF,IG]
        · match i,ab with
          | 0,_=>exact .fn f [] [] #[] #[] rfl rfl (fun i h=>absurd h (by simp)) (fun i h=>absurd h (by simp))
          | 1,_=>exact .val _ _ (.bool _)
 case unOp op t x=>
  obtain⟨y,aN,rfl⟩:=Option.map_eq_some_iff.1 J
  simp only[evalOp] at he
  obtain⟨u,al,he⟩:=Option.map_eq_some_iff.1 he
  cases he
  obtain⟨cv,ao,av⟩:=RR (P:=P) op (bI.ed aN) al
  exact .pure H (by simp[execOp,cK,ao]) av
 case convert s d x=>
  simp only[fY] at J
  split at J<;>try(cases J;done)
  rename_i wT k y U h2 aB
  cases J
  simp only[evalOp] at he
  split at he<;>try(cases he;done)
  rename_i k' n ae
  cases he
  have rx:=bI.ed aB
  rw[ae] at rx
  refine .pure H (cv:= .int k (k.wrap n)) ?_ (.val _ _ (.int _ _))
  simp[execOp,cK,rx.jQ,convert,run_underlying U,run_underlying h2,Conv.intToInt]
 case makeFunc f first caps=>
  cases f with
  | func f=>
    simp only[fY] at J
    split at J<;>try(cases J;done)
    rename_i x y U h2
    cases J
    simp only[evalOp] at he;cases he
    obtain⟨bJ,bF⟩:=so bI U
    obtain⟨dG,dn⟩:=so bI h2
    refine .pure H (cv:= .func (.func f) (first.map a.eval) (caps.map a.eval)) (by simp[execOp,cK,Instr.makeFunc]) ?_
    refine .fn f _ _ _ _ (by simp[bJ]) (by simp[dG]) (fun i ab bY=>?_) (fun i ab bY=>?_)
    · have q:=bF i (by simpa using ab) (by simpa using bY)
      rw[Array.getElem_toList] at q
      simpa using q
    · have q:=dn i (by simpa using ab) (by simpa using bY)
      rw[Array.getElem_toList] at q
      simpa using q
  | _=>simp only[fY] at J;cases J
 case makeSlice t x y=>
  obtain⟨bg,cv,aQ,ao,av,aW,bR,fe⟩:=R3 H bI aR J he
  exact ⟨bg,cv,aQ,.inl (by simp[execOp,cK,ao]),av,aW,bR,fe⟩
 case slice t x cr ab jO=>
  simp only[fY] at J
  split at J<;>try(cases J;done)
  rename_i e hu
  split at J<;>try(cases J;done)
  rename_i s y uw bY kF U h2 aB aS cd
  split at J<;>try(cases J;done)
  rename_i ux
  have ux:(kF.isSome&&bY.isNone)=false:=by simpa only[Bool.not_eq_true] using ux
  cases J
  have rx:=bI.ed h2
  simp only[evalOp] at he
  split at he
  · rename_i id off len cap ae
    rw[ae] at rx
    split at he<;>try(cases he;done)
    rename_i l u m b1 en kX
    split at he<;>try(cases he;done)
    rename_i aM
    obtain⟨da,db,fI,kj⟩:=aM
    cases he
    obtain⟨A,c,b,sz,jB,bM,cn,eB,iB⟩:=rx.q4
    have B:=H4 (P:=P) bI aB aS cd ux len cap c eB (fun _=>cn) b1 en kX da db fI true
    have Sx:m<=if kF.isSome then m else c:=by split<;>omega
    have ajb:(if kF.isSome then m else c)<=c:=by split<;>omega
    refine .pure H (cv:= .slice (if (if kF.isSome then m else c)=l then A else A.map (·.add (l*s))) (u - l) ((if kF.isSome then m else c) - l)) ?_ ?_
    · simp only[execOp,cK,Instr.sliceAt,Instr.slice,Sem.run_bind,run_underlying hu,Result.andThen_ok,jB,B,run_sizeOf U]
      simp
    · refine .ref id (off+l) (u - l) (m - l) _ _ b sz bM (by omega) (by omega) (fun sx=>?_)
      obtain⟨rfl,oo⟩:=iB (by omega)
      rw[if_neg (by omega)]
      refine⟨?_,Nat.le_trans (Nat.mul_le_mul_right _ (by omega)) oo⟩
      rcases kj with rfl|kj
      · simp[Addr.add]
      · have:=H.sized bM kj
        subst this
        simp[p4,Nat.add_mul]
  · rename_i xs ex ae
    rw[ae] at rx
    split at he<;>try(cases he;done)
    rename_i l u m b1 en kX
    split at he<;>try(cases he;done)
    rename_i aM
    obtain⟨da,db,fI,kj⟩:=aM
    cases he
    have aR:=rx.q3
    generalize kG:a.eval x=jy at aR rx
    cases aR with
    | sl _ _ A c fZ ep bp cb c7 mg kt mS=>
      have B:=H4 (P:=P) bI aB aS cd ux xs.length xs.length c bp (fun _=>bp) b1 en kX da db fI true
      have Sx:m<=if kF.isSome then m else c:=by split<;>omega
      have hlen:((xs.drop l).take (u - l)).length=u - l:=by simp;omega
      refine .pure H (cv:= .slice (if (if kF.isSome then m else c)=l then A else A.map (·.add (l*s))) (u - l) ((if kF.isSome then m else c) - l)) ?_ ?_
      · simp only[execOp,cK,Instr.sliceAt,Instr.slice,Sem.run_bind,run_underlying hu,Result.andThen_ok,kG,B,run_sizeOf U]
        simp
      · refine .val _ _ ?_
        have kW:∀i (ab:i<u - l),((xs.drop l).take (u - l))[i]'(by rw[hlen];exact ab)=xs[l+i]'(by omega):=by intro i ab;simp
        have R:=dq.sl (w:=w) (ok:=bt base okin σ h) ((xs.drop l).take (u - l)) ((kF.isSome||ex)&&m == u) (if (if kF.isSome then m else c)=l then A else A.map (·.add (l*s))) ((if kF.isSome then m else c) - l) fZ (fun i j=>ep (l+i) j)
         (by rw[hlen];omega) (fun hex=>by
           rw[hlen]
           simp only[Bool.and_eq_true,Bool.or_eq_true,beq_iff_eq] at hex
           obtain⟨ee,rfl⟩:=hex
           rcases ee with ee|ee
           · rw[if_pos ee]
           · have J:=cb ee
             by_cases hm:kF.isSome=true
             · rw[if_pos hm]
             · rw[if_neg hm]
               have o8:kF=none:=by cases kF<;>simp_all
               have:m=xs.length:=by rw[o8] at kX;cases kX;rfl
               omega)
         (fun i ab=>by rw[kW i (by rw[hlen] at ab;exact ab)];exact c7 _ _)
         (fun i j ab aC=>by
           rw[hlen] at ab
           obtain⟨cq,ao,av,aW⟩:=mg (l+i) j (by omega) aC
           rw[if_neg (by omega),ao]
           rcases kj with rfl|kj
           · refine⟨cq,by simp[Addr.add],av,?_⟩
             simpa using aW
           · have nP:fZ=s:=by
              have nR:=c7 (l+i) (by omega)
              have uB:=y7 kj _ (List.getElem_mem (show l+i<xs.length by omega))
              omega
             subst nP
             refine⟨cq.add (l*fZ),rfl,by rw[Addr.q1];exact av,?_⟩
             rw[add_add]
             · rw[<-Nat.add_assoc,<-Nat.add_mul];exact aW
             · by_cases aD:0<l*fZ+(i*fZ+j)
               · exact .inr aD
               · have p':(l+i)*fZ+j=0:=by rw[Nat.add_mul];omega
                 rw[p'] at aW
                 refine .inl ?_
                 cases aw:cq.spot with
                 | none=>rfl
                 | some sp=>
                   have e:cq.add 0=cq:=by unfold Addr.add;simp
                   rw[e] at aW
                   unfold World.cell? at aW
                   simp only[aw,Option.isSome_some,if_true] at aW
                   split at aW<;>cases aW)
         (fun sx=>by
           rw[hlen] at sx
           rw[if_neg (by omega)]
           have:=kt (by omega)
           simpa using this)
         (fun i ab j aC=>by
           rw[hlen] at ab
           have:=kW i ab
           simp only[this]
           exact mS _ _ j _)
        rw[hlen] at R
        exact R
  · cases he
 case fieldAddr s x f=>
  simp only[fY] at J
  split at J<;>try(cases J;done)
  rename_i b9 hu
  split at J<;>try(cases J;done)
  rename_i fd zf
  split at J<;>try(cases J;done)
  rename_i bT sz y U h2 aB
  split at J<;>try(cases J;done)
  rename_i aS
  cases J
  have rx:=bI.ed aB
  simp only[evalOp] at he
  split at he
  · rename_i u ae
    rw[ae] at rx
    obtain⟨cq,ep,jB,bM,cn⟩:=rx.yZ
    obtain⟨cs,o9,he⟩:=Option.bind_eq_some_iff.1 he
    obtain⟨p,aF,he⟩:=Option.map_eq_some_iff.1 he
    cases he
    refine .pure H (cv:= .pointer (some (cq.add fd.offset))) ?_ (Iz bM cn o9 aF)
    simp[execOp,cK,Instr.fieldAt,run_underlying hu,zf,jB,Instr.sureAddr,Iy h2 aS]
  · rename_i id idx cN ae
    rw[ae] at rx
    cases he
    obtain⟨b,b_,jB,bM⟩:=rx.wC
    have:=a5.ptr (w:=w) (ok:=bt base okin σ h) (σ:=σ) id idx (cN+fd.offset) b b_ bM
    refine .pure H ?_ this
    simp[execOp,cK,Instr.fieldAt,run_underlying hu,zf,jB,Instr.sureAddr,Iy h2 aS,p4,Nat.add_assoc]
  · cases he
 case field s x f=>
  simp only[fY] at J
  split at J<;>try(cases J;done)
  rename_i b9 hu
  split at J<;>try(cases J;done)
  rename_i fd zf
  split at J<;>try(cases J;done)
  rename_i bT sz y U h2 aB
  split at J<;>try(cases J;done)
  rename_i aS
  cases J
  simp only[evalOp] at he
  split at he<;>try(cases he;done)
  rename_i cs ae
  obtain⟨jP,o9,he⟩:=Option.bind_eq_some_iff.1 he
  obtain⟨u,aF,he⟩:=Option.map_eq_some_iff.1 he
  cases he
  have rx:=bI.ed aB
  rw[ae] at rx
  obtain⟨vs,ev,bJ,bF⟩:=rx.uo
  obtain⟨cv,ao,av⟩:=H2 (P:=P) U h2 aS bJ bF o9 aF
  exact .pure H (by simp[execOp,cK,Instr.field,run_underlying hu,zf,ev,asAgg,ao]) av
 case indexAddr t x i=>
  simp only[fY] at J
  split at J<;>try(cases J;done)
  · rename_i e hu
    split at J<;>try(cases J;done)
    rename_i s y j U h2 aB
    cases J
    have rx:=bI.ed h2
    have jS:=bI.ed aB
    simp only[evalOp] at he
    split at he
    · rename_i xs ex k n ae aC
      rw[ae] at rx;rw[aC] at jS
      split at he<;>try(cases he;done)
      rename_i ai
      obtain⟨el,kW,he⟩:=Option.bind_eq_some_iff.1 he
      split at he<;>try(cases he;done)
      rename_i c6
      cases he
      obtain⟨ab,rfl⟩:=List.getElem?_eq_some_iff.1 kW
      have aR:=rx.q3
      generalize kG:a.eval x=jy at aR rx
      cases aR with
      | sl _ _ A c fZ ep bp cb c7 mg kt mS=>
        have a6:=kt (by omega)
        obtain⟨cq,rfl⟩:=Option.isSome_iff_exists.1 a6
        have es:fZ=s:=by have:=c7 _ ab;omega
        subst es
        have bG:n<(xs.length:Int):=by omega
        refine .pure H (cv:= .pointer (some (cq.add (n.toNat*fZ)))) ?_ ?_
        · simp[execOp,cK,Instr.indexAt,jS.jQ,asIntOf,run_underlying hu,kG,ai,bG,run_sizeOf U]
        · refine .e2 _ _ (fun nk=>ep n.toNat nk) (fun nk IH=>?_) (fun nk IH=>mS _ ab nk IH)
          obtain⟨R8,ao,av,aW⟩:=mg n.toNat nk ab (by omega)
          cases ao
          refine⟨by rw[Addr.q1];exact av,?_⟩
          rw[add_add]
          · exact aW
          · by_cases aD:0<n.toNat*fZ+nk
            · exact .inr aD
            · have p':n.toNat*fZ+nk=0:=by omega
              rw[p'] at aW
              refine .inl ?_
              cases aw:cq.spot with
              | none=>rfl
              | some sp=>
                have e:cq.add 0=cq:=by unfold Addr.add;simp
                rw[e] at aW
                unfold World.cell? at aW
                simp only[aw,Option.isSome_some,if_true] at aW
                split at aW<;>cases aW
    · rename_i id off len cap k n ae aC
      rw[ae] at rx;rw[aC] at jS
      split at he<;>try(cases he;done)
      rename_i ai
      cases he
      obtain⟨A,c,b,sz,jB,bM,cn,eB,iB⟩:=rx.q4
      obtain⟨rfl,_⟩:=iB (by omega)
      have:=H.sized bM ai.2.2
      subst this
      have R:=a5.ptr (w:=w) (ok:=bt base okin σ h) (σ:=σ) id (off+n.toNat) 0 b sz bM
      refine .pure H ?_ R
      simp[execOp,cK,Instr.indexAt,jS.jQ,asIntOf,run_underlying hu,jB,ai.1,ai.2.1,run_sizeOf U,p4,Nat.add_mul]
    · cases he
  · rename_i n e hu
    split at J<;>try(cases J;done)
    rename_i bT s y j U h2 aB aS
    cases J
    have rx:=bI.ed aB
    have jS:=bI.ed aS
    simp only[evalOp] at he
    split at he
    · rename_i u k nk ae aC
      rw[ae] at rx;rw[aC] at jS
      split at he<;>try(cases he;done)
      rename_i ai
      obtain⟨cs,o9,he⟩:=Option.bind_eq_some_iff.1 he
      obtain⟨p,aF,he⟩:=Option.map_eq_some_iff.1 he
      cases he
      obtain⟨cq,ep,jB,bM,cn⟩:=rx.yZ
      refine .pure H (cv:= .pointer (some (cq.add (nk.toNat*s)))) ?_ (Iz bM cn o9 aF)
      simp[execOp,cK,Instr.indexAt,jS.jQ,asIntOf,run_underlying hu,jB,Instr.sureAddr,ai.1,ai.2,run_sizeOf h2]
    · rename_i id idx cN k nk ae aC
      rw[ae] at rx;rw[aC] at jS
      split at he<;>try(cases he;done)
      rename_i ai
      cases he
      obtain⟨b,b_,jB,bM⟩:=rx.wC
      have:=a5.ptr (w:=w) (ok:=bt base okin σ h) (σ:=σ) id idx (cN+nk.toNat*s) b b_ bM
      refine .pure H ?_ this
      simp[execOp,cK,Instr.indexAt,jS.jQ,asIntOf,run_underlying hu,jB,Instr.sureAddr,ai.1,ai.2,run_sizeOf h2,p4,Nat.add_assoc]
    · cases he
 case index t x i=>
  simp only[fY] at J
  split at J<;>try(cases J;done)
  · rename_i n e hu
    split at J<;>try(cases J;done)
    rename_i bT s y j U h2 aB aS
    split at J<;>try(cases J;done)
    rename_i cd
    cases J
    have rx:=bI.ed aB
    have jS:=bI.ed aS
    simp only[evalOp] at he
    split at he<;>try(cases he;done)
    rename_i cs k nk ae aC
    rw[ae] at rx;rw[aC] at jS
    split at he<;>try(cases he;done)
    rename_i ai
    obtain⟨jP,o9,he⟩:=Option.bind_eq_some_iff.1 he
    obtain⟨u,aF,he⟩:=Option.map_eq_some_iff.1 he
    cases he
    obtain⟨vs,ev,bJ,bF⟩:=rx.uo
    obtain⟨cv,ao,av⟩:=H2 (P:=P) U h2 cd bJ bF o9 aF
    exact .pure H (by simp[execOp,cK,Instr.index,jS.jQ,asIntOf,run_underlying hu,ev,ai.1,ai.2,run_sizeOf h2,ao]) av
  · rename_i hu
    split at J<;>try(cases J;done)
    rename_i y j U h2
    cases J
    have rx:=bI.ed U
    have jS:=bI.ed h2
    simp only[evalOp] at he
    split at he<;>try(cases he;done)
    rename_i str k nk ae aC
    rw[ae] at rx;rw[aC] at jS
    split at he<;>try(cases he;done)
    rename_i ai
    obtain⟨II,ad,he⟩:=Option.map_eq_some_iff.1 he
    cases he
    refine .pure H (cv:= .int .u8 II.toNat) ?_ (.val _ _ (.int _ _))
    simp[execOp,cK,Instr.index,jS.jQ,asIntOf,run_underlying hu,rx.wB,ai,ad]
 case extract x i=>
  obtain⟨y,aN,rfl⟩:=Option.map_eq_some_iff.1 J
  simp only[evalOp] at he
  split at he<;>try(cases he;done)
  rename_i vs ae
  obtain⟨u,hu,he⟩:=Option.map_eq_some_iff.1 he
  cases he
  have rx:=bI.ed aN
  rw[ae] at rx
  obtain⟨cs,ev,bJ,bF⟩:=rx.HR
  obtain⟨ab,rfl⟩:=List.getElem?_eq_some_iff.1 hu
  have bG:i<cs.size:=by omega
  exact .pure H (by simp[execOp,cK,Instr.extract,ev,bG]) (bF i ab bG)
 case call o_=>
  obtain⟨callee,args,argTypes⟩:=o_
  cases callee with
  | value f=>
    simp only[fY] at J
    split at J<;>try(cases J;done)
    cases J
    simp only[evalOp] at he;cases he
  | invoke _ _=>simp only[fY] at J;cases J
  | builtin b=>
    cases b<;>try(simp only[fY] at J;cases J;done)
    case append=>
     obtain⟨bg,cv,aQ,ao,av,aW,bR,fe⟩:=Sa (ty:=o.type) H bI aR J he
     exact ⟨bg,cv,aQ,.inl (by simp[execOp,cK,resolve,invoke,builtin,ao]),av,aW,bR,fe⟩
    case len=>
     simp only[fY] at J
     split at J<;>try(cases J;done)
     rename_i t X aO fr
     have sw:args= #[X]:=by rw[<-Array.toList_inj];exact fr
     subst sw
     split at J<;>try(cases J;done)
     · rename_i e x hu ae
       cases J
       have rx:=bI.ed ae
       simp only[evalOp] at he
       split at he
       · rename_i xs ex al
         simp only[if_true] at he
         cases he
         rw[al] at rx
         have aR:=rx.q3
         generalize kG:a.eval X=jy at aR rx
         cases aR with
         | sl _ _ A c _ _ _ _ _ _ _ _=>
           refine .pure H (cv:= .int .i64 xs.length) ?_ (.val _ _ (.int _ _))
           simp[execOp,cK,resolve,invoke,builtin,Builtin.len_,aO,run_underlying hu,kG,goInt]
       · rename_i id off len cap al
         simp only[if_true] at he
         cases he
         rw[al] at rx
         obtain⟨A,c,b,sz,jB,_⟩:=rx.q4
         refine .pure H (cv:= .int .i64 len) ?_ (.val _ _ (.int _ _))
         simp[execOp,cK,resolve,invoke,builtin,Builtin.len_,aO,run_underlying hu,jB,goInt]
       · simp only[Bool.false_eq_true,if_false] at he;cases he
       · cases he
     · rename_i x hu ae
       cases J
       have rx:=bI.ed ae
       simp only[evalOp] at he
       split at he
       · simp only[Bool.true_eq_false,if_false] at he;cases he
       · simp only[Bool.true_eq_false,if_false] at he;cases he
       · rename_i s al
         simp only[if_true] at he
         cases he
         rw[al] at rx
         refine .pure H (cv:= .int .i64 s.size) ?_ (.val _ _ (.int _ _))
         simp[execOp,cK,resolve,invoke,builtin,Builtin.len_,aO,run_underlying hu,rx.wB,goInt]
       · cases he
    case min=>
     obtain⟨xs,oj,rfl⟩:=Option.map_eq_some_iff.1 J
     obtain⟨bJ,bF⟩:=so bI oj
     simp only[evalOp] at he
     obtain⟨u,hu,he⟩:=Option.map_eq_some_iff.1 he
     cases he
     cases xs with
     | nil=>simp[j6] at hu
     | cons x xs=>
       cases fr:args.toList with
       | nil=>rw[fr] at bJ;simp at bJ
       | cons X De=>
         rw[fr] at bJ
         have r0:=bF 0 (by simp) (by simp[fr])
         simp only[fr,List.getElem_cons_zero] at r0
         simp only[List.map_cons] at hu
         cases ae:x.ev G F<;>rw[ae] at hu<;>try(simp[j6] at hu;done)
         rename_i k n
         rw[ae] at r0
         obtain⟨cv,ao,av⟩:=Iw (P:=P) (w:=w) (σ:=σ) (bt base okin σ h) (xs.map (aT.ev G F)) k n (De.map a.eval) v hu (by simpa using bJ) (fun i ab bY=>by
          have:=bF (i+1) (by simpa using ab) (by simpa[fr] using bY)
          simpa[fr] using this)
         refine .pure H ?_ av
         simp[execOp,cK,resolve,invoke,builtin,Builtin.min_,fr,r0.jQ,ao]
    case max=>
     obtain⟨xs,oj,rfl⟩:=Option.map_eq_some_iff.1 J
     obtain⟨bJ,bF⟩:=so bI oj
     simp only[evalOp] at he
     obtain⟨u,hu,he⟩:=Option.map_eq_some_iff.1 he
     cases he
     cases xs with
     | nil=>simp[j6] at hu
     | cons x xs=>
       cases fr:args.toList with
       | nil=>rw[fr] at bJ;simp at bJ
       | cons X De=>
         rw[fr] at bJ
         have r0:=bF 0 (by simp) (by simp[fr])
         simp only[fr,List.getElem_cons_zero] at r0
         simp only[List.map_cons] at hu
         cases ae:x.ev G F<;>rw[ae] at hu<;>try(simp[j6] at hu;done)
         rename_i k n
         rw[ae] at r0
         obtain⟨cv,ao,av⟩:=Ix (P:=P) (w:=w) (σ:=σ) (bt base okin σ h) (xs.map (aT.ev G F)) k n (De.map a.eval) v hu (by simpa using bJ) (fun i ab bY=>by
          have:=bF (i+1) (by simpa using ab) (by simpa[fr] using bY)
          simpa[fr] using this)
         refine .pure H ?_ av
         simp[execOp,cK,resolve,invoke,builtin,Builtin.max_,fr,r0.jQ,ao]
end
end Go.Eng
